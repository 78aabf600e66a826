/-
  Walks and laws of this seat.
-/
import Derived.Test.YtdjjeahiomackaaGreatBash
import Derived.Test.YtdjjeahiomackaaGreatGb
import Derived.Test.YtdjjeahiomackaaGreatMa
import Derived.Test.YtdjjeahiomackaaGreatRows
import Derived.Test.YtdjjeahiomackaaGreatL6v
namespace Go.Proofs.YtdjjeahiomackaaGreat
set_option linter.unusedVariables false
set_option linter.unusedSimpArgs false
set_option linter.unusedSectionVars false
section
set_option maxHeartbeats 4000000
set_option maxRecDepth 100000
open Go.RowKit Go.Sl
def zfe (q0 : zab) (y51 : (List zah)) (y56 : Int) : Option (Int × zab) :=
  (geti y51 (q0.Nodes.length : Int)).bind fun x58 =>
  (seti y51 (q0.Nodes.length : Int) ({x58 with Last := y56} : zah)).bind fun x70 =>
  some ((q0.Nodes.length : Int),({Nodes := x70} : zab))
def zfd (q0 : zab) (y83 : Int) (lp84 : (List zah) → Int → Int → Option (Int × zab)) (x108 : (Int × zab)) (y116 : (List zah)) : Option (Int × zab) :=
  (bif (decide (4096 < (y116.length : Int))) then zfe q0 y116 x108.1 else
  lp84 y116 x108.1 (w64 (y83 + 1)))
def zc6 (p0 : zam) (q0 : zab) (slf : zam → Int → Int → zab → Option (Int × zab)) : Nat → (List zah) → Int → Int → Option (Int × zab)
  | 0, _, _, _ => none
  | k84 + 1, y77, y82, y83 =>
  (bif (decide (y83 < (p0.Kids.length : Int))) then (geti p0.Kids y83).bind fun x87 =>
  (slf x87 (q0.Nodes.length : Int) y82 ({Nodes := y77} : zab)).bind fun x108 =>
  (bif (decide (y82 = (-1))) then (geti x108.2.Nodes (q0.Nodes.length : Int)).bind fun x123 =>
  (seti x108.2.Nodes (q0.Nodes.length : Int) ({x123 with First := x108.1} : zah)).bind fun x135 =>
  zfd q0 y83 (zc6 p0 q0 slf k84) x108 x135 else
  (geti x108.2.Nodes y82).bind fun x140 =>
  (seti x108.2.Nodes y82 ({x140 with Next := x108.1} : zah)).bind fun x152 =>
  zfd q0 y83 (zc6 p0 q0 slf k84) x108 x152) else
  zfe q0 y77 y82)
def zff (n : Nat) (p0 : zam) (q0 : zab) (slf : zam → Int → Int → zab → Option (Int × zab)) (y29 : zah) : Option (Int × zab) :=
  (appM 104 q0.Nodes [y29]).bind fun x42 =>
  (bif ((decide (4096 < (x42.length : Int))) || (decide (p0.Name = (bs [])))) then some ((q0.Nodes.length : Int),({Nodes := x42} : zab)) else
  zc6 p0 q0 slf n x42 (-1) 0)
def zhj (n : Nat) (p0 : zam) (p1 : Int) (p2 : Int) (q0 : zab) (slf : zam → Int → Int → zab → Option (Int × zab)) (y21 : (List zaj)) : Option (Int × zab) :=
  (bif (decide (p0.Name = (bs []))) then zff n p0 q0 slf ({Kind := 2, Name := p0.Name, Text := p0.Text, Attrs := ([] : List zaj), Parent := p1, First := (-1), Last := (-1), Prev := p2, Next := (-1)} : zah) else
  zff n p0 q0 slf ({Kind := 1, Name := p0.Name, Text := (bs []), Attrs := y21, Parent := p1, First := (-1), Last := (-1), Prev := p2, Next := (-1)} : zah))
def zha (slf : zam → Int → Int → zab → Option (Int × zab)) (n : Nat) (p0 : zam) (p1 : Int) (p2 : Int) (q0 : zab) : Option (Int × zab) :=
  (zg1 n p0.Attrs).bind fun x162 =>
  zhj n p0 p1 p2 q0 slf x162
def zes : Nat → zam → Int → Int → zab → Option (Int × zab)
  | 0, _, _, _, _ => none
  | n + 1, p0, p1, p2, q0 => zha (zes n) n p0 p1 p2 q0
def zls (n : Nat) (p0 : zam) : Option (zab × Int) :=
  (zes n p0 (-1) (-1) ({Nodes := ([] : List zah)} : zab)).bind fun x24 =>
  (dom_Right n x24.2).bind fun x36 =>
  (bif (decide (x36 ≠ 0)) then some (({Nodes := ([] : List zah)} : zab), x36) else
  some (x24.2,0))
end
section
set_option maxHeartbeats 4000000
set_option maxRecDepth 100000
open Go.RowKit Go.Sl
def zg5 (n : Nat) (y28 : (List Int)) (y33 : Int) (y34 : Bool) (y35 : (List za0)) : Option (zab × Int) :=
  (bif y34 then some (({Nodes := ([] : List zah)} : zab),5) else
  (zdg n (([] : List za0).length : Int) y35).bind fun x43 =>
  (zls n x43).bind fun x59 =>
  some (x59.1, x59.2))
def zf7 (y79 : Int) (lp85 : (List Int) → Int → Bool → Int → (List za0) → Option (zab × Int)) (y105 : (List Int)) (y110 : Int) (y111 : Bool) (y112 : (List za0)) : Option (zab × Int) :=
  (bif (decide (4096 < y110)) then some (({Nodes := ([] : List zah)} : zab),4) else
  lp85 y105 y110 y111 (w64 (y79 + 1)) y112)
def zg4 (y79 : Int) (lp85 : (List Int) → Int → Bool → Int → (List za0) → Option (zab × Int)) (y123 : (List Int)) (y128 : Int) (y129 : Bool) (y130 : (List za0)) : Option (zab × Int) :=
  zf7 y79 lp85 y123 y128 y129 y130
def zg3 (y79 : Int) (lp85 : (List Int) → Int → Bool → Int → (List za0) → Option (zab × Int)) (y148 : (List Int)) (y153 : Int) (y154 : Bool) (y155 : (List za0)) : Option (zab × Int) :=
  zf7 y79 lp85 y148 y153 y154 y155
def zg2 (y79 : Int) (lp85 : (List Int) → Int → Bool → Int → (List za0) → Option (zab × Int)) (y173 : (List Int)) (y178 : Int) (y179 : Bool) (y180 : (List za0)) : Option (zab × Int) :=
  zg3 y79 lp85 y173 y178 y179 y180
def zb3 (n : Nat) (p0 : (List za4)) : Nat → (List Int) → Int → Bool → Int → (List za0) → Option (zab × Int)
  | 0, _, _, _, _, _ => none
  | k85 + 1, y72, y77, y78, y79, y80 =>
  (bif (decide (y79 < (p0.length : Int))) then (geti p0 y79).bind fun x88 =>
  (bif (decide (x88.Kind = 1)) then (bif (decide (x88.Text ≠ (bs []))) then (zdz n ({open_ := y72, count := y77, deep := y78} : za3) x88.Text y80).bind fun x137 =>
  zg4 y79 (zb3 n p0 k85) x137.1.open_ x137.1.count x137.1.deep x137.2 else
  zg4 y79 (zb3 n p0 k85) y72 y77 y78 y80) else
  (bif (decide (x88.Kind = 2)) then (zcx n ({open_ := y72, count := y77, deep := y78} : za3) x88.Name x88.Attrs y80).bind fun x162 =>
  zg3 y79 (zb3 n p0 k85) x162.1.open_ x162.1.count x162.1.deep x162.2 else
  (bif (decide (x88.Kind = 3)) then (zdp n ({open_ := y72, count := y77, deep := y78} : za3) x88.Name y80).bind fun x187 =>
  zg2 y79 (zb3 n p0 k85) x187.1.open_ x187.1.count x187.1.deep x187.2 else
  zg2 y79 (zb3 n p0 k85) y72 y77 y78 y80))) else
  zg5 n y72 y77 y78 y80)
def zgm (n : Nat) (p0 : (List za4)) : Option (zab × Int) :=
  zb3 n p0 n [(([] : List za0).length : Int)] 1 false 0 (([] : List za0) ++ [({name := (bs [114,111,111,116]), text := (bs []), attrs := ([] : List zaj), above := (-1 : Int), kids := ([] : List Int)} : za0)])
end
end Go.Proofs.YtdjjeahiomackaaGreat
