/-
  Walks and laws of this seat.
-/
import Derived.Test.YtdjjeahiomackaaGreatBase
import Derived.Orders
namespace Go.Sl
section
open Go.RowKit
section
variable {P : Program} {f f' : Fz} {L L' : List Ent} {w0 w w' : World} {n : Nat} {E E' : List (Nat × Value)} {a : Act}
variable {ops : Array Oper} {rest : List Oper} {o : Oper} {K : AP} {C : World → Prop}
variable {d : Option Tmp} {ty : TypeId} {pos : String} {af : Array Edge} {g : Option (Nat × Bool)}
theorem Rd.nil (f : Fz) (L : List Ent) (k : Nat) : Rd f L (.slice none 0 0) k [] := ⟨by simp, none,0, rfl, by simp, fun _ => rfl, fun a ha => by cases ha⟩
theorem y_remT {x y : Operand} {t t' : TypeId} {i j : Int} (hx : opv E x = some (.int .i64 i)) (hy : opv E y = some (.int .i64 j)) (h1 : j ≠ 0) :
    Y P C n E ⟨d, .binOp .rem t x y t', ty, pos, af, g⟩ (.int .i64 (i.tmod j)) :=
  .of fun a ha w _ => by
    simp [execOp, ha.eval hx, ha.eval hy, eqGuard, binOp, Op.intDiv, h1]
theorem Rd.one {v k rows} (h : Rd f L v k rows) : v.oneCell' = true := by
  obtain ⟨_, ao, cap, rfl, _⟩ := h; rfl
def put1 (places : List (Nat × Nat)) : List (Nat × Value) → List Value → Option (List Value)
  | [], cs => some cs
  | (i, v) :: r, cs => match places[i]? with
    | some (off,1) => put1 places r (cs.set off v)
    | _ => none
theorem zre (places : List (Nat × Nat)) : ∀ (vs : List (Nat × Value)) (cs cs' : List Value),(∀ p ∈ vs, p.2.oneCell' = true) → (∀ q ∈ places, q.1 + q.2 ≤ cs.length) → put1 places vs cs = some cs' →
    Instr.fill (places.toArray[·]?) cs.toArray vs = some cs'.toArray
  | [], cs, cs', _, _, h => by simp [put1] at h; subst h; rfl
  | (i, v) :: r, cs, cs', h1, h2, h => by
    simp only [put1] at h
    split at h
    · rename_i off hp
      have hv := zrm (h1 (i, v) (by simp))
      have hlt := h2 (off,1) (List.mem_of_getElem? hp)
      simp only at hlt
      have ih := zre places r (cs.set off v) cs' (fun p hp => h1 p (by simp [hp])) (by simpa using h2) h
      have hp' : places.toArray[i]? = some (off,1) := by simpa using hp
      simp only [Instr.fill, hp', hv]
      rw [if_neg (by simp; omega)]
      simpa using ih
    · cases h
def AllOne : List (Nat × Value) → Prop
  | [] => True
  | (_, v) :: r => v.oneCell' = true ∧ AllOne r
theorem AllOne.all : ∀ {vs : List (Nat × Value)}, AllOne vs → ∀ p ∈ vs, p.2.oneCell' = true
  | [], _, p, hp => by simp at hp
  | (i, v) :: r, h, p, hp => by
    rcases List.mem_cons.1 hp with rfl | hp
    · exact h.1
    · exact AllOne.all h.2 p hp
theorem zea {t : TypeId} {parts : List (Nat × Operand)} {vs : List (Nat × Value)} {zl cs : List Value} {fs : Array Field} {k by_ : Nat} {places : List (Nat × Nat)} (hv : parts.mapM (fun p => (opv E p.2).map fun v => (p.1, v)) = some vs)
    (ht : P.underlying t = some (.struct fs)) (hT : TI P t k by_ (.agg zl.toArray)) (hp : fs.toList.mapM (fun f => (P.info? f.type).map fun i => (f.offset, i.size)) = some places) (hb : places.all (fun q => q.1 + q.2 ≤ zl.length) = true)
    (hc : put1 places vs zl = some cs) (h1 : AllOne vs := by repeat' (first | exact trivial | refine And.intro (by first | rfl | assumption) ?_)) :
    Y P C n E ⟨d, .build t parts.toArray, ty, pos, af, g⟩ (.agg cs.toArray) := by
  refine zuj hv ?_
  obtain ⟨i, hi, hz, _, _⟩ := hT
  simp only [Program.built, hi, ht, hz, hp]
  exact zre places vs zl cs h1.all (by simpa using hb) hc
theorem sbox {t : TypeId} {x : Operand} {cs : Array Value} (hs : St n w0 f L E a w) {dd : Nat} (hx : opv E x = some (.agg cs))
    (h : ∀ b a w, St n w0 f (.blk b (.cells cs t) :: L) ((dd, .pointer (some ⟨b,0, none⟩)) :: E) a w → RL P ops rest K a w) (hd : dd < n := by decide) :
    RL P ops (⟨some dd, .box t x, ty, pos, af, none⟩ :: rest) K a w := RL_box hs hx (.free rfl) hd h
theorem sstore {t : TypeId} {x y : Operand} {b o : Nat} {u : Value} {cs : Array Value} {e : TypeId} {by_ : Nat} {z : Value} (i : Nat) (hs : St n w0 f L E a w) (hi : L[i]? = some (.blk b (.cells cs e (0,0))))
    (hx : opv E x = some (.pointer (some ⟨b, o, none⟩))) (hy : opv E y = some u) (hT : TI P t 1 by_ z) (hu : u.oneCell' = true)
    (h : ∀ a w, St n w0 f (L.set i (.blk b (.cells (cs.setIfInBounds o u) e (0,0)))) E a w → RL P ops rest K a w) (ho : o < cs.size := by simp) : RL P ops (⟨none, .store t x y, ty, pos, af, none⟩ :: rest) K a w :=
  zl5 hs hi hx hy hT hu ho rfl (.free rfl) h
end
end
section
open Go.RowKit
section
variable {P : Program} {f f' : Fz} {L L' : List Ent} {w0 w w' : World} {n : Nat} {E E' : List (Nat × Value)} {a : Act}
variable {ops : Array Oper} {rest : List Oper} {o : Oper} {K : AP} {C : World → Prop}
variable {d : Option Tmp} {ty : TypeId} {pos : String} {af : Array Edge} {g : Option (Nat × Bool)}
theorem ztp {t e : TypeId} {k by_ : Nat} {z : Value} (hs : St n w0 f L E a w) {dd : Nat} (ht : P.underlying t = some (.slice e)) (hT : TI P e k by_ z)
    (h : ∀ v a w, St n w0 f (.row v e k [] :: L) ((dd, v) :: E) a w → RL P ops rest K a w) (hd : dd < n := by decide) :
    RL P ops (⟨some dd, .buildSlice t 0 #[], ty, pos, af, none⟩ :: rest) K a w := by
  obtain ⟨i, hi, hz, hk1, _⟩ := hT
  subst hk1
  have hrun : (Instr.buildSlice t 0 #[]).run P w = .ok (.slice (some ⟨w.heap.size,0, none⟩) 0 0) (w.alloc (.cells #[] e)) := by
    simp [Instr.buildSlice, run_underlying ht, sizeOf, typeInfo, hi, newRow, Instr.fill, show Array.range 0 = #[] from by simp [Array.range]]
  refine RL_v hs (.free rfl) (.to rfl hd) (v := .slice (some ⟨w.heap.size,0, none⟩) 0 0) (w' := w.alloc (.cells #[] e)) (f' := f) (L' := .row (.slice (some ⟨w.heap.size,0, none⟩) 0 0) e i.size [] :: L) ?_ ?_ (h _)
  · simp only [execOp, List.map_toArray, List.map_nil, Sem.run_bind, hrun, Result.andThen_ok, Sem.run_pure]
  · refine hs.cw.cons (Grew.alloc w _ none) ⟨?_, by simp⟩ (fun b hb => by simp [Ent.key, Value.ownBlock] at hb; omega)
    exact World.ownsRow_lit (base := 0) (e := e) (size := i.size) w #[] 0 (Nat.zero_le _) (by simp [maxLen]) (by simp)
theorem ze7 {d : Nat} {t : TypeId} {u v : Value} {r : Bool} (h : ∀ d,(Op.equalIn (d + 1) t u v).run P w = .ok r w) (hd : d = 10000) : (Op.equalIn d t u v).run P w = .ok r w := by
  subst hd; exact h 9999
theorem zvn {t q : TypeId} {p : Addr} (ht : P.underlying t = some (.pointer q)) : (Op.equal t (.pointer (some p)) (.pointer none)).run P w = .ok false w :=
  ze7 (fun d => by simp [Op.equalIn, run_underlying ht]) rfl
theorem zp0 {t : TypeId} {p q : Bool} (ht : P.underlying t = some .bool) : (Op.equal t (.bool p) (.bool q)).run P w = .ok (p == q) w :=
  ze7 (fun d => by simp [Op.equalIn, run_underlying ht]) rfl
section
variable {x y : Operand} {t t' q : TypeId} {p : Addr} {b c : Bool}
theorem y_pnil (hx : opv E x = some (.pointer (some p))) (hy : opv E y = some (.pointer none)) (ht : P.underlying t = some (.pointer q)) :
    Y P C n E ⟨d, .binOp .eql t x y t', ty, pos, af, g⟩ (.bool false) :=
  .of fun a ha w _ => by
    simp only [execOp, ha.eval hx, ha.eval hy, eqGuard, binOp, Sem.run_bind, Sem.run_pure, zvn ht, Result.andThen_ok]
    rfl
theorem y_beql (hx : opv E x = some (.bool b)) (hy : opv E y = some (.bool c)) (ht : P.underlying t = some .bool) :
    Y P C n E ⟨d, .binOp .eql t x y t', ty, pos, af, g⟩ (.bool (b == c)) :=
  .of fun a ha w _ => by
    simp only [execOp, ha.eval hx, ha.eval hy, eqGuard, binOp, Sem.run_bind, Sem.run_pure, zp0 ht, Result.andThen_ok]
    rfl
theorem y_bneq (hx : opv E x = some (.bool b)) (hy : opv E y = some (.bool c)) (ht : P.underlying t = some .bool) :
    Y P C n E ⟨d, .binOp .neq t x y t', ty, pos, af, g⟩ (.bool (!(b == c))) :=
  .of fun a ha w _ => by
    simp only [execOp, ha.eval hx, ha.eval hy, eqGuard, binOp, Sem.run_bind, Sem.run_pure, zp0 ht, Result.andThen_ok]
    rfl
end
end
end
section
open Go.RowKit
section
variable {P : Program} {f f' : Fz} {L L' : List Ent} {w0 w w' : World} {n : Nat} {E E' : List (Nat × Value)} {a : Act}
variable {ops : Array Oper} {rest : List Oper} {o : Oper} {K : AP} {C : World → Prop}
variable {d : Option Tmp} {ty : TypeId} {pos : String} {af : Array Edge} {g : Option (Nat × Bool)}
def byteCells (s : ByteArray) : List Value := (bytesIn s).map fun x => .int .u8 x
theorem zfo (s : ByteArray) : (byteCells s).length = s.size := by simp [byteCells, zb9]
theorem zks (w : World) (s : ByteArray) (k : Nat) : (Builtin.firstCells k s.size (.string s)).run P w = .ok (byteCells s).toArray w := by
  have : (s.extract 0 s.size) = s := by simp
  simp only [Builtin.firstCells, this, Sem.run_pure]
  congr 1
  apply Array.ext'
  simp [byteCells, bytesIn]
theorem zoe (w : World) {t u ty e : TypeId} {i : TypeInfo} {z : Value} (ht : P.underlying t = some (.slice e)) (hu : P.underlying u = some .string) (hi : P.info? e = some i) (hz : i.zero = some z)
    (hsize : i.size = 1) (hzs : z.cells.size = 1) {v : Value} {m : Nat} {xs : List Value} (hown : w.ownsRow 0 e 1 v m xs) (s : ByteArray)
    (h63 : m + s.size ≤ maxLen) (hbytes : (m + s.size) * i.bytes ≤ 140737488355328) :
    ∃ v' w', (Builtin.append_ #[t, u] ty #[v, .string s]).run P w = .ok v' w' ∧ w'.ownsRow 0 e 1 v' (m + s.size) (xs ++ byteCells s) ∧ w.grownBy w' v.ownBlock ∧
      ∀ b, v'.ownBlock = some b → v.ownBlock = some b ∨ w.heap.size ≤ b := by
  have hsmall : m + s.size ≤ 9223372036854775807 := by simp only [maxLen] at h63; omega
  have hlen : (xs ++ byteCells s).length = m + s.size := by rw [List.length_append, hown.1, zfo]; omega
  have grown : ∀ (old : Nat), old < m + s.size → ∀ (row : Option Nat),
      (w.drew.alloc (.cells (xs.toArray ++ (byteCells s).toArray ++ Builtin.zeroCells z.cells (grownCap w (m + s.size) old e - (m + s.size))) e)).ownsRow 0 e 1
        (.slice (some ⟨w.heap.size,0, none⟩) (m + s.size) (grownCap w (m + s.size) old e)) (m + s.size) (xs ++ byteCells s) ∧
      w.grownBy (w.drew.alloc (.cells (xs.toArray ++ (byteCells s).toArray ++ Builtin.zeroCells z.cells (grownCap w (m + s.size) old e - (m + s.size))) e)) row := by
    intro old ho row
    have hge := grownCap_ge w (m + s.size) old e
    have hcm : grownCap w (m + s.size) old e ≤ maxLen := grownCap_le_maxLen w (m + s.size) old e h63
    refine ⟨⟨by rw [hlen]; omega, .inr ⟨w.heap.size, _, _, rfl, Nat.zero_le _, heap_alloc_new w.drew _, hge, hcm, ?_, ?_⟩⟩, ⟨rfl, rfl, rfl, by simp, fun k hk _ => World.heap_old w.drew _ k hk⟩⟩
    · simp only [Array.size_append, List.size_toArray, size_zeroCells, hzs, hown.1, zfo]
      omega
    · simp only [Array.toList_append, List.append_assoc]
      rw [← List.append_assoc, Nat.mul_one, ← hlen]
      exact List.take_left
  rcases hown.2 with ⟨rfl, rfl⟩ | ⟨g, cap, cur, rfl, hbg, hg, hnc, hcm, hcs, htake⟩
  · have hx : xs = [] := List.eq_nil_of_length_eq_zero (by simpa using hown.1)
    subst hx
    by_cases hm : s.size = 0
    · have hc : byteCells s = [] := List.eq_nil_of_length_eq_zero (by rw [zfo]; exact hm)
      refine ⟨.slice none 0 0, w, ?_, ?_, ⟨rfl, rfl, rfl, Nat.le_refl _, fun _ _ _ => rfl⟩, by simp [Value.ownBlock]⟩
      · simp [Builtin.append_, run_underlying ht, run_underlying hu, sizeOf, typeInfo, hi, Builtin.lenOf, hm, Builtin.firstCells]
      · rw [hm, hc]; exact World.ownsRow_nil w 0 e 1
    · have hr := run_append_nil_string (P := P) w t u ty e i z ht hu hi hz s (by omega) (by omega) (by simp only [Nat.zero_add] at hbytes; omega)
      have hgr := grown 0 (by omega) (Value.ownBlock (.slice none 0 0))
      simp only [Nat.zero_add, List.nil_append, Array.empty_append] at hgr ⊢
      have hc : s.data.map (fun b => Value.int .u8 b.toNat) = (byteCells s).toArray := by apply Array.ext'; simp [byteCells, bytesIn]
      rw [hc] at hr
      refine ⟨_, _, hr, hgr.1, hgr.2, fun b hb => .inr ?_⟩
      simp [Value.ownBlock] at hb
      omega
  · by_cases hroom : m + s.size ≤ cap
    · have hfit : m + (byteCells s).length ≤ cur.size := by rw [zfo]; omega
      have hst := run_storeCells_at P g m e (byteCells s) 0 cur w hg (by simpa using hfit) (fun u hu => by
        simp only [byteCells, List.mem_map] at hu
        obtain ⟨_, _, rfl⟩ := hu
        rfl)
      simp only [Nat.add_zero] at hst
      have hf := zks (P := P) w s 1
      refine ⟨_, _, ?_, ⟨by rw [hlen]; omega, .inr ⟨g, cap, _, rfl, hbg, setRow_heap w g cur (cur.toList.take m ++ byteCells s ++ cur.toList.drop (m + (byteCells s).length)).toArray e _ hg, hroom, hcm, ?_, ?_⟩⟩, ⟨rfl, rfl, rfl, by simp, fun k _ hk => setRow_other w g k _ (fun e => hk (by simp [Value.ownBlock, e]))⟩, fun b hb => .inl hb⟩
      · simp [Builtin.append_, run_underlying ht, run_underlying hu, sizeOf, typeInfo, hi, hsize, Builtin.lenOf, hroom, hf, Addr.add_lit, hst]
      · simp only [List.size_toArray, List.length_append, List.length_take, List.length_drop, Array.length_toList]
        omega
      · have htake' : cur.toList.take m = xs := by simpa using htake
        rw [htake', Nat.mul_one, ← hlen]
        exact List.take_left
    · have holds : ∀ j u, xs[j]? = some u → w.cell? ((⟨g,0, none⟩ : Addr).add j) = some u := hown.cells (g := g) rfl
      have h63' : ¬ (9223372036854775807 < ((m : Int) + (s.size : Int))) := by omega
      have hfit := growslice_fits (need := m + s.size) (old := cap) (bytes := i.bytes) (by omega) hbytes
      have h48' : ¬ (281474976710656 < Builtin.nextslicecap (m + s.size) cap * i.bytes) := by omega
      have hf := zks (P := P) w.drew s 1
      have hfo := run_firstCells_some (P := P) w.drew 1 m ⟨g,0, none⟩ m cap xs (by simpa using hown.1) (by simpa using holds)
      have hgr := grown cap (by omega) (Value.ownBlock (.slice (some ⟨g,0, none⟩) m cap))
      refine ⟨_, _, ?_, hgr.1, hgr.2, fun b hb => .inr ?_⟩
      · simp [Builtin.append_, run_underlying ht, run_underlying hu, sizeOf, typeInfo, zeroValue, hi, hz, hsize, Builtin.lenOf, hroom, h63', h48', Question.forced, hf, hfo, newRow, grownCap]
        congr 2
        apply Array.ext'
        simp [List.append_assoc]
      · simp [Value.ownBlock] at hb
        omega
theorem zn1 (s : ByteArray) : ((bytesIn s).map fun x => [Value.int .u8 x]).flatten = byteCells s := by
  unfold byteCells
  induction bytesIn s with
  | nil => rfl
  | cons x xs ih => simp [ih]
theorem zrv {x y : Operand} {t u e : TypeId} {v : Value} {by_ : Nat} {z : Value} {rows : List (List Value)} {s : ByteArray} (i : Nat) (hs : St n w0 f L E a w) {dd : Nat}
    (hi : L[i]? = some (.row v e 1 rows)) (hx : opv E x = some v) (hy : opv E y = some (.string s)) (ht : P.underlying t = some (.slice e)) (hu : P.underlying u = some .string) (hT : TI P e 1 by_ z) (hzs : z.cells.size = 1)
    (hb : rows.length + s.size ≤ maxLen ∧ (rows.length + s.size) * by_ ≤ 140737488355328)
    (h : ∀ v' a w, St n w0 f (L.set i (.row v' e 1 (rows ++ (bytesIn s).map fun x => [.int .u8 x]))) ((dd, v') :: E) a w → RL P ops rest K a w) (hd : dd < n := by decide) :
    RL P ops (⟨some dd, .call { callee := .builtin .append, args := #[x, y], argTypes := #[t, u] }, ty, pos, af, none⟩ :: rest) K a w := by
  obtain ⟨it, hit, hz, hk1, hk2⟩ := hT
  obtain ⟨hown, hone⟩ := hs.cw.live _ (List.mem_of_getElem? hi)
  obtain ⟨v', w', hr, g1, g2, g3⟩ := zoe (P := P) w (ty := ty) ht hu hit hz hk1 hzs hown s hb.1 (by rw [hk2]; exact hb.2)
  refine RL_v hs (.free rfl) (.to rfl hd) (v := v') (w' := w') (f' := f) (L' := L.set i (.row v' e 1 (rows ++ (bytesIn s).map fun x => [.int .u8 x]))) ?_ ?_ (h v')
  · simp only [execOp, resolve, invoke, builtin, Sem.run_bind, Sem.run_pure, Result.andThen_ok, List.map_toArray, List.map_cons, List.map_nil, hs.ev.eval hx, hs.ev.eval hy, hr]
  · refine hs.cw.repl hi (.of g2) ⟨?_, ?_⟩ (fun b hb => g3 b hb)
    · rw [List.length_append, List.flatten_append, List.length_map, zb9, zn1]; exact g1
    · intro r hr
      rcases List.mem_append.1 hr with hr | hr
      · exact hone r hr
      · simp only [List.mem_map] at hr
        obtain ⟨_, _, rfl⟩ := hr
        exact ⟨rfl, by simp [Value.oneCell']⟩
end
end
section
open Go.RowKit
section
variable {P : Program} {ops : Array Oper} {Q : AP} {F : (World → Prop) → Prop} {brk : List Nat}
def anyX (P : Program) (ops : Array Oper) (Q : AP) (F : (World → Prop) → Prop) (brk : List Nat) : Nat → Array Bool → Act → (World → Prop) → Prop
  | 0, listed, a, X => Region.ready .any ops listed = [] ∧ ∀ w, X w → Q a w
  | m + 1, listed, a, X => (Region.ready .any ops listed = [] → ∀ w, X w → Q a w) ∧
    ∀ i ∈ Region.ready .any ops listed, ∀ w, X w → wpOpS P ops i (fun a' w' => ∃ X', X' w' ∧ (F X' ∨ i ∈ brk) ∧ anyX P ops Q F brk m (listed.setIfInBounds i true) a' X') a w
theorem ztn : ∀ (m : Nat) (listed : Array Bool) (a : Act) (X : World → Prop), anyX P ops Q F brk m listed a X → ∀ w, X w → anyS P ops Q m listed a w
  | 0, _, _, _, h, w, hw => ⟨h.1, h.2 w hw⟩
  | m + 1, _, _, _, h, w, hw => ⟨fun h0 => h.1 h0 w hw, fun i hi => zot (fun _ _ ⟨X', h1, _, h3⟩ => ztn m _ _ X' h3 _ h1) (h.2 i hi w hw)⟩
def YX (P : Program) (ops : Array Oper) (F : (World → Prop) → Prop) (o : Oper) (v : Value) (a : Act) : Prop :=
  (Region.wanted o (yielded ops a.tmps) = true ∧ ∀ X, F X → ∀ w, X w → o.quietAt P a X w v) ∨ (Region.wanted o (yielded ops a.tmps) = false ∧ v = undef)
theorem YX.same {o : Oper} {v : Value} {a a' : Act} (hy : YX P ops F o v a) (he : execOp a'.eval o = execOp a.eval o)
    (hw : Region.wanted o (yielded ops a'.tmps) = Region.wanted o (yielded ops a.tmps)) : YX P ops F o v a' := by
  unfold YX Oper.quietAt at *
  rw [he, hw]; exact hy
theorem YX.op {i : Nat} {o : Oper} {v : Value} {a : Act} {K : AP} {X : World → Prop} {w : World} (hi : ops[i]? = some o) (hy : YX P ops F o v a) (hX : F X) (hw : X w)
    (h : ∀ w', X w' → K (a.put o.dst v) w') : wpOpS P ops i K a w := by
  unfold wpOpS
  simp only [hi]
  rcases hy with ⟨h1, h2⟩ | ⟨h1, rfl⟩
  · rw [if_pos h1]
    exact zjs hw h (h2 X hX w hw)
  · rw [if_neg (by simp [h1])]
    exact h w hw
theorem zuk {j : Nat} {oi oj : Oper} {v : Value} (hj : ops[j]? = some oj) (hap : oi.apart ops oj = true) (hsi : ∀ cs b, oi.op ≠ .select cs b) (hsj : ∀ cs b, oj.op ≠ .select cs b)
    {K : AP} {a : Act} {w : World} (h : wpOpS P ops j K (a.put oi.dst v) w) :
    wpOpS P ops j (fun a' w' => (execOp a'.eval oi = execOp a.eval oi ∧ Region.wanted oi (yielded ops a'.tmps) = Region.wanted oi (yielded ops a.tmps)) ∧ K (a'.put oi.dst v) w') a w := by
  obtain ⟨h1, h2, h3⟩ := Oper.apart_spec hap
  have fin : ∀ (b : Act) u w', execOp b.eval oi = execOp a.eval oi → Region.wanted oi (yielded ops b.tmps) = Region.wanted oi (yielded ops a.tmps) → K ((b.put oi.dst v).put oj.dst u) w' →
      (execOp (b.put oj.dst u).eval oi = execOp a.eval oi ∧ Region.wanted oi (yielded ops (b.put oj.dst u).tmps) = Region.wanted oi (yielded ops a.tmps)) ∧ K ((b.put oj.dst u).put oi.dst v) w' :=
    fun b u w' e1 e2 hk => ⟨⟨(execOp_put oi hsi b oj.dst u h3).trans e1,(wanted_put oi b oj.dst u h3).trans e2⟩, by rw [← Act.put_comm b v u h2]; exact hk⟩
  unfold wpOpS at h ⊢
  simp only [hj] at h ⊢
  rw [wanted_put oj a oi.dst v h1] at h
  split
  · rename_i hw
    rw [if_pos hw] at h
    unfold opS at h ⊢
    rw [execOp_put oj hsj a oi.dst v h1] at h
    exact zov (fun u w' hk => fin a u w' rfl rfl hk) h
  · rename_i hw
    rw [if_neg hw] at h
    exact fin a _ w rfl rfl h
def closedB (ops : Array Oper) (U : Array Bool) (i : Nat) : Bool :=
  (List.range ops.size).all fun j => j == i || U.getD j false || match ops[j]? with
    | some o => o.after.any fun e => Region.binds .any e && !U.getD e.on false
    | none => true
theorem zq5 {U listed : Array Bool} {i j : Nat} (hU : closedB ops U i = true) (hle : ∀ k, listed.getD k false = true → U.getD k false = true) (hj : j ∈ Region.ready .any ops listed) (hne : j ≠ i) : U.getD j false = true := by
  obtain ⟨_, o, ho, hall⟩ := mem_ready.1 hj
  have h := List.all_eq_true.1 hU j (List.mem_range.2 (Array.getElem?_eq_some_iff.1 ho).1)
  simp only [Bool.or_eq_true, beq_iff_eq, hne, false_or, ho] at h
  rcases h with h | h
  · exact h
  · obtain ⟨e, he, hb⟩ := Array.any_eq_true'.1 h
    simp only [Bool.and_eq_true, Bool.not_eq_true'] at hb
    have := hle _ (hall e he hb.1)
    rw [hb.2] at this
    cases this
theorem zwa {i : Nat} {oi : Oper} {v : Value} {U : Array Bool} (hi : ops[i]? = some oi) (hsel : ∀ (j : Nat) (o : Oper) cs b, ops[j]? = some o → o.op ≠ .select cs b)
    (hU : closedB ops U i = true) (hb : ∀ b ∈ brk, U.getD b false = false) :
    ∀ (m : Nat) (listed : Array Bool) (a : Act) (X : World → Prop),(∀ k, listed.getD k false = true → U.getD k false = true) →
      (∀ j oj, ops[j]? = some oj → j ≠ i → listed.getD j true = false → (∀ e ∈ oj.after, Region.binds .any e = true → e.on ≠ i) → oi.apart ops oj = true) →
      i ∈ Region.ready .any ops listed → YX P ops F oi v a → F X → anyX P ops Q F brk m (listed.setIfInBounds i true) (a.put oi.dst v) X → anyX P ops Q F brk (m + 1) listed a X := by
  intro m
  induction m with
  | zero =>
    intro listed a X _ _ hr hy hX H
    refine ⟨fun h => (by rw [h] at hr; cases hr), fun j hj w hw => ?_⟩
    by_cases hji : j = i
    · subst hji
      exact hy.op hi hX hw fun w' hw' => ⟨X, hw', .inl hX, H⟩
    · have := ready_mono hj hji
      rw [H.1] at this
      cases this
  | succ m ih =>
    intro listed a X hle hfree hr hy hX H
    refine ⟨fun h => (by rw [h] at hr; cases hr), fun j hj w hw => ?_⟩
    by_cases hji : j = i
    · subst hji
      exact hy.op hi hX hw fun w' hw' => ⟨X, hw', .inl hX, H⟩
    · have h1 := H.2 j (ready_mono hj hji) w hw
      have hUj := zq5 hU hle hj hji
      obtain ⟨hjun, oj, hoj, hall⟩ := mem_ready.1 hj
      have hnot : ∀ e ∈ oj.after, Region.binds .any e = true → e.on ≠ i := fun e he hb heq => by
        have h1 := hall e he hb
        have h0 := (mem_ready.1 hr).1
        rw [heq] at h1
        rcases Nat.lt_or_ge i listed.size with h' | h'
        · simp [h'] at h0 h1; rw [h0] at h1; cases h1
        · simp [Array.getElem?_eq_none h'] at h1
      have h2 := zuk hoj (hfree j oj hoj hji hjun hnot) (fun cs b => hsel i oi cs b hi) (fun cs b => hsel j oj cs b hoj) h1
      have hle' : ∀ k,(listed.setIfInBounds j true).getD k false = true → U.getD k false = true := fun k hk => by
        by_cases hkj : j = k
        · subst hkj; exact hUj
        · rw [getD_set_ne false hkj] at hk
          exact hle k hk
      refine zot (fun a' w' => ?_) h2
      rintro ⟨⟨e1, e2⟩, X', hX', hF, H'⟩
      have hF' : F X' := by
        rcases hF with hF | hF
        · exact hF
        · rw [hb j hF] at hUj; cases hUj
      refine ⟨X', hX', .inl hF', ih (listed.setIfInBounds j true) a' X' hle' (fun k ok hk hki hun hno => ?_) (ready_mono hr (Ne.symm hji)) (hy.same e1 e2) hF' ?_⟩
      · refine hfree k ok hk hki ?_ hno
        by_cases hjk : j = k
        · subst hjk; exact hjun
        · rw [getD_set_ne true hjk] at hun; exact hun
      · rw [Array.setIfInBounds_comm _ _ hji]
        exact H'
theorem zod {α : Type} {L L' : List α} (hs : L'.Sublist L) : ∃ g : Nat → Nat,(∀ i j, i ≠ j → g i ≠ g j) ∧ ∀ i x, L'[i]? = some x → L[g i]? = some x := by
  induction hs with
  | slnil => exact ⟨id, fun _ _ h => h, fun i x h => h⟩
  | cons x _ ih =>
    obtain ⟨g, h1, h2⟩ := ih
    exact ⟨fun i => g i + 1, fun i j h e => h1 i j h (by have e' : g i + 1 = g j + 1 := e; omega), fun i x h => by simpa using h2 i x h⟩
  | cons_cons x _ ih =>
    obtain ⟨g, h1, h2⟩ := ih
    refine ⟨fun i => match i with | 0 => 0 | i + 1 => g i + 1, fun i j h e => ?_, fun i y h => ?_⟩
    · match i, j with
      | 0,0 => exact h rfl
      | 0, j + 1 => simp at e
      | i + 1,0 => simp at e
      | i + 1, j + 1 => exact h1 i j (by omega) (by simpa using e)
    · match i with
      | 0 => simpa using h
      | i + 1 => simpa using h2 i y (by simpa using h)
theorem Cw.sub {f : Fz} {L L' : List Ent} {w0 w : World} (h : Cw w0 f L w) (hs : L'.Sublist L) : Cw w0 f L' w := by
  obtain ⟨g, h1, h2⟩ := zod hs
  exact ⟨h.os, h.tape, h.output, h.size, h.frz, fun e he => h.live e (hs.subset he), fun e he => h.apart e (hs.subset he),
    fun i j x y hi hj hij => h.sep _ _ x y (h2 i x hi) (h2 j y hj) (h1 i j hij)⟩
def Fam (w0 : World) (f : Fz) (Lc : List Ent) (X : World → Prop) : Prop := ∃ f' L', Fz.le f f' ∧ Lc.Sublist L' ∧ X = Cw w0 f' L'
def looks : Op → Bool
  | .move _ | .assign _ | .pick .. | .build .. | .load .. | .binOp .. | .unOp .. | .convert .. | .slice .. | .fieldAddr .. | .field .. | .indexAddr .. | .index .. | .extract .. | .makeFunc .. | .nilCheck _ => true
  | .call c => match c.callee with
    | .builtin .len => true
    | .builtin .cap => true
    | .builtin .min => true
    | .builtin .max => true
    | _ => false
  | _ => false
theorem zqa {s : Sem Value} {w w' : World} {g : FuncId} {as : Array Value} : (do pure (Next.value (← s)) : Sem Next).run P w ≠ .ok (.enter g as) w' := by
  intro h
  simp only [Sem.run_bind, Sem.run_pure] at h
  cases hs : s.run P w with
  | ok v w'' => rw [hs] at h; simp [Result.andThen] at h
  | halt x w'' => rw [hs] at h; simp [Result.andThen] at h
theorem zor {r : Result Value} {w' : World} {g : FuncId} {as : Array Value} : (r.andThen fun a w' => Result.ok (Next.value a) w') ≠ .ok (.enter g as) w' := by
  cases r <;> simp [Result.andThen]
theorem znp {ρ : Operand → Value} {o : Oper} {w w' : World} {g : FuncId} {as : Array Value} (hq : looks o.op = true) : (execOp ρ o).run P w ≠ .ok (.enter g as) w' := by
  obtain ⟨d, op, ty, pos, af, gd⟩ := o
  cases op <;> simp only [looks] at hq <;> try cases hq
  all_goals try exact zqa
  case move => simp [execOp, Sem.run_pure]
  case assign => simp [execOp, Sem.run_pure]
  case pick c x y =>
    intro h
    simp only [execOp, Sem.run_bind, Sem.run_pure] at h
    cases hs : (asBool (ρ c)).run P w with
    | ok v w'' => rw [hs] at h; simp [Result.andThen] at h
    | halt x w'' => rw [hs] at h; simp [Result.andThen] at h
  case nilCheck x =>
    intro h
    simp only [execOp] at h
    split at h
    all_goals try (simp [runtimePanic, Sem.run_pure] at h; done)
    rename_i name first captured _
    split at h
    · simp [runtimePanic] at h
    · rename_i t u _
      simp only [Sem.run_bind] at h
      revert h
      cases Sem.run P program w with
      | halt => simp [Result.andThen]
      | ok p w1 =>
        simp only [Result.andThen_ok]
        cases Sem.run P (nilAhead (p.types.size + Made.depth) t u name) w1 with
        | halt => simp [Result.andThen]
        | ok q w2 =>
          simp only [Result.andThen_ok]
          split
          · simp [unsupported, Result.andThen]
          · simp [Sem.run_pure]
    · simp [Sem.run_pure] at h
  case call c =>
    obtain ⟨callee, args, ats⟩ := c
    cases callee <;> simp only at hq <;> try cases hq
    rename_i b
    cases b <;> simp only at hq <;> try cases hq
    all_goals
      simp only [execOp, resolve, Sem.run_bind, Sem.run_pure, Result.andThen_ok, invoke, builtin]
      exact zor
section
variable {n : Nat} {w0 w : World} {f f' f0 : Fz} {L L' Lc : List Ent} {E E' : List (Nat × Value)} {a : Act} {o : Oper} {K : AP} {i : Nat} {p : List (Nat × Bool)} {v : Value}
theorem Fam.mk (h1 : Fz.le f0 f) (h2 : Lc.Sublist L) : Fam w0 f0 Lc (Cw w0 f L) := ⟨f, L, h1, h2, rfl⟩
end
end
end
section
open Go.RowKit
section
variable {P : Program} {ops : Array Oper} {brk : List Nat} {n : Nat} {w0 w : World} {f f' f0 : Fz} {L L' Lc : List Ent} {E E' : List (Nat × Value)} {a : Act} {K : AP} {p : List (Nat × Bool)} {v : Value}
variable {ty : TypeId} {pos : String} {af : Array Edge} {op : Op} {dd j gd : Nat} {b : Bool}
variable {d : Option Tmp} {g : Option (Nat × Bool)} {C : World → Prop}
end
end
section
open Go.RowKit
section
variable {P : Program} {ops : Array Oper} {n : Nat} {w0 w : World} {f f' : Fz} {L L' : List Ent} {E E' : List (Nat × Value)} {a : Act} {K : AP} {v : Value}
variable {ty : TypeId} {pos : String} {af : Array Edge} {d : Option Tmp} {g : Option (Nat × Bool)} {C : World → Prop}
end
end
section
section
variable {w0 w : World} {f : Fz} {L L' : List Ent}
end
end
end Go.Sl
