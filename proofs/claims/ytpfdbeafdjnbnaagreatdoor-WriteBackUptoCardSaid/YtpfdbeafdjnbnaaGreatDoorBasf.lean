/-
  Walks and laws of this seat.
-/
import Derived.Test.YtpfdbeafdjnbnaaGreatDoorBase
import Derived.Orders
namespace Go.Sl
section
open Go.RowKit
section
variable {P : Program} {f f' : Fz} {L L' : List Ent} {w0 w w' : World} {n : Nat} {E E' : List (Nat × Value)} {a : Act}
variable {ops : Array Oper} {rest : List Oper} {o : Oper} {K : AP} {C : World → Prop}
variable {d : Option Tmp} {ty : TypeId} {pos : String} {af : Array Edge} {g : Option (Nat × Bool)}
theorem Rd.nil (f : Fz) (L : List Ent) (k : Nat) : Rd f L (.slice none 0 0) k [] := ⟨by simp, none,0, rfl, by simp, fun _ => rfl, fun a ha => by cases ha⟩
theorem Rd.one {v k rows} (h : Rd f L v k rows) : v.oneCell' = true := by
  obtain ⟨_, ao, cap, rfl, _⟩ := h; rfl
def put1 (places : List (Nat × Nat)) : List (Nat × Value) → List Value → Option (List Value)
  | [], cs => some cs
  | (i, v) :: r, cs => match places[i]? with
    | some (off,1) => put1 places r (cs.set off v)
    | _ => none
theorem zrf (places : List (Nat × Nat)) : ∀ (vs : List (Nat × Value)) (cs cs' : List Value),(∀ p ∈ vs, p.2.oneCell' = true) → (∀ q ∈ places, q.1 + q.2 ≤ cs.length) → put1 places vs cs = some cs' →
    Instr.fill (places.toArray[·]?) cs.toArray vs = some cs'.toArray
  | [], cs, cs', _, _, h => by simp [put1] at h; subst h; rfl
  | (i, v) :: r, cs, cs', h1, h2, h => by
    simp only [put1] at h
    split at h
    · rename_i off hp
      have hv := zrq (h1 (i, v) (by simp))
      have hlt := h2 (off,1) (List.mem_of_getElem? hp)
      simp only at hlt
      have ih := zrf places r (cs.set off v) cs' (fun p hp => h1 p (by simp [hp])) (by simpa using h2) h
      have hp' : places.toArray[i]? = some (off,1) := by simpa using hp
      simp only [Instr.fill, hp', hv]
      rw [if_neg (by simp; omega)]
      simpa using ih
    · cases h
def AllOne : List (Nat × Value) → Prop
  | [] => True
  | (_, v) :: r => v.oneCell' = true ∧ AllOne r
theorem AllOne.all : ∀ {vs : List (Nat × Value)}, AllOne vs → ∀ p ∈ vs, p.2.oneCell' = true
  | [], _, p, hp => by simp at hp
  | (i, v) :: r, h, p, hp => by
    rcases List.mem_cons.1 hp with rfl | hp
    · exact h.1
    · exact AllOne.all h.2 p hp
theorem ze4 {t : TypeId} {parts : List (Nat × Operand)} {vs : List (Nat × Value)} {zl cs : List Value} {fs : Array Field} {k by_ : Nat} {places : List (Nat × Nat)} (hv : parts.mapM (fun p => (opv E p.2).map fun v => (p.1, v)) = some vs)
    (ht : P.underlying t = some (.struct fs)) (hT : TI P t k by_ (.agg zl.toArray)) (hp : fs.toList.mapM (fun f => (P.info? f.type).map fun i => (f.offset, i.size)) = some places) (hb : places.all (fun q => q.1 + q.2 ≤ zl.length) = true)
    (hc : put1 places vs zl = some cs) (h1 : AllOne vs := by repeat' (first | exact trivial | refine And.intro (by first | rfl | assumption) ?_)) :
    Y P C n E ⟨d, .build t parts.toArray, ty, pos, af, g⟩ (.agg cs.toArray) := by
  refine y_build hv ?_
  obtain ⟨i, hi, hz, _, _⟩ := hT
  simp only [Program.built, hi, ht, hz, hp]
  exact zrf places vs zl cs h1.all (by simpa using hb) hc
theorem sbox {t : TypeId} {x : Operand} {cs : Array Value} (hs : St n w0 f L E a w) {dd : Nat} (hx : opv E x = some (.agg cs))
    (h : ∀ b a w, St n w0 f (.blk b (.cells cs t) :: L) ((dd, .pointer (some ⟨b,0, none⟩)) :: E) a w → RL P ops rest K a w) (hd : dd < n := by decide) :
    RL P ops (⟨some dd, .box t x, ty, pos, af, none⟩ :: rest) K a w := RL_box hs hx (.free rfl) hd h
theorem sstore {t : TypeId} {x y : Operand} {b o : Nat} {u : Value} {cs : Array Value} {e : TypeId} {by_ : Nat} {z : Value} (i : Nat) (hs : St n w0 f L E a w) (hi : L[i]? = some (.blk b (.cells cs e (0,0))))
    (hx : opv E x = some (.pointer (some ⟨b, o, none⟩))) (hy : opv E y = some u) (hT : TI P t 1 by_ z) (hu : u.oneCell' = true)
    (h : ∀ a w, St n w0 f (L.set i (.blk b (.cells (cs.setIfInBounds o u) e (0,0)))) E a w → RL P ops rest K a w) (ho : o < cs.size := by simp) : RL P ops (⟨none, .store t x y, ty, pos, af, none⟩ :: rest) K a w :=
  zda hs hi hx hy hT hu ho rfl (.free rfl) h
theorem zvy {x : Operand} {t e : TypeId} {v2 : Value} {k by_ : Nat} {z : Value} {rows2 : List (List Value)} {s : Operand} (hs : St n w0 f L E a w) {dd : Nat}
    (hx : opv E s = some (.slice none 0 0)) (hx2 : opv E x = some v2) (hR : Rd f L v2 k rows2) (ht : P.underlying t = some (.slice e)) (hT : TI P e k by_ z) (hk : 0 < k ∧ z.cells.size = k)
    (hb : rows2.length ≤ 9223372036854775807 ∧ rows2.length * by_ ≤ 140737488355328)
    (h : ∀ v' a w, St n w0 f (.row v' e k rows2 :: L) ((dd, v') :: E) a w → RL P ops rest K a w) (hd : dd < n := by decide) :
    RL P ops (⟨some dd, .call { callee := .builtin .append, args := #[s, x], argTypes := #[t, t] }, ty, pos, af, none⟩ :: rest) K a w :=
  zc9 (i := 0) (hs.nilRow e k) rfl hx hx2 (hR.mono (.refl f) (fun _ h => List.mem_cons_of_mem _ h)) ht hT hk (by simp only [maxLen, List.length_nil]; exact ⟨by omega, by rw [Nat.zero_add]; exact hb.2⟩) (.free rfl) hd
    fun v' a w hs => h v' a w (by simpa using hs)
end
end
section
open Go.RowKit
section
variable {P : Program} {f f' : Fz} {L L' : List Ent} {w0 w w' : World} {n : Nat} {E E' : List (Nat × Value)} {a : Act}
variable {ops : Array Oper} {rest : List Oper} {o : Oper} {K : AP} {C : World → Prop}
variable {d : Option Tmp} {ty : TypeId} {pos : String} {af : Array Edge} {g : Option (Nat × Bool)}
theorem zvx {t e : TypeId} {k by_ : Nat} {z : Value} (hs : St n w0 f L E a w) {dd : Nat} (ht : P.underlying t = some (.slice e)) (hT : TI P e k by_ z)
    (h : ∀ v a w, St n w0 f (.row v e k [] :: L) ((dd, v) :: E) a w → RL P ops rest K a w) (hd : dd < n := by decide) :
    RL P ops (⟨some dd, .buildSlice t 0 #[], ty, pos, af, none⟩ :: rest) K a w := by
  obtain ⟨i, hi, hz, hk1, _⟩ := hT
  subst hk1
  have hrun : (Instr.buildSlice t 0 #[]).run P w = .ok (.slice (some ⟨w.heap.size,0, none⟩) 0 0) (w.alloc (.cells #[] e)) := by
    simp [Instr.buildSlice, run_underlying ht, sizeOf, typeInfo, hi, newRow, Instr.fill, show Array.range 0 = #[] from by simp [Array.range]]
  refine RL_v hs (.free rfl) (.to rfl hd) (v := .slice (some ⟨w.heap.size,0, none⟩) 0 0) (w' := w.alloc (.cells #[] e)) (f' := f) (L' := .row (.slice (some ⟨w.heap.size,0, none⟩) 0 0) e i.size [] :: L) ?_ ?_ (h _)
  · simp only [execOp, List.map_toArray, List.map_nil, Sem.run_bind, hrun, Result.andThen_ok, Sem.run_pure]
  · refine hs.cw.cons (Grew.alloc w _ none) ⟨?_, by simp⟩ (fun b hb => by simp [Ent.key, Value.ownBlock] at hb; omega)
    exact World.ownsRow_lit (base := 0) (e := e) (size := i.size) w #[] 0 (Nat.zero_le _) (by simp [maxLen]) (by simp)
theorem zha {d : Nat} {t : TypeId} {u v : Value} {r : Bool} (h : ∀ d,(Op.equalIn (d + 1) t u v).run P w = .ok r w) (hd : d = 10000) : (Op.equalIn d t u v).run P w = .ok r w := by
  subst hd; exact h 9999
theorem zrj {t q : TypeId} {p : Addr} (ht : P.underlying t = some (.pointer q)) : (Op.equal t (.pointer (some p)) (.pointer none)).run P w = .ok false w :=
  zha (fun d => by simp [Op.equalIn, run_underlying ht]) rfl
section
variable {x y : Operand} {t t' q : TypeId} {p : Addr} {b c : Bool}
theorem y_pnil (hx : opv E x = some (.pointer (some p))) (hy : opv E y = some (.pointer none)) (ht : P.underlying t = some (.pointer q)) :
    Y P C n E ⟨d, .binOp .eql t x y t', ty, pos, af, g⟩ (.bool false) :=
  .of fun a ha w _ => by
    simp only [execOp, ha.eval hx, ha.eval hy, eqGuard, binOp, Sem.run_bind, Sem.run_pure, zrj ht, Result.andThen_ok]
    rfl
theorem zph (hx : opv E x = some (.pointer (some p))) (hy : opv E y = some (.pointer none)) (ht : P.underlying t = some (.pointer q)) :
    Y P C n E ⟨d, .binOp .neq t x y t', ty, pos, af, g⟩ (.bool true) :=
  .of fun a ha w _ => by
    simp only [execOp, ha.eval hx, ha.eval hy, eqGuard, binOp, Sem.run_bind, Sem.run_pure, zrj ht, Result.andThen_ok]
    rfl
end
theorem zte {gn : FuncId} {x : Operand} {as : List Operand} {vs : List Value} {ats : Array TypeId} {R : Value → Fz → List Ent → Prop} (hs : St n w0 f L E a w) {dd : Nat}
    (hx : opv E x = some (.func (.func gn) #[] #[])) (hg : Has P gn) (hv : as.mapM (opv E) = some vs)
    (hp : ∀ w, Cw w0 f L w → Calls P gn vs.toArray w fun e w' => ∃ v f' L', e = .returned v ∧ Fz.le f f' ∧ Cw w0 f' L' w' ∧ R v f' L')
    (h : ∀ v f' L' a w, Fz.le f f' → R v f' L' → St n w0 f' L' ((dd, v) :: E) a w → RL P ops rest K a w) (hd : dd < n := by decide) :
    RL P ops (⟨some dd, .call { callee := .value x, args := as.toArray, argTypes := ats }, ty, pos, af, none⟩ :: rest) K a w := by
  refine zjg fun K' hK' => ?_
  rw [if_pos ((Want.free rfl).wanted hs.ev)]
  unfold opS
  rw [zi1 hs.ev hx hg hv]
  have := hp w hs.cw
  rw [show vs.toArray ++ (#[] : Array Value) = vs.toArray from by simp]
  refine this.mono ?_
  rintro e w' ⟨v, f', L', rfl, h1, h2, h3⟩
  exact ⟨v, rfl, hK' _ _ (h v f' L' _ _ h1 h3 ⟨hs.ev.put hd v, h2⟩)⟩
theorem sstoreRow {t : TypeId} {x y : Operand} {v u : Value} {m : Nat} {rows : List (List Value)} {r : List Value} {e : TypeId} {by_ : Nat} {z : Value} (i : Nat) (hs : St n w0 f L E a w) (hi : L[i]? = some (.row v e 1 rows))
    (hx : opv E x = some (eaddr v 1 m 0)) (hy : opv E y = some u) (hr : rows[m]? = some r) (hT : TI P t 1 by_ z) (hu : u.oneCell' = true)
    (h : ∀ a w, St n w0 f (L.set i (.row v e 1 (rows.set m [u]))) E a w → RL P ops rest K a w) : RL P ops (⟨none, .store t x y, ty, pos, af, none⟩ :: rest) K a w := by
  have h1 := ((hs.cw.live _ (List.mem_of_getElem? hi)).2 r (List.mem_of_getElem? hr)).1
  refine zei hs hi hx hy hr (by omega) hT hu (.free rfl) (fun a w hs => h a w ?_)
  obtain ⟨q, rfl⟩ : ∃ q, r = [q] := List.length_eq_one_iff.1 h1
  simpa using hs
end
end
section
open Go.RowKit
section
variable {P : Program} {f f' : Fz} {L L' : List Ent} {w0 w w' : World} {n : Nat} {E E' : List (Nat × Value)} {a : Act}
variable {ops : Array Oper} {rest : List Oper} {o : Oper} {K : AP} {C : World → Prop}
variable {d : Option Tmp} {ty : TypeId} {pos : String} {af : Array Edge} {g : Option (Nat × Bool)}
def byteCells (s : ByteArray) : List Value := (bytesIn s).map fun x => .int .u8 x
theorem zh3 (s : ByteArray) : (byteCells s).length = s.size := by simp [byteCells, zak]
theorem zlg (w : World) (s : ByteArray) (k : Nat) : (Builtin.firstCells k s.size (.string s)).run P w = .ok (byteCells s).toArray w := by
  have : (s.extract 0 s.size) = s := by simp
  simp only [Builtin.firstCells, this, Sem.run_pure]
  congr 1
  apply Array.ext'
  simp [byteCells, bytesIn]
theorem zog (w : World) {t u ty e : TypeId} {i : TypeInfo} {z : Value} (ht : P.underlying t = some (.slice e)) (hu : P.underlying u = some .string) (hi : P.info? e = some i) (hz : i.zero = some z)
    (hsize : i.size = 1) (hzs : z.cells.size = 1) {v : Value} {m : Nat} {xs : List Value} (hown : w.ownsRow 0 e 1 v m xs) (s : ByteArray)
    (h63 : m + s.size ≤ maxLen) (hbytes : (m + s.size) * i.bytes ≤ 140737488355328) :
    ∃ v' w', (Builtin.append_ #[t, u] ty #[v, .string s]).run P w = .ok v' w' ∧ w'.ownsRow 0 e 1 v' (m + s.size) (xs ++ byteCells s) ∧ w.grownBy w' v.ownBlock ∧
      ∀ b, v'.ownBlock = some b → v.ownBlock = some b ∨ w.heap.size ≤ b := by
  have hsmall : m + s.size ≤ 9223372036854775807 := by simp only [maxLen] at h63; omega
  have hlen : (xs ++ byteCells s).length = m + s.size := by rw [List.length_append, hown.1, zh3]; omega
  have grown : ∀ (old : Nat), old < m + s.size → ∀ (row : Option Nat),
      (w.drew.alloc (.cells (xs.toArray ++ (byteCells s).toArray ++ Builtin.zeroCells z.cells (grownCap w (m + s.size) old e - (m + s.size))) e)).ownsRow 0 e 1
        (.slice (some ⟨w.heap.size,0, none⟩) (m + s.size) (grownCap w (m + s.size) old e)) (m + s.size) (xs ++ byteCells s) ∧
      w.grownBy (w.drew.alloc (.cells (xs.toArray ++ (byteCells s).toArray ++ Builtin.zeroCells z.cells (grownCap w (m + s.size) old e - (m + s.size))) e)) row := by
    intro old ho row
    have hge := grownCap_ge w (m + s.size) old e
    have hcm : grownCap w (m + s.size) old e ≤ maxLen := grownCap_le_maxLen w (m + s.size) old e h63
    refine ⟨⟨by rw [hlen]; omega, .inr ⟨w.heap.size, _, _, rfl, Nat.zero_le _, heap_alloc_new w.drew _, hge, hcm, ?_, ?_⟩⟩, ⟨rfl, rfl, rfl, by simp, fun k hk _ => World.heap_old w.drew _ k hk⟩⟩
    · simp only [Array.size_append, List.size_toArray, size_zeroCells, hzs, hown.1, zh3]
      omega
    · simp only [Array.toList_append, List.append_assoc]
      rw [← List.append_assoc, Nat.mul_one, ← hlen]
      exact List.take_left
  rcases hown.2 with ⟨rfl, rfl⟩ | ⟨g, cap, cur, rfl, hbg, hg, hnc, hcm, hcs, htake⟩
  · have hx : xs = [] := List.eq_nil_of_length_eq_zero (by simpa using hown.1)
    subst hx
    by_cases hm : s.size = 0
    · have hc : byteCells s = [] := List.eq_nil_of_length_eq_zero (by rw [zh3]; exact hm)
      refine ⟨.slice none 0 0, w, ?_, ?_, ⟨rfl, rfl, rfl, Nat.le_refl _, fun _ _ _ => rfl⟩, by simp [Value.ownBlock]⟩
      · simp [Builtin.append_, run_underlying ht, run_underlying hu, sizeOf, typeInfo, hi, Builtin.lenOf, hm, Builtin.firstCells]
      · rw [hm, hc]; exact World.ownsRow_nil w 0 e 1
    · have hr := run_append_nil_string (P := P) w t u ty e i z ht hu hi hz s (by omega) (by omega) (by simp only [Nat.zero_add] at hbytes; omega)
      have hgr := grown 0 (by omega) (Value.ownBlock (.slice none 0 0))
      simp only [Nat.zero_add, List.nil_append, Array.empty_append] at hgr ⊢
      have hc : s.data.map (fun b => Value.int .u8 b.toNat) = (byteCells s).toArray := by apply Array.ext'; simp [byteCells, bytesIn]
      rw [hc] at hr
      refine ⟨_, _, hr, hgr.1, hgr.2, fun b hb => .inr ?_⟩
      simp [Value.ownBlock] at hb
      omega
  · by_cases hroom : m + s.size ≤ cap
    · have hfit : m + (byteCells s).length ≤ cur.size := by rw [zh3]; omega
      have hst := run_storeCells_at P g m e (byteCells s) 0 cur w hg (by simpa using hfit) (fun u hu => by
        simp only [byteCells, List.mem_map] at hu
        obtain ⟨_, _, rfl⟩ := hu
        rfl)
      simp only [Nat.add_zero] at hst
      have hf := zlg (P := P) w s 1
      refine ⟨_, _, ?_, ⟨by rw [hlen]; omega, .inr ⟨g, cap, _, rfl, hbg, setRow_heap w g cur (cur.toList.take m ++ byteCells s ++ cur.toList.drop (m + (byteCells s).length)).toArray e _ hg, hroom, hcm, ?_, ?_⟩⟩, ⟨rfl, rfl, rfl, by simp, fun k _ hk => setRow_other w g k _ (fun e => hk (by simp [Value.ownBlock, e]))⟩, fun b hb => .inl hb⟩
      · simp [Builtin.append_, run_underlying ht, run_underlying hu, sizeOf, typeInfo, hi, hsize, Builtin.lenOf, hroom, hf, Addr.add_lit, hst]
      · simp only [List.size_toArray, List.length_append, List.length_take, List.length_drop, Array.length_toList]
        omega
      · have htake' : cur.toList.take m = xs := by simpa using htake
        rw [htake', Nat.mul_one, ← hlen]
        exact List.take_left
    · have holds : ∀ j u, xs[j]? = some u → w.cell? ((⟨g,0, none⟩ : Addr).add j) = some u := hown.cells (g := g) rfl
      have h63' : ¬ (9223372036854775807 < ((m : Int) + (s.size : Int))) := by omega
      have hfit := growslice_fits (need := m + s.size) (old := cap) (bytes := i.bytes) (by omega) hbytes
      have h48' : ¬ (281474976710656 < Builtin.nextslicecap (m + s.size) cap * i.bytes) := by omega
      have hf := zlg (P := P) w.drew s 1
      have hfo := run_firstCells_some (P := P) w.drew 1 m ⟨g,0, none⟩ m cap xs (by simpa using hown.1) (by simpa using holds)
      have hgr := grown cap (by omega) (Value.ownBlock (.slice (some ⟨g,0, none⟩) m cap))
      refine ⟨_, _, ?_, hgr.1, hgr.2, fun b hb => .inr ?_⟩
      · simp [Builtin.append_, run_underlying ht, run_underlying hu, sizeOf, typeInfo, zeroValue, hi, hz, hsize, Builtin.lenOf, hroom, h63', h48', Question.forced, hf, hfo, newRow, grownCap]
        congr 2
        apply Array.ext'
        simp [List.append_assoc]
      · simp [Value.ownBlock] at hb
        omega
theorem zn9 (s : ByteArray) : ((bytesIn s).map fun x => [Value.int .u8 x]).flatten = byteCells s := by
  unfold byteCells
  induction bytesIn s with
  | nil => rfl
  | cons x xs ih => simp [ih]
theorem zrz {x y : Operand} {t u e : TypeId} {v : Value} {by_ : Nat} {z : Value} {rows : List (List Value)} {s : ByteArray} (i : Nat) (hs : St n w0 f L E a w) {dd : Nat}
    (hi : L[i]? = some (.row v e 1 rows)) (hx : opv E x = some v) (hy : opv E y = some (.string s)) (ht : P.underlying t = some (.slice e)) (hu : P.underlying u = some .string) (hT : TI P e 1 by_ z) (hzs : z.cells.size = 1)
    (hb : rows.length + s.size ≤ maxLen ∧ (rows.length + s.size) * by_ ≤ 140737488355328)
    (h : ∀ v' a w, St n w0 f (L.set i (.row v' e 1 (rows ++ (bytesIn s).map fun x => [.int .u8 x]))) ((dd, v') :: E) a w → RL P ops rest K a w) (hd : dd < n := by decide) :
    RL P ops (⟨some dd, .call { callee := .builtin .append, args := #[x, y], argTypes := #[t, u] }, ty, pos, af, none⟩ :: rest) K a w := by
  obtain ⟨it, hit, hz, hk1, hk2⟩ := hT
  obtain ⟨hown, hone⟩ := hs.cw.live _ (List.mem_of_getElem? hi)
  obtain ⟨v', w', hr, g1, g2, g3⟩ := zog (P := P) w (ty := ty) ht hu hit hz hk1 hzs hown s hb.1 (by rw [hk2]; exact hb.2)
  refine RL_v hs (.free rfl) (.to rfl hd) (v := v') (w' := w') (f' := f) (L' := L.set i (.row v' e 1 (rows ++ (bytesIn s).map fun x => [.int .u8 x]))) ?_ ?_ (h v')
  · simp only [execOp, resolve, invoke, builtin, Sem.run_bind, Sem.run_pure, Result.andThen_ok, List.map_toArray, List.map_cons, List.map_nil, hs.ev.eval hx, hs.ev.eval hy, hr]
  · refine hs.cw.repl hi (.of g2) ⟨?_, ?_⟩ (fun b hb => g3 b hb)
    · rw [List.length_append, List.flatten_append, List.length_map, zak, zn9]; exact g1
    · intro r hr
      rcases List.mem_append.1 hr with hr | hr
      · exact hone r hr
      · simp only [List.mem_map] at hr
        obtain ⟨_, _, rfl⟩ := hr
        exact ⟨rfl, by simp [Value.oneCell']⟩
end
end
section
open Go.RowKit
section
variable {P : Program} {ops : Array Oper} {Q : AP} {F : (World → Prop) → Prop} {brk : List Nat}
def anyX (P : Program) (ops : Array Oper) (Q : AP) (F : (World → Prop) → Prop) (brk : List Nat) : Nat → Array Bool → Act → (World → Prop) → Prop
  | 0, listed, a, X => Region.ready .any ops listed = [] ∧ ∀ w, X w → Q a w
  | m + 1, listed, a, X => (Region.ready .any ops listed = [] → ∀ w, X w → Q a w) ∧
    ∀ i ∈ Region.ready .any ops listed, ∀ w, X w → wpOpS P ops i (fun a' w' => ∃ X', X' w' ∧ (F X' ∨ i ∈ brk) ∧ anyX P ops Q F brk m (listed.setIfInBounds i true) a' X') a w
theorem zqh : ∀ (m : Nat) (listed : Array Bool) (a : Act) (X : World → Prop), anyX P ops Q F brk m listed a X → ∀ w, X w → anyS P ops Q m listed a w
  | 0, _, _, _, h, w, hw => ⟨h.1, h.2 w hw⟩
  | m + 1, _, _, _, h, w, hw => ⟨fun h0 => h.1 h0 w hw, fun i hi => zoq (fun _ _ ⟨X', h1, _, h3⟩ => zqh m _ _ X' h3 _ h1) (h.2 i hi w hw)⟩
def YX (P : Program) (ops : Array Oper) (F : (World → Prop) → Prop) (o : Oper) (v : Value) (a : Act) : Prop :=
  (Region.wanted o (yielded ops a.tmps) = true ∧ ∀ X, F X → ∀ w, X w → o.quietAt P a X w v) ∨ (Region.wanted o (yielded ops a.tmps) = false ∧ v = undef)
theorem YX.same {o : Oper} {v : Value} {a a' : Act} (hy : YX P ops F o v a) (he : execOp a'.eval o = execOp a.eval o)
    (hw : Region.wanted o (yielded ops a'.tmps) = Region.wanted o (yielded ops a.tmps)) : YX P ops F o v a' := by
  unfold YX Oper.quietAt at *
  rw [he, hw]; exact hy
theorem YX.op {i : Nat} {o : Oper} {v : Value} {a : Act} {K : AP} {X : World → Prop} {w : World} (hi : ops[i]? = some o) (hy : YX P ops F o v a) (hX : F X) (hw : X w)
    (h : ∀ w', X w' → K (a.put o.dst v) w') : wpOpS P ops i K a w := by
  unfold wpOpS
  simp only [hi]
  rcases hy with ⟨h1, h2⟩ | ⟨h1, rfl⟩
  · rw [if_pos h1]
    exact zko hw h (h2 X hX w hw)
  · rw [if_neg (by simp [h1])]
    exact h w hw
theorem zua {j : Nat} {oi oj : Oper} {v : Value} (hj : ops[j]? = some oj) (hap : oi.apart ops oj = true) (hsi : ∀ cs b, oi.op ≠ .select cs b) (hsj : ∀ cs b, oj.op ≠ .select cs b)
    {K : AP} {a : Act} {w : World} (h : wpOpS P ops j K (a.put oi.dst v) w) :
    wpOpS P ops j (fun a' w' => (execOp a'.eval oi = execOp a.eval oi ∧ Region.wanted oi (yielded ops a'.tmps) = Region.wanted oi (yielded ops a.tmps)) ∧ K (a'.put oi.dst v) w') a w := by
  obtain ⟨h1, h2, h3⟩ := Oper.apart_spec hap
  have fin : ∀ (b : Act) u w', execOp b.eval oi = execOp a.eval oi → Region.wanted oi (yielded ops b.tmps) = Region.wanted oi (yielded ops a.tmps) → K ((b.put oi.dst v).put oj.dst u) w' →
      (execOp (b.put oj.dst u).eval oi = execOp a.eval oi ∧ Region.wanted oi (yielded ops (b.put oj.dst u).tmps) = Region.wanted oi (yielded ops a.tmps)) ∧ K ((b.put oj.dst u).put oi.dst v) w' :=
    fun b u w' e1 e2 hk => ⟨⟨(execOp_put oi hsi b oj.dst u h3).trans e1,(wanted_put oi b oj.dst u h3).trans e2⟩, by rw [← Act.put_comm b v u h2]; exact hk⟩
  unfold wpOpS at h ⊢
  simp only [hj] at h ⊢
  rw [wanted_put oj a oi.dst v h1] at h
  split
  · rename_i hw
    rw [if_pos hw] at h
    unfold opS at h ⊢
    rw [execOp_put oj hsj a oi.dst v h1] at h
    exact zor (fun u w' hk => fin a u w' rfl rfl hk) h
  · rename_i hw
    rw [if_neg hw] at h
    exact fin a _ w rfl rfl h
def closedB (ops : Array Oper) (U : Array Bool) (i : Nat) : Bool :=
  (List.range ops.size).all fun j => j == i || U.getD j false || match ops[j]? with
    | some o => o.after.any fun e => Region.binds .any e && !U.getD e.on false
    | none => true
theorem zqd {U listed : Array Bool} {i j : Nat} (hU : closedB ops U i = true) (hle : ∀ k, listed.getD k false = true → U.getD k false = true) (hj : j ∈ Region.ready .any ops listed) (hne : j ≠ i) : U.getD j false = true := by
  obtain ⟨_, o, ho, hall⟩ := mem_ready.1 hj
  have h := List.all_eq_true.1 hU j (List.mem_range.2 (Array.getElem?_eq_some_iff.1 ho).1)
  simp only [Bool.or_eq_true, beq_iff_eq, hne, false_or, ho] at h
  rcases h with h | h
  · exact h
  · obtain ⟨e, he, hb⟩ := Array.any_eq_true'.1 h
    simp only [Bool.and_eq_true, Bool.not_eq_true'] at hb
    have := hle _ (hall e he hb.1)
    rw [hb.2] at this
    cases this
theorem zrv {i : Nat} {oi : Oper} {v : Value} {U : Array Bool} (hi : ops[i]? = some oi) (hsel : ∀ (j : Nat) (o : Oper) cs b, ops[j]? = some o → o.op ≠ .select cs b)
    (hU : closedB ops U i = true) (hb : ∀ b ∈ brk, U.getD b false = false) :
    ∀ (m : Nat) (listed : Array Bool) (a : Act) (X : World → Prop),(∀ k, listed.getD k false = true → U.getD k false = true) →
      (∀ j oj, ops[j]? = some oj → j ≠ i → listed.getD j true = false → (∀ e ∈ oj.after, Region.binds .any e = true → e.on ≠ i) → oi.apart ops oj = true) →
      i ∈ Region.ready .any ops listed → YX P ops F oi v a → F X → anyX P ops Q F brk m (listed.setIfInBounds i true) (a.put oi.dst v) X → anyX P ops Q F brk (m + 1) listed a X := by
  intro m
  induction m with
  | zero =>
    intro listed a X _ _ hr hy hX H
    refine ⟨fun h => (by rw [h] at hr; cases hr), fun j hj w hw => ?_⟩
    by_cases hji : j = i
    · subst hji
      exact hy.op hi hX hw fun w' hw' => ⟨X, hw', .inl hX, H⟩
    · have := ready_mono hj hji
      rw [H.1] at this
      cases this
  | succ m ih =>
    intro listed a X hle hfree hr hy hX H
    refine ⟨fun h => (by rw [h] at hr; cases hr), fun j hj w hw => ?_⟩
    by_cases hji : j = i
    · subst hji
      exact hy.op hi hX hw fun w' hw' => ⟨X, hw', .inl hX, H⟩
    · have h1 := H.2 j (ready_mono hj hji) w hw
      have hUj := zqd hU hle hj hji
      obtain ⟨hjun, oj, hoj, hall⟩ := mem_ready.1 hj
      have hnot : ∀ e ∈ oj.after, Region.binds .any e = true → e.on ≠ i := fun e he hb heq => by
        have h1 := hall e he hb
        have h0 := (mem_ready.1 hr).1
        rw [heq] at h1
        rcases Nat.lt_or_ge i listed.size with h' | h'
        · simp [h'] at h0 h1; rw [h0] at h1; cases h1
        · simp [Array.getElem?_eq_none h'] at h1
      have h2 := zua hoj (hfree j oj hoj hji hjun hnot) (fun cs b => hsel i oi cs b hi) (fun cs b => hsel j oj cs b hoj) h1
      have hle' : ∀ k,(listed.setIfInBounds j true).getD k false = true → U.getD k false = true := fun k hk => by
        by_cases hkj : j = k
        · subst hkj; exact hUj
        · rw [getD_set_ne false hkj] at hk
          exact hle k hk
      refine zoq (fun a' w' => ?_) h2
      rintro ⟨⟨e1, e2⟩, X', hX', hF, H'⟩
      have hF' : F X' := by
        rcases hF with hF | hF
        · exact hF
        · rw [hb j hF] at hUj; cases hUj
      refine ⟨X', hX', .inl hF', ih (listed.setIfInBounds j true) a' X' hle' (fun k ok hk hki hun hno => ?_) (ready_mono hr (Ne.symm hji)) (hy.same e1 e2) hF' ?_⟩
      · refine hfree k ok hk hki ?_ hno
        by_cases hjk : j = k
        · subst hjk; exact hjun
        · rw [getD_set_ne true hjk] at hun; exact hun
      · rw [Array.setIfInBounds_comm _ _ hji]
        exact H'
def ahead (ops : Array Oper) (i : Nat) : Nat → Array Bool → Array Bool
  | 0, U => U
  | m + 1, U => ahead ops i m ((Region.ready .any ops U).foldl (fun U j => if j == i then U else U.setIfInBounds j true) U)
def planB (ops : Array Oper) (brk : List Nat) : List (Nat × Bool) → Array Bool → Bool
  | [], listed => (Region.ready .any ops listed).isEmpty
  | (i, true) :: p, listed => (Region.ready .any ops listed).contains i && Region.free .any ops listed i &&
      (let U := ahead ops i p.length listed
       closedB ops U i && brk.all (fun b => !U.getD b false) && (List.range ops.size).all fun k => !listed.getD k false || U.getD k false) &&
      planB ops brk p (listed.setIfInBounds i true)
  | (i, false) :: p, listed => decide (Region.ready .any ops listed = [i]) && planB ops brk p (listed.setIfInBounds i true)
def DL (P : Program) (ops : Array Oper) (F : (World → Prop) → Prop) (brk : List Nat) (p : List (Nat × Bool)) (K : AP) (a : Act) (X : World → Prop) : Prop :=
  ∀ listed : Array Bool, listed.size = ops.size → Region.noSelect ops = true → planB ops brk p listed = true → anyX P ops K F brk p.length listed a X
def DK (P : Program) (ops : Array Oper) (F : (World → Prop) → Prop) (brk : List Nat) (i : Nat) (p : List (Nat × Bool)) (K : AP) : AP :=
  fun a w => ∃ X, X w ∧ (F X ∨ i ∈ brk) ∧ DL P ops F brk p K a X
theorem DL_nil {K : AP} {a : Act} {X : World → Prop} (h : ∀ w, X w → K a w) : DL P ops F brk [] K a X :=
  fun _ _ _ hp => ⟨by simpa [planB] using hp, h⟩
theorem zw1 {i : Nat} {o : Oper} {p : List (Nat × Bool)} {K : AP} {a : Act} {X : World → Prop} {v : Value} (hi : ops[i]? = some o) (hX : F X) (hy : YX P ops F o v a)
    (h : DL P ops F brk p K (a.put o.dst v) X) : DL P ops F brk ((i, true) :: p) K a X := by
  intro listed hsz hsel hp
  simp only [planB, Bool.and_eq_true] at hp
  obtain ⟨⟨⟨h1, h2⟩, ⟨h3, h4⟩, h5⟩, h6⟩ := hp
  refine zrv hi (Region.noSelect_spec hsel) h3 (fun b hb => by simpa using List.all_eq_true.1 h4 b hb) _ _ _ _ (fun k hk => ?_) (Region.free_spec hi h2) (by simpa using h1) hy hX (h _ (by simpa using hsz) hsel h6)
  have hlt : k < ops.size := by
    rcases Nat.lt_or_ge k listed.size with h' | h'
    · omega
    · simp [Array.getElem?_eq_none h'] at hk
  have := List.all_eq_true.1 h5 k (List.mem_range.2 hlt)
  rw [hk] at this
  simpa using this
theorem DL_eff {i : Nat} {o : Oper} {p : List (Nat × Bool)} {K : AP} {a : Act} {X : World → Prop} (hi : ops[i]? = some o)
    (h : ∀ w, X w → RL P ops [o] (DK P ops F brk i p K) a w) : DL P ops F brk ((i, false) :: p) K a X := by
  intro listed hsz hsel hp
  simp only [planB, Bool.and_eq_true, decide_eq_true_eq] at hp
  obtain ⟨h1, h2⟩ := hp
  refine ⟨fun h0 => (by rw [h1] at h0; cases h0), fun j hj w hw => ?_⟩
  rw [h1] at hj
  simp only [List.mem_singleton] at hj
  subst hj
  have H := (h w hw).d
  unfold wpOpS
  simp only [hi]
  simp only [RLd] at H
  have fin : ∀ a' w', DK P ops F brk j p K a' w' → ∃ X', X' w' ∧ (F X' ∨ j ∈ brk) ∧ anyX P ops K F brk p.length (listed.setIfInBounds j true) a' X' :=
    fun a' w' ⟨X', e1, e2, e3⟩ => ⟨X', e1, e2, e3 _ (by simpa using hsz) hsel h2⟩
  split
  · rename_i hwt
    rw [if_pos hwt] at H
    exact zpv fin H
  · rename_i hwt
    rw [if_neg hwt] at H
    exact fin _ _ H
theorem wp_plan {id : Nat} {Qn : AP} {Qe : Nat → AP} {Qr : AP} {Qg : Nat → AP} {a : Act} {w : World} {X : World → Prop} (p : List (Nat × Bool)) (hm : P.follows .mixedOrders = true)
    (hB : (Region.noSelect ops && decide (p.length = ops.size) && planB ops brk p (Array.replicate ops.size false)) = true) (hX : X { w with drawn := w.drawn + 1 }) (h : DL P ops F brk p Qn a X) : W P (.region id ops true) Qn Qe Qr Qg a w := by
  simp only [Bool.and_eq_true, decide_eq_true_eq] at hB
  obtain ⟨⟨h1, h2⟩, h3⟩ := hB
  have h4 := h _ (by simp) h1 h3
  rw [h2] at h4
  exact W_any hm (zqh _ _ _ _ h4 _ hX)
theorem zof {α : Type} {L L' : List α} (hs : L'.Sublist L) : ∃ g : Nat → Nat,(∀ i j, i ≠ j → g i ≠ g j) ∧ ∀ i x, L'[i]? = some x → L[g i]? = some x := by
  induction hs with
  | slnil => exact ⟨id, fun _ _ h => h, fun i x h => h⟩
  | cons x _ ih =>
    obtain ⟨g, h1, h2⟩ := ih
    exact ⟨fun i => g i + 1, fun i j h e => h1 i j h (by have e' : g i + 1 = g j + 1 := e; omega), fun i x h => by simpa using h2 i x h⟩
  | cons_cons x _ ih =>
    obtain ⟨g, h1, h2⟩ := ih
    refine ⟨fun i => match i with | 0 => 0 | i + 1 => g i + 1, fun i j h e => ?_, fun i y h => ?_⟩
    · match i, j with
      | 0,0 => exact h rfl
      | 0, j + 1 => simp at e
      | i + 1,0 => simp at e
      | i + 1, j + 1 => exact h1 i j (by omega) (by simpa using e)
    · match i with
      | 0 => simpa using h
      | i + 1 => simpa using h2 i y (by simpa using h)
theorem Cw.sub {f : Fz} {L L' : List Ent} {w0 w : World} (h : Cw w0 f L w) (hs : L'.Sublist L) : Cw w0 f L' w := by
  obtain ⟨g, h1, h2⟩ := zof hs
  exact ⟨h.os, h.tape, h.output, h.size, h.frz, fun e he => h.live e (hs.subset he), fun e he => h.apart e (hs.subset he),
    fun i j x y hi hj hij => h.sep _ _ x y (h2 i x hi) (h2 j y hj) (h1 i j hij)⟩
def Fam (w0 : World) (f : Fz) (Lc : List Ent) (X : World → Prop) : Prop := ∃ f' L', Fz.le f f' ∧ Lc.Sublist L' ∧ X = Cw w0 f' L'
def looks : Op → Bool
  | .move _ | .assign _ | .pick .. | .build .. | .load .. | .binOp .. | .unOp .. | .convert .. | .slice .. | .fieldAddr .. | .field .. | .indexAddr .. | .index .. | .extract .. | .makeFunc .. | .nilCheck _ => true
  | .call c => match c.callee with
    | .builtin .len => true
    | .builtin .cap => true
    | .builtin .min => true
    | .builtin .max => true
    | _ => false
  | _ => false
theorem zqj {s : Sem Value} {w w' : World} {g : FuncId} {as : Array Value} : (do pure (Next.value (← s)) : Sem Next).run P w ≠ .ok (.enter g as) w' := by
  intro h
  simp only [Sem.run_bind, Sem.run_pure] at h
  cases hs : s.run P w with
  | ok v w'' => rw [hs] at h; simp [Result.andThen] at h
  | halt x w'' => rw [hs] at h; simp [Result.andThen] at h
theorem zoo {r : Result Value} {w' : World} {g : FuncId} {as : Array Value} : (r.andThen fun a w' => Result.ok (Next.value a) w') ≠ .ok (.enter g as) w' := by
  cases r <;> simp [Result.andThen]
theorem znv {ρ : Operand → Value} {o : Oper} {w w' : World} {g : FuncId} {as : Array Value} (hq : looks o.op = true) : (execOp ρ o).run P w ≠ .ok (.enter g as) w' := by
  obtain ⟨d, op, ty, pos, af, gd⟩ := o
  cases op <;> simp only [looks] at hq <;> try cases hq
  all_goals try exact zqj
  case move => simp [execOp, Sem.run_pure]
  case assign => simp [execOp, Sem.run_pure]
  case pick c x y =>
    intro h
    simp only [execOp, Sem.run_bind, Sem.run_pure] at h
    cases hs : (asBool (ρ c)).run P w with
    | ok v w'' => rw [hs] at h; simp [Result.andThen] at h
    | halt x w'' => rw [hs] at h; simp [Result.andThen] at h
  case nilCheck x =>
    intro h
    simp only [execOp] at h
    split at h
    all_goals try (simp [runtimePanic, Sem.run_pure] at h; done)
    rename_i name first captured _
    split at h
    · simp [runtimePanic] at h
    · rename_i t u _
      simp only [Sem.run_bind] at h
      revert h
      cases Sem.run P program w with
      | halt => simp [Result.andThen]
      | ok p w1 =>
        simp only [Result.andThen_ok]
        cases Sem.run P (nilAhead (p.types.size + Made.depth) t u name) w1 with
        | halt => simp [Result.andThen]
        | ok q w2 =>
          simp only [Result.andThen_ok]
          split
          · simp [unsupported, Result.andThen]
          · simp [Sem.run_pure]
    · simp [Sem.run_pure] at h
  case call c =>
    obtain ⟨callee, args, ats⟩ := c
    cases callee <;> simp only at hq <;> try cases hq
    rename_i b
    cases b <;> simp only at hq <;> try cases hq
    all_goals
      simp only [execOp, resolve, Sem.run_bind, Sem.run_pure, Result.andThen_ok, invoke, builtin]
      exact zoo
section
variable {n : Nat} {w0 w : World} {f f' f0 : Fz} {L L' Lc : List Ent} {E E' : List (Nat × Value)} {a : Act} {o : Oper} {K : AP} {i : Nat} {p : List (Nat × Bool)} {v : Value}
theorem Fam.mk (h1 : Fz.le f0 f) (h2 : Lc.Sublist L) : Fam w0 f0 Lc (Cw w0 f L) := ⟨f, L, h1, h2, rfl⟩
theorem zls {id : Nat} {l : List Oper} {Qn : AP} {Qe : Nat → AP} {Qr : AP} {Qg : Nat → AP} (hs : St n w0 f L E a w) (Lc : List Ent) (brk : List Nat) (p : List (Nat × Bool)) (hm : P.follows .mixedOrders = true)
    (hB : (Region.noSelect l.toArray && decide (p.length = l.toArray.size) && planB l.toArray brk p (Array.replicate l.toArray.size false)) = true)
    (h : ∀ a, Ev n E a → DL P l.toArray (Fam w0 f Lc) brk p Qn a (Cw w0 f L)) : W P (.region id l.toArray true) Qn Qe Qr Qg a w :=
  wp_plan p hm hB hs.cw.drew (h a hs.ev)
theorem zso (he : Ev n E a) (h : ∀ w, St n w0 f L E a w → K a w) : DL P ops (Fam w0 f0 Lc) brk [] K a (Cw w0 f L) :=
  DL_nil fun w hw => h w ⟨he, hw⟩
theorem D_y (hi : ops[i]? = some o) (he : Ev n E a) (h1 : Fz.le f0 f) (h2 : Lc.Sublist L) (hw : Want ops E o true) (hd : Dst n o v E E') (hq : looks o.op = true) (hy : Y P (Cw w0 f0 Lc) n E o v)
    (h : ∀ a, Ev n E' a → DL P ops (Fam w0 f0 Lc) brk p K a (Cw w0 f L)) : DL P ops (Fam w0 f0 Lc) brk ((i, true) :: p) K a (Cw w0 f L) := by
  refine zw1 hi (.mk h1 h2) (.inl ⟨hw.wanted he, fun X hX w hw => ?_⟩) (h _ (he.dst hd))
  obtain ⟨f', L', g1, g2, rfl⟩ := hX
  have hy' := hy a he w ((hw.weak g1).sub g2)
  unfold Oper.quietAt at hy' ⊢
  cases hr : (execOp a.eval o).run P w with
  | ok x w' =>
    rw [hr] at hy'
    cases x <;> simp only [Oper.quietUpon] at hy' ⊢ <;> try exact hy'
    exact absurd hr (znv hq)
  | halt x w' => rw [hr] at hy'; exact hy'
theorem D_c (hi : ops[i]? = some o) (he : Ev n E a) (h1 : Fz.le f0 f) (h2 : Lc.Sublist L) (hw : Want ops E o true) (hd : Dst n o v E E')
    (hy : ∀ f' L', Fz.le f0 f' → Lc.Sublist L' → Y P (Cw w0 f' L') n E o v)
    (h : ∀ a, Ev n E' a → DL P ops (Fam w0 f0 Lc) brk p K a (Cw w0 f L)) : DL P ops (Fam w0 f0 Lc) brk ((i, true) :: p) K a (Cw w0 f L) := by
  refine zw1 hi (.mk h1 h2) (.inl ⟨hw.wanted he, fun X hX w hw => ?_⟩) (h _ (he.dst hd))
  obtain ⟨f', L', g1, g2, rfl⟩ := hX
  exact hy f' L' g1 g2 a he w hw
theorem zsp (hi : ops[i]? = some o) (he : Ev n E a) (h : ∀ a w, St n w0 f L E a w → RL P ops [o] (DK P ops (Fam w0 f0 Lc) brk i p K) a w) : DL P ops (Fam w0 f0 Lc) brk ((i, false) :: p) K a (Cw w0 f L) :=
  DL_eff hi fun w hw => h a w ⟨he, hw⟩
theorem D_on (hs : St n w0 f L E a w) (h1 : (Fz.le f0 f ∧ Lc.Sublist L) ∨ i ∈ brk) (h : ∀ a, Ev n E a → DL P ops (Fam w0 f0 Lc) brk p K a (Cw w0 f L)) : RL P ops [] (DK P ops (Fam w0 f0 Lc) brk i p K) a w :=
  za0 ⟨Cw w0 f L, hs.cw, h1.imp (fun h => .mk h.1 h.2) id, h a hs.ev⟩
end
end
end
section
open Go.RowKit
section
variable {P : Program} {ops : Array Oper} {brk : List Nat} {n : Nat} {w0 w : World} {f f' f0 : Fz} {L L' Lc : List Ent} {E E' : List (Nat × Value)} {a : Act} {K : AP} {p : List (Nat × Bool)} {v : Value}
variable {ty : TypeId} {pos : String} {af : Array Edge} {op : Op} {dd j gd : Nat} {b : Bool}
theorem dy (i : Nat) (he : Ev n E a) (hi : ops[i]? = some ⟨some dd, op, ty, pos, af, none⟩) (hy : Y P (Cw w0 f0 Lc) n E ⟨some dd, op, ty, pos, af, none⟩ v)
    (h : ∀ a, Ev n ((dd, v) :: E) a → DL P ops (Fam w0 f0 Lc) brk p K a (Cw w0 f L)) (h1 : Fz.le f0 f := by first | exact .refl _ | assumption | exact Fz.le.trans (by assumption) (by assumption))
    (h2 : Lc.Sublist L := by first | exact List.Sublist.refl _ | exact List.nil_sublist _ | (repeat (first | exact List.Sublist.refl _ | exact List.nil_sublist _ | apply List.Sublist.cons_cons | apply List.Sublist.cons)))
    (hd : dd < n := by decide) (hq : looks op = true := by rfl) : DL P ops (Fam w0 f0 Lc) brk ((i, true) :: p) K a (Cw w0 f L) :=
  D_y hi he h1 h2 (.free rfl) (.to rfl hd) hq hy h
theorem dcall (i : Nat) {gn : FuncId} {x : Operand} {as : List Operand} {vs : List Value} {ats : Array TypeId} (he : Ev n E a) (hi : ops[i]? = some ⟨some dd, .call { callee := .value x, args := as.toArray, argTypes := ats }, ty, pos, af, none⟩)
    (hx : opv E x = some (.func (.func gn) #[] #[])) (hg : Has P gn) (hv : as.mapM (opv E) = some vs)
    (hp : ∀ f' L' w, Fz.le f0 f' → Lc.Sublist L' → Cw w0 f' L' w → Calls P gn vs.toArray w fun e w' => e = .returned v ∧ Cw w0 f' L' w')
    (h : ∀ a, Ev n ((dd, v) :: E) a → DL P ops (Fam w0 f0 Lc) brk p K a (Cw w0 f L)) (h1 : Fz.le f0 f := by first | exact .refl _ | assumption | exact Fz.le.trans (by assumption) (by assumption))
    (h2 : Lc.Sublist L := by first | exact List.Sublist.refl _ | exact List.nil_sublist _ | (repeat (first | exact List.Sublist.refl _ | exact List.nil_sublist _ | apply List.Sublist.cons_cons | apply List.Sublist.cons)))
    (hd : dd < n := by decide) : DL P ops (Fam w0 f0 Lc) brk ((i, true) :: p) K a (Cw w0 f L) :=
  D_c hi he h1 h2 (.free rfl) (.to rfl hd) (fun f' L' g1 g2 => zni hx hg hv fun w hw => hp f' L' w g1 g2 hw) h
theorem don {i : Nat} (hs : St n w0 f L E a w) (h : ∀ a, Ev n E a → DL P ops (Fam w0 f0 Lc) brk p K a (Cw w0 f L))
    (h1 : Fz.le f0 f := by first | exact .refl _ | assumption | exact Fz.le.trans (by assumption) (by assumption))
    (h2 : Lc.Sublist L := by first | exact List.Sublist.refl _ | exact List.nil_sublist _ | (repeat (first | exact List.Sublist.refl _ | exact List.nil_sublist _ | apply List.Sublist.cons_cons | apply List.Sublist.cons))) :
    RL P ops [] (DK P ops (Fam w0 f0 Lc) brk i p K) a w := D_on hs (.inl ⟨h1, h2⟩) h
theorem dend {i : Nat} (hs : St n w0 f L E a w) (h : ∀ a, Ev n E a → DL P ops (Fam w0 f0 Lc) brk p K a (Cw w0 f L)) (hb : i ∈ brk := by decide) :
    RL P ops [] (DK P ops (Fam w0 f0 Lc) brk i p K) a w := D_on hs (.inr hb) h
variable {d : Option Tmp} {g : Option (Nat × Bool)} {C : World → Prop}
end
end
section
open Go.RowKit
section
variable {P : Program} {ops : Array Oper} {n : Nat} {w0 w : World} {f f' : Fz} {L L' : List Ent} {E E' : List (Nat × Value)} {a : Act} {K : AP} {v : Value}
variable {ty : TypeId} {pos : String} {af : Array Edge} {d : Option Tmp} {g : Option (Nat × Bool)} {C : World → Prop}
end
end
section
section
variable {w0 w : World} {f : Fz} {L L' : List Ent}
end
end
end Go.Sl
