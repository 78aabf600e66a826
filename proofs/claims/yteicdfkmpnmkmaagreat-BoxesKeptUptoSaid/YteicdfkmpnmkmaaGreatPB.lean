/-
  Walks and laws of this seat.
-/
import Derived.Test.YteicdfkmpnmkmaaGreatTd
namespace Go.V
set_option linter.unusedVariables false
set_option linter.unusedSimpArgs false
set_option linter.unusedSectionVars false
set_option maxRecDepth 100000
open Go.RowKit Go.Sl
theorem Tr.eta {α : Type} (t : Tr α) : Tr.mk t.x t.kids = t := by cases t; rfl
theorem T.ex {α : Type} {F : Nat → Nat → Option α} {a : α} {Q : α → Prop} (h : T F (· = a)) (hQ : Q a) : T F Q := h.mono fun _ e => e ▸ hQ
theorem T.bindE {α β : Type} {m : Nat → Nat → Option α} {a : α} {G : Nat → Nat → α → Option β} {Q : β → Prop} (h : T m (· = a)) (g : T (fun k n => G k n a) Q) : T (fun k n => (m k n).bind fun r => G k n r) Q := T.bind h fun r e => e ▸ g
theorem T.ofE {α : Type} {m : Option α} {a : α} (h : m = Option.some a) : T (fun _ _ => m) (· = a) := T.of h rfl
def blR (r : Nat) : Bool := decide (r = 9) || (decide (r = 10) || (decide (r = 12) || decide (r = 32)))
def blAt : Nat → ByteArray → Nat → Bool
  | 0, _, _ => true
  | n + 1, s, p => if p < s.size then blR (Utf8.decode s p).1 && blAt n s (p + (Utf8.decode s p).2) else true
def blankS (s : ByteArray) : Bool := blAt (s.size + 1) s 0
abbrev preB (b : BoxT) : Bool := b.x.2.2.2.1.2.2.2.2.2.2.2.2.2.2.2.2.2.2.2.1
def blkB (plain : Bool) (b : BoxT) : Bool := decide (b.x.1 = 7) && (!(plain && preB b) && blankS b.x.2.2.2.2.1)
def isOut (b : BoxT) : Bool := decide (b.x.1 = 1) || (decide (b.x.1 = 2) || decide (b.x.1 = 3))
def isLev (b : BoxT) : Bool := decide (b.x.1 = 6) || (decide (b.x.1 = 7) || decide (b.x.1 = 8))
def isTxt (b : BoxT) : Bool := decide (b.x.1 = 7) || decide (b.x.1 = 8)
def endP (plain : Bool) (an : List BoxT → BoxT) (out run : List BoxT) : List BoxT := if run.all (blkB plain) then out else out ++ [an run]
def wrapP (p : BoxT → Bool) (plain : Bool) (an : List BoxT → BoxT) : List BoxT → List BoxT → List BoxT → List BoxT
  | [], out, run => endP plain an out run
  | x :: xs, out, run => if p x then wrapP p plain an xs out (run ++ [x]) else wrapP p plain an xs (endP plain an out run ++ [x]) []
def firstP (s : StyT) : StyT := (zhk s false).getD s
theorem first_eq {s : StyT} : zhk s false = some (firstP s) := rfl
theorem ygm {s : StyT} : zk8 s false = some (firstP s) := rfl
section
variable (pI : BoxT → Bool)
def an1 (s : StyT) (run : List BoxT) : BoxT := .mk (1, -1,0, zc2 (firstP s) 1, bs [],()) run
def an5 (s : StyT) (run : List BoxT) : BoxT := .mk (5, -1,0, zc2 (firstP s) 6, bs [],()) (if run.any isOut then wrapP pI true (an1 (zc2 (firstP s) 6)) run [] [] else run)
def an4 (s : StyT) (run : List BoxT) : BoxT := .mk (4, -1,0, zc2 (firstP s) 5, bs [],()) (wrapP (fun b => decide (b.x.1 ≠ 5)) false (an5 pI (zc2 (firstP s) 5)) run [] [])
def fitL (k : Int) (s : StyT) (l : List BoxT) : List BoxT :=
  if k = 3 then wrapP (fun b => decide (b.x.1 ≠ 4)) false (an4 pI s) l [] [] else if k = 4 then wrapP (fun b => decide (b.x.1 ≠ 5)) false (an5 pI s) l [] []
  else if (k = 1 ∨ k = 5) ∧ l.any isOut = true then wrapP pI true (an1 s) l [] [] else if k = 2 then wrapP isTxt true (an1 s) l [] [] else l
def fitK (k : Int) (l : List BoxT) : Int := if k = 6 ∧ l.any isOut = true then 1 else k
end
def posP (s : StyT) (h : Int) : Int := if 4 ≤ h ∧ (s.2.1 = 2 ∨ s.2.1 = 3) then 0 else s.2.1
def floP (s : StyT) (y a : Int) : Int := if y = 2 ∨ y = 3 ∨ a = 2 then 0 else s.2.2.1
def kinP (k h : Int) : Int := if 4 ≤ h ∧ (k = 2 ∨ k = 3) then 1 else k
def heaP (k y h : Int) : Int := if k = 2 ∨ k = 3 ∨ y = 2 ∨ y = 3 then h + 1 else h
def styP (s : StyT) (a h : Int) : StyT := zgu (zgv s (posP s h)) (floP s (posP s h) a)
def kidB (ns : List NodT) (j : Int) (c : Nat) : Bool := decide (0 < c) && (match ns[c]? with
  | some r => decide (r.2.2.2.2.1 = j)
  | none => false)
theorem zuz {ns : List NodT} {j : Int} {c : Nat} : kidB ns j c = true ↔ KidOf ns c j := by
  unfold kidB KidOf
  rw [Bool.and_eq_true, decide_eq_true_eq, Int.toNat_natCast]
  refine ⟨fun ⟨h1, h2⟩ => ⟨by omega, ?_⟩, fun ⟨h1, r, h2, h3⟩ => ⟨by omega, ?_⟩⟩
  · split at h2
    · rename_i r hr; exact ⟨r, hr, of_decide_eq_true h2⟩
    · cases h2
  · rw [h2]; exact decide_eq_true h3
def kidsN (ns : List NodT) (j : Int) (lo : Nat) : List Nat := (List.range' lo (ns.length - lo)).filter (kidB ns j)
theorem zsw {ns : List NodT} {j : Int} {lo : Nat} (h : ∀ c, lo ≤ c → ¬ KidOf ns (c : Nat) j) : kidsN ns j lo = [] := by
  unfold kidsN
  rw [List.filter_eq_nil_iff]
  intro c hc
  rw [List.mem_range'_1] at hc
  rw [zuz]
  exact h c hc.1
theorem zkf {ns : List NodT} {j : Int} {lo x : Nat} (hx : lo ≤ x) (hk : KidOf ns (x : Nat) j) (h : ∀ c, lo ≤ c → c < x → ¬ KidOf ns (c : Nat) j) : kidsN ns j lo = x :: kidsN ns j (x + 1) := by
  have hxl : x < ns.length := by
    obtain ⟨_, r, hr, _⟩ := hk
    have := (List.getElem?_eq_some_iff.1 hr).1
    simpa using this
  unfold kidsN
  have e : List.range' lo (ns.length - lo) = List.range' lo (x - lo) ++ x :: List.range' (x + 1) (ns.length - (x + 1)) := by
    have e1 : ns.length - lo = (x - lo) + ((ns.length - (x + 1)) + 1) := by omega
    rw [e1, ← List.range'_append_1, show lo + (x - lo) = x by omega, List.range'_succ]
  rw [e, List.filter_append, List.filter_cons, if_pos (zuz.2 hk)]
  have : (List.range' lo (x - lo)).filter (kidB ns j) = [] := by
    rw [List.filter_eq_nil_iff]
    intro c hc
    rw [List.mem_range'_1] at hc
    rw [zuz]
    exact h c hc.1 (by omega)
  rw [this]; rfl
theorem zla {ns : List NodT} {j : Int} {lo c : Nat} : c ∈ kidsN ns j lo ↔ lo ≤ c ∧ KidOf ns (c : Nat) j := by
  unfold kidsN
  rw [List.mem_filter, List.mem_range'_1, zuz]
  refine ⟨fun ⟨h1, h2⟩ => ⟨h1.1, h2⟩, fun ⟨h1, h2⟩ => ⟨⟨h1, ?_⟩, h2⟩⟩
  obtain ⟨_, r, hr, _⟩ := h2
  have := (List.getElem?_eq_some_iff.1 hr).1
  simp at this; omega
theorem yau {ns : List NodT} {j : Int} {lo : Nat} : (kidsN ns j lo).length ≤ ns.length - lo := by
  unfold kidsN
  exact Nat.le_trans (List.length_filter_le _ _) (by simp)
theorem yat {ns : List NodT} {j : Int} {lo : Nat} : (kidsN ns j lo).Pairwise (· < ·) := by
  unfold kidsN
  exact List.Pairwise.filter _ (List.pairwise_lt_range')
theorem TrK.first {t : TreT} (h : TrK t) {i : Nat} {r : NodT} (hr : t.1[i]? = some r) : (r.2.2.2.2.2.1 < 0 ∧ kidsN t.1 i 0 = []) ∨ ∃ x : Nat, r.2.2.2.2.2.1 = x ∧ x < t.1.length ∧ KidOf t.1 (x : Nat) i ∧ kidsN t.1 i 0 = x :: kidsN t.1 i (x + 1) := by
  rcases (h.kn i r hr).fs with ⟨h1, h2⟩ | ⟨h1, h2, h3⟩
  · exact .inl ⟨by omega, zsw fun c _ hc => h2 c ⟨hc, by
      obtain ⟨_, q, hq, _⟩ := hc
      have := (List.getElem?_eq_some_iff.1 hq).1
      omega⟩⟩
  · refine .inr ⟨r.2.2.2.2.2.1.toNat, by omega, by omega, by rw [Int.toNat_of_nonneg h1]; exact h2.1, zkf (by omega) (by rw [Int.toNat_of_nonneg h1]; exact h2.1) fun c _ hlt hc => ?_⟩
    have := h3 c ⟨hc, by omega⟩
    omega
theorem TrK.next {t : TreT} (h : TrK t) {i : Int} {x : Nat} {r : NodT} (hr : t.1[x]? = some r) (hk : KidOf t.1 (x : Nat) i) : (r.2.2.2.2.2.2.2.2.1 < 0 ∧ kidsN t.1 i (x + 1) = []) ∨ ∃ y : Nat, r.2.2.2.2.2.2.2.2.1 = y ∧ x < y ∧ y < t.1.length ∧ KidOf t.1 (y : Nat) i ∧ kidsN t.1 i (x + 1) = y :: kidsN t.1 i (y + 1) := by
  have hp : r.2.2.2.2.1 = i := by
    obtain ⟨_, q, hq, e⟩ := hk
    rw [Int.toNat_natCast, hr] at hq; cases hq; exact e
  have hn := (h.kn x r hr).nx
  rw [hp] at hn
  rcases hn with ⟨h1, h2⟩ | ⟨h1, h2, h3⟩
  · exact .inl ⟨by omega, zsw fun c hle hc => h2 c ⟨hc, by omega, by
      obtain ⟨_, q, hq, _⟩ := hc
      have := (List.getElem?_eq_some_iff.1 hq).1
      omega⟩⟩
  · refine .inr ⟨r.2.2.2.2.2.2.2.2.1.toNat, by omega, by omega, by omega, by rw [Int.toNat_of_nonneg h1]; exact h2.1, zkf (by omega) (by rw [Int.toNat_of_nonneg h1]; exact h2.1) fun c hle hlt hc => ?_⟩
    have := h3 c ⟨hc, by omega, by omega⟩
    omega
theorem kids_TE {t : TreT} (ht : TrOK t) (hk : TrK t) {i : Nat} (hi : i < t.1.length) : T (fun k _ => zsh k t i) (· = (kidsN t.1 i 0).map Int.ofNat) := by
  have hl := ht.len
  have key : ∀ (m : Nat) (v : List Int) (j : Int) (lo : Nat), t.1.length - lo ≤ m → (v.length : Int) ≤ lo → ((j < 0 ∧ kidsN t.1 i lo = []) ∨ ∃ x : Nat, j = x ∧ lo ≤ x ∧ x < t.1.length ∧ KidOf t.1 (x : Nat) i ∧ kidsN t.1 i lo = x :: kidsN t.1 i (x + 1)) → T (fun _ n => zim n t v j) (· = v ++ (kidsN t.1 i lo).map Int.ofNat) := by
    intro m
    induction m with
    | zero =>
      intro v j lo h1 h2 h3
      refine T.step ?_
      unfold zim
      rcases h3 with ⟨h4, h5⟩ | ⟨x, _, _, _, _, _⟩
      · exact T.dec (fun _ => by omega) fun _ => T.some (by rw [h5]; simp)
      · omega
    | succ m ih =>
      intro v j lo h1 h2 h3
      refine T.step ?_
      unfold zim
      rcases h3 with ⟨h4, h5⟩ | ⟨x, rfl, h4, h5, h6, h7⟩
      · exact T.dec (fun _ => by omega) fun _ => T.some (by rw [h5]; simp)
      · refine T.dec (fun _ => T.app (by simp; omega) (by simp; omega) (T.get (by omega) (by omega) fun r hr => ?_)) fun _ => by omega
        have hr : t.1[x]? = some r := by simpa using hr
        rw [h7]
        have := ih (v ++ [(x : Int)]) r.2.2.2.2.2.2.2.2.1 (x + 1) (by omega) (by simp; omega) ((hk.next hr h6).imp id fun ⟨y, y1, y2, y3, y4, y5⟩ => ⟨y, y1, y2, y3, y4, y5⟩)
        simpa using this
  refine T.diag (F := fun _ n => zn5 n t i) ?_
  unfold zn5
  refine T.dec (fun _ => by omega) fun h0 => T.dec (fun _ => by omega) fun h1 => T.get (by omega) (by omega) fun r hr => ?_
  have hr : t.1[i]? = some r := by simpa using hr
  have := key _ [] r.2.2.2.2.2.1 0 (Nat.le_refl _) (by simp) ((hk.first hr).imp id fun ⟨y, y1, y2, y3, y4⟩ => ⟨y, y1, by omega, y2, y3, y4⟩)
  simpa using this
def buildP (pI : BoxT → Bool) (kd : StyT → Int → Int) (ns : List NodT) (ss : List StyT) : Nat → Nat → Int → Int → Option BoxT
  | 0, _, _, _ => none
  | d + 1, n, a, h => match ns[n]?, ss[n]? with
    | some x, some s0 =>
      if x.1 = 2 then some (.mk (7, n,0, s0, x.2.2.1,()) []) else if s0.1 = 2 then none else if x.2.1 = bs [98,114] then some (.mk (8, n,0, s0, bs [],()) []) else
      let s := styP s0 a h
      let k := kinP (kd s a) h
      let l := (kidsN ns n 0).filterMap fun c => buildP pI kd ns ss d c k (heaP k s.2.1 h)
      some (.mk (fitK k l, n,0, s, bs [],()) (fitL pI (fitK k l) s l))
    | _, _ => none
end Go.V
