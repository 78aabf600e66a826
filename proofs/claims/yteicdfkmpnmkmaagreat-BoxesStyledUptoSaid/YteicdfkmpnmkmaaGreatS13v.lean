/-
  Walks and laws of this seat.
-/
import Derived.Test.YteicdfkmpnmkmaaGreatYa
import Derived.Test.YteicdfkmpnmkmaaGreatS13u
import Derived.OpenShut
namespace Go.Proofs.YteicdfkmpnmkmaaGreat
set_option linter.unusedVariables false
set_option linter.unusedSimpArgs false
open Go.RowKit Go.Sl Go.ChangeShapes Go.WideShapes Go.ChangeAt
section
variable {α : Type} {P : Program}
theorem OpB.elem {N m i : Nat} {H : Type} {enc : TypeId × Value → H} {w : World} {t : Ty α} {S : α → Prop} {cs : List Value} {xs : List (DataW H × List MemPlace)} {e : TypeId} {k n : Nat} (h : OpB N P e t S) (hn : m ≤ N) (hk : P.cellsOf e = k) (hl : xs.length = n) (hi : i < n)
    (hx : ∀ (i : Nat), i < n → DataW.trod enc P w 0 (fun _ => true) true m e ((cs.drop (i * P.cellsOf e)).take (P.cellsOf e)) = xs[i]?) (hw : Rows.uptoBulk (DataW.agg (xs.map (·.1))) ≤ 1048576) : ∃ a, t.R (whole w) ((cs.drop (i * k)).take k) a ∧ S a := by
  subst hk
  have h1 := hx i hi
  rw [List.getElem?_eq_getElem (by omega)] at h1
  refine h H enc w m _ _ hn h1 ?_
  have h2 := bulk_part (List.mem_map_of_mem (f := (·.1)) (List.getElem_mem (show i < xs.length by omega)))
  simp only [Rows.uptoBulk] at hw
  omega
end
set_option maxRecDepth 100000 in
theorem openb_A4_api_Len (N : Nat) : OpB N Tryz.prog 24 t_A4_api_Len (fun _ => True) := by
  intro H enc w n cs x hn h hw
  obtain ⟨xs, m, rfl, rfl, hl, hxl, hf⟩ := DataW.trod_array Tryz.underlying24 h
  have hl : cs.length = 8 := hl.trans (by kernel_rfl)
  match cs, hl with
  | [c0, c1, c2, c3, c4, c5, c6, c7], _ =>
  obtain ⟨a0, r0, _⟩ := OpB.elem (N := N) (i := 0) (k := 2) (openb_api_Len _) (by omega) (by kernel_rfl) hxl (by decide) hf hw
  replace r0 : [c0, c1] = [.int .i64 a0.Kind, .int .i64 a0.N] := r0
  obtain ⟨rfl, r0x⟩ := List.cons.inj r0
  obtain ⟨rfl, r0xx⟩ := List.cons.inj r0x
  obtain ⟨a1, r1, _⟩ := OpB.elem (N := N) (i := 1) (k := 2) (openb_api_Len _) (by omega) (by kernel_rfl) hxl (by decide) hf hw
  replace r1 : [c2, c3] = [.int .i64 a1.Kind, .int .i64 a1.N] := r1
  obtain ⟨rfl, r1x⟩ := List.cons.inj r1
  obtain ⟨rfl, r1xx⟩ := List.cons.inj r1x
  obtain ⟨a2, r2, _⟩ := OpB.elem (N := N) (i := 2) (k := 2) (openb_api_Len _) (by omega) (by kernel_rfl) hxl (by decide) hf hw
  replace r2 : [c4, c5] = [.int .i64 a2.Kind, .int .i64 a2.N] := r2
  obtain ⟨rfl, r2x⟩ := List.cons.inj r2
  obtain ⟨rfl, r2xx⟩ := List.cons.inj r2x
  obtain ⟨a3, r3, _⟩ := OpB.elem (N := N) (i := 3) (k := 2) (openb_api_Len _) (by omega) (by kernel_rfl) hxl (by decide) hf hw
  replace r3 : [c6, c7] = [.int .i64 a3.Kind, .int .i64 a3.N] := r3
  obtain ⟨rfl, r3x⟩ := List.cons.inj r3
  obtain ⟨rfl, r3xx⟩ := List.cons.inj r3x
  exact ⟨⟨a0, a1, a2, a3⟩, rfl, trivial⟩
set_option maxRecDepth 100000 in
theorem openb_A4_int64 (N : Nat) : OpB N Tryz.prog 25 t_A4_int64 (fun _ => True) := by
  intro H enc w n cs x hn h hw
  obtain ⟨xs, m, rfl, rfl, hl, hxl, hf⟩ := DataW.trod_array Tryz.underlying25 h
  have hl : cs.length = 4 := hl.trans (by kernel_rfl)
  match cs, hl with
  | [c0, c1, c2, c3], _ =>
  obtain ⟨a0, r0, _⟩ := OpB.elem (N := N) (i := 0) (k := 1) (opb_int Tryz.underlying2) (by omega) (by kernel_rfl) hxl (by decide) hf hw
  replace r0 : [c0] = [.int .i64 a0] := r0
  obtain ⟨rfl, r0x⟩ := List.cons.inj r0
  obtain ⟨a1, r1, _⟩ := OpB.elem (N := N) (i := 1) (k := 1) (opb_int Tryz.underlying2) (by omega) (by kernel_rfl) hxl (by decide) hf hw
  replace r1 : [c1] = [.int .i64 a1] := r1
  obtain ⟨rfl, r1x⟩ := List.cons.inj r1
  obtain ⟨a2, r2, _⟩ := OpB.elem (N := N) (i := 2) (k := 1) (opb_int Tryz.underlying2) (by omega) (by kernel_rfl) hxl (by decide) hf hw
  replace r2 : [c2] = [.int .i64 a2] := r2
  obtain ⟨rfl, r2x⟩ := List.cons.inj r2
  obtain ⟨a3, r3, _⟩ := OpB.elem (N := N) (i := 3) (k := 1) (opb_int Tryz.underlying2) (by omega) (by kernel_rfl) hxl (by decide) hf hw
  replace r3 : [c3] = [.int .i64 a3] := r3
  obtain ⟨rfl, r3x⟩ := List.cons.inj r3
  exact ⟨⟨a0, a1, a2, a3⟩, rfl, trivial⟩
def tSty : Ty Sty where
  k := 52
  R _ r x := r = x ∧ StyTy x
  mono h _ := h
  one := by
    rintro f r x ⟨rfl, h⟩
    exact ⟨h.ok.len, h.ok.one⟩
set_option maxRecDepth 100000 in
theorem openb_Style (N : Nat) : OpB N Tryz.prog 28 tSty (fun _ => True) := by
  intro H enc w n cs x hn h hw
  obtain ⟨xs, m, rfl, rfl, hl, hxl, hf⟩ := DataW.trod_struct Tryz.underlying28 h
  have hl : cs.length = 52 := hl.trans (by kernel_rfl)
  match cs, hl with
  | c0 :: c1 :: c2 :: c3 :: c4 :: c5 :: c6 :: c7 :: c8 :: c9 :: c10 :: c11 :: c12 :: c13 :: c14 :: c15 :: c16 :: c17 :: c18 :: c19 :: c20 :: c21 :: c22 :: c23 :: c24 :: c25 :: c26 :: c27 :: c28 :: c29 :: c30 :: c31 :: c32 :: c33 :: c34 :: c35 :: c36 :: c37 :: c38 :: c39 :: c40 :: c41 :: c42 :: c43 :: c44 :: c45 :: c46 :: c47 :: c48 :: c49 :: c50 :: c51 :: [], _ =>
  obtain ⟨a0, r0, _⟩ := OpB.field (N := N) (i := 0) (off := 0) (sz := 1) (opb_int Tryz.underlying3) (by omega) rfl rfl (by kernel_rfl) hxl (hf 0 _ rfl) Tryz.underlying28 hw
  replace r0 : [c0] = [.int .i64 a0] := r0
  obtain ⟨rfl, r0x⟩ := List.cons.inj r0
  obtain ⟨a1, r1, _⟩ := OpB.field (N := N) (i := 1) (off := 1) (sz := 1) (opb_int Tryz.underlying3) (by omega) rfl rfl (by kernel_rfl) hxl (hf 1 _ rfl) Tryz.underlying28 hw
  replace r1 : [c1] = [.int .i64 a1] := r1
  obtain ⟨rfl, r1x⟩ := List.cons.inj r1
  obtain ⟨a2, r2, _⟩ := OpB.field (N := N) (i := 2) (off := 2) (sz := 1) (opb_int Tryz.underlying3) (by omega) rfl rfl (by kernel_rfl) hxl (hf 2 _ rfl) Tryz.underlying28 hw
  replace r2 : [c2] = [.int .i64 a2] := r2
  obtain ⟨rfl, r2x⟩ := List.cons.inj r2
  obtain ⟨a3, r3, _⟩ := OpB.field (N := N) (i := 3) (off := 3) (sz := 1) (opb_int Tryz.underlying3) (by omega) rfl rfl (by kernel_rfl) hxl (hf 3 _ rfl) Tryz.underlying28 hw
  replace r3 : [c3] = [.int .i64 a3] := r3
  obtain ⟨rfl, r3x⟩ := List.cons.inj r3
  obtain ⟨a4, r4, _⟩ := OpB.field (N := N) (i := 4) (off := 4) (sz := 2) (openb_api_Len _) (by omega) rfl rfl (by kernel_rfl) hxl (hf 4 _ rfl) Tryz.underlying28 hw
  replace r4 : [c4, c5] = [.int .i64 a4.Kind, .int .i64 a4.N] := r4
  obtain ⟨rfl, r4x⟩ := List.cons.inj r4
  obtain ⟨rfl, r4xx⟩ := List.cons.inj r4x
  obtain ⟨a5, r5, _⟩ := OpB.field (N := N) (i := 5) (off := 6) (sz := 2) (openb_api_Len _) (by omega) rfl rfl (by kernel_rfl) hxl (hf 5 _ rfl) Tryz.underlying28 hw
  replace r5 : [c6, c7] = [.int .i64 a5.Kind, .int .i64 a5.N] := r5
  obtain ⟨rfl, r5x⟩ := List.cons.inj r5
  obtain ⟨rfl, r5xx⟩ := List.cons.inj r5x
  obtain ⟨a6, r6, _⟩ := OpB.field (N := N) (i := 6) (off := 8) (sz := 8) (openb_A4_api_Len _) (by omega) rfl rfl (by kernel_rfl) hxl (hf 6 _ rfl) Tryz.underlying28 hw
  replace r6 : [c8, c9, c10, c11, c12, c13, c14, c15] = [.int .i64 a6.A0.Kind, .int .i64 a6.A0.N, .int .i64 a6.A1.Kind, .int .i64 a6.A1.N, .int .i64 a6.A2.Kind, .int .i64 a6.A2.N, .int .i64 a6.A3.Kind, .int .i64 a6.A3.N] := r6
  obtain ⟨rfl, r6x⟩ := List.cons.inj r6
  obtain ⟨rfl, r6xx⟩ := List.cons.inj r6x
  obtain ⟨rfl, r6xxx⟩ := List.cons.inj r6xx
  obtain ⟨rfl, r6xxxx⟩ := List.cons.inj r6xxx
  obtain ⟨rfl, r6xxxxx⟩ := List.cons.inj r6xxxx
  obtain ⟨rfl, r6xxxxxx⟩ := List.cons.inj r6xxxxx
  obtain ⟨rfl, r6xxxxxxx⟩ := List.cons.inj r6xxxxxx
  obtain ⟨rfl, r6xxxxxxxx⟩ := List.cons.inj r6xxxxxxx
  obtain ⟨a7, r7, _⟩ := OpB.field (N := N) (i := 7) (off := 16) (sz := 8) (openb_A4_api_Len _) (by omega) rfl rfl (by kernel_rfl) hxl (hf 7 _ rfl) Tryz.underlying28 hw
  replace r7 : [c16, c17, c18, c19, c20, c21, c22, c23] = [.int .i64 a7.A0.Kind, .int .i64 a7.A0.N, .int .i64 a7.A1.Kind, .int .i64 a7.A1.N, .int .i64 a7.A2.Kind, .int .i64 a7.A2.N, .int .i64 a7.A3.Kind, .int .i64 a7.A3.N] := r7
  obtain ⟨rfl, r7x⟩ := List.cons.inj r7
  obtain ⟨rfl, r7xx⟩ := List.cons.inj r7x
  obtain ⟨rfl, r7xxx⟩ := List.cons.inj r7xx
  obtain ⟨rfl, r7xxxx⟩ := List.cons.inj r7xxx
  obtain ⟨rfl, r7xxxxx⟩ := List.cons.inj r7xxxx
  obtain ⟨rfl, r7xxxxxx⟩ := List.cons.inj r7xxxxx
  obtain ⟨rfl, r7xxxxxxx⟩ := List.cons.inj r7xxxxxx
  obtain ⟨rfl, r7xxxxxxxx⟩ := List.cons.inj r7xxxxxxx
  obtain ⟨a8, r8, _⟩ := OpB.field (N := N) (i := 8) (off := 24) (sz := 8) (openb_A4_api_Len _) (by omega) rfl rfl (by kernel_rfl) hxl (hf 8 _ rfl) Tryz.underlying28 hw
  replace r8 : [c24, c25, c26, c27, c28, c29, c30, c31] = [.int .i64 a8.A0.Kind, .int .i64 a8.A0.N, .int .i64 a8.A1.Kind, .int .i64 a8.A1.N, .int .i64 a8.A2.Kind, .int .i64 a8.A2.N, .int .i64 a8.A3.Kind, .int .i64 a8.A3.N] := r8
  obtain ⟨rfl, r8x⟩ := List.cons.inj r8
  obtain ⟨rfl, r8xx⟩ := List.cons.inj r8x
  obtain ⟨rfl, r8xxx⟩ := List.cons.inj r8xx
  obtain ⟨rfl, r8xxxx⟩ := List.cons.inj r8xxx
  obtain ⟨rfl, r8xxxxx⟩ := List.cons.inj r8xxxx
  obtain ⟨rfl, r8xxxxxx⟩ := List.cons.inj r8xxxxx
  obtain ⟨rfl, r8xxxxxxx⟩ := List.cons.inj r8xxxxxx
  obtain ⟨rfl, r8xxxxxxxx⟩ := List.cons.inj r8xxxxxxx
  obtain ⟨a9, r9, _⟩ := OpB.field (N := N) (i := 9) (off := 32) (sz := 4) (openb_A4_int64 _) (by omega) rfl rfl (by kernel_rfl) hxl (hf 9 _ rfl) Tryz.underlying28 hw
  replace r9 : [c32, c33, c34, c35] = [.int .i64 a9.A0, .int .i64 a9.A1, .int .i64 a9.A2, .int .i64 a9.A3] := r9
  obtain ⟨rfl, r9x⟩ := List.cons.inj r9
  obtain ⟨rfl, r9xx⟩ := List.cons.inj r9x
  obtain ⟨rfl, r9xxx⟩ := List.cons.inj r9xx
  obtain ⟨rfl, r9xxxx⟩ := List.cons.inj r9xxx
  obtain ⟨a10, r10, _⟩ := OpB.field (N := N) (i := 10) (off := 36) (sz := 1) (opb_int Tryz.underlying26) (by omega) rfl rfl (by kernel_rfl) hxl (hf 10 _ rfl) Tryz.underlying28 hw
  replace r10 : [c36] = [.int .u32 a10] := r10
  obtain ⟨rfl, r10x⟩ := List.cons.inj r10
  obtain ⟨a11, r11, _⟩ := OpB.field (N := N) (i := 11) (off := 37) (sz := 1) (opb_int Tryz.underlying26) (by omega) rfl rfl (by kernel_rfl) hxl (hf 11 _ rfl) Tryz.underlying28 hw
  replace r11 : [c37] = [.int .u32 a11] := r11
  obtain ⟨rfl, r11x⟩ := List.cons.inj r11
  obtain ⟨a12, r12, _⟩ := OpB.field (N := N) (i := 12) (off := 38) (sz := 1) (opb_int Tryz.underlying2) (by omega) rfl rfl (by kernel_rfl) hxl (hf 12 _ rfl) Tryz.underlying28 hw
  replace r12 : [c38] = [.int .i64 a12] := r12
  obtain ⟨rfl, r12x⟩ := List.cons.inj r12
  obtain ⟨a13, r13, _⟩ := OpB.field (N := N) (i := 13) (off := 39) (sz := 1) (opb_int Tryz.underlying2) (by omega) rfl rfl (by kernel_rfl) hxl (hf 13 _ rfl) Tryz.underlying28 hw
  replace r13 : [c39] = [.int .i64 a13] := r13
  obtain ⟨rfl, r13x⟩ := List.cons.inj r13
  obtain ⟨a14, r14, _⟩ := OpB.field (N := N) (i := 14) (off := 40) (sz := 1) (opb_int Tryz.underlying3) (by omega) rfl rfl (by kernel_rfl) hxl (hf 14 _ rfl) Tryz.underlying28 hw
  replace r14 : [c40] = [.int .i64 a14] := r14
  obtain ⟨rfl, r14x⟩ := List.cons.inj r14
  obtain ⟨a15, r15, _⟩ := OpB.field (N := N) (i := 15) (off := 41) (sz := 1) (opb_bool Tryz.underlying4) (by omega) rfl rfl (by kernel_rfl) hxl (hf 15 _ rfl) Tryz.underlying28 hw
  replace r15 : [c41] = [.bool a15] := r15
  obtain ⟨rfl, r15x⟩ := List.cons.inj r15
  obtain ⟨a16, r16, _⟩ := OpB.field (N := N) (i := 16) (off := 42) (sz := 1) (opb_bool Tryz.underlying4) (by omega) rfl rfl (by kernel_rfl) hxl (hf 16 _ rfl) Tryz.underlying28 hw
  replace r16 : [c42] = [.bool a16] := r16
  obtain ⟨rfl, r16x⟩ := List.cons.inj r16
  obtain ⟨a17, r17, _⟩ := OpB.field (N := N) (i := 17) (off := 43) (sz := 1) (opb_bool Tryz.underlying4) (by omega) rfl rfl (by kernel_rfl) hxl (hf 17 _ rfl) Tryz.underlying28 hw
  replace r17 : [c43] = [.bool a17] := r17
  obtain ⟨rfl, r17x⟩ := List.cons.inj r17
  obtain ⟨a18, r18, _⟩ := OpB.field (N := N) (i := 18) (off := 44) (sz := 1) (opb_bool Tryz.underlying4) (by omega) rfl rfl (by kernel_rfl) hxl (hf 18 _ rfl) Tryz.underlying28 hw
  replace r18 : [c44] = [.bool a18] := r18
  obtain ⟨rfl, r18x⟩ := List.cons.inj r18
  obtain ⟨a19, r19, _⟩ := OpB.field (N := N) (i := 19) (off := 45) (sz := 1) (opb_int Tryz.underlying2) (by omega) rfl rfl (by kernel_rfl) hxl (hf 19 _ rfl) Tryz.underlying28 hw
  replace r19 : [c45] = [.int .i64 a19] := r19
  obtain ⟨rfl, r19x⟩ := List.cons.inj r19
  obtain ⟨a20, r20, _⟩ := OpB.field (N := N) (i := 20) (off := 46) (sz := 1) (opb_int Tryz.underlying2) (by omega) rfl rfl (by kernel_rfl) hxl (hf 20 _ rfl) Tryz.underlying28 hw
  replace r20 : [c46] = [.int .i64 a20] := r20
  obtain ⟨rfl, r20x⟩ := List.cons.inj r20
  obtain ⟨a21, r21, _⟩ := OpB.field (N := N) (i := 21) (off := 47) (sz := 1) (opb_int Tryz.underlying2) (by omega) rfl rfl (by kernel_rfl) hxl (hf 21 _ rfl) Tryz.underlying28 hw
  replace r21 : [c47] = [.int .i64 a21] := r21
  obtain ⟨rfl, r21x⟩ := List.cons.inj r21
  obtain ⟨a22, r22, _⟩ := OpB.field (N := N) (i := 22) (off := 48) (sz := 1) (opb_int Tryz.underlying3) (by omega) rfl rfl (by kernel_rfl) hxl (hf 22 _ rfl) Tryz.underlying28 hw
  replace r22 : [c48] = [.int .i64 a22] := r22
  obtain ⟨rfl, r22x⟩ := List.cons.inj r22
  obtain ⟨a23, r23, _⟩ := OpB.field (N := N) (i := 23) (off := 49) (sz := 1) (opb_int Tryz.underlying3) (by omega) rfl rfl (by kernel_rfl) hxl (hf 23 _ rfl) Tryz.underlying28 hw
  replace r23 : [c49] = [.int .i64 a23] := r23
  obtain ⟨rfl, r23x⟩ := List.cons.inj r23
  obtain ⟨a24, r24, _⟩ := OpB.field (N := N) (i := 24) (off := 50) (sz := 1) (opb_int Tryz.underlying2) (by omega) rfl rfl (by kernel_rfl) hxl (hf 24 _ rfl) Tryz.underlying28 hw
  replace r24 : [c50] = [.int .i64 a24] := r24
  obtain ⟨rfl, r24x⟩ := List.cons.inj r24
  obtain ⟨a25, r25, _⟩ := OpB.field (N := N) (i := 25) (off := 51) (sz := 1) (opb_bool Tryz.underlying4) (by omega) rfl rfl (by kernel_rfl) hxl (hf 25 _ rfl) Tryz.underlying28 hw
  replace r25 : [c51] = [.bool a25] := r25
  obtain ⟨rfl, r25x⟩ := List.cons.inj r25
  exact ⟨_, ⟨rfl, ⟨a0, a1, a2, a3, a4, a5, a6, a7, a8, a9, a10, a11, a12, a13, a14, a15, a16, a17, a18, a19, a20, a21, a22, a23, a24, a25⟩, rfl⟩, trivial⟩
end Go.Proofs.YteicdfkmpnmkmaaGreat
