/- The reference's Units, Step, Meet. -/
import Derived.Test.YthkhlcigegbpfaaMatKnown
import Derived.Test.YthkhlcigegbpfaaCfPure
namespace Go.Proofs.Ythkhlcigegbpfaa
set_option linter.unusedVariables false
set_option linter.unusedSimpArgs false
open Go.ChangeShapes Go.WideShapes Go.ChangeAt Go.RowKit Go.Deep

def unitsE (u : Int) : Int := 560 / u + (if 560 % u = 0 then 1 else 2)
def stepE (m : Mat) : Int := if isB m = true then unitsE m.unit + m.enable else 0
theorem unitsE_bd {u : Int} (h : 1 ≤ u ∧ u ≤ 64) : 1 ≤ unitsE u ∧ unitsE u ≤ 562 := by
  unfold unitsE
  have h1 : 0 ≤ 560 / u := Int.ediv_nonneg (by omega) (by omega)
  have h2 : 560 / u ≤ 560 := Int.ediv_le_self _ (by omega)
  split <;> omega
theorem stepE_bd {m : Mat} : 0 ≤ stepE m ∧ stepE m ≤ 600 := by
  unfold stepE
  split
  · rename_i h
    have b := bds_of h
    have := unitsE_bd b.unit
    have := b.enable
    omega
  · omega
/-- Some number, some bool come back; nothing that was there has turned. -/
def SomeI (w : World) (e : Ending) (w' : World) : Prop := ∃ r : Int, I64 r ∧ e = .returned (.int .i64 r) ∧ Below w.heap.size w w'
def SomeB (w : World) (e : Ending) (w' : World) : Prop := ∃ r : Bool, e = .returned (.bool r) ∧ Below w.heap.size w w'
set_option maxRecDepth 100000 in
theorem r_units {w : World} {m : Mat} {s1 s2 s3 : Value} (h : RdM w m s1 s2 s3) (hu : 1 ≤ m.unit ∧ m.unit ≤ 64) :
    Calls Try.prog 86 #[matV m s1 s2 s3, .int .i64 140] w fun e w' => e = .returned (.int .i64 (unitsE m.unit)) ∧ Below w.heap.size w w' := by
  have hO := (Own.nil_ (Below.refl w.heap.size w) (Nat.le_refl _)).alloc (boxM m s1 s2 s3)
  obtain ⟨a1, p1, e1, r1⟩ := h.r1.shape
  obtain ⟨a2, p2, e2, r2⟩ := h.r2.shape
  obtain ⟨a3, p3, e3, r3⟩ := h.r3.shape
  subst e1 e2 e3
  have l1 := r1.len.2
  have l2 := r2.len.2
  have l3 := r3.len.2
  unfold maxLen at l1 l2 l3
  have RM := Lib.hid h
  have R1 := Lib.hid r1
  have R2 := Lib.hid r2
  have R3 := Lib.hid r3
  clear r1 r2 r3 h
  obtain ⟨c0, c1, c2, c3, c4, c5, c6, c7, c8, c9, c10⟩ := boxM_c hO.get0
  have hml := lt_of_heap hO.get0
  have hd0 : 0 ≤ 560 / m.unit := Int.ediv_nonneg (by omega) (by omega)
  have hd1 : 560 / m.unit ≤ 560 := Int.ediv_le_self _ (by omega)
  have hB := Lib.hid hO.bel
  clear hO
  obtain ⟨q, hq⟩ : ∃ q, 560 / m.unit = q := ⟨_, rfl⟩
  rw [hq] at hd0 hd1
  obtain ⟨r, hr0⟩ : ∃ r, 560 % m.unit = r := ⟨_, rfl⟩
  have hmx : (if 1 < m.unit then m.unit else 1) = m.unit := by split <;> omega
  have hmx2 : (if m.unit > 1 then m.unit else 1) = m.unit := by split <;> omega
  unfold matV
  by_cases hr : 560 % m.unit = 0
  · have HF := Lib.hid (show unitsE m.unit = q + 1 by unfold unitsE; rw [if_pos hr, hq])
    rw [hr0] at hr
    have hrn : (r == 0) = true := by simpa using hr
    have hrn2 : (r != 0) = false := by simpa using hr
    clear hr
    rw [HF.out]
    go_enter Try.func86, Try.ntmps86
    go_wp2
    all_goals try (exfalso; omega)
    go_ret
    exact ⟨rfl, hB.out⟩
  · have HF := Lib.hid (show unitsE m.unit = q + 2 by unfold unitsE; rw [if_neg hr, hq])
    rw [hr0] at hr
    have hrn : (r == 0) = false := by simpa using hr
    have hrn2 : (r != 0) = true := by simpa using hr
    clear hr
    rw [HF.out]
    go_enter Try.func86, Try.ntmps86
    go_wp2
    all_goals try (exfalso; omega)
    go_ret
    exact ⟨ret_int (by omega), hB.out⟩
set_option maxRecDepth 100000 in
theorem r_step {w : World} {m : Mat} {s1 s2 s3 : Value} (h : RdM w m s1 s2 s3) :
    Calls Try.prog 52 #[matV m s1 s2 s3] w fun e w' => e = .returned (.int .i64 (stepE m)) ∧ Below w.heap.size w w' := by
  have hO := (Own.nil_ (Below.refl w.heap.size w) (Nat.le_refl _)).alloc (boxM m s1 s2 s3)
  obtain ⟨a1, p1, e1, r1⟩ := h.r1.shape
  obtain ⟨a2, p2, e2, r2⟩ := h.r2.shape
  obtain ⟨a3, p3, e3, r3⟩ := h.r3.shape
  subst e1 e2 e3
  have l1 := r1.len.2
  have l2 := r2.len.2
  have l3 := r3.len.2
  unfold maxLen at l1 l2 l3
  have RM := Lib.hid h
  have R1 := Lib.hid r1
  have R2 := Lib.hid r2
  have R3 := Lib.hid r3
  clear r1 r2 r3 h
  obtain ⟨c0, c1, c2, c3, c4, c5, c6, c7, c8, c9, c10⟩ := boxM_c hO.get0
  have hml := lt_of_heap hO.get0
  obtain ⟨z, hz⟩ : ∃ z, isB m = z := ⟨_, rfl⟩
  have HZ := Lib.hid hz
  clear hz
  unfold matV
  go_enter Try.func52, Try.ntmps52
  go_wp2_with fail
  refine (own_below hO (rmat_is (RM.out.keep hO.bel))).mono ?_
  rw [HZ.out]
  rintro e w2 ⟨rfl, hO⟩
  clear c0 c1 c2 c3 c4 c5 c6 c7 c8 c9 c10 hml
  cases z
  · have HF := Lib.hid (show stepE m = 0 by unfold stepE; rw [HZ.out]; rfl)
    go_wp2
    go_ret
    rw [HF.out]
    exact ⟨rfl, hO.bel⟩
  have bd := bds_of HZ.out
  have b5 := bd.enable
  have HU := Lib.hid bd.unit
  have hub := unitsE_bd bd.unit
  have HF := Lib.hid (show stepE m = unitsE m.unit + m.enable by unfold stepE; rw [HZ.out]; rfl)
  have hw : IntKind.i64.wrap (unitsE m.unit + m.enable) = unitsE m.unit + m.enable := by simp [IntKind.wrap, IntKind.signed, IntKind.bits]; omega
  clear bd
  go_wp2_with fail
  refine wp_region_held_drew (S := fun w' => Own w.heap.size w [(w.heap.size, boxM m (.slice a1 m.masters.length p1) (.slice a2 m.msgs.length p2) (.slice a3 m.wins.length p3))] w') (by kernel_rfl) hO.drew (fun hHeld => ?_)
  clear hO
  refine take_op 0 rfl (by kernel_rfl) (by kernel_rfl) (by kernel_rfl) (fun _ _ _ h => h) (by rfl) (by (intro wz hSw; (obtain ⟨c0, c1, c2, c3, c4, c5, c6, c7, c8, c9, c10⟩ := boxM_c hSw.get0); go_simp; (try with_reducible rfl))) (by assumption) ?_
  simp only [Act.put, List.setIfInBounds_toArray, List.set_cons_zero, List.set_cons_succ]
  refine take_op 2 rfl (by kernel_rfl) (by kernel_rfl) (by kernel_rfl) (fun _ _ _ h => h) (by rfl) (by (intro w hSw; (try dsimp only at hSw); go_simp; (try with_reducible rfl))) (by assumption) ?_
  simp only [Act.put, List.setIfInBounds_toArray, List.set_cons_zero, List.set_cons_succ]
  refine take_op 3 rfl (by kernel_rfl) (by kernel_rfl) (by kernel_rfl) (fun _ _ _ h => h) (by rfl) (by (intro wz hSw; (obtain ⟨c0, c1, c2, c3, c4, c5, c6, c7, c8, c9, c10⟩ := boxM_c hSw.get0); go_simp; (try with_reducible rfl))) (by assumption) ?_
  simp only [Act.put, List.setIfInBounds_toArray, List.set_cons_zero, List.set_cons_succ]
  refine at_op 1 rfl (by kernel_rfl) (by rfl) (fun K hK => ?_)
  go_simp
  refine (own_below hHeld (r_units (RM.out.keep hHeld.bel) HU.out)).mono ?_
  rintro e w3 ⟨rfl, hO⟩
  refine hK.out _ _ ?_ (fun hHeld => ?_)
  · exact hO
  clear hK K
  try simp only [Act.put, List.setIfInBounds_toArray, List.set_cons_zero, List.set_cons_succ]
  refine take_op 4 rfl (by kernel_rfl) (by kernel_rfl) (by kernel_rfl) (fun _ _ _ h => h) (by rfl) (by (intro w hSw; (try dsimp only at hSw); go_simp; (try with_reducible rfl))) (by assumption) ?_
  simp only [Act.put, List.setIfInBounds_toArray, List.set_cons_zero, List.set_cons_succ]
  refine take_op 5 rfl (by kernel_rfl) (by kernel_rfl) (by kernel_rfl) (fun _ _ _ h => h) (by rfl) (by (intro w hSw; (try dsimp only at hSw); go_simp; (try with_reducible rfl))) (by assumption) ?_
  simp only [Act.put, List.setIfInBounds_toArray, List.set_cons_zero, List.set_cons_succ]
  refine wpAnyH_done (by kernel_rfl) ?_ _
  go_wp2
  go_ret
  rw [HF.out]
  exact ⟨rfl, hHeld.bel⟩
end Go.Proofs.Ythkhlcigegbpfaa
