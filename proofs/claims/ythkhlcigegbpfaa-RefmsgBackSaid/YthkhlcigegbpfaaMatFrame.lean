/- Frame of both texts. -/
import Derived.Test.YthkhlcigegbpfaaMatRef
namespace Go.Proofs.Ythkhlcigegbpfaa
set_option linter.unusedVariables false
set_option linter.unusedSimpArgs false
open Go.ChangeShapes Go.WideShapes Go.ChangeAt Go.RowKit Go.Deep
section
variable {w : World} {m : Mat} {s1 s2 s3 : Value}
theorem mat_frame (h : RdM w m s1 s2 s3) (msg : Int) (hms : I64 msg) (data : ByteArray) (hd : data.size ≤ maxLen) : Calls Try.prog 27 #[matV m s1 s2 s3, .int .i64 msg, .string data] w fun e w' => e = .returned (.tuple #[frV (frameE m msg data).1, .bool (frameE m msg data).2]) ∧ Below w.heap.size w w' := by
  have hO := (Own.nil_ (Below.refl w.heap.size w) (Nat.le_refl _)).alloc (boxM m s1 s2 s3)
  have hb := hms.bounds
  obtain ⟨a2, p2, e2, r2⟩ := h.r2.shape
  subst e2
  have l1 := r2.len.2
  unfold maxLen at l1 hd
  have hok := Lib.hid h.ok
  have R2 := Lib.hid r2
  clear r2 h
  obtain ⟨c0, c1, c2, c3, c4, c5, c6, c7, c8, c9, c10⟩ := boxM_c hO.get0
  clear c0 c1 c2 c3 c4 c5 c6 c7 c8 c10
  have hB2 : Below w.heap.size w ((w.alloc (boxM m s1 (.slice a2 m.msgs.length p2) s3)).alloc (boxF noF)) := ((Below.refl _ _).alloc (Nat.le_refl _) _).alloc (by simp) _
  by_cases h1 : msg < 0 ∨ (m.msgs.length : Int) ≤ msg ∨ 8 < data.size
  · have HF := Lib.hid (show frameE m msg data = (noF, false) by unfold frameE; rw [if_pos h1]; rfl)
    unfold matV
    have nk := new_blk2 w (boxM m s1 (.slice a2 m.msgs.length p2) s3) (boxF noF)
    obtain ⟨r0, r1, r2, r3⟩ := boxF_c nk
    clear nk
    rcases h1 with h1 | h1 | h1
    all_goals
      go_enter Try.func27, Try.ntmps27
      go_wp2
      all_goals first
        | (exfalso; omega)
        | (rw [HF.out]; refine bodyPost_ret (v := .tuple #[frV noF, .bool false]) ?_ rfl ⟨rfl, hB2⟩; simp only [results, Try.results27]; simp [go_sem, frV, noF])
  · have h2 : 0 ≤ msg ∧ msg < m.msgs.length ∧ data.size ≤ 8 := by omega
    obtain ⟨k, rfl⟩ := Int.eq_ofNat_of_zero_le h2.1
    obtain ⟨y, b, off, hy, hm, rfl, hbb, hc⟩ := R2.out.at_ k (by omega)
    have e0 := hc 0 _ rfl
    simp only [Nat.add_zero, ← Nat.add_assoc] at e0
    have HF := Lib.hid (show frameE m (k : Int) data = (⟨false, y.id, false, data⟩, true) by unfold frameE; rw [if_neg h1]; simp [hy])
    have hbn : b < w.heap.size + 1 := by omega
    clear hc hy h1
    have k1 : (k : Int) < m.msgs.length := h2.2.1
    unfold matV
    go_enter Try.func27, Try.ntmps27
    go_wp2
    all_goals first
      | (exfalso; omega)
      | (rw [HF.out]; refine bodyPost_ret (v := .tuple #[.agg #[.bool false, .int .u32 y.id, .bool false, .string data], .bool true]) ?_ rfl ⟨rfl, ?_⟩; (simp only [results, Try.results27]; simp [go_sem]); exact ((Below.refl _ _).alloc (Nat.le_refl _) _).alloc (by simp) _)
theorem rmat_frame (h : RdM w m s1 s2 s3) (msg : Int) (hms : I64 msg) (data : ByteArray) (hd : data.size ≤ maxLen) : Calls Try.prog 30 #[matV m s1 s2 s3, .int .i64 msg, .string data] w fun e w' => e = .returned (.tuple #[frV (frameE m msg data).1, .bool (frameE m msg data).2]) ∧ Below w.heap.size w w' := by
  have hO := (Own.nil_ (Below.refl w.heap.size w) (Nat.le_refl _)).alloc (boxM m s1 s2 s3)
  have hb := hms.bounds
  obtain ⟨a2, p2, e2, r2⟩ := h.r2.shape
  subst e2
  have l1 := r2.len.2
  unfold maxLen at l1 hd
  have hok := Lib.hid h.ok
  have R2 := Lib.hid r2
  clear r2 h
  obtain ⟨c0, c1, c2, c3, c4, c5, c6, c7, c8, c9, c10⟩ := boxM_c hO.get0
  clear c0 c1 c2 c3 c4 c5 c6 c7 c8 c10
  have hB2 : Below w.heap.size w ((w.alloc (boxM m s1 (.slice a2 m.msgs.length p2) s3)).alloc (boxF noF)) := ((Below.refl _ _).alloc (Nat.le_refl _) _).alloc (by simp) _
  by_cases h1 : msg < 0 ∨ (m.msgs.length : Int) ≤ msg ∨ 8 < data.size
  · have HF := Lib.hid (show frameE m msg data = (noF, false) by unfold frameE; rw [if_pos h1]; rfl)
    unfold matV
    have nk := new_blk2 w (boxM m s1 (.slice a2 m.msgs.length p2) s3) (boxF noF)
    obtain ⟨r0, r1, r2, r3⟩ := boxF_c nk
    clear nk
    rcases h1 with h1 | h1 | h1
    all_goals
      go_enter Try.func30, Try.ntmps30
      go_wp2
      all_goals first
        | (exfalso; omega)
        | (rw [HF.out]; refine bodyPost_ret (v := .tuple #[frV noF, .bool false]) ?_ rfl ⟨rfl, hB2⟩; simp only [results, Try.results30]; simp [go_sem, frV, noF])
  · have h2 : 0 ≤ msg ∧ msg < m.msgs.length ∧ data.size ≤ 8 := by omega
    obtain ⟨k, rfl⟩ := Int.eq_ofNat_of_zero_le h2.1
    obtain ⟨y, b, off, hy, hm, rfl, hbb, hc⟩ := R2.out.at_ k (by omega)
    have e0 := hc 0 _ rfl
    simp only [Nat.add_zero, ← Nat.add_assoc] at e0
    have HF := Lib.hid (show frameE m (k : Int) data = (⟨false, y.id, false, data⟩, true) by unfold frameE; rw [if_neg h1]; simp [hy])
    have hbn : b < w.heap.size + 1 := by omega
    clear hc hy h1
    have k1 : (k : Int) < m.msgs.length := h2.2.1
    unfold matV
    go_enter Try.func30, Try.ntmps30
    go_wp2
    all_goals first
      | (exfalso; omega)
      | (rw [HF.out]; refine bodyPost_ret (v := .tuple #[.agg #[.bool false, .int .u32 y.id, .bool false, .string data], .bool true]) ?_ rfl ⟨rfl, ?_⟩; (simp only [results, Try.results30]; simp [go_sem]); exact ((Below.refl _ _).alloc (Nat.le_refl _) _).alloc (by simp) _)
end
end Go.Proofs.Ythkhlcigegbpfaa
