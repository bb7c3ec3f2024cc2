/- The laws of the marks without a reference: known, MarkGoes, MarkForgets hold at every input. No conditions. -/
import Derived.Test.YtkciakbkiloknaaFrame
import Derived.Test.YtkciakbkiloknaaMark
namespace Go.Proofs.Ytkciakbkiloknaa
open Go.ChangeShapes Go.WideShapes Go.ChangeAt Go.RowKit

theorem mark_known (w : World) : Calls Try.prog 16 #[] w fun e w' => e = .returned (.bool true) ∧ Below w.heap.size w w' := by
  have s1 : since 65535 1 = 2 := by decide
  have hcp := @copy_one' Try.prog 88 88 22 Try.underlying88 z22
  have hoc : ∀ k x, (Value.int k x).oneCell' = true := fun _ _ => rfl
  go_enter Try.func16, Try.ntmps16
  go_wp2_with (first | (go_at_call 43; refine (since_calls _ _ _).mono ?_; rintro e w' ⟨rfl, rfl⟩) | go_in)
  repeat (go_end0; go_wp2_with (first | (go_at_call 43; refine (since_calls _ _ _).mono ?_; rintro e w' ⟨rfl, rfl⟩) | go_in))
  go_quiet (fail)
  go_wp2
  go_ret
  exact ⟨rfl, by repeat (first | with_reducible exact Below.refl _ _ | with_reducible refine below_drewN ?_ _ | with_reducible refine Below.alloc ?_ (by simp) _)⟩

theorem since_wrap (a b : Int) (h0 : 0 ≤ b) (h1 : b < 65536) : since a (IntKind.u16.wrap (a + b)) = b := by rw [wu16]; unfold since; omega
theorem since_self (a : Int) : since a a = 0 := by unfold since; omega

section
variable {B b : Nat} {w0 w : World} {m : MarkS}
theorem on_new (h : Below B w0 w) (hs : B ≤ w.heap.size) : Calls Try.prog 17 #[] w fun e w' => ∃ b, e = .returned (.pointer (some ⟨b, 0, none⟩)) ∧ On B w0 b (markO MarkS.new) w' :=
  (mark_new w).mono fun _ _ ⟨he, hM, hb, _⟩ => ⟨_, he, h.trans (hb.mono hs), hs, Nat.le_trans hs hb.size, hM⟩
theorem on_start (h : On B w0 b (markO m) w) (x : Int) : Calls Try.prog 18 #[.pointer (some ⟨b, 0, none⟩), .int .u16 x] w fun e w' => e = .returned (.tuple #[]) ∧ On B w0 b (markO (m.start x)) w' :=
  (mark_start h.blk x).mono fun _ _ ⟨he, u⟩ => ⟨he, h.upd u⟩
theorem on_beat (h : On B w0 b (markO m) w) (x : Int) : Calls Try.prog 19 #[.pointer (some ⟨b, 0, none⟩), .int .i64 x] w fun e w' => e = .returned (.tuple #[]) ∧ On B w0 b (markO (m.beat x)) w' :=
  (mark_beat h.blk x).mono fun _ _ ⟨he, u⟩ => ⟨he, h.upd u⟩
theorem on_forget (h : On B w0 b (markO m) w) : Calls Try.prog 22 #[.pointer (some ⟨b, 0, none⟩)] w fun e w' => e = .returned (.tuple #[]) ∧ On B w0 b (markO MarkS.new) w' :=
  (mark_forget h.blk).mono fun _ _ ⟨he, u⟩ => ⟨he, h.upd u⟩
theorem on_at (h : On B w0 b (markO m) w) (x : Int) : Calls Try.prog 20 #[.pointer (some ⟨b, 0, none⟩), .int .u16 x] w fun e w' => e = .returned (.tuple #[.int .i64 (m.at x), .bool m.hg]) ∧ w = w' := mark_at h.blk x
theorem on_cycle (h : On B w0 b (markO m) w) : Calls Try.prog 21 #[.pointer (some ⟨b, 0, none⟩)] w fun e w' => e = .returned (.int .i64 m.c) ∧ w = w' := mark_cycle h.blk
end

theorem MarkGoes_walk (a0 a1 a2 a3 : Int) (w0 : (Lit.int .u16 a0).wf = true) (w1 : (Lit.int .u16 a1).wf = true) (w2 : (Lit.int .u16 a2).wf = true) (w3 : (Lit.int .u8 a3).wf = true) (w : World) :
    Holds 3 #[.int .u16 a0, .int .u16 a1, .int .u16 a2, .int .u8 a3] w := by
  have b1 := u16_bounds w1
  have b3 := u8_bounds w3
  clear w0 w1 w2 w3
  have Q1 := Lib.hid (show (MarkS.new.start a0).beat (a3 % 8) = ⟨a0, true, a0, true, a3 % 8⟩ by simp [MarkS.new, MarkS.start, MarkS.beat]; omega)
  have E1 := Lib.hid (show (⟨a0, true, a0, true, a3 % 8⟩ : MarkS).at (IntKind.u16.wrap (a0 + a1)) = a1 by simp [MarkS.at, since_wrap a0 a1 b1.1 b1.2])
  have E2 := Lib.hid (show (⟨a2, true, a0, true, a3 % 8⟩ : MarkS).at (IntKind.u16.wrap (a0 + a1)) = a1 by simp [MarkS.at, since_wrap a0 a1 b1.1 b1.2])
  have E3 := Lib.hid (show (⟨a2, true, a2, true, 0⟩ : MarkS).at a2 = 0 by simp [MarkS.at, since_self])
  unfold Holds
  go_enter Try.func3, Try.ntmps3
  go_wp2_with fail
  refine (mark_known _).mono ?_
  rintro e w1 ⟨rfl, hb⟩
  have hs := hb.size
  go_wp2_with fail
  refine (on_new hb hs).mono ?_
  rintro e w2 ⟨b, rfl, hO⟩
  clear hb hs
  go_wp2_with fail
  refine (on_start hO _).mono ?_
  rintro e w3 ⟨rfl, hO⟩
  go_wp2_with fail
  refine (on_beat hO _).mono ?_
  rintro e w4 ⟨rfl, hO⟩
  rw [Q1.out] at hO
  go_wp2_with fail
  refine (on_at hO _).mono ?_
  rintro e w5 ⟨rfl, rfl⟩
  rw [E1.out]
  go_wp2_with fail
  refine (on_start hO _).mono ?_
  rintro e w6 ⟨rfl, hO⟩
  simp only [MarkS.start] at hO
  go_wp2_with fail
  refine (on_at hO _).mono ?_
  rintro e w7 ⟨rfl, rfl⟩
  rw [E2.out]
  go_wp2_with fail
  refine (on_beat hO _).mono ?_
  rintro e w8 ⟨rfl, hO⟩
  simp only [MarkS.beat, if_true, show min (max (0 : Int) 0) 7 = 0 from by decide] at hO
  go_wp2_with fail
  refine (on_at hO _).mono ?_
  rintro e w9 ⟨rfl, rfl⟩
  rw [E3.out]
  go_wp2_with fail
  refine (on_cycle hO).mono ?_
  rintro e w9 ⟨rfl, rfl⟩
  go_wp2
  go_ret
  exact ⟨rfl, hO.bel⟩

theorem MarkForgets_walk (a0 a1 a2 a3 : Int) (w0 : (Lit.int .u16 a0).wf = true) (w1 : (Lit.int .u16 a1).wf = true) (w2 : (Lit.int .i64 a2).wf = true) (w3 : (Lit.int .u16 a3).wf = true) (w : World) :
    Holds 4 #[.int .u16 a0, .int .u16 a1, .int .i64 a2, .int .u16 a3] w := by
  clear w0 w1 w2 w3
  obtain ⟨k, hk⟩ : ∃ k, k = min (max a2 0) 7 := ⟨_, rfl⟩
  have Q1 := Lib.hid (show (MarkS.new.start a0).beat a2 = ⟨a0, true, a0, true, k⟩ by simp [MarkS.new, MarkS.start, MarkS.beat, hk])
  have E1 := Lib.hid (show (⟨a1, true, a1, true, 2⟩ : MarkS).at a3 = since a1 a3 by simp [MarkS.at])
  have hk1 : 0 ≤ k := by omega
  have hk2 : k ≤ 7 := by omega
  have K := Lib.hid hk
  clear hk
  unfold Holds
  go_enter Try.func4, Try.ntmps4
  go_wp2_with fail
  refine (mark_known _).mono ?_
  rintro e w1 ⟨rfl, hb⟩
  have hs := hb.size
  go_wp2_with fail
  refine (on_new hb hs).mono ?_
  rintro e w2 ⟨b, rfl, hO⟩
  clear hb hs
  go_wp2_with fail
  refine (on_start hO _).mono ?_
  rintro e w3 ⟨rfl, hO⟩
  go_wp2_with fail
  refine (on_beat hO _).mono ?_
  rintro e w4 ⟨rfl, hO⟩
  rw [Q1.out] at hO
  go_wp2_with fail
  refine (on_cycle hO).mono ?_
  rintro e w5 ⟨rfl, rfl⟩
  go_wp2_with fail
  refine (on_forget hO).mono ?_
  rintro e w6 ⟨rfl, hO⟩
  go_wp2_with fail
  refine (on_at hO _).mono ?_
  rintro e w7 ⟨rfl, rfl⟩
  go_wp2_with fail
  refine (on_beat hO _).mono ?_
  rintro e w8 ⟨rfl, hO⟩
  simp only [MarkS.new, MarkS.beat, if_true, Bool.false_eq_true, if_false] at hO
  go_wp2_with fail
  refine (on_at hO _).mono ?_
  rintro e w9 ⟨rfl, rfl⟩
  go_wp2_with fail
  refine (on_start hO _).mono ?_
  rintro e w10 ⟨rfl, hO⟩
  simp only [MarkS.start] at hO
  go_wp2_with fail
  refine (on_at hO _).mono ?_
  rintro e w9 ⟨rfl, rfl⟩
  go_wp2_with fail
  refine (on_beat hO _).mono ?_
  rintro e w8 ⟨rfl, hF⟩
  simp only [MarkS.beat, if_true, show min (max (2 : Int) 0) 7 = 2 from by decide] at hF
  go_wp2_with fail
  refine (on_at hF _).mono ?_
  rintro e w9 ⟨rfl, rfl⟩
  rw [E1.out]
  have hs1 : since a1 a3 = IntKind.u16.wrap (a3 - a1) := by rw [wu16]; rfl
  have hs2 : 0 ≤ since a1 a3 := by unfold since; omega
  have hs3 : since a1 a3 < 65536 := by unfold since; omega
  rw [hs1] at hs2 hs3 ⊢
  clear hs1
  have n1 : MarkS.new.hg = false := rfl
  by_cases c1 : a2 < 0
  · obtain rfl : k = 0 := by have := K.out; omega
    clear K hk1 hk2
    go_wp2_with (go_at_call 21; refine (on_cycle hF).mono ?_; rintro e w5 ⟨rfl, rfl⟩)
    all_goals (go_ret; exact ⟨rfl, hF.bel⟩)
  · by_cases c2 : 7 < a2
    · obtain rfl : k = 7 := by have := K.out; omega
      clear K hk1 hk2
      go_wp2_with (go_at_call 21; refine (on_cycle hF).mono ?_; rintro e w5 ⟨rfl, rfl⟩)
      all_goals (go_ret; exact ⟨rfl, hF.bel⟩)
    · obtain rfl : k = a2 := by have := K.out; omega
      clear K hk1 hk2
      go_wp2_with (go_at_call 21; refine (on_cycle hF).mono ?_; rintro e w5 ⟨rfl, rfl⟩)
      all_goals (go_ret; exact ⟨rfl, hF.bel⟩)

set_option maxRecDepth 100000 in
theorem MarkGoes_lifted (os : Os) (started : os.Started) (H : Type) (enc : TypeId × Value → H) :
    ReturnsInHanded {} Try.checked os 3 .any (Rows.markGoesSpec.pre6 enc Try.prog Try.f3 [] false) (Rows.markGoesSpec.post enc Try.prog Try.f3 false true false false) := by
  refine law_lifted (n := 4) os started H enc (by kernel_rfl) Try.func3 rfl rfl (hts_of (by kernel_rfl)) rfl (fun ds h => match ds, h with | [_, _, _, _], _ => rfl)
    (ChangeSpec.witness6 (enc := enc) (C := Try.checked) false ⟨#[], #[.int .u16 0, .int .u16 0, .int .u16 0, .int .u8 0], []⟩ 8 (by kernel_rfl) (by kernel_rfl) (by kernel_rfl) (by kernel_rfl)) ?_
  intro W base args ds p hval hA
  rw [Try.params3] at hA hval
  obtain ⟨v0, vs0, d0, ds0, p0, q0, hargs, rfl, rfl, h0, r0⟩ := trodAll_cons hA
  obtain ⟨v1, vs1, d1, ds1, p1, q1, rfl, rfl, rfl, h1, r1⟩ := trodAll_cons r0
  obtain ⟨v2, vs2, d2, ds2, p2, q2, rfl, rfl, rfl, h2, r2⟩ := trodAll_cons r1
  obtain ⟨v3, vs3, d3, ds3, p3, q3, rfl, rfl, rfl, h3, r3⟩ := trodAll_cons r2
  obtain ⟨rfl, rfl, rfl⟩ := trodAll_nil r3
  obtain rfl : args = #[v0, v1, v2, v3] := by cases args; simp_all
  obtain ⟨a0, rfl, rfl, rfl, w0⟩ := open_int Try.underlying22 (hval 0 _ v0 rfl rfl) h0
  obtain ⟨a1, rfl, rfl, rfl, w1⟩ := open_int Try.underlying22 (hval 1 _ v1 rfl rfl) h1
  obtain ⟨a2, rfl, rfl, rfl, w2⟩ := open_int Try.underlying22 (hval 2 _ v2 rfl rfl) h2
  obtain ⟨a3, rfl, rfl, rfl, w3⟩ := open_int Try.underlying5 (hval 3 _ v3 rfl rfl) h3
  exact MarkGoes_walk a0 a1 a2 a3 w0 w1 w2 w3 W

theorem MarkGoes_over : Rows.markGoesRow.holds Try.pinned (OpenSpec.ofChange Rows.markGoesSpec) :=
  OpenClaim.holds_of_wide 3 Try.f3 rfl rfl rfl rfl rfl rfl rfl ⟨rfl, rfl, rfl, rfl, rfl⟩ rfl rfl rfl rfl rfl (by kernel_rfl) Try.func3 (by kernel_rfl)
    (of_decide_eq_true (by kernel_rfl)) (by unfold Func.isWrapper; first | (rw [if_pos (by decide +kernel)]; kernel_rfl) | (rw [if_neg (by decide +kernel)]; exact ⟨rfl, rfl⟩))
    (fun os started H enc _ => MarkGoes_lifted os started H enc)
theorem MarkGoes_holds : Rows.MarkGoesSaid := MarkGoes_over
#print axioms MarkGoes_holds

set_option maxRecDepth 100000 in
theorem MarkForgets_lifted (os : Os) (started : os.Started) (H : Type) (enc : TypeId × Value → H) :
    ReturnsInHanded {} Try.checked os 4 .any (Rows.markForgetsSpec.pre6 enc Try.prog Try.f4 [] false) (Rows.markForgetsSpec.post enc Try.prog Try.f4 false true false false) := by
  refine law_lifted (n := 4) os started H enc (by kernel_rfl) Try.func4 rfl rfl (hts_of (by kernel_rfl)) rfl (fun ds h => match ds, h with | [_, _, _, _], _ => rfl)
    (ChangeSpec.witness6 (enc := enc) (C := Try.checked) false ⟨#[], #[.int .u16 0, .int .u16 0, .int .i64 0, .int .u16 0], []⟩ 8 (by kernel_rfl) (by kernel_rfl) (by kernel_rfl) (by kernel_rfl)) ?_
  intro W base args ds p hval hA
  rw [Try.params4] at hA hval
  obtain ⟨v0, vs0, d0, ds0, p0, q0, hargs, rfl, rfl, h0, r0⟩ := trodAll_cons hA
  obtain ⟨v1, vs1, d1, ds1, p1, q1, rfl, rfl, rfl, h1, r1⟩ := trodAll_cons r0
  obtain ⟨v2, vs2, d2, ds2, p2, q2, rfl, rfl, rfl, h2, r2⟩ := trodAll_cons r1
  obtain ⟨v3, vs3, d3, ds3, p3, q3, rfl, rfl, rfl, h3, r3⟩ := trodAll_cons r2
  obtain ⟨rfl, rfl, rfl⟩ := trodAll_nil r3
  obtain rfl : args = #[v0, v1, v2, v3] := by cases args; simp_all
  obtain ⟨a0, rfl, rfl, rfl, w0⟩ := open_int Try.underlying22 (hval 0 _ v0 rfl rfl) h0
  obtain ⟨a1, rfl, rfl, rfl, w1⟩ := open_int Try.underlying22 (hval 1 _ v1 rfl rfl) h1
  obtain ⟨a2, rfl, rfl, rfl, w2⟩ := open_int Try.underlying3 (hval 2 _ v2 rfl rfl) h2
  obtain ⟨a3, rfl, rfl, rfl, w3⟩ := open_int Try.underlying22 (hval 3 _ v3 rfl rfl) h3
  exact MarkForgets_walk a0 a1 a2 a3 w0 w1 w2 w3 W

theorem MarkForgets_over : Rows.markForgetsRow.holds Try.pinned (OpenSpec.ofChange Rows.markForgetsSpec) :=
  OpenClaim.holds_of_wide 4 Try.f4 rfl rfl rfl rfl rfl rfl rfl ⟨rfl, rfl, rfl, rfl, rfl⟩ rfl rfl rfl rfl rfl (by kernel_rfl) Try.func4 (by kernel_rfl)
    (of_decide_eq_true (by kernel_rfl)) (by unfold Func.isWrapper; first | (rw [if_pos (by decide +kernel)]; kernel_rfl) | (rw [if_neg (by decide +kernel)]; exact ⟨rfl, rfl⟩))
    (fun os started H enc _ => MarkForgets_lifted os started H enc)
theorem MarkForgets_holds : Rows.MarkForgetsSaid := MarkForgets_over
#print axioms MarkForgets_holds
end Go.Proofs.Ytkciakbkiloknaa
