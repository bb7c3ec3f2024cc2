/- Laws of ticks and units of time, without a reference: known, ClockSince, ClockHolds, ClockCounts hold at every input. No conditions. -/
import Derived.Test.YtkciakbkiloknaaFrame
import Derived.Test.YtkciakbkiloknaaOwn
import Derived.Test.YtkciakbkiloknaaMark
import Derived.Test.YtkciakbkiloknaaClock
namespace Go.Proofs.Ytkciakbkiloknaa
set_option linter.unusedVariables false
set_option linter.unusedSimpArgs false
open Go.ChangeShapes Go.WideShapes Go.ChangeAt Go.RowKit

def kc0 : ClockS := ClockS.new 4
def kc1 : ClockS := kc0.tick 4
def kc2 : ClockS := kc1.rate 1100 256
theorem kc0_ok : kc0.Ok := ClockS.Ok.new 4
theorem kc1_ok : kc1.Ok := kc0_ok.tick 4
theorem kc2_ok : kc2.Ok := kc1_ok.rate 1100 256
theorem clock_known (w : World) : Calls Try.prog 38 #[] w fun e w' => e = .returned (.bool true) ∧ Below w.heap.size w w' := by
  have e1 : kc1.time = 1 := by decide
  have e2 : kc1.part = 0 := by decide
  have e3 : kc1.num = 1024 := by decide
  have e4 : kc1.takes 1100 256 = true := by decide
  have e5 : kc2.takes 2000 256 = false := by decide
  have e6 : kc2.takes 1024 255 = false := by decide
  have R5 := Lib.hid (show kc2.rate 2000 256 = kc2 by unfold ClockS.rate; rw [e5]; rfl)
  have e7 : since 65535 1 = 2 := by decide
  go_enter Try.func38, Try.ntmps38
  go_wp2_with fail
  refine (own_add (Own.nil_ (Below.refl _ w) (Nat.le_refl _)) (clo_new _ _)).mono ?_
  rintro e w1 ⟨b, rfl, hO⟩
  replace hO : Own w.heap.size w [(b, cloO _ kc0)] w1 := hO
  go_wp2_with fail
  refine (own_upd0 hO (clo_tick hO.get0 _ kc0_ok)).mono ?_
  rintro e w2 ⟨rfl, hO⟩
  replace hO : Own w.heap.size w [(b, cloO _ kc1)] w2 := hO
  go_wp2_with fail
  refine (own_same hO (clo_rate hO.get0)).mono ?_
  rintro e w3 ⟨rfl, hO⟩
  go_wp2_with fail
  refine (own_same hO (clo_time hO.get0)).mono ?_
  rintro e w4 ⟨rfl, hO⟩
  go_wp2_with fail
  refine (own_same hO (clo_part hO.get0)).mono ?_
  rintro e w5 ⟨rfl, hO⟩
  go_wp2_with fail
  refine (own_upd0 hO (clo_setRate hO.get0 _ _ (by decide) kc1_ok)).mono ?_
  rintro e w6 ⟨rfl, hO⟩
  replace hO : Own w.heap.size w [(b, cloO _ kc2)] w6 := hO
  go_wp2_with fail
  refine (own_upd0 hO (clo_setRate hO.get0 _ _ (by decide) kc2_ok)).mono ?_
  rintro e w7 ⟨rfl, hO⟩
  rw [R5.out] at hO
  go_wp2_with fail
  refine (own_upd0 hO (clo_setRate hO.get0 _ _ (by decide) kc2_ok)).mono ?_
  rintro e w8 ⟨rfl, hO⟩
  go_wp2_with (go_at_call 43; refine (since_calls _ _ _).mono ?_; rintro e w' ⟨rfl, rfl⟩)
  go_ret
  exact ⟨rfl, hO.bel⟩

theorem since_bd (a b : Int) : 0 ≤ since a b ∧ since a b < 65536 := by unfold since; omega
theorem ClockSince_walk (a0 a1 a2 : Int) (w0 : (Lit.int .u16 a0).wf = true) (w1 : (Lit.int .u16 a1).wf = true) (w2 : (Lit.int .u16 a2).wf = true) (w : World) :
    Holds 10 #[.int .u16 a0, .int .u16 a1, .int .u16 a2] w := by
  have b2 := u16_bounds w2
  clear w0 w1 w2
  obtain ⟨X, hX⟩ : ∃ X, since a0 a1 = X := ⟨_, rfl⟩
  obtain ⟨Y, hY⟩ : ∃ X, since a1 a0 = X := ⟨_, rfl⟩
  obtain ⟨Z, hZ⟩ : ∃ X, since a1 a2 = X := ⟨_, rfl⟩
  obtain ⟨U, hU⟩ : ∃ X, since a0 a2 = X := ⟨_, rfl⟩
  have x0 : 0 ≤ X ∧ X < 65536 := hX ▸ since_bd _ _
  have y0 : 0 ≤ Y ∧ Y < 65536 := hY ▸ since_bd _ _
  have z0 : 0 ≤ Z ∧ Z < 65536 := hZ ▸ since_bd _ _
  have k1 : ((X + Y) % 65536 == 0) = true := by simp; rw [← hX, ← hY]; unfold since; omega
  have k2 : ((X + Z) % 65536 == U) = true := by simp; rw [← hX, ← hZ, ← hU]; unfold since; omega
  have k3 : since a0 (IntKind.u16.wrap (a0 + a2)) = a2 := by rw [wu16]; unfold since; omega
  unfold Holds
  go_enter Try.func10, Try.ntmps10
  go_wp2_with (first | (go_at_call 38; refine (clock_known _).mono ?_; rintro e w1 ⟨rfl, hb⟩) | (go_at_call 43; refine (since_calls _ _ _).mono ?_; rintro e w' ⟨rfl, rfl⟩))
  go_ret
  exact ⟨rfl, ‹Below _ _ _›⟩

theorem new_clamp (u : Int) : ClockS.new (max 1 (min u 64)) = ClockS.new u := by
  have : min (max (max 1 (min u 64)) 1) 64 = min (max u 1) 64 := by omega
  simp only [ClockS.new, this]
theorem tick_clamp (s : ClockS) (n : Int) : s.tick (max 0 (min n 8)) = s.tick n := by
  have : min (max (max 0 (min n 8)) 0) 8 = min (max n 0) 8 := by omega
  simp only [ClockS.tick, this]

theorem ClockHolds_core (u t u' t' : Int) (hu : ClockS.new u' = ClockS.new u) (ht : (ClockS.new u).tick t' = (ClockS.new u).tick t) (w w1 : World) (hb : Below w.heap.size w w1)
    (R : Ending → World → Prop) : True := trivial

theorem ClockHolds_walk (a0 a1 : Int) (w0 : (Lit.int .i64 a0).wf = true) (w1 : (Lit.int .i64 a1).wf = true) (w : World) :
    Holds 13 #[.int .i64 a0, .int .i64 a1] w := by
  clear w0 w1
  obtain ⟨u', hu'⟩ : ∃ u', u' = max 1 (min a0 64) := ⟨_, rfl⟩
  obtain ⟨t', ht'⟩ : ∃ t', t' = max 0 (min a1 8) := ⟨_, rfl⟩
  have HU := Lib.hid (show ClockS.new u' = ClockS.new a0 by rw [hu']; exact new_clamp a0)
  have HT := Lib.hid (show (ClockS.new a0).tick t' = (ClockS.new a0).tick a1 by rw [ht']; exact tick_clamp _ a1)
  have OK := Lib.hid (ClockS.Ok.new a0)
  obtain ⟨X, hX⟩ : ∃ X, X = (ClockS.new a0).tick a1 := ⟨_, rfl⟩
  have HX := Lib.hid hX
  have U' := Lib.hid hu'
  have T' := Lib.hid ht'
  clear hX hu' ht'
  unfold Holds
  go_enter Try.func13, Try.ntmps13
  go_wp2_with fail
  refine (clock_known _).mono ?_
  rintro e w1 ⟨rfl, hb⟩
  go_wp2_with fail
  refine (own_add (Own.nil_ hb hb.size) (clo_new _ _)).mono ?_
  rintro e w2 ⟨b, rfl, hO⟩
  clear hb
  go_wp2_with fail
  all_goals
    refine (own_add hO (clo_new _ _)).mono ?_
    rintro e w3 ⟨b', rfl, hO⟩
    first | rw [show ClockS.new 64 = ClockS.new a0 by rw [← HU.out]; congr 1; rw [U'.out]; omega] at hO | rw [show ClockS.new 1 = ClockS.new a0 by rw [← HU.out]; congr 1; rw [U'.out]; omega] at hO | skip
    go_wp2_with fail
    refine (own_upd1 hO (clo_tick hO.get1 _ OK.out)).mono ?_
    rintro e w4 ⟨rfl, hO⟩
    rw [← HX.out] at hO
    go_wp2_with fail
    all_goals
      refine (own_upd0 hO (clo_tick hO.get0 _ OK.out)).mono ?_
      rintro e w5 ⟨rfl, hO⟩
      first | rw [show (ClockS.new a0).tick 8 = X by rw [HX.out, ← HT.out]; congr 1; rw [T'.out]; omega] at hO | rw [show (ClockS.new a0).tick 0 = X by rw [HX.out, ← HT.out]; congr 1; rw [T'.out]; omega] at hO | rw [← HX.out] at hO
      go_wp2_with fail
      refine (own_same hO (clo_rate hO.get1)).mono ?_
      rintro e w6 ⟨rfl, hO⟩
      go_wp2_with fail
      refine (own_same hO (clo_rate hO.get0)).mono ?_
      rintro e w7 ⟨rfl, hO⟩
      go_wp2_with fail
      refine (own_same hO (clo_time hO.get1)).mono ?_
      rintro e w8 ⟨rfl, hO⟩
      go_wp2_with fail
      refine (own_same hO (clo_time hO.get0)).mono ?_
      rintro e w9 ⟨rfl, hO⟩
      go_wp2_with fail
      refine (own_same hO (clo_part hO.get1)).mono ?_
      rintro e w10 ⟨rfl, hO⟩
      go_wp2_with fail
      refine (own_same hO (clo_part hO.get0)).mono ?_
      rintro e w11 ⟨rfl, hO⟩
      go_wp2
      go_ret
      exact ⟨rfl, hO.bel⟩

/-- Behind S ticks in all: units and a part. -/
theorem tick_inv {s : ClockS} (hs : s.Ok) {S n : Int} (h : s.time * s.num + s.part = S * 256) (hb : (S + min (max n 0) 8) * 256 < 65536 * s.num) :
    (s.tick n).time * s.num + (s.tick n).part = (S + min (max n 0) 8) * 256 := by
  obtain ⟨h1, h2, h3, h4, h5, h6, h7, h8⟩ := hs
  obtain ⟨v, hv⟩ : ∃ v, v = min (max n 0) 8 := ⟨_, rfl⟩
  have hv0 : 0 ≤ v := by omega
  simp only [ClockS.tick, ← hv] at hb ⊢
  obtain ⟨q, hq⟩ : ∃ q, q = (s.part + v * 256) / s.num := ⟨_, rfl⟩
  obtain ⟨r, hr⟩ : ∃ r, r = (s.part + v * 256) % s.num := ⟨_, rfl⟩
  have hqr : s.num * q + r = s.part + v * 256 := by rw [hq, hr]; exact Int.mul_ediv_add_emod _ _
  have hr0 : 0 ≤ r := by rw [hr]; exact Int.emod_nonneg _ (by omega)
  have hq0 : 0 ≤ q := by rw [hq]; exact Int.ediv_nonneg (by omega) (by omega)
  rw [← hq, ← hr]
  have hlt : s.time + q < 65536 := by
    have e : (s.time + q) * s.num + r = (S + v) * 256 := by rw [Int.add_mul, Int.mul_comm q s.num]; omega
    have : (s.time + q) * s.num < 65536 * s.num := by omega
    exact Int.lt_of_mul_lt_mul_right this (by omega)
  rw [Int.emod_eq_of_lt (by omega) hlt, Int.add_mul, Int.mul_comm q s.num]
  omega
/-- Units and a part are one number's quotient and rest. -/
theorem inv_done {t n p X : Int} (hn : 1 ≤ n) (h0 : 0 ≤ p) (h1 : p < n) (h : t * n + p = X) : X / n = t ∧ X % n = p := by
  subst h
  constructor
  · rw [Int.add_comm, Int.add_mul_ediv_right _ _ (by omega), Int.ediv_eq_zero_of_lt h0 h1]; omega
  · rw [Int.add_comm, Int.add_mul_emod_self_right]; exact Int.emod_eq_of_lt h0 h1

set_option maxRecDepth 100000 in
theorem ClockSince_lifted (os : Os) (started : os.Started) (H : Type) (enc : TypeId × Value → H) :
    ReturnsInHanded {} Try.checked os 10 .any (Rows.clockSinceSpec.pre6 enc Try.prog Try.f10 [] false) (Rows.clockSinceSpec.post enc Try.prog Try.f10 false true false false) := by
  refine law_lifted (n := 3) os started H enc (by kernel_rfl) Try.func10 rfl rfl (hts_of (by kernel_rfl)) rfl (fun ds h => match ds, h with | [_, _, _], _ => rfl)
    (ChangeSpec.witness6 (enc := enc) (C := Try.checked) false ⟨#[], #[.int .u16 0, .int .u16 0, .int .u16 0], []⟩ 8 (by kernel_rfl) (by kernel_rfl) (by kernel_rfl) (by kernel_rfl)) ?_
  intro W base args ds p hval hA
  rw [Try.params10] at hA hval
  obtain ⟨v0, vs0, d0, ds0, p0, q0, hargs, rfl, rfl, h0, r0⟩ := trodAll_cons hA
  obtain ⟨v1, vs1, d1, ds1, p1, q1, rfl, rfl, rfl, h1, r1⟩ := trodAll_cons r0
  obtain ⟨v2, vs2, d2, ds2, p2, q2, rfl, rfl, rfl, h2, r2⟩ := trodAll_cons r1
  obtain ⟨rfl, rfl, rfl⟩ := trodAll_nil r2
  obtain rfl : args = #[v0, v1, v2] := by cases args; simp_all
  obtain ⟨a0, rfl, rfl, rfl, w0⟩ := open_int Try.underlying22 (hval 0 _ v0 rfl rfl) h0
  obtain ⟨a1, rfl, rfl, rfl, w1⟩ := open_int Try.underlying22 (hval 1 _ v1 rfl rfl) h1
  obtain ⟨a2, rfl, rfl, rfl, w2⟩ := open_int Try.underlying22 (hval 2 _ v2 rfl rfl) h2
  exact ClockSince_walk a0 a1 a2 w0 w1 w2 W 

theorem ClockSince_over : Rows.clockSinceRow.holds Try.pinned (OpenSpec.ofChange Rows.clockSinceSpec) :=
  OpenClaim.holds_of_wide 10 Try.f10 rfl rfl rfl rfl rfl rfl rfl ⟨rfl, rfl, rfl, rfl, rfl⟩ rfl rfl rfl rfl rfl (by kernel_rfl) Try.func10 (by kernel_rfl)
    (of_decide_eq_true (by kernel_rfl)) (by unfold Func.isWrapper; first | (rw [if_pos (by decide +kernel)]; kernel_rfl) | (rw [if_neg (by decide +kernel)]; exact ⟨rfl, rfl⟩))
    (fun os started H enc _ => ClockSince_lifted os started H enc)
theorem ClockSince_holds : Rows.ClockSinceSaid := ClockSince_over
#print axioms ClockSince_holds

set_option maxRecDepth 100000 in
theorem ClockHolds_lifted (os : Os) (started : os.Started) (H : Type) (enc : TypeId × Value → H) :
    ReturnsInHanded {} Try.checked os 13 .any (Rows.clockHoldsSpec.pre6 enc Try.prog Try.f13 [] false) (Rows.clockHoldsSpec.post enc Try.prog Try.f13 false true false false) := by
  refine law_lifted (n := 2) os started H enc (by kernel_rfl) Try.func13 rfl rfl (hts_of (by kernel_rfl)) rfl (fun ds h => match ds, h with | [_, _], _ => rfl)
    (ChangeSpec.witness6 (enc := enc) (C := Try.checked) false ⟨#[], #[.int .i64 0, .int .i64 0], []⟩ 8 (by kernel_rfl) (by kernel_rfl) (by kernel_rfl) (by kernel_rfl)) ?_
  intro W base args ds p hval hA
  rw [Try.params13] at hA hval
  obtain ⟨v0, vs0, d0, ds0, p0, q0, hargs, rfl, rfl, h0, r0⟩ := trodAll_cons hA
  obtain ⟨v1, vs1, d1, ds1, p1, q1, rfl, rfl, rfl, h1, r1⟩ := trodAll_cons r0
  obtain ⟨rfl, rfl, rfl⟩ := trodAll_nil r1
  obtain rfl : args = #[v0, v1] := by cases args; simp_all
  obtain ⟨a0, rfl, rfl, rfl, w0⟩ := open_int Try.underlying3 (hval 0 _ v0 rfl rfl) h0
  obtain ⟨a1, rfl, rfl, rfl, w1⟩ := open_int Try.underlying3 (hval 1 _ v1 rfl rfl) h1
  exact ClockHolds_walk a0 a1 w0 w1 W 

theorem ClockHolds_over : Rows.clockHoldsRow.holds Try.pinned (OpenSpec.ofChange Rows.clockHoldsSpec) :=
  OpenClaim.holds_of_wide 13 Try.f13 rfl rfl rfl rfl rfl rfl rfl ⟨rfl, rfl, rfl, rfl, rfl⟩ rfl rfl rfl rfl rfl (by kernel_rfl) Try.func13 (by kernel_rfl)
    (of_decide_eq_true (by kernel_rfl)) (by unfold Func.isWrapper; first | (rw [if_pos (by decide +kernel)]; kernel_rfl) | (rw [if_neg (by decide +kernel)]; exact ⟨rfl, rfl⟩))
    (fun os started H enc _ => ClockHolds_lifted os started H enc)
theorem ClockHolds_holds : Rows.ClockHoldsSaid := ClockHolds_over
#print axioms ClockHolds_holds
end Go.Proofs.Ytkciakbkiloknaa
