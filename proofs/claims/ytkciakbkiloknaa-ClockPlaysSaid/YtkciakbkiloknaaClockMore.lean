/- More laws of ticks and units of time, without a reference: ClockCounts, ClockSteady, ClockRates hold at every input. No conditions. -/
import Derived.Test.YtkciakbkiloknaaClockLaws
import Derived.IntWalk
namespace Go.Proofs.Ytkciakbkiloknaa
set_option linter.unusedVariables false
set_option linter.unusedSimpArgs false
open Go.ChangeShapes Go.WideShapes Go.ChangeAt Go.RowKit

theorem clo_time' {w : World} {b : Nat} {T : TypeId} {s : ClockS} {t : Int} (hM : w.heap[b]? = some (cloO T s)) (ht : s.time = t) : Calls Try.prog 41 #[.pointer (some ⟨b, 0, none⟩)] w fun e w' => e = .returned (.int .u16 t) ∧ w = w' := ht ▸ clo_time hM
theorem clo_part' {w : World} {b : Nat} {T : TypeId} {s : ClockS} {t : Int} (hM : w.heap[b]? = some (cloO T s)) (ht : s.part = t) : Calls Try.prog 42 #[.pointer (some ⟨b, 0, none⟩)] w fun e w' => e = .returned (.int .i64 t) ∧ w = w' := ht ▸ clo_part hM

theorem ClockCounts_walk (a0 : Int) (x1 : Option Addr) (len1 cap1 : Nat) (z1 : List Int) (w0 : (Lit.int .u8 a0).wf = true) (w : World) (r1 : IsRow .u8 w x1 len1 cap1 z1) :
    Holds 9 #[.int .u8 a0, .slice x1 len1 cap1] w := by
  have b0 := u8_bounds w0
  clear w0
  unfold Holds
  by_cases c1 : 300 < len1
  · go_enter Try.func9, Try.ntmps9
    go_wp2_with (go_at_call 38; refine (clock_known _).mono ?_; rintro e w1 ⟨rfl, hb⟩)
    go_ret
    exact ⟨rfl, ‹Below _ _ _›⟩
  have R1 := Lib.hid r1
  clear r1
  have NE := Lib.hid (show ClockS.new (a0 % 64 + 1) = ⟨a0 % 64 + 1, (a0 % 64 + 1) * 256, 0, 0⟩ by unfold ClockS.new; rw [show min (max (a0 % 64 + 1) 1) 64 = a0 % 64 + 1 by omega])
  have OK := Lib.hid (ClockS.Ok.new (a0 % 64 + 1))
  go_enter Try.func9, Try.ntmps9
  go_wp2_with fail
  refine (clock_known _).mono ?_
  rintro e w1 ⟨rfl, hb⟩
  go_wp2_with fail
  refine (own_add (Own.nil_ hb hb.size) (clo_new _ _)).mono ?_
  rintro e w2 ⟨b, rfl, hO⟩
  clear hb
  go_wp2_with fail
  go_loopw [7, 8] (fun sm i wr => ∃ (k : Nat) (S : Int) (s : ClockS), i = .int .i64 k ∧ sm = .int .i64 S ∧ k ≤ len1 ∧ 0 ≤ S ∧ S ≤ 8 * k ∧ s.Ok ∧ s.num = (a0 % 64 + 1) * 256 ∧ s.time * s.num + s.part = S * 256 ∧ Own w.heap.size w [(b, cloO 84 s)] wr) (fun _ i _ => len1 - (intOf i).toNat)
  case atStart => exact ⟨0, 0, _, rfl, rfl, by omega, by omega, by omega, OK.out, by rw [NE.out], by rw [NE.out]; simp, hO⟩
  case round =>
    clear hO
    obtain ⟨k, S, s, rfl, rfl, hk, hS0, hS1, hok, hnum, hinv, hO⟩ := hrel
    by_cases hlt : k < len1
    · obtain ⟨bb, off, rfl, hc, hwf, hbl⟩ := R1.out.at_ hlt
      obtain ⟨v, hv⟩ : ∃ v, v = z1.getD k 0 := ⟨_, rfl⟩
      rw [← hv] at hc hwf
      have hc1 := hO.bel.cell (p := ⟨bb, off + k, none⟩) hbl
      rw [hc] at hc1
      have HC := Lib.hid hc
      have hv8 := u8_bounds hwf
      clear hc hv hwf
      have hm : min (max (v % 9) 0) 8 = v % 9 := by omega
      have hinv' := tick_inv hok (n := v % 9) hinv (by rw [hm, hnum]; omega)
      rw [hm] at hinv'
      have hok' := hok.tick (v % 9)
      obtain ⟨s', hs'⟩ : ∃ s', s.tick (v % 9) = s' := ⟨_, rfl⟩
      rw [hs'] at hinv' hok'
      have hnum' : s'.num = (a0 % 64 + 1) * 256 := by rw [← hs']; exact hnum
      rw [hnum] at hinv'
      have O8 := hok'
      obtain ⟨g1, g2, g3, g4, g5, g6, g7, g8⟩ := O8
      rw [hnum'] at g6
      obtain ⟨T, hT⟩ : ∃ T, s'.time = T := ⟨_, rfl⟩
      obtain ⟨Pt, hPt⟩ : ∃ T, s'.part = T := ⟨_, rfl⟩
      rw [hT] at hinv' g7 g8
      rw [hPt] at hinv' g5 g6
      have hTu : 0 ≤ T * (a0 % 64 + 1) := Int.mul_nonneg g7 (by omega)
      have hTe : T * (a0 % 64 + 1) * 256 + Pt = (S + v % 9) * 256 := by rw [Int.mul_assoc]; exact hinv'
      have hTu1 : T * (a0 % 64 + 1) ≤ 3000 := by omega
      have d1 : (T * (a0 % 64 + 1) * 256 + Pt != (S + v % 9) * 256) = false := by rw [bne_eq_false_iff_eq]; exact hTe
      have HO := Lib.hid hok
      have HS := Lib.hid hs'
      have H1 := Lib.hid hnum
      have H2 := Lib.hid hinv
      have H3 := Lib.hid hinv'
      have H4 := Lib.hid hnum'
      have H5 := Lib.hid hT
      have H6 := Lib.hid hPt
      have H7 := Lib.hid hok'
      clear hm hinv hinv' hnum hnum' hT hPt hs' hok hok' hTe
      go_wp2_with fail
      refine (own_upd0 hO (clo_tick hO.get0 _ HO.out)).mono ?_
      rintro e w3 ⟨rfl, hO⟩
      rw [HS.out] at hO
      have hc2 := hO.bel.cell (p := ⟨bb, off + k, none⟩) hbl
      rw [HC.out] at hc2
      go_wp2_with fail
      refine (own_same hO (clo_time hO.get0)).mono ?_
      rintro e w4 ⟨rfl, hO⟩
      rw [H5.out]
      go_wp2_with fail
      refine (own_same hO (clo_part hO.get0)).mono ?_
      rintro e w5 ⟨rfl, hO⟩
      rw [H6.out]
      go_wp2_with fail
      refine (own_same hO (clo_part hO.get0)).mono ?_
      rintro e w6 ⟨rfl, hO⟩
      rw [H6.out]
      go_wp2_with fail
      go_roundw
      case rel => exact ⟨k + 1, S + v % 9, s', by go_num, rfl, by omega, by omega, by omega, H7.out, H4.out, by rw [H5.out, H6.out, H4.out]; exact H3.out, hO⟩
      case measure => simp [intOf]; omega
    · go_wp2
      go_ret
      exact ⟨rfl, hO.bel⟩

theorem ClockSteady_walk (a0 a1 a2 : Int) (w0 : (Lit.int .u8 a0).wf = true) (w1 : (Lit.int .u8 a1).wf = true) (w2 : (Lit.int .u16 a2).wf = true) (w : World) :
    Holds 12 #[.int .u8 a0, .int .u8 a1, .int .u16 a2] w := by
  have b0 := u8_bounds w0
  have b1 := u8_bounds w1
  have b2 := u16_bounds w2
  clear w0 w1 w2
  have NE := Lib.hid (show ClockS.new (a0 % 64 + 1) = ⟨a0 % 64 + 1, (a0 % 64 + 1) * 256, 0, 0⟩ by unfold ClockS.new; rw [show min (max (a0 % 64 + 1) 1) 64 = a0 % 64 + 1 by omega])
  have OK := Lib.hid (ClockS.Ok.new (a0 % 64 + 1))
  obtain ⟨n, hn⟩ : ∃ n : Nat, (n : Int) = a2 % 3000 := ⟨(a2 % 3000).toNat, by omega⟩
  have hn3 : n < 3000 := by omega
  unfold Holds
  go_enter Try.func12, Try.ntmps12
  go_wp2_with fail
  refine (clock_known _).mono ?_
  rintro e w1 ⟨rfl, hb⟩
  go_wp2_with fail
  refine (own_add (Own.nil_ hb hb.size) (clo_new _ _)).mono ?_
  rintro e w2 ⟨b, rfl, hO⟩
  clear hb
  go_wp2_with fail
  go_loopw [10] (fun i wr => ∃ (k : Nat) (s : ClockS), i = .int .i64 k ∧ k ≤ n ∧ s.Ok ∧ s.num = (a0 % 64 + 1) * 256 ∧ s.time * s.num + s.part = (k * (a1 % 9)) * 256 ∧ Own w.heap.size w [(b, cloO 84 s)] wr) (fun i _ => n - (intOf i).toNat)
  case atStart => exact ⟨0, _, rfl, by omega, OK.out, by rw [NE.out], by rw [NE.out]; simp, hO⟩
  case round =>
    clear hO
    obtain ⟨k, s, rfl, hk, hok, hnum, hinv, hO⟩ := hrel
    by_cases hlt : k < n
    · have hlt' : (k : Int) < a2 % 3000 := by omega
      have hm : min (max (a1 % 9) 0) 8 = a1 % 9 := by omega
      have hprod : (k : Int) * (a1 % 9) ≤ 3000 * 8 := Int.mul_le_mul (by omega) (by omega) (by omega) (by omega)
      have hinv' := tick_inv hok (n := a1 % 9) hinv (by rw [hm, hnum]; omega)
      rw [hm] at hinv'
      have HO := Lib.hid hok
      have H1 := Lib.hid hnum
      have H3 := Lib.hid hinv'
      have HN := Lib.hid hn
      clear hm hinv hinv' hnum hok hn hprod
      go_wp2_with fail
      refine (own_upd0 hO (clo_tick hO.get0 _ HO.out)).mono ?_
      rintro e w3 ⟨rfl, hO⟩
      go_wp2_with fail
      go_roundw
      case rel =>
        refine ⟨k + 1, s.tick (a1 % 9), by go_num, by omega, HO.out.tick _, H1.out, ?_, hO⟩
        have := H3.out
        rw [show (s.tick (a1 % 9)).num = s.num from rfl, this, show (((k + 1 : Nat) : Int)) = (k : Int) + 1 from by omega, Int.add_mul (k : Int) 1, Int.one_mul]
      case measure => simp [intOf]; omega
    · have hlt' : ¬ (k : Int) < a2 % 3000 := by omega
      obtain rfl : k = n := by omega
      obtain ⟨g1, g2, g3, g4, g5, g6, g7, g8⟩ := hok
      obtain ⟨T, hT⟩ : ∃ T, s.time = T := ⟨_, rfl⟩
      obtain ⟨Pt, hPt⟩ : ∃ T, s.part = T := ⟨_, rfl⟩
      rw [hT, hnum, hPt, hn] at hinv
      rw [hnum, hPt] at g6
      rw [hPt] at g5
      obtain ⟨X, hX⟩ : ∃ X, a2 % 3000 * (a1 % 9) = X := ⟨_, rfl⟩
      have hX0 : 0 ≤ X := by rw [← hX]; exact Int.mul_nonneg (by omega) (by omega)
      have hX1 : X ≤ 3000 * 8 := by rw [← hX]; exact Int.mul_le_mul (by omega) (by omega) (by omega) (by omega)
      rw [hX] at hinv
      -- the part is a whole number of ticks
      have hp : ∃ p', Pt = p' * 256 := ⟨X - T * (a0 % 64 + 1), by rw [Int.sub_mul, Int.mul_assoc]; omega⟩
      obtain ⟨p', rfl⟩ := hp
      have e1 : T * (a0 % 64 + 1) + p' = X := by rw [← Int.mul_assoc] at hinv; omega
      obtain ⟨f1, f2⟩ := inv_done (t := T) (n := a0 % 64 + 1) (p := p') (X := X) (by omega) (by omega) (by omega) e1
      have HT := Lib.hid hT
      have HP := Lib.hid hPt
      have HN := Lib.hid hn
      have q1 : IntKind.i64.wrap T = T := IntWalk.i64_in _ (by omega)
      have q2 : a2.tmod 3000 = a2 % 3000 := Int.tmod_eq_emod_of_nonneg (by omega)
      have q3 : IntKind.i64.wrap (a2 % 3000) = a2 % 3000 := IntWalk.i64_in _ (by omega)
      have q4 : IntKind.i64.wrap (a2 % 3000 * (a1 % 9)) = X := by rw [hX]; exact IntWalk.i64_in _ (by omega)
      have q5 : X.tdiv (a0 % 64 + 1) = T := by rw [Int.tdiv_eq_ediv_of_nonneg hX0]; exact f1
      have q6 : X.tmod (a0 % 64 + 1) = p' := by rw [Int.tmod_eq_emod_of_nonneg hX0]; exact f2
      have q7 : IntKind.i64.wrap (p' * 256) = p' * 256 := IntWalk.i64_in _ (by omega)
      have q8 : IntKind.i64.wrap p' = p' := IntWalk.i64_in _ (by omega)
      clear hT hPt hn hinv hnum e1 hX f1 f2
      go_wp2
      go_quiet ((first | (go_at_call 41; exact quiet_left (clo_time' (w := World.drewN _ _) hO.get0 HT.out)) | (go_at_call 42; exact quiet_left (clo_part' (w := World.drewN _ _) hO.get0 HP.out))))
      go_wp2
      go_ret
      exact ⟨rfl, below_drewN hO.bel _⟩

set_option maxRecDepth 100000 in
theorem ClockCounts_lifted (os : Os) (started : os.Started) (H : Type) (enc : TypeId × Value → H) :
    ReturnsInHanded {} Try.checked os 9 .any (Rows.clockCountsSpec.pre6 enc Try.prog Try.f9 [] false) (Rows.clockCountsSpec.post enc Try.prog Try.f9 false true false false) := by
  refine law_lifted (n := 2) os started H enc (by kernel_rfl) Try.func9 rfl rfl (hts_of (by kernel_rfl)) rfl (fun ds h => match ds, h with | [_, _], _ => rfl)
    (ChangeSpec.witness6 (enc := enc) (C := Try.checked) false ⟨#[], #[.int .u8 0, .slice none 0 0], []⟩ 8 (by kernel_rfl) (by kernel_rfl) (by kernel_rfl) (by kernel_rfl)) ?_
  intro W base args ds p hval hA
  rw [Try.params9] at hA hval
  obtain ⟨v0, vs0, d0, ds0, p0, q0, hargs, rfl, rfl, h0, r0⟩ := trodAll_cons hA
  obtain ⟨v1, vs1, d1, ds1, p1, q1, rfl, rfl, rfl, h1, r1⟩ := trodAll_cons r0
  obtain ⟨rfl, rfl, rfl⟩ := trodAll_nil r1
  obtain rfl : args = #[v0, v1] := by cases args; simp_all
  obtain ⟨a0, rfl, rfl, rfl, w0⟩ := open_int Try.underlying5 (hval 0 _ v0 rfl rfl) h0
  obtain ⟨x1, len1, cap1, rfl⟩ := okWide_slice Try.underlying36 (hval 1 _ v1 rfl rfl)
  obtain ⟨z1, w1⟩ : ∃ zs, IsRow .u8 W x1 len1 cap1 zs := isRow_of Try.underlying36 Try.underlying5 (by kernel_rfl) h1
  exact ClockCounts_walk a0 x1 len1 cap1 z1 w0 W w1

theorem ClockCounts_over : Rows.clockCountsRow.holds Try.pinned (OpenSpec.ofChange Rows.clockCountsSpec) :=
  OpenClaim.holds_of_wide 9 Try.f9 rfl rfl rfl rfl rfl rfl rfl ⟨rfl, rfl, rfl, rfl, rfl⟩ rfl rfl rfl rfl rfl (by kernel_rfl) Try.func9 (by kernel_rfl)
    (of_decide_eq_true (by kernel_rfl)) (by unfold Func.isWrapper; first | (rw [if_pos (by decide +kernel)]; kernel_rfl) | (rw [if_neg (by decide +kernel)]; exact ⟨rfl, rfl⟩))
    (fun os started H enc _ => ClockCounts_lifted os started H enc)
theorem ClockCounts_holds : Rows.ClockCountsSaid := ClockCounts_over
#print axioms ClockCounts_holds

set_option maxRecDepth 100000 in
theorem ClockSteady_lifted (os : Os) (started : os.Started) (H : Type) (enc : TypeId × Value → H) :
    ReturnsInHanded {} Try.checked os 12 .any (Rows.clockSteadySpec.pre6 enc Try.prog Try.f12 [] false) (Rows.clockSteadySpec.post enc Try.prog Try.f12 false true false false) := by
  refine law_lifted (n := 3) os started H enc (by kernel_rfl) Try.func12 rfl rfl (hts_of (by kernel_rfl)) rfl (fun ds h => match ds, h with | [_, _, _], _ => rfl)
    (ChangeSpec.witness6 (enc := enc) (C := Try.checked) false ⟨#[], #[.int .u8 0, .int .u8 0, .int .u16 0], []⟩ 8 (by kernel_rfl) (by kernel_rfl) (by kernel_rfl) (by kernel_rfl)) ?_
  intro W base args ds p hval hA
  rw [Try.params12] at hA hval
  obtain ⟨v0, vs0, d0, ds0, p0, q0, hargs, rfl, rfl, h0, r0⟩ := trodAll_cons hA
  obtain ⟨v1, vs1, d1, ds1, p1, q1, rfl, rfl, rfl, h1, r1⟩ := trodAll_cons r0
  obtain ⟨v2, vs2, d2, ds2, p2, q2, rfl, rfl, rfl, h2, r2⟩ := trodAll_cons r1
  obtain ⟨rfl, rfl, rfl⟩ := trodAll_nil r2
  obtain rfl : args = #[v0, v1, v2] := by cases args; simp_all
  obtain ⟨a0, rfl, rfl, rfl, w0⟩ := open_int Try.underlying5 (hval 0 _ v0 rfl rfl) h0
  obtain ⟨a1, rfl, rfl, rfl, w1⟩ := open_int Try.underlying5 (hval 1 _ v1 rfl rfl) h1
  obtain ⟨a2, rfl, rfl, rfl, w2⟩ := open_int Try.underlying22 (hval 2 _ v2 rfl rfl) h2
  exact ClockSteady_walk a0 a1 a2 w0 w1 w2 W 

theorem ClockSteady_over : Rows.clockSteadyRow.holds Try.pinned (OpenSpec.ofChange Rows.clockSteadySpec) :=
  OpenClaim.holds_of_wide 12 Try.f12 rfl rfl rfl rfl rfl rfl rfl ⟨rfl, rfl, rfl, rfl, rfl⟩ rfl rfl rfl rfl rfl (by kernel_rfl) Try.func12 (by kernel_rfl)
    (of_decide_eq_true (by kernel_rfl)) (by unfold Func.isWrapper; first | (rw [if_pos (by decide +kernel)]; kernel_rfl) | (rw [if_neg (by decide +kernel)]; exact ⟨rfl, rfl⟩))
    (fun os started H enc _ => ClockSteady_lifted os started H enc)
theorem ClockSteady_holds : Rows.ClockSteadySaid := ClockSteady_over
#print axioms ClockSteady_holds
end Go.Proofs.Ytkciakbkiloknaa
