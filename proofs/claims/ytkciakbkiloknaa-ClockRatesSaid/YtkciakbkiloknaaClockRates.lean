/- ClockRates: a slower rate makes units longer by just so much; what is beyond an eighth isn't taken: at every input. No conditions. -/
import Derived.Test.YtkciakbkiloknaaClockMore
namespace Go.Proofs.Ytkciakbkiloknaa
set_option linter.unusedVariables false
set_option linter.unusedSimpArgs false
open Go.ChangeShapes Go.WideShapes Go.ChangeAt Go.RowKit

theorem rates_core (a0 a1 a2 : Int) (b0 : 0 ≤ a0 ∧ a0 < 256) (b1 : -128 ≤ a1 ∧ a1 ≤ 127) (b2 : 0 ≤ a2 ∧ a2 < 65536) (F : Int) (hF : (a1 * (a0 % 64 + 1)).tdiv 4 = F) (hFb : -2048 ≤ F ∧ F ≤ 2048)
    (hY : -8192 ≤ a1 * (a0 % 64 + 1) ∧ a1 * (a0 % 64 + 1) ≤ 8192) (ok : Bool) (hok : ok = decide (-(32 * (a0 % 64 + 1)) ≤ F ∧ F ≤ 32 * (a0 % 64 + 1))) (w : World) :
    Holds 11 #[.int .u8 a0, .int .i8 a1, .int .u16 a2] w := by
  have NE := Lib.hid (show ClockS.new (a0 % 64 + 1) = ⟨a0 % 64 + 1, (a0 % 64 + 1) * 256, 0, 0⟩ by unfold ClockS.new; rw [show min (max (a0 % 64 + 1) 1) 64 = a0 % 64 + 1 by omega])
  have OK := Lib.hid (ClockS.Ok.new (a0 % 64 + 1))
  have TK := Lib.hid (show (ClockS.new (a0 % 64 + 1)).takes (256 * (a0 % 64 + 1) + F) 256 = ok by rw [NE.out, hok]; simp only [ClockS.takes]; rw [decide_eq_decide]; exact ⟨fun h => ⟨by have := h.2.1; omega, by have := h.2.2; omega⟩, fun h => ⟨trivial, by have := h.1; omega, by have := h.2; omega⟩⟩)
  have W1 := Lib.hid (show (Lit.int .i64 (256 * (a0 % 64 + 1) + F)).wf = true from WalkArith.wf_i64 (by omega))
  obtain ⟨M, hM⟩ : ∃ M, M = if ok then 256 * (a0 % 64 + 1) + F else 256 * (a0 % 64 + 1) := ⟨_, rfl⟩
  have hMb : 224 ≤ M ∧ M ≤ 20000 := by
    cases ok
    · simp at hM; omega
    · simp at hM hok; omega
  have RT := Lib.hid (show (ClockS.new (a0 % 64 + 1)).rate (256 * (a0 % 64 + 1) + F) 256 = ⟨a0 % 64 + 1, M, 0, 0⟩ by
    unfold ClockS.rate
    rw [TK.out, NE.out]
    cases ok
    · simp at hM ⊢; omega
    · simp at hM ⊢; omega)
  have OK2 := Lib.hid (show ClockS.Ok ⟨a0 % 64 + 1, M, 0, 0⟩ by unfold ClockS.Ok; simp only; omega)
  obtain ⟨n, hn⟩ : ∃ n : Nat, (n : Int) = a2 % 3000 := ⟨(a2 % 3000).toNat, by omega⟩
  have hn3 : n < 3000 := by omega
  have HK := Lib.hid hok
  have HM := Lib.hid hM
  have k1 : F ≤ 32 * (a0 % 64 + 1) ∨ 32 * (a0 % 64 + 1) < F := by omega
  have q0 : wrap64 F = F := by unfold wrap64; omega
  have q0' : IntKind.i64.wrap F = F := IntWalk.i64_in _ (by omega)
  clear hok hM k1
  unfold Holds
  have fin : ∀ (k : Nat) (s : ClockS), k = n → s.Ok → s.num = M → s.time * s.num + s.part = k * 256 → (a2 % 3000 * 256) / M = s.time ∧ (a2 % 3000 * 256) % M = s.part ∧ s.time < 65536 ∧ 0 ≤ s.time ∧ 0 ≤ s.part ∧ s.part < 20000 := by
    intro k s hk hok hnum hinv
    obtain ⟨g1, g2, g3, g4, g5, g6, g7, g8⟩ := hok
    rw [hnum] at hinv g6
    have := inv_done (t := s.time) (n := M) (p := s.part) (X := k * 256) (by omega) g5 g6 hinv
    rw [← hn, ← hk]
    exact ⟨this.1, this.2, g8, g7, g5, by omega⟩
  have FIN := Lib.hid fin
  clear fin
  cases ok
  · have HK2 : ¬ (-(32 * (a0 % 64 + 1)) ≤ F ∧ F ≤ 32 * (a0 % 64 + 1)) := by have := HK.out; simpa using this
    by_cases k1 : F ≤ 32 * (a0 % 64 + 1)
    · have k2 : F < -(32 * (a0 % 64 + 1)) := by omega
      clear HK2
      go_enter Try.func11, Try.ntmps11
      go_wp2_with fail
      refine (clock_known _).mono ?_
      rintro e w1 ⟨rfl, hb⟩
      go_wp2_with fail
      refine (own_add (Own.nil_ hb hb.size) (clo_new _ _)).mono ?_
      rintro e w2 ⟨b, rfl, hO⟩
      clear hb
      go_wp2_with fail
      refine (own_upd0 hO (clo_setRate hO.get0 _ _ W1.out OK.out)).mono ?_
      rintro e w3 ⟨rfl, hO⟩
      rw [RT.out] at hO
      rw [TK.out]
      go_wp2_with fail
      go_loopw [13] (fun i wr => ∃ (k : Nat) (s : ClockS), i = .int .i64 k ∧ k ≤ n ∧ s.Ok ∧ s.num = M ∧ s.time * s.num + s.part = k * 256 ∧ Own w.heap.size w [(b, cloO 84 s)] wr) (fun i _ => n - (intOf i).toNat)
      case atStart => exact ⟨0, _, rfl, by omega, OK2.out, rfl, by simp, hO⟩
      case round =>
        clear hO
        obtain ⟨k, s, rfl, hk, hok, hnum, hinv, hO⟩ := hrel
        by_cases hlt : k < n
        · have hlt' : (k : Int) < a2 % 3000 := by omega
          have hinv' := tick_inv hok (n := 1) hinv (by rw [hnum]; omega)
          have HO := Lib.hid hok
          have H1 := Lib.hid hnum
          have H3 := Lib.hid hinv'
          have HN := Lib.hid hn
          clear hinv hinv' hnum hok hn
          go_wp2_with fail
          refine (own_upd0 hO (clo_tick hO.get0 _ HO.out)).mono ?_
          rintro e w3 ⟨rfl, hO⟩
          go_wp2_with fail
          go_roundw
          case rel =>
            refine ⟨k + 1, s.tick 1, by go_num, by omega, HO.out.tick _, H1.out, ?_, hO⟩
            have := H3.out
            rw [show (s.tick 1).num = s.num from rfl, this]
            omega
          case measure => simp [intOf]; omega
        · have hlt' : ¬ (k : Int) < a2 % 3000 := by omega
          obtain ⟨f1, f2, g1, g2, g3, g4⟩ := FIN.out k s (by omega) hok hnum hinv
          obtain ⟨T, hT⟩ : ∃ T, s.time = T := ⟨_, rfl⟩
          obtain ⟨Pt, hPt⟩ : ∃ T, s.part = T := ⟨_, rfl⟩
          rw [hT] at f1 g1 g2
          rw [hPt] at f2 g3 g4
          have HT := Lib.hid hT
          have HP := Lib.hid hPt
          have HN := Lib.hid hn
          have hX0 : 0 ≤ a2 % 3000 * 256 := by omega
          have q1 : IntKind.i64.wrap T = T := IntWalk.i64_in _ (by omega)
          have q2 : a2.tmod 3000 = a2 % 3000 := Int.tmod_eq_emod_of_nonneg (by omega)
          have q3 : IntKind.i64.wrap (a2 % 3000) = a2 % 3000 := IntWalk.i64_in _ (by omega)
          have q4 : IntKind.i64.wrap (a2 % 3000 * 256) = a2 % 3000 * 256 := IntWalk.i64_in _ (by omega)
          have q5 : (a2 % 3000 * 256).tdiv (256 * (a0 % 64 + 1)) = T := by rw [Int.tdiv_eq_ediv_of_nonneg hX0]; rw [show M = 256 * (a0 % 64 + 1) by have := HM.out; simpa using this] at f1; exact f1
          have q6 : (a2 % 3000 * 256).tmod (256 * (a0 % 64 + 1)) = Pt := by rw [Int.tmod_eq_emod_of_nonneg hX0]; rw [show M = 256 * (a0 % 64 + 1) by have := HM.out; simpa using this] at f2; exact f2
          have q8 : IntKind.i64.wrap Pt = Pt := IntWalk.i64_in _ (by omega)
          clear hT hPt hn hinv hnum f1 f2
          go_wp2
          go_quiet ((first | (go_at_call 41; exact quiet_left (clo_time' (w := World.drewN _ _) hO.get0 HT.out)) | (go_at_call 42; exact quiet_left (clo_part' (w := World.drewN _ _) hO.get0 HP.out))))
          go_wp2
          go_ret
          exact ⟨rfl, below_drewN hO.bel _⟩
    · clear HK2
      go_enter Try.func11, Try.ntmps11
      go_wp2_with fail
      refine (clock_known _).mono ?_
      rintro e w1 ⟨rfl, hb⟩
      go_wp2_with fail
      refine (own_add (Own.nil_ hb hb.size) (clo_new _ _)).mono ?_
      rintro e w2 ⟨b, rfl, hO⟩
      clear hb
      go_wp2_with fail
      refine (own_upd0 hO (clo_setRate hO.get0 _ _ W1.out OK.out)).mono ?_
      rintro e w3 ⟨rfl, hO⟩
      rw [RT.out] at hO
      rw [TK.out]
      go_wp2_with fail
      go_loopw [13] (fun i wr => ∃ (k : Nat) (s : ClockS), i = .int .i64 k ∧ k ≤ n ∧ s.Ok ∧ s.num = M ∧ s.time * s.num + s.part = k * 256 ∧ Own w.heap.size w [(b, cloO 84 s)] wr) (fun i _ => n - (intOf i).toNat)
      case atStart => exact ⟨0, _, rfl, by omega, OK2.out, rfl, by simp, hO⟩
      case round =>
        clear hO
        obtain ⟨k, s, rfl, hk, hok, hnum, hinv, hO⟩ := hrel
        by_cases hlt : k < n
        · have hlt' : (k : Int) < a2 % 3000 := by omega
          have hinv' := tick_inv hok (n := 1) hinv (by rw [hnum]; omega)
          have HO := Lib.hid hok
          have H1 := Lib.hid hnum
          have H3 := Lib.hid hinv'
          have HN := Lib.hid hn
          clear hinv hinv' hnum hok hn
          go_wp2_with fail
          refine (own_upd0 hO (clo_tick hO.get0 _ HO.out)).mono ?_
          rintro e w3 ⟨rfl, hO⟩
          go_wp2_with fail
          go_roundw
          case rel =>
            refine ⟨k + 1, s.tick 1, by go_num, by omega, HO.out.tick _, H1.out, ?_, hO⟩
            have := H3.out
            rw [show (s.tick 1).num = s.num from rfl, this]
            omega
          case measure => simp [intOf]; omega
        · have hlt' : ¬ (k : Int) < a2 % 3000 := by omega
          obtain ⟨f1, f2, g1, g2, g3, g4⟩ := FIN.out k s (by omega) hok hnum hinv
          obtain ⟨T, hT⟩ : ∃ T, s.time = T := ⟨_, rfl⟩
          obtain ⟨Pt, hPt⟩ : ∃ T, s.part = T := ⟨_, rfl⟩
          rw [hT] at f1 g1 g2
          rw [hPt] at f2 g3 g4
          have HT := Lib.hid hT
          have HP := Lib.hid hPt
          have HN := Lib.hid hn
          have hX0 : 0 ≤ a2 % 3000 * 256 := by omega
          have q1 : IntKind.i64.wrap T = T := IntWalk.i64_in _ (by omega)
          have q2 : a2.tmod 3000 = a2 % 3000 := Int.tmod_eq_emod_of_nonneg (by omega)
          have q3 : IntKind.i64.wrap (a2 % 3000) = a2 % 3000 := IntWalk.i64_in _ (by omega)
          have q4 : IntKind.i64.wrap (a2 % 3000 * 256) = a2 % 3000 * 256 := IntWalk.i64_in _ (by omega)
          have q5 : (a2 % 3000 * 256).tdiv (256 * (a0 % 64 + 1)) = T := by rw [Int.tdiv_eq_ediv_of_nonneg hX0]; rw [show M = 256 * (a0 % 64 + 1) by have := HM.out; simpa using this] at f1; exact f1
          have q6 : (a2 % 3000 * 256).tmod (256 * (a0 % 64 + 1)) = Pt := by rw [Int.tmod_eq_emod_of_nonneg hX0]; rw [show M = 256 * (a0 % 64 + 1) by have := HM.out; simpa using this] at f2; exact f2
          have q8 : IntKind.i64.wrap Pt = Pt := IntWalk.i64_in _ (by omega)
          clear hT hPt hn hinv hnum f1 f2
          go_wp2
          go_quiet ((first | (go_at_call 41; exact quiet_left (clo_time' (w := World.drewN _ _) hO.get0 HT.out)) | (go_at_call 42; exact quiet_left (clo_part' (w := World.drewN _ _) hO.get0 HP.out))))
          go_wp2
          go_ret
          exact ⟨rfl, below_drewN hO.bel _⟩
  · have HK2 : (-(32 * (a0 % 64 + 1)) ≤ F ∧ F ≤ 32 * (a0 % 64 + 1)) := by have := HK.out; simpa using this
    obtain ⟨k1, k2⟩ := HK2
    have d9 : decide (-32 * (a0 % 64 + 1) ≤ F) = true := by simp; omega
    go_enter Try.func11, Try.ntmps11
    go_wp2_with fail
    refine (clock_known _).mono ?_
    rintro e w1 ⟨rfl, hb⟩
    go_wp2_with fail
    refine (own_add (Own.nil_ hb hb.size) (clo_new _ _)).mono ?_
    rintro e w2 ⟨b, rfl, hO⟩
    clear hb
    go_wp2_with fail
    refine (own_upd0 hO (clo_setRate hO.get0 _ _ W1.out OK.out)).mono ?_
    rintro e w3 ⟨rfl, hO⟩
    rw [RT.out] at hO
    rw [TK.out]
    go_wp2_with fail
    go_loopw [13] (fun i wr => ∃ (k : Nat) (s : ClockS), i = .int .i64 k ∧ k ≤ n ∧ s.Ok ∧ s.num = M ∧ s.time * s.num + s.part = k * 256 ∧ Own w.heap.size w [(b, cloO 84 s)] wr) (fun i _ => n - (intOf i).toNat)
    case atStart => exact ⟨0, _, rfl, by omega, OK2.out, rfl, by simp, hO⟩
    case round =>
      clear hO
      obtain ⟨k, s, rfl, hk, hok, hnum, hinv, hO⟩ := hrel
      by_cases hlt : k < n
      · have hlt' : (k : Int) < a2 % 3000 := by omega
        have hinv' := tick_inv hok (n := 1) hinv (by rw [hnum]; omega)
        have HO := Lib.hid hok
        have H1 := Lib.hid hnum
        have H3 := Lib.hid hinv'
        have HN := Lib.hid hn
        clear hinv hinv' hnum hok hn
        go_wp2_with fail
        refine (own_upd0 hO (clo_tick hO.get0 _ HO.out)).mono ?_
        rintro e w3 ⟨rfl, hO⟩
        go_wp2_with fail
        go_roundw
        case rel =>
          refine ⟨k + 1, s.tick 1, by go_num, by omega, HO.out.tick _, H1.out, ?_, hO⟩
          have := H3.out
          rw [show (s.tick 1).num = s.num from rfl, this]
          omega
        case measure => simp [intOf]; omega
      · have hlt' : ¬ (k : Int) < a2 % 3000 := by omega
        obtain ⟨f1, f2, g1, g2, g3, g4⟩ := FIN.out k s (by omega) hok hnum hinv
        obtain ⟨T, hT⟩ : ∃ T, s.time = T := ⟨_, rfl⟩
        obtain ⟨Pt, hPt⟩ : ∃ T, s.part = T := ⟨_, rfl⟩
        rw [hT] at f1 g1 g2
        rw [hPt] at f2 g3 g4
        have HT := Lib.hid hT
        have HP := Lib.hid hPt
        have HN := Lib.hid hn
        have hX0 : 0 ≤ a2 % 3000 * 256 := by omega
        have q1 : IntKind.i64.wrap T = T := IntWalk.i64_in _ (by omega)
        have q2 : a2.tmod 3000 = a2 % 3000 := Int.tmod_eq_emod_of_nonneg (by omega)
        have q3 : IntKind.i64.wrap (a2 % 3000) = a2 % 3000 := IntWalk.i64_in _ (by omega)
        have q4 : IntKind.i64.wrap (a2 % 3000 * 256) = a2 % 3000 * 256 := IntWalk.i64_in _ (by omega)
        have q5 : (a2 % 3000 * 256).tdiv (256 * (a0 % 64 + 1) + F) = T := by rw [Int.tdiv_eq_ediv_of_nonneg hX0]; rw [show M = 256 * (a0 % 64 + 1) + F by have := HM.out; simpa using this] at f1; exact f1
        have q6 : (a2 % 3000 * 256).tmod (256 * (a0 % 64 + 1) + F) = Pt := by rw [Int.tmod_eq_emod_of_nonneg hX0]; rw [show M = 256 * (a0 % 64 + 1) + F by have := HM.out; simpa using this] at f2; exact f2
        have q8 : IntKind.i64.wrap Pt = Pt := IntWalk.i64_in _ (by omega)
        clear hT hPt hn hinv hnum f1 f2
        go_wp2
        go_quiet ((first | (go_at_call 41; exact quiet_left (clo_time' (w := World.drewN _ _) hO.get0 HT.out)) | (go_at_call 42; exact quiet_left (clo_part' (w := World.drewN _ _) hO.get0 HP.out))))
        go_wp2
        go_ret
        exact ⟨rfl, below_drewN hO.bel _⟩

theorem ClockRates_walk (a0 a1 a2 : Int) (w0 : (Lit.int .u8 a0).wf = true) (w1 : (Lit.int .i8 a1).wf = true) (w2 : (Lit.int .u16 a2).wf = true) (w : World) :
    Holds 11 #[.int .u8 a0, .int .i8 a1, .int .u16 a2] w := by
  have b0 := u8_bounds w0
  have b1 : -128 ≤ a1 ∧ a1 ≤ 127 := bounds_i8 w1
  have h1 : a1 * (a0 % 64 + 1) ≤ 8192 := by
    rcases Int.le_total 0 a1 with h | h
    · have := Int.mul_le_mul (a := a1) (b := a0 % 64 + 1) (c := 127) (d := 64) (by omega) (by omega) (by omega) (by omega); omega
    · have : a1 * (a0 % 64 + 1) ≤ 0 := Int.mul_nonpos_of_nonpos_of_nonneg h (by omega); omega
  have h2 : -8192 ≤ a1 * (a0 % 64 + 1) := by
    have : (-a1) * (a0 % 64 + 1) ≤ 8192 := by
      rcases Int.le_total 0 (-a1) with h | h
      · have := Int.mul_le_mul (a := -a1) (b := a0 % 64 + 1) (c := 128) (d := 64) (by omega) (by omega) (by omega) (by omega); omega
      · have : (-a1) * (a0 % 64 + 1) ≤ 0 := Int.mul_nonpos_of_nonpos_of_nonneg h (by omega); omega
    rw [Int.neg_mul] at this
    omega
  refine rates_core a0 a1 a2 b0 b1 (u16_bounds w2) _ rfl ?_ ⟨h2, h1⟩ _ rfl w
  generalize a1 * (a0 % 64 + 1) = Y at *
  have : Y.tdiv 4 = if 0 ≤ Y then Y / 4 else -((-Y) / 4) := by
    split
    · exact Int.tdiv_eq_ediv_of_nonneg (by assumption)
    · rw [show Y = -(-Y) by omega, Int.neg_tdiv, Int.tdiv_eq_ediv_of_nonneg (by omega)]; simp
  rw [this]
  split <;> omega

set_option maxRecDepth 100000 in
theorem ClockRates_lifted (os : Os) (started : os.Started) (H : Type) (enc : TypeId × Value → H) :
    ReturnsInHanded {} Try.checked os 11 .any (Rows.clockRatesSpec.pre6 enc Try.prog Try.f11 [] false) (Rows.clockRatesSpec.post enc Try.prog Try.f11 false true false false) := by
  refine law_lifted (n := 3) os started H enc (by kernel_rfl) Try.func11 rfl rfl (hts_of (by kernel_rfl)) rfl (fun ds h => match ds, h with | [_, _, _], _ => rfl)
    (ChangeSpec.witness6 (enc := enc) (C := Try.checked) false ⟨#[], #[.int .u8 0, .int .i8 0, .int .u16 0], []⟩ 8 (by kernel_rfl) (by kernel_rfl) (by kernel_rfl) (by kernel_rfl)) ?_
  intro W base args ds p hval hA
  rw [Try.params11] at hA hval
  obtain ⟨v0, vs0, d0, ds0, p0, q0, hargs, rfl, rfl, h0, r0⟩ := trodAll_cons hA
  obtain ⟨v1, vs1, d1, ds1, p1, q1, rfl, rfl, rfl, h1, r1⟩ := trodAll_cons r0
  obtain ⟨v2, vs2, d2, ds2, p2, q2, rfl, rfl, rfl, h2, r2⟩ := trodAll_cons r1
  obtain ⟨rfl, rfl, rfl⟩ := trodAll_nil r2
  obtain rfl : args = #[v0, v1, v2] := by cases args; simp_all
  obtain ⟨a0, rfl, rfl, rfl, w0⟩ := open_int Try.underlying5 (hval 0 _ v0 rfl rfl) h0
  obtain ⟨a1, rfl, rfl, rfl, w1⟩ := open_int Try.underlying53 (hval 1 _ v1 rfl rfl) h1
  obtain ⟨a2, rfl, rfl, rfl, w2⟩ := open_int Try.underlying22 (hval 2 _ v2 rfl rfl) h2
  exact ClockRates_walk a0 a1 a2 w0 w1 w2 W 

theorem ClockRates_over : Rows.clockRatesRow.holds Try.pinned (OpenSpec.ofChange Rows.clockRatesSpec) :=
  OpenClaim.holds_of_wide 11 Try.f11 rfl rfl rfl rfl rfl rfl rfl ⟨rfl, rfl, rfl, rfl, rfl⟩ rfl rfl rfl rfl rfl (by kernel_rfl) Try.func11 (by kernel_rfl)
    (of_decide_eq_true (by kernel_rfl)) (by unfold Func.isWrapper; first | (rw [if_pos (by decide +kernel)]; kernel_rfl) | (rw [if_neg (by decide +kernel)]; exact ⟨rfl, rfl⟩))
    (fun os started H enc _ => ClockRates_lifted os started H enc)
theorem ClockRates_holds : Rows.ClockRatesSaid := ClockRates_over
#print axioms ClockRates_holds
end Go.Proofs.Ytkciakbkiloknaa
