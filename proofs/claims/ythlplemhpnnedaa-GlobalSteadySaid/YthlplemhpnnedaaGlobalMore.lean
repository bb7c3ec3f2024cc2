/- More laws of one time for all, without a reference: GlobalSteady, GlobalSame hold at every input. No conditions. -/
import Derived.Test.YthlplemhpnnedaaGlobalLaws
import Derived.IntWalk
namespace Go.Proofs.Ythlplemhpnnedaa
set_option linter.unusedVariables false
set_option linter.unusedSimpArgs false
open Go.ChangeShapes Go.WideShapes Go.ChangeAt Go.RowKit

theorem beat_st (s : GlobalS) (who g m : Int) (disc : Bool) (h : 0 ≤ s.st ∧ s.st ≤ 1000) : 1 ≤ (s.beat who g m disc).st ∧ (s.beat who g m disc).st ≤ 1000 := by
  simp only [GlobalS.beat]
  split <;> omega

theorem same_at (s : GlobalS) (who g m d : Int) (hs : 0 ≤ s.st ∧ s.st ≤ 1000) : (s.beat who g m false).at (IntKind.u16.wrap (m + d)) = (g + d) % 65536 := by
  have := beat_st s who g m false hs
  unfold GlobalS.at
  rw [if_neg (by omega), wu16]
  simp only [GlobalS.beat]
  omega
theorem same_at0 (s : GlobalS) (who g m : Int) (hs : 0 ≤ s.st ∧ s.st ≤ 1000) (hg : 0 ≤ g ∧ g < 65536) : (s.beat who g m false).at m = g := by
  have := beat_st s who g m false hs
  unfold GlobalS.at
  rw [if_neg (by omega)]
  simp only [GlobalS.beat]
  omega

theorem same_core (a0 a1 a2 : Int) (x3 : Option Addr) (len3 cap3 : Nat) (z3 : List Int) (a4 : Int) (b4 : 0 ≤ a4 ∧ a4 < 256) (w : World) (r3 : IsRow .u8 w x3 len3 cap3 z3) :
    Holds 5 #[.int .u16 a0, .int .u16 a1, .int .u16 a2, .slice x3 len3 cap3, .int .u8 a4] w := by
  unfold Holds
  by_cases c1 : 50 < len3
  · go_enter Try.func5, Try.ntmps5
    go_wp2_with (go_at_call 8; refine (global_known _).mono ?_; rintro e w1 ⟨rfl, hb⟩)
    go_ret
    exact ⟨rfl, ‹Below _ _ _›⟩
  have R3 := Lib.hid r3
  clear r3
  go_enter Try.func5, Try.ntmps5
  go_wp2_with fail
  refine (global_known _).mono ?_
  rintro e w1 ⟨rfl, hb⟩
  go_wp2_with fail
  refine (own_add (Own.nil_ hb hb.size) (glo_new _)).mono ?_
  rintro e w2 ⟨bx, rfl, hO⟩
  clear hb
  go_wp2_with fail
  refine (own_add hO (glo_new _)).mono ?_
  rintro e w3 ⟨by_, rfl, hO⟩
  go_wp2_with fail
  go_loopw [0, 1, 2, 13] (fun va vb vg i wr => ∃ (k : Nat) (a b g : Int) (s t : GlobalS), i = .int .i64 k ∧ va = .int .u16 a ∧ vb = .int .u16 b ∧ vg = .int .u16 g ∧ k ≤ len3 ∧ (0 ≤ s.st ∧ s.st ≤ 1000) ∧ (0 ≤ t.st ∧ t.st ≤ 1000) ∧ Own w.heap.size w [(by_, gloO t), (bx, gloO s)] wr) (fun _ _ _ i _ => len3 - (intOf i).toNat)
  case atStart => exact ⟨0, a0, a1, a2, _, _, rfl, rfl, rfl, rfl, by omega, by decide, by decide, hO⟩
  case round =>
    clear hO
    obtain ⟨k, a, b, g, s, t, rfl, rfl, rfl, rfl, hk, hs, ht, hO⟩ := hrel
    by_cases hlt : k < len3
    · obtain ⟨bb, off, rfl, hc, hwf, hbl⟩ := R3.out.at_ hlt
      have hc1 := hO.bel.cell (p := ⟨bb, off + k, none⟩) hbl
      rw [hc] at hc1
      clear hc
      obtain ⟨v, hv⟩ : ∃ v, v = z3.getD k 0 := ⟨_, rfl⟩
      rw [← hv] at hc1 hwf
      have hv8 := u8_bounds hwf
      clear hv hwf hbl
      obtain ⟨A, hA⟩ : ∃ A, A = IntKind.u16.wrap (a + v) := ⟨_, rfl⟩
      obtain ⟨Bq, hB⟩ : ∃ A, A = IntKind.u16.wrap (b + v) := ⟨_, rfl⟩
      obtain ⟨G, hG⟩ : ∃ A, A = IntKind.u16.wrap (g + v) := ⟨_, rfl⟩
      have hGb : 0 ≤ G ∧ G < 65536 := by rw [hG, wu16]; omega
      have hdb : 0 ≤ (G + a4) % 65536 := by omega
      have HA := Lib.hid hA
      have HB := Lib.hid hB
      have HG := Lib.hid hG
      clear hA hB hG
      go_wp2_with fail
      rw [← HA.out, ← HB.out, ← HG.out]
      refine (own_upd1 hO (glo_beat hO.get1 _ _ _ _ hs)).mono ?_
      rintro e w4 ⟨rfl, hO⟩
      go_wp2_with fail
      refine (own_upd0 hO (glo_beat hO.get0 _ _ _ _ ht)).mono ?_
      rintro e w5 ⟨rfl, hO⟩
      go_wp2_with fail
      refine (own_quiet hO (glo_at hO.get1 _)).mono ?_
      rintro e w6 ⟨rfl, hO⟩
      rw [same_at s 0 G A a4 hs]
      go_wp2_with fail
      refine (own_quiet hO (glo_at hO.get0 _)).mono ?_
      rintro e w7 ⟨rfl, hO⟩
      rw [same_at t 0 G Bq a4 ht]
      go_wp2_with fail
      refine (own_quiet hO (glo_at hO.get1 _)).mono ?_
      rintro e w8 ⟨rfl, hO⟩
      rw [same_at0 s 0 G A hs hGb]
      go_wp2_with fail
      go_roundw
      case rel => exact ⟨k + 1, A, Bq, G, _, _, by go_num, rfl, rfl, rfl, by omega, ⟨by have := beat_st s 0 G A false hs; omega, (beat_st s 0 G A false hs).2⟩, ⟨by have := beat_st t 0 G Bq false ht; omega, (beat_st t 0 G Bq false ht).2⟩, hO⟩
      case measure => simp [intOf]; omega
    · go_wp2
      go_ret
      exact ⟨rfl, hO.bel⟩

/-- What the beats come to, step by step. -/
theorem steady_step (s : GlobalS) (n last who g m : Int) (disc : Bool) (hn : s.st = n) (hl : 0 < n → s.who = last) (h0 : 0 ≤ n) (h1 : n ≤ 900) :
    (s.beat who g m disc).st = (if 0 < n ∧ who = last ∧ disc = false then n + 1 else 1) ∧ (s.beat who g m disc).who = who := by
  refine ⟨?_, rfl⟩
  simp only [GlobalS.beat, hn]
  by_cases c0 : n = 0
  · simp [c0]
  · have := hl (by omega)
    by_cases c1 : s.who = who
    · cases disc <;> simp [c0, c1, ← this, show 0 < n by omega]; omega
    · have c2 : ¬ who = last := fun h => c1 (by rw [this, h])
      simp [c0, c1, c2]

theorem GlobalSteady_walk (x0 : Option Addr) (len0 cap0 : Nat) (z0 : List Int) (w : World) (r0 : IsRow .u8 w x0 len0 cap0 z0) :
    Holds 6 #[.slice x0 len0 cap0] w := by
  unfold Holds
  by_cases c1 : 100 < len0
  · go_enter Try.func6, Try.ntmps6
    go_wp2_with (go_at_call 8; refine (global_known _).mono ?_; rintro e w1 ⟨rfl, hb⟩)
    go_ret
    exact ⟨rfl, ‹Below _ _ _›⟩
  have R0 := Lib.hid r0
  clear r0
  have e1 : GlobalS.new.at 9 = 9 := by decide
  have e2 : GlobalS.new.st = 0 := rfl
  go_enter Try.func6, Try.ntmps6
  go_wp2_with fail
  refine (global_known _).mono ?_
  rintro e w1 ⟨rfl, hb⟩
  go_wp2_with fail
  refine (own_add (Own.nil_ hb hb.size) (glo_new _)).mono ?_
  rintro e w2 ⟨bx, rfl, hO⟩
  clear hb
  go_wp2_with fail
  go_loopw [4, 5, 6] (fun vn vl i wr => ∃ (k : Nat) (n last : Int) (s : GlobalS), i = .int .i64 k ∧ vn = .int .i64 n ∧ vl = .int .i64 last ∧ k ≤ len0 ∧ s.st = n ∧ (0 < n → s.who = last) ∧ 0 ≤ n ∧ n ≤ k ∧ Own w.heap.size w [(bx, gloO s)] wr) (fun _ _ i _ => len0 - (intOf i).toNat)
  case atStart => exact ⟨0, 0, -1, _, rfl, rfl, rfl, by omega, rfl, by omega, by omega, by omega, hO⟩
  case round =>
    clear hO
    obtain ⟨k, n, last, s, rfl, rfl, rfl, hk, hsn, hsl, hn0, hnk, hO⟩ := hrel
    by_cases hlt : k < len0
    · obtain ⟨bb, off, rfl, hc, hwf, hbl⟩ := R0.out.at_ hlt
      have hc1 := hO.bel.cell (p := ⟨bb, off + k, none⟩) hbl
      rw [hc] at hc1
      clear hc
      obtain ⟨v, hv⟩ : ∃ v, v = z0.getD k 0 := ⟨_, rfl⟩
      rw [← hv] at hc1 hwf
      have hv8 := u8_bounds hwf
      clear hv hwf hbl
      have ST := fun (g m : Int) (disc : Bool) => steady_step s n last (v % 3) g m disc hsn hsl hn0 (by omega)
      have SB : 0 ≤ s.st ∧ s.st ≤ 1000 := by omega
      have HST := Lib.hid ST
      have HSB := Lib.hid SB
      clear ST SB hsn hsl
      have q1 : v.tmod 3 = v % 3 := Int.tmod_eq_emod_of_nonneg (by omega)
      have q2 : IntKind.i64.wrap (v % 3) = v % 3 := IntWalk.i64_in _ (by omega)
      have q3 : v.tdiv 3 = v / 3 := Int.tdiv_eq_ediv_of_nonneg (by omega)
      have q4 : (v / 3).tmod 4 = v / 3 % 4 := Int.tmod_eq_emod_of_nonneg (by omega)
      have q5 : IntKind.u8.wrap (v / 3) = v / 3 := IntWalk.u8_in _ (by omega)
      have q6 : IntKind.u8.wrap (v % 3) = v % 3 := IntWalk.u8_in _ (by omega)
      have q7 : IntKind.u8.wrap (v / 3 % 4) = v / 3 % 4 := IntWalk.u8_in _ (by omega)
      by_cases cn : 0 < n
      · by_cases cw : v % 3 = last
        · by_cases cd : v / 3 % 4 = 0
          · have d1 : (v / 3 % 4 == 0) = true := by simp [cd]
            have d2 : (v % 3 == last) = true := by simp [cw]
            have CW := Lib.hid cw
            clear cw
            have ST := Lib.hid (HST.out (100 * (k : Int)) (100 * (k : Int)) true)
            have CD := Lib.hid cd
            clear cd
            go_wp2
            go_quiet (fail)
            replace hO := hO.drewN nq
            go_wp2_with fail
            refine (own_upd0 hO (glo_beat hO.get0 _ _ _ _ HSB.out)).mono ?_
            rintro e w4 ⟨rfl, hO⟩
            obtain ⟨s', hs'⟩ : ∃ s', s' = s.beat (v % 3) (100 * (k : Int)) (100 * (k : Int)) true := ⟨_, rfl⟩
            rw [← hs'] at hO
            have ST2 := ST.out
            rw [← hs'] at ST2
            have HS' := Lib.hid hs'
            clear hs'
            have EV := Lib.hid (show s'.st = 1 by rw [ST2.1, if_neg (by simp)])
            have EW := Lib.hid ST2.2
            clear ST2
            go_wp2_with fail
            refine (own_quiet hO (glo_lengths hO.get0)).mono ?_
            rintro e w5 ⟨rfl, hO⟩
            rw [show s'.ok = decide (2 ≤ s'.st) from rfl, EV.out]
            go_wp2_with fail
            refine (own_same hO (glo_steady hO.get0)).mono ?_
            rintro e w6 ⟨rfl, hO⟩
            rw [EV.out]
            go_wp2_with fail
            go_roundw
            case rel => exact ⟨k + 1, _, _, s', by go_num, rfl, rfl, by omega, EV.out, fun _ => EW.out, by omega, by omega, hO⟩
            case measure => simp [intOf]; omega
          · have d1 : (v / 3 % 4 == 0) = false := by simp [cd]
            have d2 : (v % 3 == last) = true := by simp [cw]
            have CW := Lib.hid cw
            clear cw
            have ST := Lib.hid (HST.out (100 * (k : Int)) (100 * (k : Int)) false)
            have CD := Lib.hid cd
            clear cd
            go_wp2
            go_quiet (fail)
            replace hO := hO.drewN nq
            go_wp2_with fail
            refine (own_upd0 hO (glo_beat hO.get0 _ _ _ _ HSB.out)).mono ?_
            rintro e w4 ⟨rfl, hO⟩
            obtain ⟨s', hs'⟩ : ∃ s', s' = s.beat (v % 3) (100 * (k : Int)) (100 * (k : Int)) false := ⟨_, rfl⟩
            rw [← hs'] at hO
            have ST2 := ST.out
            rw [← hs'] at ST2
            have HS' := Lib.hid hs'
            clear hs'
            have EV := Lib.hid (show s'.st = n + 1 by rw [ST2.1, if_pos ⟨cn, CW.out, by trivial⟩])
            have EW := Lib.hid ST2.2
            clear ST2
            go_wp2_with fail
            refine (own_quiet hO (glo_lengths hO.get0)).mono ?_
            rintro e w5 ⟨rfl, hO⟩
            rw [show s'.ok = decide (2 ≤ s'.st) from rfl, EV.out]
            go_wp2_with fail
            refine (own_same hO (glo_steady hO.get0)).mono ?_
            rintro e w6 ⟨rfl, hO⟩
            rw [EV.out]
            go_wp2_with fail
            go_roundw
            case rel => exact ⟨k + 1, _, _, s', by go_num, rfl, rfl, by omega, EV.out, fun _ => EW.out, by omega, by omega, hO⟩
            case measure => simp [intOf]; omega
        · by_cases cd : v / 3 % 4 = 0
          · have d1 : (v / 3 % 4 == 0) = true := by simp [cd]
            have d2 : (v % 3 == last) = false := by simp [cw]
            have CW := Lib.hid cw
            clear cw
            have ST := Lib.hid (HST.out (100 * (k : Int)) (100 * (k : Int)) true)
            have CD := Lib.hid cd
            clear cd
            go_wp2
            go_quiet (fail)
            replace hO := hO.drewN nq
            go_wp2_with fail
            refine (own_upd0 hO (glo_beat hO.get0 _ _ _ _ HSB.out)).mono ?_
            rintro e w4 ⟨rfl, hO⟩
            obtain ⟨s', hs'⟩ : ∃ s', s' = s.beat (v % 3) (100 * (k : Int)) (100 * (k : Int)) true := ⟨_, rfl⟩
            rw [← hs'] at hO
            have ST2 := ST.out
            rw [← hs'] at ST2
            have HS' := Lib.hid hs'
            clear hs'
            have EV := Lib.hid (show s'.st = 1 by rw [ST2.1, if_neg (fun h => CW.out h.2.1)])
            have EW := Lib.hid ST2.2
            clear ST2
            go_wp2_with fail
            refine (own_quiet hO (glo_lengths hO.get0)).mono ?_
            rintro e w5 ⟨rfl, hO⟩
            rw [show s'.ok = decide (2 ≤ s'.st) from rfl, EV.out]
            go_wp2_with fail
            refine (own_same hO (glo_steady hO.get0)).mono ?_
            rintro e w6 ⟨rfl, hO⟩
            rw [EV.out]
            go_wp2_with fail
            go_roundw
            case rel => exact ⟨k + 1, _, _, s', by go_num, rfl, rfl, by omega, EV.out, fun _ => EW.out, by omega, by omega, hO⟩
            case measure => simp [intOf]; omega
          · have d1 : (v / 3 % 4 == 0) = false := by simp [cd]
            have d2 : (v % 3 == last) = false := by simp [cw]
            have CW := Lib.hid cw
            clear cw
            have ST := Lib.hid (HST.out (100 * (k : Int)) (100 * (k : Int)) false)
            have CD := Lib.hid cd
            clear cd
            go_wp2
            go_quiet (fail)
            replace hO := hO.drewN nq
            go_wp2_with fail
            refine (own_upd0 hO (glo_beat hO.get0 _ _ _ _ HSB.out)).mono ?_
            rintro e w4 ⟨rfl, hO⟩
            obtain ⟨s', hs'⟩ : ∃ s', s' = s.beat (v % 3) (100 * (k : Int)) (100 * (k : Int)) false := ⟨_, rfl⟩
            rw [← hs'] at hO
            have ST2 := ST.out
            rw [← hs'] at ST2
            have HS' := Lib.hid hs'
            clear hs'
            have EV := Lib.hid (show s'.st = 1 by rw [ST2.1, if_neg (fun h => CW.out h.2.1)])
            have EW := Lib.hid ST2.2
            clear ST2
            go_wp2_with fail
            refine (own_quiet hO (glo_lengths hO.get0)).mono ?_
            rintro e w5 ⟨rfl, hO⟩
            rw [show s'.ok = decide (2 ≤ s'.st) from rfl, EV.out]
            go_wp2_with fail
            refine (own_same hO (glo_steady hO.get0)).mono ?_
            rintro e w6 ⟨rfl, hO⟩
            rw [EV.out]
            go_wp2_with fail
            go_roundw
            case rel => exact ⟨k + 1, _, _, s', by go_num, rfl, rfl, by omega, EV.out, fun _ => EW.out, by omega, by omega, hO⟩
            case measure => simp [intOf]; omega
      · by_cases cd : v / 3 % 4 = 0
        · have d1 : (v / 3 % 4 == 0) = true := by simp [cd]
          have CN := Lib.hid cn
          have ST := Lib.hid (HST.out (100 * (k : Int)) (100 * (k : Int)) true)
          have CD := Lib.hid cd
          clear cd
          go_wp2
          go_quiet (fail)
          replace hO := hO.drewN nq
          go_wp2_with fail
          refine (own_upd0 hO (glo_beat hO.get0 _ _ _ _ HSB.out)).mono ?_
          rintro e w4 ⟨rfl, hO⟩
          obtain ⟨s', hs'⟩ : ∃ s', s' = s.beat (v % 3) (100 * (k : Int)) (100 * (k : Int)) true := ⟨_, rfl⟩
          rw [← hs'] at hO
          have ST2 := ST.out
          rw [← hs'] at ST2
          have HS' := Lib.hid hs'
          clear hs'
          have EV := Lib.hid (show s'.st = 1 by rw [ST2.1, if_neg (fun h => absurd h.1 (by have := CN.out; omega))])
          have EW := Lib.hid ST2.2
          clear ST2
          go_wp2_with fail
          refine (own_quiet hO (glo_lengths hO.get0)).mono ?_
          rintro e w5 ⟨rfl, hO⟩
          rw [show s'.ok = decide (2 ≤ s'.st) from rfl, EV.out]
          go_wp2_with fail
          refine (own_same hO (glo_steady hO.get0)).mono ?_
          rintro e w6 ⟨rfl, hO⟩
          rw [EV.out]
          go_wp2_with fail
          go_roundw
          case rel => exact ⟨k + 1, _, _, s', by go_num, rfl, rfl, by omega, EV.out, fun _ => EW.out, by omega, by omega, hO⟩
          case measure => simp [intOf]; omega
        · have d1 : (v / 3 % 4 == 0) = false := by simp [cd]
          have CN := Lib.hid cn
          have ST := Lib.hid (HST.out (100 * (k : Int)) (100 * (k : Int)) false)
          have CD := Lib.hid cd
          clear cd
          go_wp2
          go_quiet (fail)
          replace hO := hO.drewN nq
          go_wp2_with fail
          refine (own_upd0 hO (glo_beat hO.get0 _ _ _ _ HSB.out)).mono ?_
          rintro e w4 ⟨rfl, hO⟩
          obtain ⟨s', hs'⟩ : ∃ s', s' = s.beat (v % 3) (100 * (k : Int)) (100 * (k : Int)) false := ⟨_, rfl⟩
          rw [← hs'] at hO
          have ST2 := ST.out
          rw [← hs'] at ST2
          have HS' := Lib.hid hs'
          clear hs'
          have EV := Lib.hid (show s'.st = 1 by rw [ST2.1, if_neg (fun h => absurd h.1 (by have := CN.out; omega))])
          have EW := Lib.hid ST2.2
          clear ST2
          go_wp2_with fail
          refine (own_quiet hO (glo_lengths hO.get0)).mono ?_
          rintro e w5 ⟨rfl, hO⟩
          rw [show s'.ok = decide (2 ≤ s'.st) from rfl, EV.out]
          go_wp2_with fail
          refine (own_same hO (glo_steady hO.get0)).mono ?_
          rintro e w6 ⟨rfl, hO⟩
          rw [EV.out]
          go_wp2_with fail
          go_roundw
          case rel => exact ⟨k + 1, _, _, s', by go_num, rfl, rfl, by omega, EV.out, fun _ => EW.out, by omega, by omega, hO⟩
          case measure => simp [intOf]; omega
    · go_wp2_with fail
      refine (own_upd0 hO (glo_forget hO.get0)).mono ?_
      rintro e w4 ⟨rfl, hO⟩
      go_wp2_with fail
      refine (own_same hO (glo_steady hO.get0)).mono ?_
      rintro e w5 ⟨rfl, hO⟩
      go_wp2_with fail
      refine (own_quiet hO (glo_at hO.get0 _)).mono ?_
      rintro e w6 ⟨rfl, hO⟩
      go_wp2
      go_ret
      exact ⟨rfl, hO.bel⟩

theorem GlobalSame_walk (a0 a1 a2 : Int) (x3 : Option Addr) (len3 cap3 : Nat) (z3 : List Int) (a4 : Int) (w0 : (Lit.int .u16 a0).wf = true) (w1 : (Lit.int .u16 a1).wf = true) (w2 : (Lit.int .u16 a2).wf = true) (w4 : (Lit.int .u8 a4).wf = true) (w : World) (r3 : IsRow .u8 w x3 len3 cap3 z3) :
    Holds 5 #[.int .u16 a0, .int .u16 a1, .int .u16 a2, .slice x3 len3 cap3, .int .u8 a4] w := same_core a0 a1 a2 x3 len3 cap3 z3 a4 (u8_bounds w4) w r3

set_option maxRecDepth 100000 in
theorem GlobalSame_lifted (os : Os) (started : os.Started) (H : Type) (enc : TypeId × Value → H) :
    ReturnsInHanded {} Try.checked os 5 .any (Rows.globalSameSpec.pre6 enc Try.prog Try.f5 [] false) (Rows.globalSameSpec.post enc Try.prog Try.f5 false true false false) := by
  refine law_lifted (n := 5) os started H enc (by kernel_rfl) Try.func5 rfl rfl (hts_of (by kernel_rfl)) rfl (fun ds h => match ds, h with | [_, _, _, _, _], _ => rfl)
    (ChangeSpec.witness6 (enc := enc) (C := Try.checked) false ⟨#[], #[.int .u16 0, .int .u16 0, .int .u16 0, .slice none 0 0, .int .u8 0], []⟩ 8 (by kernel_rfl) (by kernel_rfl) (by kernel_rfl) (by kernel_rfl)) ?_
  intro W base args ds p hval hA
  rw [Try.params5] at hA hval
  obtain ⟨v0, vs0, d0, ds0, p0, q0, hargs, rfl, rfl, h0, r0⟩ := trodAll_cons hA
  obtain ⟨v1, vs1, d1, ds1, p1, q1, rfl, rfl, rfl, h1, r1⟩ := trodAll_cons r0
  obtain ⟨v2, vs2, d2, ds2, p2, q2, rfl, rfl, rfl, h2, r2⟩ := trodAll_cons r1
  obtain ⟨v3, vs3, d3, ds3, p3, q3, rfl, rfl, rfl, h3, r3⟩ := trodAll_cons r2
  obtain ⟨v4, vs4, d4, ds4, p4, q4, rfl, rfl, rfl, h4, r4⟩ := trodAll_cons r3
  obtain ⟨rfl, rfl, rfl⟩ := trodAll_nil r4
  obtain rfl : args = #[v0, v1, v2, v3, v4] := by cases args; simp_all
  obtain ⟨a0, rfl, rfl, rfl, w0⟩ := open_int Try.underlying22 (hval 0 _ v0 rfl rfl) h0
  obtain ⟨a1, rfl, rfl, rfl, w1⟩ := open_int Try.underlying22 (hval 1 _ v1 rfl rfl) h1
  obtain ⟨a2, rfl, rfl, rfl, w2⟩ := open_int Try.underlying22 (hval 2 _ v2 rfl rfl) h2
  obtain ⟨x3, len3, cap3, rfl⟩ := okWide_slice Try.underlying34 (hval 3 _ v3 rfl rfl)
  obtain ⟨z3, w3⟩ : ∃ zs, IsRow .u8 W x3 len3 cap3 zs := isRow_of Try.underlying34 Try.underlying5 (by kernel_rfl) h3
  obtain ⟨a4, rfl, rfl, rfl, w4⟩ := open_int Try.underlying5 (hval 4 _ v4 rfl rfl) h4
  exact GlobalSame_walk a0 a1 a2 x3 len3 cap3 z3 a4 w0 w1 w2 w4 W w3

theorem GlobalSame_over : Rows.globalSameRow.holds Try.pinned (OpenSpec.ofChange Rows.globalSameSpec) :=
  OpenClaim.holds_of_wide 5 Try.f5 rfl rfl rfl rfl rfl rfl rfl ⟨rfl, rfl, rfl, rfl, rfl⟩ rfl rfl rfl rfl rfl (by kernel_rfl) Try.func5 (by kernel_rfl)
    (of_decide_eq_true (by kernel_rfl)) (by unfold Func.isWrapper; first | (rw [if_pos (by decide +kernel)]; kernel_rfl) | (rw [if_neg (by decide +kernel)]; exact ⟨rfl, rfl⟩))
    (fun os started H enc _ => GlobalSame_lifted os started H enc)
theorem GlobalSame_holds : Rows.GlobalSameSaid := GlobalSame_over
#print axioms GlobalSame_holds

set_option maxRecDepth 100000 in
theorem GlobalSteady_lifted (os : Os) (started : os.Started) (H : Type) (enc : TypeId × Value → H) :
    ReturnsInHanded {} Try.checked os 6 .any (Rows.globalSteadySpec.pre6 enc Try.prog Try.f6 [] false) (Rows.globalSteadySpec.post enc Try.prog Try.f6 false true false false) := by
  refine law_lifted (n := 1) os started H enc (by kernel_rfl) Try.func6 rfl rfl (hts_of (by kernel_rfl)) rfl (fun ds h => match ds, h with | [_], _ => rfl)
    (ChangeSpec.witness6 (enc := enc) (C := Try.checked) false ⟨#[], #[.slice none 0 0], []⟩ 8 (by kernel_rfl) (by kernel_rfl) (by kernel_rfl) (by kernel_rfl)) ?_
  intro W base args ds p hval hA
  rw [Try.params6] at hA hval
  obtain ⟨v0, vs0, d0, ds0, p0, q0, hargs, rfl, rfl, h0, r0⟩ := trodAll_cons hA
  obtain ⟨rfl, rfl, rfl⟩ := trodAll_nil r0
  obtain rfl : args = #[v0] := by cases args; simp_all
  obtain ⟨x0, len0, cap0, rfl⟩ := okWide_slice Try.underlying34 (hval 0 _ v0 rfl rfl)
  obtain ⟨z0, w0⟩ : ∃ zs, IsRow .u8 W x0 len0 cap0 zs := isRow_of Try.underlying34 Try.underlying5 (by kernel_rfl) h0
  exact GlobalSteady_walk x0 len0 cap0 z0 W w0

theorem GlobalSteady_over : Rows.globalSteadyRow.holds Try.pinned (OpenSpec.ofChange Rows.globalSteadySpec) :=
  OpenClaim.holds_of_wide 6 Try.f6 rfl rfl rfl rfl rfl rfl rfl ⟨rfl, rfl, rfl, rfl, rfl⟩ rfl rfl rfl rfl rfl (by kernel_rfl) Try.func6 (by kernel_rfl)
    (of_decide_eq_true (by kernel_rfl)) (by unfold Func.isWrapper; first | (rw [if_pos (by decide +kernel)]; kernel_rfl) | (rw [if_neg (by decide +kernel)]; exact ⟨rfl, rfl⟩))
    (fun os started H enc _ => GlobalSteady_lifted os started H enc)
theorem GlobalSteady_holds : Rows.GlobalSteadySaid := GlobalSteady_over
#print axioms GlobalSteady_holds
end Go.Proofs.Ythlplemhpnnedaa
