/- The document's clock: each function's contract over its block; it reads as the package's own does. -/
import Derived.Test.YtkciakbkiloknaaClock
namespace Go.Proofs.Ytkciakbkiloknaa
set_option linter.unusedVariables false
set_option linter.unusedSimpArgs false
open Go.RowKit

def rcloO (s : ClockS) : Obj := .cells #[.int .u16 s.time, .int .i64 s.part, .int .i64 s.num, .int .i64 s.unit] 71 (0, 0)
section
variable {w : World} {b : Nat} {s : ClockS}
theorem rclo_new (u : Int) (w : World) : Calls Try.prog 52 #[.int .i64 u] w fun e w' => ∃ b, e = .returned (.pointer (some ⟨b, 0, none⟩)) ∧ w'.heap[b]? = some (rcloO (ClockS.new u)) ∧ Below w.heap.size w w' ∧ w.heap.size ≤ b := by
  by_cases c1 : u < 1
  · have E := Lib.hid (show min (max u 1) 64 = 1 by omega)
    go_enter Try.func52, Try.ntmps52
    go_wp2
    all_goals
      go_ret
      refine ⟨_, rfl, (new_blk _ _).trans ?_, (Below.refl _ _).alloc (Nat.le_refl _) _, Nat.le_refl _⟩
      simp [rcloO, ClockS.new, E.out]
      try omega
  · by_cases c2 : u ≤ 64
    · have E := Lib.hid (show min (max u 1) 64 = u by omega)
      go_enter Try.func52, Try.ntmps52
      go_wp2
      all_goals
        go_ret
        refine ⟨_, rfl, (new_blk _ _).trans ?_, (Below.refl _ _).alloc (Nat.le_refl _) _, Nat.le_refl _⟩
        simp [rcloO, ClockS.new, E.out]
        try omega
    · have E := Lib.hid (show min (max u 1) 64 = 64 by omega)
      go_enter Try.func52, Try.ntmps52
      go_wp2
      all_goals
        go_ret
        refine ⟨_, rfl, (new_blk _ _).trans ?_, (Below.refl _ _).alloc (Nat.le_refl _) _, Nat.le_refl _⟩
        simp [rcloO, ClockS.new, E.out]
        try omega

theorem rclo_setRate (hM : w.heap[b]? = some (rcloO s)) (num d : Int) (hn : (Lit.int .i64 num).wf = true) (hs : s.Ok) :
    Calls Try.prog 53 #[.pointer (some ⟨b, 0, none⟩), .int .i64 num, .int .i64 d] w fun e w' => e = .returned (.bool (s.takes num d)) ∧ Upd b (rcloO (s.rate num d)) w w' := by
  obtain ⟨unit, nm, part, time⟩ := s
  obtain ⟨u1, u2, n1, n2, p1, p2, t1, t2⟩ := hs
  simp only at u1 u2 n1 n2 p1 p2 t1 t2
  have c0 := cell_of hM 0
  have c1 := cell_of hM 1
  have c2 := cell_of hM 2
  have c3 := cell_of hM 3
  have cf0 := free_of hM 0
  have cf1 := free_of hM 1
  have cf2 := free_of hM 2
  have cf3 := free_of hM 3
  have clt := lt_of_heap hM
  simp at c0 c1 c2 c3
  by_cases k1 : d = 256
  · have d1 : (d != 256) = false := by simp [k1]
    by_cases k2 : num < unit * 256 - unit * 256 / 8
    · have E1 := Lib.hid (show (⟨unit, nm, part, time⟩ : ClockS).takes num d = false by simp [ClockS.takes]; omega)
      have E2 := Lib.hid (show (⟨unit, nm, part, time⟩ : ClockS).rate num d = ⟨unit, nm, part, time⟩ by unfold ClockS.rate; rw [E1.out]; rfl)
      have k2' : num < 256 * unit - 256 * unit / 8 := by omega
      clear k1 k2
      go_enter Try.func53, Try.ntmps53
      go_wp2
      go_ret
      exact ⟨by rw [E1.out]; rfl, by rw [E2.out]; exact Upd.refl hM⟩
    · by_cases k3 : unit * 256 + unit * 256 / 8 < num
      · have E1 := Lib.hid (show (⟨unit, nm, part, time⟩ : ClockS).takes num d = false by simp [ClockS.takes]; omega)
        have E2 := Lib.hid (show (⟨unit, nm, part, time⟩ : ClockS).rate num d = ⟨unit, nm, part, time⟩ by unfold ClockS.rate; rw [E1.out]; rfl)
        have k2' : ¬ num < 256 * unit - 256 * unit / 8 := by omega
        have k3' : 256 * unit + 256 * unit / 8 < num := by omega
        clear k1 k2 k3
        go_enter Try.func53, Try.ntmps53
        go_wp2
        go_ret
        exact ⟨by rw [E1.out]; rfl, by rw [E2.out]; exact Upd.refl hM⟩
      · have E1 := Lib.hid (show (⟨unit, nm, part, time⟩ : ClockS).takes num d = true by simp [ClockS.takes]; omega)
        have E2 := Lib.hid (show (⟨unit, nm, part, time⟩ : ClockS).rate num d = ⟨unit, num, min part (num - 1), time⟩ by unfold ClockS.rate; rw [E1.out]; rfl)
        have k2' : ¬ num < 256 * unit - 256 * unit / 8 := by omega
        have k3' : ¬ 256 * unit + 256 * unit / 8 < num := by omega
        clear k1 k2 k3
        by_cases k4 : part ≤ num - 1
        all_goals
          go_enter Try.func53, Try.ntmps53
          go_wp2
          all_goals
            go_ret
            refine ⟨by rw [E1.out]; rfl, ?_⟩
            rw [E2.out]
            refine Upd.of_eq (by repeat (first | with_reducible apply Upd.setCell | with_reducible apply Upd.alloc | with_reducible apply Upd.drewN | exact Upd.refl hM)) ?_
            simp [rcloO]
            try omega
  · have d1 : (d != 256) = true := by simp [k1]
    have E1 := Lib.hid (show (⟨unit, nm, part, time⟩ : ClockS).takes num d = false by simp [ClockS.takes, k1])
    have E2 := Lib.hid (show (⟨unit, nm, part, time⟩ : ClockS).rate num d = ⟨unit, nm, part, time⟩ by unfold ClockS.rate; rw [E1.out]; rfl)
    clear k1
    go_enter Try.func53, Try.ntmps53
    go_wp2
    go_ret
    exact ⟨by rw [E1.out]; rfl, by rw [E2.out]; exact Upd.refl hM⟩

set_option maxHeartbeats 1000000 in
theorem rclo_tick (hM : w.heap[b]? = some (rcloO s)) (n : Int) (hs : s.Ok) :
    Calls Try.prog 55 #[.pointer (some ⟨b, 0, none⟩), .int .i64 n] w fun e w' => e = .returned (.tuple #[]) ∧ Upd b (rcloO (s.tick n)) w w' := by
  obtain ⟨unit, nm, part, time⟩ := s
  obtain ⟨u1, u2, n1, n2, p1, p2, t1, t2⟩ := hs
  simp only at u1 u2 n1 n2 p1 p2 t1 t2
  have c0 := cell_of hM 0
  have c1 := cell_of hM 1
  have c2 := cell_of hM 2
  have c3 := cell_of hM 3
  have cf0 := free_of hM 0
  have cf1 := free_of hM 1
  have cf2 := free_of hM 2
  have cf3 := free_of hM 3
  have clt := lt_of_heap hM
  simp at c0 c1 c2 c3
  obtain ⟨P, hP⟩ : ∃ P, P = part + min (max n 0) 8 * 256 := ⟨_, rfl⟩
  have hP0 : 0 ≤ P := by omega
  have hP1 : P ≤ 30000 := by omega
  have E := Lib.hid (show (⟨unit, nm, part, time⟩ : ClockS).tick n = ⟨unit, nm, P % nm, (time + P / nm) % 65536⟩ by simp [ClockS.tick, hP])
  have HP := Lib.hid hP
  clear hP
  by_cases k1 : n < 0
  · have HQ := Lib.hid (show P = part by have := HP.out; omega)
    go_enter Try.func55, Try.ntmps55
    go_wp2
    go_loopg [] P.toNat (fun gk wr => ∃ p t, 0 ≤ p ∧ p ≤ 30000 ∧ (gk : Int) = p ∧ p % nm = P % nm ∧ 0 ≤ t ∧ t < 65536 ∧ (t + p / nm) % 65536 = (time + P / nm) % 65536 ∧ Upd b (rcloO ⟨unit, nm, p, t⟩) w wr)
    case atStart =>
      refine ⟨P, time, hP0, hP1, by omega, rfl, t1, t2, rfl, Upd.of_eq (by repeat (first | with_reducible apply Upd.setCell | with_reducible apply Upd.alloc | with_reducible apply Upd.drewN | exact Upd.refl hM)) ?_⟩
      simp [rcloO, HQ.out]
      try omega
    case round =>
      obtain ⟨p, t, hp0, hp1, hgk, hm, ht0, ht1, htd, hU⟩ := hrel
      have HM := Lib.hid hm
      have HD := Lib.hid htd
      have HG := Lib.hid hgk
      clear hm htd hgk
      have hM2 := hU.blk
      clear c0 c1 c2 c3 cf0 cf1 cf2 cf3
      have c0 := cell_of hM2 0
      have c1 := cell_of hM2 1
      have c2 := cell_of hM2 2
      have c3 := cell_of hM2 3
      have cf0 := free_of hM2 0
      have cf1 := free_of hM2 1
      have cf2 := free_of hM2 2
      have cf3 := free_of hM2 3
      have clt := lt_of_heap hM2
      simp at c0 c1 c2 c3
      by_cases kk : nm ≤ p
      · have st := tick_step n1 kk
        have S1 := Lib.hid st.1
        have S2 := Lib.hid st.2
        clear st
        go_wp2
        go_quiet (fail)
        go_wp2
        go_region
        go_wp2
        go_roundg (p - nm).toNat
        case measure => have := HG.out; omega
        case rel =>
          refine ⟨p - nm, IntKind.u16.wrap (t + 1), by omega, by omega, by omega, by rw [S1.out, HM.out], by rw [wu16]; omega, by rw [wu16]; omega, ?_, ?_⟩
          · have := HD.out; have h2 := S2.out; rw [wu16]; generalize (p - nm) / nm = q at *; generalize p / nm = r at *; omega
          · refine hU.to (Upd.of_eq (by repeat (first | with_reducible apply Upd.setCell | with_reducible apply Upd.alloc | with_reducible apply Upd.drewN | with_reducible apply Upd.drew | exact Upd.refl hM2)) ?_)
            simp [rcloO]
      · go_wp2
        go_quiet (fail)
        go_wp2
        go_end0
        refine ⟨rfl, (hU.drewN _).of_eq ?_⟩
        have e1 : p % nm = p := Int.emod_eq_of_lt hp0 (by omega)
        have e2 : p / nm = 0 := Int.ediv_eq_zero_of_lt hp0 (by omega)
        have := HM.out
        have h3 := HD.out
        rw [E.out]
        rw [e1] at this
        rw [e2] at h3
        simp [rcloO]
        generalize (time + P / nm) % 65536 = z at *
        omega
  · by_cases k0 : n = 0
    · have HQ := Lib.hid (show P = part by have := HP.out; omega)
      subst k0
      go_enter Try.func55, Try.ntmps55
      go_wp2
      go_loopg [] P.toNat (fun gk wr => ∃ p t, 0 ≤ p ∧ p ≤ 30000 ∧ (gk : Int) = p ∧ p % nm = P % nm ∧ 0 ≤ t ∧ t < 65536 ∧ (t + p / nm) % 65536 = (time + P / nm) % 65536 ∧ Upd b (rcloO ⟨unit, nm, p, t⟩) w wr)
      case atStart =>
        refine ⟨P, time, hP0, hP1, by omega, rfl, t1, t2, rfl, Upd.of_eq (by repeat (first | with_reducible apply Upd.setCell | with_reducible apply Upd.alloc | with_reducible apply Upd.drewN | exact Upd.refl hM)) ?_⟩
        simp [rcloO, HQ.out]
        try omega
      case round =>
        obtain ⟨p, t, hp0, hp1, hgk, hm, ht0, ht1, htd, hU⟩ := hrel
        have HM := Lib.hid hm
        have HD := Lib.hid htd
        have HG := Lib.hid hgk
        clear hm htd hgk
        have hM2 := hU.blk
        clear c0 c1 c2 c3 cf0 cf1 cf2 cf3
        have c0 := cell_of hM2 0
        have c1 := cell_of hM2 1
        have c2 := cell_of hM2 2
        have c3 := cell_of hM2 3
        have cf0 := free_of hM2 0
        have cf1 := free_of hM2 1
        have cf2 := free_of hM2 2
        have cf3 := free_of hM2 3
        have clt := lt_of_heap hM2
        simp at c0 c1 c2 c3
        by_cases kk : nm ≤ p
        · have st := tick_step n1 kk
          have S1 := Lib.hid st.1
          have S2 := Lib.hid st.2
          clear st
          go_wp2
          go_quiet (fail)
          go_wp2
          go_region
          go_wp2
          go_roundg (p - nm).toNat
          case measure => have := HG.out; omega
          case rel =>
            refine ⟨p - nm, IntKind.u16.wrap (t + 1), by omega, by omega, by omega, by rw [S1.out, HM.out], by rw [wu16]; omega, by rw [wu16]; omega, ?_, ?_⟩
            · have := HD.out; have h2 := S2.out; rw [wu16]; generalize (p - nm) / nm = q at *; generalize p / nm = r at *; omega
            · refine hU.to (Upd.of_eq (by repeat (first | with_reducible apply Upd.setCell | with_reducible apply Upd.alloc | with_reducible apply Upd.drewN | with_reducible apply Upd.drew | exact Upd.refl hM2)) ?_)
              simp [rcloO]
        · go_wp2
          go_quiet (fail)
          go_wp2
          go_end0
          refine ⟨rfl, (hU.drewN _).of_eq ?_⟩
          have e1 : p % nm = p := Int.emod_eq_of_lt hp0 (by omega)
          have e2 : p / nm = 0 := Int.ediv_eq_zero_of_lt hp0 (by omega)
          have := HM.out
          have h3 := HD.out
          rw [E.out]
          rw [e1] at this
          rw [e2] at h3
          simp [rcloO]
          generalize (time + P / nm) % 65536 = z at *
          omega
    · by_cases k2 : n < 8
      · have HQ := Lib.hid (show P = part + n * 256 by have := HP.out; omega)
        go_enter Try.func55, Try.ntmps55
        go_wp2
        go_loopg [] P.toNat (fun gk wr => ∃ p t, 0 ≤ p ∧ p ≤ 30000 ∧ (gk : Int) = p ∧ p % nm = P % nm ∧ 0 ≤ t ∧ t < 65536 ∧ (t + p / nm) % 65536 = (time + P / nm) % 65536 ∧ Upd b (rcloO ⟨unit, nm, p, t⟩) w wr)
        case atStart =>
          refine ⟨P, time, hP0, hP1, by omega, rfl, t1, t2, rfl, Upd.of_eq (by repeat (first | with_reducible apply Upd.setCell | with_reducible apply Upd.alloc | with_reducible apply Upd.drewN | exact Upd.refl hM)) ?_⟩
          simp [rcloO, HQ.out]
          try omega
        case round =>
          obtain ⟨p, t, hp0, hp1, hgk, hm, ht0, ht1, htd, hU⟩ := hrel
          have HM := Lib.hid hm
          have HD := Lib.hid htd
          have HG := Lib.hid hgk
          clear hm htd hgk
          have hM2 := hU.blk
          clear c0 c1 c2 c3 cf0 cf1 cf2 cf3
          have c0 := cell_of hM2 0
          have c1 := cell_of hM2 1
          have c2 := cell_of hM2 2
          have c3 := cell_of hM2 3
          have cf0 := free_of hM2 0
          have cf1 := free_of hM2 1
          have cf2 := free_of hM2 2
          have cf3 := free_of hM2 3
          have clt := lt_of_heap hM2
          simp at c0 c1 c2 c3
          by_cases kk : nm ≤ p
          · have st := tick_step n1 kk
            have S1 := Lib.hid st.1
            have S2 := Lib.hid st.2
            clear st
            go_wp2
            go_quiet (fail)
            go_wp2
            go_region
            go_wp2
            go_roundg (p - nm).toNat
            case measure => have := HG.out; omega
            case rel =>
              refine ⟨p - nm, IntKind.u16.wrap (t + 1), by omega, by omega, by omega, by rw [S1.out, HM.out], by rw [wu16]; omega, by rw [wu16]; omega, ?_, ?_⟩
              · have := HD.out; have h2 := S2.out; rw [wu16]; generalize (p - nm) / nm = q at *; generalize p / nm = r at *; omega
              · refine hU.to (Upd.of_eq (by repeat (first | with_reducible apply Upd.setCell | with_reducible apply Upd.alloc | with_reducible apply Upd.drewN | with_reducible apply Upd.drew | exact Upd.refl hM2)) ?_)
                simp [rcloO]
          · go_wp2
            go_quiet (fail)
            go_wp2
            go_end0
            refine ⟨rfl, (hU.drewN _).of_eq ?_⟩
            have e1 : p % nm = p := Int.emod_eq_of_lt hp0 (by omega)
            have e2 : p / nm = 0 := Int.ediv_eq_zero_of_lt hp0 (by omega)
            have := HM.out
            have h3 := HD.out
            rw [E.out]
            rw [e1] at this
            rw [e2] at h3
            simp [rcloO]
            generalize (time + P / nm) % 65536 = z at *
            omega
      · by_cases k3 : n = 8
        · have HQ := Lib.hid (show P = part + 2048 by have := HP.out; omega)
          subst k3
          go_enter Try.func55, Try.ntmps55
          go_wp2
          go_loopg [] P.toNat (fun gk wr => ∃ p t, 0 ≤ p ∧ p ≤ 30000 ∧ (gk : Int) = p ∧ p % nm = P % nm ∧ 0 ≤ t ∧ t < 65536 ∧ (t + p / nm) % 65536 = (time + P / nm) % 65536 ∧ Upd b (rcloO ⟨unit, nm, p, t⟩) w wr)
          case atStart =>
            refine ⟨P, time, hP0, hP1, by omega, rfl, t1, t2, rfl, Upd.of_eq (by repeat (first | with_reducible apply Upd.setCell | with_reducible apply Upd.alloc | with_reducible apply Upd.drewN | exact Upd.refl hM)) ?_⟩
            simp [rcloO, HQ.out]
            try omega
          case round =>
            obtain ⟨p, t, hp0, hp1, hgk, hm, ht0, ht1, htd, hU⟩ := hrel
            have HM := Lib.hid hm
            have HD := Lib.hid htd
            have HG := Lib.hid hgk
            clear hm htd hgk
            have hM2 := hU.blk
            clear c0 c1 c2 c3 cf0 cf1 cf2 cf3
            have c0 := cell_of hM2 0
            have c1 := cell_of hM2 1
            have c2 := cell_of hM2 2
            have c3 := cell_of hM2 3
            have cf0 := free_of hM2 0
            have cf1 := free_of hM2 1
            have cf2 := free_of hM2 2
            have cf3 := free_of hM2 3
            have clt := lt_of_heap hM2
            simp at c0 c1 c2 c3
            by_cases kk : nm ≤ p
            · have st := tick_step n1 kk
              have S1 := Lib.hid st.1
              have S2 := Lib.hid st.2
              clear st
              go_wp2
              go_quiet (fail)
              go_wp2
              go_region
              go_wp2
              go_roundg (p - nm).toNat
              case measure => have := HG.out; omega
              case rel =>
                refine ⟨p - nm, IntKind.u16.wrap (t + 1), by omega, by omega, by omega, by rw [S1.out, HM.out], by rw [wu16]; omega, by rw [wu16]; omega, ?_, ?_⟩
                · have := HD.out; have h2 := S2.out; rw [wu16]; generalize (p - nm) / nm = q at *; generalize p / nm = r at *; omega
                · refine hU.to (Upd.of_eq (by repeat (first | with_reducible apply Upd.setCell | with_reducible apply Upd.alloc | with_reducible apply Upd.drewN | with_reducible apply Upd.drew | exact Upd.refl hM2)) ?_)
                  simp [rcloO]
            · go_wp2
              go_quiet (fail)
              go_wp2
              go_end0
              refine ⟨rfl, (hU.drewN _).of_eq ?_⟩
              have e1 : p % nm = p := Int.emod_eq_of_lt hp0 (by omega)
              have e2 : p / nm = 0 := Int.ediv_eq_zero_of_lt hp0 (by omega)
              have := HM.out
              have h3 := HD.out
              rw [E.out]
              rw [e1] at this
              rw [e2] at h3
              simp [rcloO]
              generalize (time + P / nm) % 65536 = z at *
              omega
        · have HQ := Lib.hid (show P = part + 2048 by have := HP.out; omega)
          go_enter Try.func55, Try.ntmps55
          go_wp2
          go_loopg [] P.toNat (fun gk wr => ∃ p t, 0 ≤ p ∧ p ≤ 30000 ∧ (gk : Int) = p ∧ p % nm = P % nm ∧ 0 ≤ t ∧ t < 65536 ∧ (t + p / nm) % 65536 = (time + P / nm) % 65536 ∧ Upd b (rcloO ⟨unit, nm, p, t⟩) w wr)
          case atStart =>
            refine ⟨P, time, hP0, hP1, by omega, rfl, t1, t2, rfl, Upd.of_eq (by repeat (first | with_reducible apply Upd.setCell | with_reducible apply Upd.alloc | with_reducible apply Upd.drewN | exact Upd.refl hM)) ?_⟩
            simp [rcloO, HQ.out]
            try omega
          case round =>
            obtain ⟨p, t, hp0, hp1, hgk, hm, ht0, ht1, htd, hU⟩ := hrel
            have HM := Lib.hid hm
            have HD := Lib.hid htd
            have HG := Lib.hid hgk
            clear hm htd hgk
            have hM2 := hU.blk
            clear c0 c1 c2 c3 cf0 cf1 cf2 cf3
            have c0 := cell_of hM2 0
            have c1 := cell_of hM2 1
            have c2 := cell_of hM2 2
            have c3 := cell_of hM2 3
            have cf0 := free_of hM2 0
            have cf1 := free_of hM2 1
            have cf2 := free_of hM2 2
            have cf3 := free_of hM2 3
            have clt := lt_of_heap hM2
            simp at c0 c1 c2 c3
            by_cases kk : nm ≤ p
            · have st := tick_step n1 kk
              have S1 := Lib.hid st.1
              have S2 := Lib.hid st.2
              clear st
              go_wp2
              go_quiet (fail)
              go_wp2
              go_region
              go_wp2
              go_roundg (p - nm).toNat
              case measure => have := HG.out; omega
              case rel =>
                refine ⟨p - nm, IntKind.u16.wrap (t + 1), by omega, by omega, by omega, by rw [S1.out, HM.out], by rw [wu16]; omega, by rw [wu16]; omega, ?_, ?_⟩
                · have := HD.out; have h2 := S2.out; rw [wu16]; generalize (p - nm) / nm = q at *; generalize p / nm = r at *; omega
                · refine hU.to (Upd.of_eq (by repeat (first | with_reducible apply Upd.setCell | with_reducible apply Upd.alloc | with_reducible apply Upd.drewN | with_reducible apply Upd.drew | exact Upd.refl hM2)) ?_)
                  simp [rcloO]
            · go_wp2
              go_quiet (fail)
              go_wp2
              go_end0
              refine ⟨rfl, (hU.drewN _).of_eq ?_⟩
              have e1 : p % nm = p := Int.emod_eq_of_lt hp0 (by omega)
              have e2 : p / nm = 0 := Int.ediv_eq_zero_of_lt hp0 (by omega)
              have := HM.out
              have h3 := HD.out
              rw [E.out]
              rw [e1] at this
              rw [e2] at h3
              simp [rcloO]
              generalize (time + P / nm) % 65536 = z at *
              omega
end
end Go.Proofs.Ytkciakbkiloknaa
