/- The package clock: each function's contract over its block. -/
import Derived.Test.YtkciakbkiloknaaChecked
import Derived.Test.YtkciakbkiloknaaBase
import Derived.WalkKit
import Derived.BigQuiet
import Derived.Deep.QuietTactic
import Derived.Deep.LoopGhost
import Derived.RegionTactic
import Derived.Outline
import Derived.KernelRfl
import Derived.Lib.Hide
namespace Go.Proofs.Ytkciakbkiloknaa
set_option linter.unusedVariables false
set_option linter.unusedSimpArgs false
open Go.RowKit

structure ClockS where
  unit : Int
  num : Int
  part : Int
  time : Int
def cloO (T : TypeId) (s : ClockS) : Obj := .cells #[.int .i64 s.unit, .int .i64 s.num, .int .i64 s.part, .int .u16 s.time] T (0, 0)
def ClockS.new (u : Int) : ClockS := ⟨min (max u 1) 64, min (max u 1) 64 * 256, 0, 0⟩
def ClockS.tick (s : ClockS) (n : Int) : ClockS :=
  { s with part := (s.part + min (max n 0) 8 * 256) % s.num, time := (s.time + (s.part + min (max n 0) 8 * 256) / s.num) % 65536 }
def ClockS.takes (s : ClockS) (num d : Int) : Bool := decide (d = 256 ∧ s.unit * 256 - s.unit * 256 / 8 ≤ num ∧ num ≤ s.unit * 256 + s.unit * 256 / 8)
def ClockS.rate (s : ClockS) (num d : Int) : ClockS := if s.takes num d then { s with num := num, part := min s.part (num - 1) } else s
/-- What a clock always is. -/
def ClockS.Ok (s : ClockS) : Prop := 1 ≤ s.unit ∧ s.unit ≤ 64 ∧ 1 ≤ s.num ∧ s.num ≤ 20000 ∧ 0 ≤ s.part ∧ s.part < s.num ∧ 0 ≤ s.time ∧ s.time < 65536

theorem ClockS.Ok.new (u : Int) : (ClockS.new u).Ok := by unfold ClockS.Ok ClockS.new; simp only; omega
theorem ClockS.Ok.tick {s : ClockS} (h : s.Ok) (n : Int) : (s.tick n).Ok := by
  obtain ⟨h1, h2, h3, h4, h5, h6, h7, h8⟩ := h
  refine ⟨h1, h2, h3, h4, Int.emod_nonneg _ (by omega), Int.emod_lt_of_pos _ (by omega), Int.emod_nonneg _ (by omega), Int.emod_lt_of_pos _ (by omega)⟩
theorem ClockS.Ok.rate {s : ClockS} (h : s.Ok) (num d : Int) : (s.rate num d).Ok := by
  unfold ClockS.rate
  split
  · rename_i ht
    simp [ClockS.takes] at ht
    obtain ⟨h1, h2, h3, h4, h5, h6, h7, h8⟩ := h
    unfold ClockS.Ok
    simp only
    omega
  · exact h

section
variable {w : World} {b : Nat} {T : TypeId} {s : ClockS}
theorem clo_new (u : Int) (w : World) : Calls Try.prog 39 #[.int .i64 u] w fun e w' => ∃ b, e = .returned (.pointer (some ⟨b, 0, none⟩)) ∧ w'.heap[b]? = some (cloO 84 (ClockS.new u)) ∧ Below w.heap.size w w' ∧ w.heap.size ≤ b := by
  by_cases c1 : u < 1
  · have E := Lib.hid (show min (max u 1) 64 = 1 by omega)
    go_enter Try.func39, Try.ntmps39
    go_wp2
    go_ret
    refine ⟨_, rfl, (new_blk _ _).trans ?_, (Below.refl _ _).alloc (Nat.le_refl _) _, Nat.le_refl _⟩
    simp [cloO, ClockS.new, E.out]
  · by_cases c2 : u ≤ 64
    · have E := Lib.hid (show min (max u 1) 64 = u by omega)
      go_enter Try.func39, Try.ntmps39
      go_wp2
      all_goals
        go_ret
        refine ⟨_, rfl, (new_blk _ _).trans ?_, (Below.refl _ _).alloc (Nat.le_refl _) _, Nat.le_refl _⟩
        simp [cloO, ClockS.new, E.out]
        try omega
    · have E := Lib.hid (show min (max u 1) 64 = 64 by omega)
      go_enter Try.func39, Try.ntmps39
      go_wp2
      go_ret
      refine ⟨_, rfl, (new_blk _ _).trans ?_, (Below.refl _ _).alloc (Nat.le_refl _) _, Nat.le_refl _⟩
      simp [cloO, ClockS.new, E.out]

theorem clo_time (hM : w.heap[b]? = some (cloO T s)) : Calls Try.prog 41 #[.pointer (some ⟨b, 0, none⟩)] w fun e w' => e = .returned (.int .u16 s.time) ∧ w = w' := by
  have c0 := cell_of hM 0
  have c1 := cell_of hM 1
  have c2 := cell_of hM 2
  have c3 := cell_of hM 3
  have cf0 := free_of hM 0
  have cf1 := free_of hM 1
  have cf2 := free_of hM 2
  have cf3 := free_of hM 3
  have clt := lt_of_heap hM
  simp at c0 c1 c2 c3
  go_enter Try.func41, Try.ntmps41
  go_wp2
  go_ret
  exact ⟨rfl, rfl⟩
theorem clo_part (hM : w.heap[b]? = some (cloO T s)) : Calls Try.prog 42 #[.pointer (some ⟨b, 0, none⟩)] w fun e w' => e = .returned (.int .i64 s.part) ∧ w = w' := by
  have c0 := cell_of hM 0
  have c1 := cell_of hM 1
  have c2 := cell_of hM 2
  have c3 := cell_of hM 3
  have cf0 := free_of hM 0
  have cf1 := free_of hM 1
  have cf2 := free_of hM 2
  have cf3 := free_of hM 3
  have clt := lt_of_heap hM
  simp at c0 c1 c2 c3
  go_enter Try.func42, Try.ntmps42
  go_wp2
  go_ret
  exact ⟨rfl, rfl⟩
theorem clo_rate (hM : w.heap[b]? = some (cloO T s)) : Calls Try.prog 45 #[.pointer (some ⟨b, 0, none⟩)] w fun e w' => e = .returned (.tuple #[.int .i64 s.num, .int .i64 256]) ∧ w = w' := by
  have c0 := cell_of hM 0
  have c1 := cell_of hM 1
  have c2 := cell_of hM 2
  have c3 := cell_of hM 3
  have cf0 := free_of hM 0
  have cf1 := free_of hM 1
  have cf2 := free_of hM 2
  have cf3 := free_of hM 3
  have clt := lt_of_heap hM
  simp at c0 c1 c2 c3
  go_enter Try.func45, Try.ntmps45
  go_wp2
  go_ret2
  exact ⟨rfl, rfl⟩

theorem clo_setRate (hM : w.heap[b]? = some (cloO T s)) (num d : Int) (hn : (Lit.int .i64 num).wf = true) (hs : s.Ok) :
    Calls Try.prog 44 #[.pointer (some ⟨b, 0, none⟩), .int .i64 num, .int .i64 d] w fun e w' => e = .returned (.bool (s.takes num d)) ∧ Upd b (cloO T (s.rate num d)) w w' := by
  obtain ⟨unit, nm, part, time⟩ := s
  obtain ⟨u1, u2, n1, n2, p1, p2, t1, t2⟩ := hs
  simp only at u1 u2 n1 n2 p1 p2 t1 t2
  have c0 := cell_of hM 0
  have c1 := cell_of hM 1
  have c2 := cell_of hM 2
  have c3 := cell_of hM 3
  have cf0 := free_of hM 0
  have cf1 := free_of hM 1
  have cf2 := free_of hM 2
  have cf3 := free_of hM 3
  have clt := lt_of_heap hM
  simp at c0 c1 c2 c3
  by_cases k1 : d = 256
  · have d1 : (d != 256) = false := by simp [k1]
    by_cases k2 : num < unit * 256 - unit * 256 / 8
    · have E1 := Lib.hid (show (⟨unit, nm, part, time⟩ : ClockS).takes num d = false by simp [ClockS.takes]; omega)
      have E2 := Lib.hid (show (⟨unit, nm, part, time⟩ : ClockS).rate num d = ⟨unit, nm, part, time⟩ by unfold ClockS.rate; rw [E1.out]; rfl)
      clear k1
      go_enter Try.func44, Try.ntmps44
      go_wp2
      go_ret
      exact ⟨by rw [E1.out]; rfl, by rw [E2.out]; exact Upd.refl hM⟩
    · by_cases k3 : unit * 256 + unit * 256 / 8 < num
      · have E1 := Lib.hid (show (⟨unit, nm, part, time⟩ : ClockS).takes num d = false by simp [ClockS.takes]; omega)
        have E2 := Lib.hid (show (⟨unit, nm, part, time⟩ : ClockS).rate num d = ⟨unit, nm, part, time⟩ by unfold ClockS.rate; rw [E1.out]; rfl)
        clear k1
        go_enter Try.func44, Try.ntmps44
        go_wp2
        go_ret
        exact ⟨by rw [E1.out]; rfl, by rw [E2.out]; exact Upd.refl hM⟩
      · have E1 := Lib.hid (show (⟨unit, nm, part, time⟩ : ClockS).takes num d = true by simp [ClockS.takes]; omega)
        have E2 := Lib.hid (show (⟨unit, nm, part, time⟩ : ClockS).rate num d = ⟨unit, num, min part (num - 1), time⟩ by unfold ClockS.rate; rw [E1.out]; rfl)
        clear k1
        by_cases k4 : part ≤ num - 1
        all_goals
          go_enter Try.func44, Try.ntmps44
          go_wp2
          all_goals
            go_ret
            refine ⟨by rw [E1.out]; rfl, ?_⟩
            rw [E2.out]
            refine Upd.of_eq (by repeat (first | with_reducible apply Upd.setCell | with_reducible apply Upd.alloc | with_reducible apply Upd.drewN | exact Upd.refl hM)) ?_
            simp [cloO]
            try omega
  · have d1 : (d != 256) = true := by simp [k1]
    have E1 := Lib.hid (show (⟨unit, nm, part, time⟩ : ClockS).takes num d = false by simp [ClockS.takes, k1])
    have E2 := Lib.hid (show (⟨unit, nm, part, time⟩ : ClockS).rate num d = ⟨unit, nm, part, time⟩ by unfold ClockS.rate; rw [E1.out]; rfl)
    clear k1
    go_enter Try.func44, Try.ntmps44
    go_wp2
    go_ret
    exact ⟨by rw [E1.out]; rfl, by rw [E2.out]; exact Upd.refl hM⟩

theorem tick_step {p n : Int} (hn : 1 ≤ n) (h : n ≤ p) : (p - n) % n = p % n ∧ (p - n) / n + 1 = p / n := by
  constructor
  · rw [Int.sub_emod_right]
  · have := Int.sub_ediv_of_dvd p (Int.dvd_refl n)
    rw [Int.ediv_self (by omega)] at this
    omega

theorem clo_tick (hM : w.heap[b]? = some (cloO T s)) (n : Int) (hs : s.Ok) :
    Calls Try.prog 40 #[.pointer (some ⟨b, 0, none⟩), .int .i64 n] w fun e w' => e = .returned (.tuple #[]) ∧ Upd b (cloO T (s.tick n)) w w' := by
  obtain ⟨unit, nm, part, time⟩ := s
  obtain ⟨u1, u2, n1, n2, p1, p2, t1, t2⟩ := hs
  simp only at u1 u2 n1 n2 p1 p2 t1 t2
  have c0 := cell_of hM 0
  have c1 := cell_of hM 1
  have c2 := cell_of hM 2
  have c3 := cell_of hM 3
  have cf0 := free_of hM 0
  have cf1 := free_of hM 1
  have cf2 := free_of hM 2
  have cf3 := free_of hM 3
  have clt := lt_of_heap hM
  simp at c0 c1 c2 c3
  obtain ⟨P, hP⟩ : ∃ P, P = part + min (max n 0) 8 * 256 := ⟨_, rfl⟩
  have hP0 : 0 ≤ P := by omega
  have hP1 : P ≤ 30000 := by omega
  have E := Lib.hid (show (⟨unit, nm, part, time⟩ : ClockS).tick n = ⟨unit, nm, P % nm, (time + P / nm) % 65536⟩ by simp [ClockS.tick, hP])
  have HP := Lib.hid hP
  clear hP
  by_cases k1 : n < 0
  · have HQ := Lib.hid (show P = part by have := HP.out; omega)
    go_enter Try.func40, Try.ntmps40
    go_wp2
    go_loopg [] P.toNat (fun gk wr => ∃ p t, 0 ≤ p ∧ p ≤ 30000 ∧ (gk : Int) = p ∧ p % nm = P % nm ∧ 0 ≤ t ∧ t < 65536 ∧ (t + p / nm) % 65536 = (time + P / nm) % 65536 ∧ Upd b (cloO T ⟨unit, nm, p, t⟩) w wr)
    case atStart =>
      refine ⟨P, time, hP0, hP1, by omega, rfl, t1, t2, rfl, Upd.of_eq (by repeat (first | with_reducible apply Upd.setCell | with_reducible apply Upd.alloc | with_reducible apply Upd.drewN | exact Upd.refl hM)) ?_⟩
      simp [cloO, HQ.out]
      try omega
    case round =>
      obtain ⟨p, t, hp0, hp1, hgk, hm, ht0, ht1, htd, hU⟩ := hrel
      have HM := Lib.hid hm
      have HD := Lib.hid htd
      have HG := Lib.hid hgk
      clear hm htd hgk
      have hM2 := hU.blk
      clear c0 c1 c2 c3 cf0 cf1 cf2 cf3
      have c0 := cell_of hM2 0
      have c1 := cell_of hM2 1
      have c2 := cell_of hM2 2
      have c3 := cell_of hM2 3
      have cf0 := free_of hM2 0
      have cf1 := free_of hM2 1
      have cf2 := free_of hM2 2
      have cf3 := free_of hM2 3
      have clt := lt_of_heap hM2
      simp at c0 c1 c2 c3
      by_cases kk : nm ≤ p
      · have st := tick_step n1 kk
        have S1 := Lib.hid st.1
        have S2 := Lib.hid st.2
        clear st
        go_wp2
        go_quiet (fail)
        go_wp2
        go_region
        go_wp2
        go_roundg (p - nm).toNat
        case measure => have := HG.out; omega
        case rel =>
          refine ⟨p - nm, IntKind.u16.wrap (t + 1), by omega, by omega, by omega, by rw [S1.out, HM.out], by rw [wu16]; omega, by rw [wu16]; omega, ?_, ?_⟩
          · have := HD.out; have h2 := S2.out; rw [wu16]; generalize (p - nm) / nm = q at *; generalize p / nm = r at *; omega
          · refine hU.to (Upd.of_eq (by repeat (first | with_reducible apply Upd.setCell | with_reducible apply Upd.alloc | with_reducible apply Upd.drewN | with_reducible apply Upd.drew | exact Upd.refl hM2)) ?_)
            simp [cloO]
      · go_wp2
        go_quiet (fail)
        go_wp2
        go_end0
        refine ⟨rfl, (hU.drewN _).of_eq ?_⟩
        have e1 : p % nm = p := Int.emod_eq_of_lt hp0 (by omega)
        have e2 : p / nm = 0 := Int.ediv_eq_zero_of_lt hp0 (by omega)
        have := HM.out
        have h3 := HD.out
        rw [E.out]
        rw [e1] at this
        rw [e2] at h3
        simp [cloO]
        generalize (time + P / nm) % 65536 = z at *
        omega
  · by_cases k2 : n ≤ 8
    · have HQ := Lib.hid (show P = part + n * 256 by have := HP.out; omega)
      go_enter Try.func40, Try.ntmps40
      go_wp2
      go_loopg [] P.toNat (fun gk wr => ∃ p t, 0 ≤ p ∧ p ≤ 30000 ∧ (gk : Int) = p ∧ p % nm = P % nm ∧ 0 ≤ t ∧ t < 65536 ∧ (t + p / nm) % 65536 = (time + P / nm) % 65536 ∧ Upd b (cloO T ⟨unit, nm, p, t⟩) w wr)
      case atStart =>
        refine ⟨P, time, hP0, hP1, by omega, rfl, t1, t2, rfl, Upd.of_eq (by repeat (first | with_reducible apply Upd.setCell | with_reducible apply Upd.alloc | with_reducible apply Upd.drewN | exact Upd.refl hM)) ?_⟩
        simp [cloO, HQ.out]
        try omega
      case round =>
        obtain ⟨p, t, hp0, hp1, hgk, hm, ht0, ht1, htd, hU⟩ := hrel
        have HM := Lib.hid hm
        have HD := Lib.hid htd
        have HG := Lib.hid hgk
        clear hm htd hgk
        have hM2 := hU.blk
        clear c0 c1 c2 c3 cf0 cf1 cf2 cf3
        have c0 := cell_of hM2 0
        have c1 := cell_of hM2 1
        have c2 := cell_of hM2 2
        have c3 := cell_of hM2 3
        have cf0 := free_of hM2 0
        have cf1 := free_of hM2 1
        have cf2 := free_of hM2 2
        have cf3 := free_of hM2 3
        have clt := lt_of_heap hM2
        simp at c0 c1 c2 c3
        by_cases kk : nm ≤ p
        · have st := tick_step n1 kk
          have S1 := Lib.hid st.1
          have S2 := Lib.hid st.2
          clear st
          go_wp2
          go_quiet (fail)
          go_wp2
          go_region
          go_wp2
          go_roundg (p - nm).toNat
          case measure => have := HG.out; omega
          case rel =>
            refine ⟨p - nm, IntKind.u16.wrap (t + 1), by omega, by omega, by omega, by rw [S1.out, HM.out], by rw [wu16]; omega, by rw [wu16]; omega, ?_, ?_⟩
            · have := HD.out; have h2 := S2.out; rw [wu16]; generalize (p - nm) / nm = q at *; generalize p / nm = r at *; omega
            · refine hU.to (Upd.of_eq (by repeat (first | with_reducible apply Upd.setCell | with_reducible apply Upd.alloc | with_reducible apply Upd.drewN | with_reducible apply Upd.drew | exact Upd.refl hM2)) ?_)
              simp [cloO]
        · go_wp2
          go_quiet (fail)
          go_wp2
          go_end0
          refine ⟨rfl, (hU.drewN _).of_eq ?_⟩
          have e1 : p % nm = p := Int.emod_eq_of_lt hp0 (by omega)
          have e2 : p / nm = 0 := Int.ediv_eq_zero_of_lt hp0 (by omega)
          have := HM.out
          have h3 := HD.out
          rw [E.out]
          rw [e1] at this
          rw [e2] at h3
          simp [cloO]
          generalize (time + P / nm) % 65536 = z at *
          omega
    · have HQ := Lib.hid (show P = part + 2048 by have := HP.out; omega)
      go_enter Try.func40, Try.ntmps40
      go_wp2
      go_loopg [] P.toNat (fun gk wr => ∃ p t, 0 ≤ p ∧ p ≤ 30000 ∧ (gk : Int) = p ∧ p % nm = P % nm ∧ 0 ≤ t ∧ t < 65536 ∧ (t + p / nm) % 65536 = (time + P / nm) % 65536 ∧ Upd b (cloO T ⟨unit, nm, p, t⟩) w wr)
      case atStart =>
        refine ⟨P, time, hP0, hP1, by omega, rfl, t1, t2, rfl, Upd.of_eq (by repeat (first | with_reducible apply Upd.setCell | with_reducible apply Upd.alloc | with_reducible apply Upd.drewN | exact Upd.refl hM)) ?_⟩
        simp [cloO, HQ.out]
        try omega
      case round =>
        obtain ⟨p, t, hp0, hp1, hgk, hm, ht0, ht1, htd, hU⟩ := hrel
        have HM := Lib.hid hm
        have HD := Lib.hid htd
        have HG := Lib.hid hgk
        clear hm htd hgk
        have hM2 := hU.blk
        clear c0 c1 c2 c3 cf0 cf1 cf2 cf3
        have c0 := cell_of hM2 0
        have c1 := cell_of hM2 1
        have c2 := cell_of hM2 2
        have c3 := cell_of hM2 3
        have cf0 := free_of hM2 0
        have cf1 := free_of hM2 1
        have cf2 := free_of hM2 2
        have cf3 := free_of hM2 3
        have clt := lt_of_heap hM2
        simp at c0 c1 c2 c3
        by_cases kk : nm ≤ p
        · have st := tick_step n1 kk
          have S1 := Lib.hid st.1
          have S2 := Lib.hid st.2
          clear st
          go_wp2
          go_quiet (fail)
          go_wp2
          go_region
          go_wp2
          go_roundg (p - nm).toNat
          case measure => have := HG.out; omega
          case rel =>
            refine ⟨p - nm, IntKind.u16.wrap (t + 1), by omega, by omega, by omega, by rw [S1.out, HM.out], by rw [wu16]; omega, by rw [wu16]; omega, ?_, ?_⟩
            · have := HD.out; have h2 := S2.out; rw [wu16]; generalize (p - nm) / nm = q at *; generalize p / nm = r at *; omega
            · refine hU.to (Upd.of_eq (by repeat (first | with_reducible apply Upd.setCell | with_reducible apply Upd.alloc | with_reducible apply Upd.drewN | with_reducible apply Upd.drew | exact Upd.refl hM2)) ?_)
              simp [cloO]
        · go_wp2
          go_quiet (fail)
          go_wp2
          go_end0
          refine ⟨rfl, (hU.drewN _).of_eq ?_⟩
          have e1 : p % nm = p := Int.emod_eq_of_lt hp0 (by omega)
          have e2 : p / nm = 0 := Int.ediv_eq_zero_of_lt hp0 (by omega)
          have := HM.out
          have h3 := HD.out
          rw [E.out]
          rw [e1] at this
          rw [e2] at h3
          simp [cloO]
          generalize (time + P / nm) % 65536 = z at *
          omega
end
end Go.Proofs.Ytkciakbkiloknaa
