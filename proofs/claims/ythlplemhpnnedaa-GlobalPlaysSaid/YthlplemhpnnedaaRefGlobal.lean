/- The document's time of all: each function's contract over its block; what it has to do with the package's own. -/
import Derived.Test.YthlplemhpnnedaaGlobal
namespace Go.Proofs.Ythlplemhpnnedaa
set_option linter.unusedVariables false
set_option linter.unusedSimpArgs false
open Go.RowKit

structure RGlobS where
  who : Int
  g : Int
  m : Int
  og : Int
  om : Int
  st : Int
def rgloO (s : RGlobS) : Obj := .cells #[.int .i64 s.who, .int .u16 s.g, .int .u16 s.m, .int .u16 s.og, .int .u16 s.om, .int .i64 s.st] 42 (0, 0)
def RGlobS.new : RGlobS := ⟨0, 0, 0, 0, 0, 0⟩
def RGlobS.beat (s : RGlobS) (who g m : Int) (disc : Bool) : RGlobS :=
  if 0 < s.st ∧ s.who = who ∧ disc = false then ⟨who, g, m, s.g, s.m, min 1000 (s.st + 1)⟩ else ⟨who, g, m, s.og, s.om, 1⟩
/-- The two agree wherever it counts. -/
def Agree (s : GlobalS) (r : RGlobS) : Prop :=
  r.st = s.st ∧ (0 ≤ s.st ∧ s.st ≤ 1000) ∧ (0 < s.st → r.who = s.who ∧ r.g = s.g ∧ r.m = s.m) ∧ (2 ≤ s.st → r.og = s.og ∧ r.om = s.om)
theorem Agree.new : Agree GlobalS.new RGlobS.new := ⟨rfl, by decide, fun h => by simp [GlobalS.new] at h, fun h => by simp [GlobalS.new] at h⟩
theorem Agree.beat {s : GlobalS} {r : RGlobS} (h : Agree s r) (who g m : Int) (disc : Bool) : Agree (s.beat who g m disc) (r.beat who g m disc) := by
  obtain ⟨h1, h2, h3, h4⟩ := h
  by_cases c : 0 < s.st
  · obtain ⟨e1, e2, e3⟩ := h3 c
    have c0 : ¬ s.st = 0 := by omega
    by_cases c1 : s.who = who
    · cases disc
      · refine ⟨?_, ?_, ?_, ?_⟩ <;> simp [GlobalS.beat, RGlobS.beat, h1, e1, e2, e3, c, c0, c1] <;> omega
      · refine ⟨?_, ?_, ?_, ?_⟩ <;> simp [GlobalS.beat, RGlobS.beat]
    · refine ⟨?_, ?_, ?_, ?_⟩ <;> simp [GlobalS.beat, RGlobS.beat, h1, e1, c1]
  · have c0 : s.st = 0 := by omega
    refine ⟨?_, ?_, ?_, ?_⟩ <;> simp [GlobalS.beat, RGlobS.beat, h1, c0]

section
variable {w : World} {b : Nat} {s : GlobalS} {r : RGlobS}
theorem rglo_beat (hM : w.heap[b]? = some (rgloO r)) (who g m : Int) (disc : Bool) (hs : 0 ≤ r.st ∧ r.st ≤ 1000) :
    Calls Try.prog 16 #[.pointer (some ⟨b, 0, none⟩), .int .i64 who, .int .u16 g, .int .u16 m, .bool disc] w fun e w' => e = .returned (.tuple #[]) ∧ Upd b (rgloO (r.beat who g m disc)) w w' := by
  have c0 := cell_of hM 0
  have c1 := cell_of hM 1
  have c2 := cell_of hM 2
  have c3 := cell_of hM 3
  have c4 := cell_of hM 4
  have c5 := cell_of hM 5
  have cf0 := free_of hM 0
  have cf1 := free_of hM 1
  have cf2 := free_of hM 2
  have cf3 := free_of hM 3
  have cf4 := free_of hM 4
  have cf5 := free_of hM 5
  have clt := lt_of_heap hM
  simp at c0 c1 c2 c3 c4 c5
  by_cases k : 0 < r.st
  · by_cases k1 : r.who = who
    · have d1 : (r.who == who) = true := by simp [k1]
      cases disc
      · by_cases k3 : r.st < 1000
        · have E := Lib.hid (show r.beat who g m false = ⟨who, g, m, r.g, r.m, r.st + 1⟩ by simp [RGlobS.beat, k, k1]; omega)
          clear k1
          go_enter Try.func16, Try.ntmps16
          go_wp2
          all_goals
            try go_region
          all_goals
            go_wp2
          all_goals
            go_end0
            refine ⟨rfl, ?_⟩
            rw [E.out]
            refine Upd.of_eq (by repeat (first | with_reducible apply Upd.drew | with_reducible apply Upd.setCell | with_reducible apply Upd.alloc | with_reducible apply Upd.drewN | exact Upd.refl hM)) ?_
            simp [rgloO]
            try omega
        · have E := Lib.hid (show r.beat who g m false = ⟨who, g, m, r.g, r.m, 1000⟩ by simp [RGlobS.beat, k, k1]; omega)
          clear k1
          go_enter Try.func16, Try.ntmps16
          go_wp2
          all_goals
            try go_region
          all_goals
            go_wp2
          all_goals
            go_end0
            refine ⟨rfl, ?_⟩
            rw [E.out]
            refine Upd.of_eq (by repeat (first | with_reducible apply Upd.drew | with_reducible apply Upd.setCell | with_reducible apply Upd.alloc | with_reducible apply Upd.drewN | exact Upd.refl hM)) ?_
            simp [rgloO]
            try omega
      · have E := Lib.hid (show r.beat who g m true = ⟨who, g, m, r.og, r.om, 1⟩ by simp [RGlobS.beat])
        clear k1
        go_enter Try.func16, Try.ntmps16
        go_wp2
        all_goals
          try go_region
        all_goals
          go_wp2
        all_goals
          go_end0
          refine ⟨rfl, ?_⟩
          rw [E.out]
          refine Upd.of_eq (by repeat (first | with_reducible apply Upd.drew | with_reducible apply Upd.setCell | with_reducible apply Upd.alloc | with_reducible apply Upd.drewN | exact Upd.refl hM)) ?_
          simp [rgloO]
          try omega
    · have d1 : (r.who == who) = false := by simp [k1]
      have d2 : decide (r.who = who) = false := by simp [k1]
      have E := Lib.hid (show r.beat who g m disc = ⟨who, g, m, r.og, r.om, 1⟩ by simp [RGlobS.beat, k1])
      clear k1
      go_enter Try.func16, Try.ntmps16
      go_wp2
      all_goals
        try go_region
      all_goals
        go_wp2
      all_goals
        go_end0
        refine ⟨rfl, ?_⟩
        rw [E.out]
        refine Upd.of_eq (by repeat (first | with_reducible apply Upd.drew | with_reducible apply Upd.setCell | with_reducible apply Upd.alloc | with_reducible apply Upd.drewN | exact Upd.refl hM)) ?_
        simp [rgloO]
        try omega
  · have d2 : decide (0 < r.st) = false := by simp; omega
    have E := Lib.hid (show r.beat who g m disc = ⟨who, g, m, r.og, r.om, 1⟩ by simp [RGlobS.beat, k])
    go_enter Try.func16, Try.ntmps16
    go_wp2
    all_goals
      try go_region
    all_goals
      go_wp2
    all_goals
      go_end0
      refine ⟨rfl, ?_⟩
      rw [E.out]
      refine Upd.of_eq (by repeat (first | with_reducible apply Upd.drew | with_reducible apply Upd.setCell | with_reducible apply Upd.alloc | with_reducible apply Upd.drewN | exact Upd.refl hM)) ?_
      simp [rgloO]
      try omega

theorem rglo_at (hM : w.heap[b]? = some (rgloO r)) (hA : Agree s r) (t : Int) :
    Calls Try.prog 20 #[.pointer (some ⟨b, 0, none⟩), .int .u16 t] w fun e w' => e = .returned (.int .u16 (s.at t)) ∧ ∃ n, w' = w.drewN n := by
  have c0 := cell_of hM 0
  have c1 := cell_of hM 1
  have c2 := cell_of hM 2
  have c3 := cell_of hM 3
  have c4 := cell_of hM 4
  have c5 := cell_of hM 5
  have cf0 := free_of hM 0
  have cf1 := free_of hM 1
  have cf2 := free_of hM 2
  have cf3 := free_of hM 3
  have cf4 := free_of hM 4
  have cf5 := free_of hM 5
  have clt := lt_of_heap hM
  simp at c0 c1 c2 c3 c4 c5
  obtain ⟨h1, h2, h3, h4⟩ := hA
  by_cases k : s.st = 0
  · have d1 : (r.st == 0) = true := by simp [h1, k]
    have E := Lib.hid (show s.at t = t by simp [GlobalS.at, k])
    clear k h1 h3 h4
    go_enter Try.func20, Try.ntmps20
    go_wp2
    go_ret
    exact ⟨by rw [E.out]; rfl, 0, rfl⟩
  · have d1 : (r.st == 0) = false := by simp [h1, k]
    obtain ⟨e1, e2, e3⟩ := h3 (by omega)
    have E := Lib.hid (show s.at t = IntKind.u16.wrap (t + IntKind.u16.wrap (r.g - r.m)) by simp only [GlobalS.at, if_neg k, wu16, e2, e3]; omega)
    clear k h1 h3 h4 e1 e2 e3
    go_enter Try.func20, Try.ntmps20
    go_wp2
    go_quiet (fail)
    go_wp2
    go_ret
    exact ⟨by rw [E.out]; rfl, _, rfl⟩

theorem rsince_calls (a b : Int) (w : World) : Calls Try.prog 22 #[.int .u16 a, .int .u16 b] w fun e w' => e = .returned (.int .i64 (since a b)) ∧ w = w' := by
  have h1 : 0 ≤ IntKind.u16.wrap (b - a) := by rw [wu16]; omega
  have h2 : IntKind.u16.wrap (b - a) < 65536 := by rw [wu16]; omega
  go_enter Try.func22, Try.ntmps22
  go_wp2
  go_ret
  exact ⟨by rw [wu16]; rfl, rfl⟩

theorem rglo_lengths (hM : w.heap[b]? = some (rgloO r)) (hA : Agree s r) :
    Calls Try.prog 18 #[.pointer (some ⟨b, 0, none⟩)] w fun e w' => e = .returned (.tuple #[.int .i64 s.l1, .int .i64 s.l2, .bool s.ok]) ∧ ∃ n, w' = w.drewN n := by
  have c0 := cell_of hM 0
  have c1 := cell_of hM 1
  have c2 := cell_of hM 2
  have c3 := cell_of hM 3
  have c4 := cell_of hM 4
  have c5 := cell_of hM 5
  have cf0 := free_of hM 0
  have cf1 := free_of hM 1
  have cf2 := free_of hM 2
  have cf3 := free_of hM 3
  have cf4 := free_of hM 4
  have cf5 := free_of hM 5
  have clt := lt_of_heap hM
  simp at c0 c1 c2 c3 c4 c5
  obtain ⟨h1, h2, h3, h4⟩ := hA
  by_cases k : s.st < 2
  · have E1 := Lib.hid (show s.l1 = 0 by simp [GlobalS.l1, k])
    have E2 := Lib.hid (show s.l2 = 0 by simp [GlobalS.l2, k])
    have E3 := Lib.hid (show s.ok = false by simp [GlobalS.ok]; omega)
    have k' : r.st < 2 := by omega
    clear h1 h3 h4
    go_enter Try.func18, Try.ntmps18
    go_wp2
    go_ret3
    exact ⟨by rw [E1.out, E2.out, E3.out]; rfl, 0, rfl⟩
  · obtain ⟨e1, e2, e3⟩ := h3 (by omega)
    obtain ⟨f1, f2⟩ := h4 (by omega)
    have E1 := Lib.hid (show s.l1 = since r.og r.g by simp [GlobalS.l1, k, e2, f1])
    have E2 := Lib.hid (show s.l2 = since r.om r.m by simp [GlobalS.l2, k, e3, f2])
    have E3 := Lib.hid (show s.ok = true by simp [GlobalS.ok]; omega)
    have k' : ¬ r.st < 2 := by omega
    clear h1 h3 h4 e1 e2 e3 f1 f2
    go_enter Try.func18, Try.ntmps18
    go_wp2
    go_quiet ((go_at_call 22; exact quiet_left (rsince_calls _ _ _)))
    go_wp2
    go_ret3
    exact ⟨by rw [E1.out, E2.out, E3.out]; rfl, _, rfl⟩

theorem l_bounds (s : GlobalS) : (0 ≤ s.l1 ∧ s.l1 < 65536) ∧ 0 ≤ s.l2 ∧ s.l2 < 65536 := by
  refine ⟨?_, ?_⟩
  · unfold GlobalS.l1; split <;> (try unfold since) <;> omega
  · unfold GlobalS.l2; split <;> (try unfold since) <;> omega

theorem rglo_rate (hM : w.heap[b]? = some (rgloO r)) (hA : Agree s r) (num : Int) (hn : (Lit.int .i64 num).wf = true) :
    Calls Try.prog 19 #[.pointer (some ⟨b, 0, none⟩), .int .i64 num] w fun e w' => e = .returned (.tuple #[.int .i64 (s.rate num), .bool (s.rok num)]) ∧ ∃ n, w' = w.drewN n := by
  have HA := Lib.hid hA
  clear hA
  obtain ⟨lb1, lb2⟩ := l_bounds s
  obtain ⟨x, hx⟩ : ∃ x, s.l1 = x := ⟨_, rfl⟩
  obtain ⟨y, hy⟩ : ∃ y, s.l2 = y := ⟨_, rfl⟩
  rw [hx] at lb1
  rw [hy] at lb2
  have X := Lib.hid hx
  have Y := Lib.hid hy
  by_cases k : 2 ≤ s.st ∧ 0 < s.l1 ∧ 0 < s.l2 ∧ 1 ≤ num ∧ num ≤ 1000000
  · obtain ⟨k1, k2, k3, k4, k5⟩ := k
    have E1 := Lib.hid (show s.rok num = true by simp [GlobalS.rok, k1, k2, k3, k4, k5])
    have E2 := Lib.hid (show s.rate num = num * y / x by simp [GlobalS.rate, E1.out, hx, hy])
    have E3 := Lib.hid (show s.ok = true by simp [GlobalS.ok, k1])
    rw [hx] at k2
    rw [hy] at k3
    have d1 : (x == 0) = false := by simp; omega
    have d2 : (y == 0) = false := by simp; omega
    have hm0 : 0 ≤ num * y := Int.mul_nonneg (by omega) (by omega)
    have hm1 : num * y ≤ 1000000 * 65536 := Int.mul_le_mul k5 (by omega) (by omega) (by omega)
    have hwr : wrap64 (num * y) = num * y := by unfold wrap64; omega
    clear hx hy
    go_enter Try.func19, Try.ntmps19
    go_wp2_with fail
    refine (rglo_lengths hM HA.out).mono ?_
    rintro e w' ⟨rfl, nq, rfl⟩
    rw [E3.out, X.out, Y.out]
    go_wp2
    go_ret2
    exact ⟨by rw [E1.out, E2.out]; rfl, _, rfl⟩
  · have E1 := Lib.hid (show s.rok num = false by simp only [GlobalS.rok, k]; rfl)
    have E2 := Lib.hid (show s.rate num = num by simp [GlobalS.rate, E1.out])
    by_cases k1 : 2 ≤ s.st
    · have E3 := Lib.hid (show s.ok = true by simp [GlobalS.ok, k1])
      by_cases k2 : x = 0
      · have d1 : (x == 0) = true := by simp [k2]
        clear k k2 hx hy
        go_enter Try.func19, Try.ntmps19
        go_wp2_with fail
        refine (rglo_lengths hM HA.out).mono ?_
        rintro e w' ⟨rfl, nq, rfl⟩
        rw [E3.out, X.out, Y.out]
        go_wp2
        go_ret2
        exact ⟨by rw [E1.out, E2.out]; rfl, _, rfl⟩
      · have d1 : (x == 0) = false := by simp [k2]
        by_cases k3 : y = 0
        · have d2 : (y == 0) = true := by simp [k3]
          clear k k2 k3 hx hy
          go_enter Try.func19, Try.ntmps19
          go_wp2_with fail
          refine (rglo_lengths hM HA.out).mono ?_
          rintro e w' ⟨rfl, nq, rfl⟩
          rw [E3.out, X.out, Y.out]
          go_wp2
          go_ret2
          exact ⟨by rw [E1.out, E2.out]; rfl, _, rfl⟩
        · have d2 : (y == 0) = false := by simp [k3]
          by_cases k4 : 1 ≤ num
          · have k5 : 1000000 < num := by
              by_cases h : num ≤ 1000000
              · exact absurd ⟨k1, by omega, by omega, k4, h⟩ k
              · omega
            clear k k2 k3 hx hy
            go_enter Try.func19, Try.ntmps19
            go_wp2_with fail
            refine (rglo_lengths hM HA.out).mono ?_
            rintro e w' ⟨rfl, nq, rfl⟩
            rw [E3.out, X.out, Y.out]
            go_wp2
            go_ret2
            exact ⟨by rw [E1.out, E2.out]; rfl, _, rfl⟩
          · clear k k2 k3 hx hy
            go_enter Try.func19, Try.ntmps19
            go_wp2_with fail
            refine (rglo_lengths hM HA.out).mono ?_
            rintro e w' ⟨rfl, nq, rfl⟩
            rw [E3.out, X.out, Y.out]
            go_wp2
            go_ret2
            exact ⟨by rw [E1.out, E2.out]; rfl, _, rfl⟩
    · have E3 := Lib.hid (show s.ok = false by simp [GlobalS.ok]; omega)
      clear k hx hy
      go_enter Try.func19, Try.ntmps19
      go_wp2_with fail
      refine (rglo_lengths hM HA.out).mono ?_
      rintro e w' ⟨rfl, nq, rfl⟩
      rw [E3.out, X.out, Y.out]
      go_wp2
      go_ret2
      exact ⟨by rw [E1.out, E2.out]; rfl, _, rfl⟩
end
end Go.Proofs.Ythlplemhpnnedaa
