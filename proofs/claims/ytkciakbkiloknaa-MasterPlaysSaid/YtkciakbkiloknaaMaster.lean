/- The package master, and the document's master: each function's contract over its block. -/
import Derived.Test.YtkciakbkiloknaaChecked
import Derived.Test.YtkciakbkiloknaaBase
import Derived.WalkKit
import Derived.BigQuiet
import Derived.Deep.QuietTactic
import Derived.Outline
import Derived.KernelRfl
import Derived.Lib.Hide
namespace Go.Proofs.Ytkciakbkiloknaa
set_option linter.unusedVariables false
set_option linter.unusedSimpArgs false
open Go.RowKit

structure MasterS where
  rank : Int
  state : Int
  leader : Int
def masO (m : MasterS) : Obj := .cells #[.int .i64 m.rank, .int .i64 m.state, .int .i64 m.leader] 82 (0, 0)
def MasterS.new (r : Int) : MasterS := ⟨max r (-1), 0, -1⟩
def MasterS.beat (m : MasterS) (r : Int) : MasterS := { m with state := min (m.state + 1) 2, leader := r }
def MasterS.sent (m : MasterS) : MasterS := if 0 ≤ m.rank then { m with state := 2, leader := m.rank } else m
def MasterS.watch (m : MasterS) : MasterS := { m with state := 0, leader := -1 }
def MasterS.stands (m : MasterS) : Bool := decide (0 ≤ m.rank)
def MasterS.leads (m : MasterS) : Bool := decide (0 ≤ m.rank) && (decide (m.state = 2) && decide (m.rank ≤ m.leader))
/-- Block b is a master that reads m. -/
def IsMas (w : World) (b : Nat) (m : MasterS) : Prop := w.heap[b]? = some (masO m)

theorem mas_nothing (w : World) : Calls Try.prog 57 #[] w fun e w' => e = .returned (.agg #[.int .i64 0, .int .i64 (-1)]) ∧ w.alloc (.cells #[.int .i64 0, .int .i64 (-1)] 79) = w' := by
  go_enter Try.func57, Try.ntmps57
  go_wp2
  exact bodyPost_ret (v := .agg #[.int .i64 0, .int .i64 (-1)]) (by simp [results, Try.results57, go_sem]) rfl ⟨rfl, rfl⟩

theorem mas_new (r : Int) (w : World) : Calls Try.prog 24 #[.int .i64 r] w fun e w' => ∃ b, e = .returned (.pointer (some ⟨b, 0, none⟩)) ∧ IsMas w' b (MasterS.new r) ∧ Below w.heap.size w w' ∧ w.heap.size ≤ b := by
  by_cases c : r < -1
  all_goals
    go_enter Try.func24, Try.ntmps24
    go_wp2_with fail
    refine (mas_nothing _).mono ?_
    rintro e w' ⟨rfl, rfl⟩
    go_wp2
    go_ret
    refine ⟨w.heap.size + 1, rfl, (new_blk2 _ _ _).trans ?_, ((Below.refl _ _).alloc (Nat.le_refl _) _).alloc (by simp) _, by simp⟩
    simp [masO, MasterS.new]
    omega

theorem mas_stands {w : World} {b : Nat} {m : MasterS} (hM : IsMas w b m) :
    Calls Try.prog 30 #[.pointer (some ⟨b, 0, none⟩)] w fun e w' => e = .returned (.bool m.stands) ∧ w = w' := by
  have c0 := cell_of hM 0
  have c1 := cell_of hM 1
  have c2 := cell_of hM 2
  have cf0 := free_of hM 0
  have cf1 := free_of hM 1
  have cf2 := free_of hM 2
  have clt := lt_of_heap hM
  simp at c0 c1 c2
  go_enter Try.func30, Try.ntmps30
  go_wp2
  go_ret
  exact ⟨rfl, rfl⟩
theorem mas_stands' {w : World} {b : Nat} {m : MasterS} {v : Bool} (hM : IsMas w b m) (hv : m.stands = v) :
    Calls Try.prog 30 #[.pointer (some ⟨b, 0, none⟩)] w fun e w' => e = .returned (.bool v) ∧ w = w' := hv ▸ mas_stands hM
theorem mas_state {w : World} {b : Nat} {m : MasterS} (hM : IsMas w b m) :
    Calls Try.prog 31 #[.pointer (some ⟨b, 0, none⟩)] w fun e w' => e = .returned (.int .i64 m.state) ∧ w = w' := by
  have c0 := cell_of hM 0
  have c1 := cell_of hM 1
  have c2 := cell_of hM 2
  have cf0 := free_of hM 0
  have cf1 := free_of hM 1
  have cf2 := free_of hM 2
  have clt := lt_of_heap hM
  simp at c0 c1 c2
  go_enter Try.func31, Try.ntmps31
  go_wp2
  go_ret
  exact ⟨rfl, rfl⟩
theorem mas_leader {w : World} {b : Nat} {m : MasterS} (hM : IsMas w b m) :
    Calls Try.prog 28 #[.pointer (some ⟨b, 0, none⟩)] w fun e w' => e = .returned (.int .i64 m.leader) ∧ w = w' := by
  have c0 := cell_of hM 0
  have c1 := cell_of hM 1
  have c2 := cell_of hM 2
  have cf0 := free_of hM 0
  have cf1 := free_of hM 1
  have cf2 := free_of hM 2
  have clt := lt_of_heap hM
  simp at c0 c1 c2
  go_enter Try.func28, Try.ntmps28
  go_wp2
  go_ret
  exact ⟨rfl, rfl⟩

theorem mas_beat {w : World} {b : Nat} {m : MasterS} (hM : IsMas w b m) (r : Int) (h0 : 0 ≤ m.state) (h1 : m.state ≤ 2) :
    Calls Try.prog 26 #[.pointer (some ⟨b, 0, none⟩), .int .i64 r] w fun e w' => e = .returned (.tuple #[]) ∧ Upd b (masO (m.beat r)) w w' := by
  obtain ⟨rank, state, leader⟩ := m
  simp only at h0 h1
  have c0 := cell_of hM 0
  have c1 := cell_of hM 1
  have c2 := cell_of hM 2
  have cf0 := free_of hM 0
  have cf1 := free_of hM 1
  have cf2 := free_of hM 2
  have clt := lt_of_heap hM
  simp at c0 c1 c2
  by_cases k : state < 2
  all_goals
    go_enter Try.func26, Try.ntmps26
    go_wp2
    go_end0
    refine ⟨rfl, Upd.of_eq (by repeat (first | with_reducible apply Upd.setCell | with_reducible apply Upd.alloc | with_reducible apply Upd.drewN | exact Upd.refl hM)) ?_⟩
    simp [masO, MasterS.beat]
    omega

theorem mas_sent {w : World} {b : Nat} {m : MasterS} (hM : IsMas w b m) :
    Calls Try.prog 25 #[.pointer (some ⟨b, 0, none⟩)] w fun e w' => e = .returned (.tuple #[]) ∧ Upd b (masO m.sent) w w' := by
  obtain ⟨rank, state, leader⟩ := m
  have c0 := cell_of hM 0
  have c1 := cell_of hM 1
  have c2 := cell_of hM 2
  have cf0 := free_of hM 0
  have cf1 := free_of hM 1
  have cf2 := free_of hM 2
  have clt := lt_of_heap hM
  simp at c0 c1 c2
  by_cases k : 0 ≤ rank
  · have ks : (⟨rank, state, leader⟩ : MasterS).stands = true := by simp [MasterS.stands, k]
    go_enter Try.func25, Try.ntmps25
    go_wp2_with (go_at_call 30; refine (mas_stands hM).mono ?_; rintro e w' ⟨rfl, rfl⟩)
    go_end0
    refine ⟨rfl, Upd.of_eq (by repeat (first | with_reducible apply Upd.setCell | with_reducible apply Upd.alloc | with_reducible apply Upd.drewN | exact Upd.refl hM)) ?_⟩
    simp [masO, MasterS.sent, k]
  · have ks : (⟨rank, state, leader⟩ : MasterS).stands = false := by simp [MasterS.stands, k]
    go_enter Try.func25, Try.ntmps25
    go_wp2_with (go_at_call 30; refine (mas_stands hM).mono ?_; rintro e w' ⟨rfl, rfl⟩)
    go_end0
    refine ⟨rfl, Upd.of_eq (by repeat (first | with_reducible apply Upd.setCell | with_reducible apply Upd.alloc | with_reducible apply Upd.drewN | exact Upd.refl hM)) ?_⟩
    simp [masO, MasterS.sent, show ¬ 0 ≤ rank by omega]

theorem mas_watch {w : World} {b : Nat} {m : MasterS} (hM : IsMas w b m) :
    Calls Try.prog 29 #[.pointer (some ⟨b, 0, none⟩)] w fun e w' => e = .returned (.tuple #[]) ∧ Upd b (masO m.watch) w w' := by
  obtain ⟨rank, state, leader⟩ := m
  have c0 := cell_of hM 0
  have c1 := cell_of hM 1
  have c2 := cell_of hM 2
  have cf0 := free_of hM 0
  have cf1 := free_of hM 1
  have cf2 := free_of hM 2
  have clt := lt_of_heap hM
  simp at c0 c1 c2
  have hp : Try.prog.stoodInHeld 79 = false := by kernel_rfl
  have hg : Try.prog.eqGuardType Try.prog.depth 79 = false := by kernel_rfl
  by_cases k1 : state = 0
  · by_cases k2 : leader = -1
    · have d1 : (state == 0) = true := by simp [k1]
      have d2 : (leader == -1) = true := by simp [k2]
      have K1 := Lib.hid k1
      have K2 := Lib.hid k2
      clear k1 k2
      go_enter Try.func29, Try.ntmps29
      go_wp2_with fail
      refine (mas_nothing _).mono ?_
      rintro e w' ⟨rfl, rfl⟩
      go_wp2
      go_quiet (fail)
      go_wp2
      go_end0
      refine ⟨rfl, Upd.of_eq (by repeat (first | with_reducible apply Upd.setCell | with_reducible apply Upd.alloc | with_reducible apply Upd.drewN | exact Upd.refl hM)) ?_⟩
      simp [masO, MasterS.watch, K1.out, K2.out]
    · have d1 : (state == 0) = true := by simp [k1]
      have d2 : (leader == -1) = false := by simp [k2]
      have K1 := Lib.hid k1
      have K2 := Lib.hid k2
      clear k1 k2
      go_enter Try.func29, Try.ntmps29
      go_wp2_with fail
      refine (mas_nothing _).mono ?_
      rintro e w' ⟨rfl, rfl⟩
      go_wp2
      go_quiet (fail)
      go_wp2
      go_end0
      refine ⟨rfl, Upd.of_eq (by repeat (first | with_reducible apply Upd.setCell | with_reducible apply Upd.alloc | with_reducible apply Upd.drewN | exact Upd.refl hM)) ?_⟩
      simp [masO, MasterS.watch]
  · have d1 : (state == 0) = false := by simp [k1]
    have K1 := Lib.hid k1
    clear k1
    go_enter Try.func29, Try.ntmps29
    go_wp2_with fail
    refine (mas_nothing _).mono ?_
    rintro e w' ⟨rfl, rfl⟩
    go_wp2
    go_quiet (fail)
    go_wp2
    go_end0
    refine ⟨rfl, Upd.of_eq (by repeat (first | with_reducible apply Upd.setCell | with_reducible apply Upd.alloc | with_reducible apply Upd.drewN | exact Upd.refl hM)) ?_⟩
    simp [masO, MasterS.watch]

theorem mas_leads {w : World} {b : Nat} {m : MasterS} (hM : IsMas w b m) :
    Calls Try.prog 27 #[.pointer (some ⟨b, 0, none⟩)] w fun e w' => e = .returned (.bool m.leads) ∧ ∃ n, w' = w.drewN n := by
  obtain ⟨rank, state, leader⟩ := m
  have c0 := cell_of hM 0
  have c1 := cell_of hM 1
  have c2 := cell_of hM 2
  have cf0 := free_of hM 0
  have cf1 := free_of hM 1
  have cf2 := free_of hM 2
  have clt := lt_of_heap hM
  simp at c0 c1 c2
  by_cases k : 0 ≤ rank
  · have KS := Lib.hid (show (⟨rank, state, leader⟩ : MasterS).stands = true by simp [MasterS.stands, k])
    by_cases k2 : state = 2
    · have d2 : (state == 2) = true := by simp [k2]
      have e3 : (⟨rank, state, leader⟩ : MasterS).leads = decide (rank ≤ leader) := by simp [MasterS.leads, k, k2]
      have E3 := Lib.hid e3
      clear e3 k2
      go_enter Try.func27, Try.ntmps27
      go_wp2
      go_quiet ((go_at_call 30; exact quiet_left (mas_stands' (w := World.drewN _ _) hM KS.out)))
      go_wp2
      go_ret
      exact ⟨by rw [E3.out]; rfl, _, rfl⟩
    · have d2 : (state == 2) = false := by simp [k2]
      have d3 : decide (state = 2) = false := by simp [k2]
      have e3 : (⟨rank, state, leader⟩ : MasterS).leads = false := by simp [MasterS.leads, k, k2]
      have E3 := Lib.hid e3
      clear e3 k2
      go_enter Try.func27, Try.ntmps27
      go_wp2
      go_quiet ((go_at_call 30; exact quiet_left (mas_stands' (w := World.drewN _ _) hM KS.out)))
      go_wp2
      go_ret
      exact ⟨by rw [E3.out]; rfl, _, rfl⟩
  · have KS := Lib.hid (show (⟨rank, state, leader⟩ : MasterS).stands = false by simp [MasterS.stands, k])
    have e3 : (⟨rank, state, leader⟩ : MasterS).leads = false := by simp [MasterS.leads, k]
    have E3 := Lib.hid e3
    clear e3
    go_enter Try.func27, Try.ntmps27
    go_wp2
    go_quiet ((go_at_call 30; exact quiet_left (mas_stands' (w := World.drewN _ _) hM KS.out)))
    go_wp2
    go_ret
    exact ⟨by rw [E3.out]; rfl, _, rfl⟩

theorem mas_copy {w : World} {b : Nat} {m : MasterS} (hM : IsMas w b m) :
    Calls Try.prog 47 #[.pointer (some ⟨b, 0, none⟩)] w fun e w' => ∃ b', w.heap.size ≤ b' ∧ e = .returned (.pointer (some ⟨b', 0, none⟩)) ∧ IsMas w' b' m ∧ Below w.heap.size w w' := by
  have c0 := cell_of hM 0
  have c1 := cell_of hM 1
  have c2 := cell_of hM 2
  have cf0 := free_of hM 0
  have cf1 := free_of hM 1
  have cf2 := free_of hM 2
  have clt := lt_of_heap hM
  simp at c0 c1 c2
  go_enter Try.func47, Try.ntmps47
  go_wp2
  go_ret
  exact ⟨_, Nat.le_refl _, rfl, new_blk _ _, (Below.refl _ _).alloc (Nat.le_refl _) _⟩
end Go.Proofs.Ytkciakbkiloknaa
