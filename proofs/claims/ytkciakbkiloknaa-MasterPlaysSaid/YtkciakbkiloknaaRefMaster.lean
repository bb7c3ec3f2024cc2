/- The document's master: each function's contract over its block; it reads as the package's own does. -/
import Derived.Test.YtkciakbkiloknaaMaster
namespace Go.Proofs.Ytkciakbkiloknaa
set_option linter.unusedVariables false
set_option linter.unusedSimpArgs false
open Go.RowKit

def rmasO (m : MasterS) : Obj := .cells #[.int .i64 m.rank, .int .i64 m.state, .int .i64 m.leader] 63 (0, 0)
def IsRMas (w : World) (b : Nat) (m : MasterS) : Prop := w.heap[b]? = some (rmasO m)

theorem rmas_new (r : Int) (w : World) : Calls Try.prog 46 #[.int .i64 r] w fun e w' => ∃ b, e = .returned (.pointer (some ⟨b, 0, none⟩)) ∧ IsRMas w' b (MasterS.new r) ∧ Below w.heap.size w w' ∧ w.heap.size ≤ b := by
  by_cases c : r ≤ -1
  all_goals
    go_enter Try.func46, Try.ntmps46
    go_wp2
    go_ret
    refine ⟨w.heap.size, rfl, (new_blk _ _).trans ?_, ((Below.refl _ _).alloc (Nat.le_refl _) _), by simp⟩
    simp [rmasO, MasterS.new]
    omega

theorem rmas_beat {w : World} {b : Nat} {m : MasterS} (hM : IsRMas w b m) (r : Int) (h0 : 0 ≤ m.state) (h1 : m.state ≤ 2) :
    Calls Try.prog 50 #[.pointer (some ⟨b, 0, none⟩), .int .i64 r] w fun e w' => e = .returned (.tuple #[]) ∧ Upd b (rmasO (m.beat r)) w w' := by
  obtain ⟨rank, state, leader⟩ := m
  simp only at h0 h1
  have c0 := cell_of hM 0
  have c1 := cell_of hM 1
  have c2 := cell_of hM 2
  have cf0 := free_of hM 0
  have cf1 := free_of hM 1
  have cf2 := free_of hM 2
  have clt := lt_of_heap hM
  simp at c0 c1 c2
  by_cases k : state < 2
  all_goals
    go_enter Try.func50, Try.ntmps50
    go_wp2
    go_end0
    refine ⟨rfl, Upd.of_eq (by repeat (first | with_reducible apply Upd.setCell | with_reducible apply Upd.alloc | with_reducible apply Upd.drewN | exact Upd.refl hM)) ?_⟩
    simp [rmasO, MasterS.beat]
    omega

theorem rmas_sent {w : World} {b : Nat} {m : MasterS} (hM : IsRMas w b m) :
    Calls Try.prog 48 #[.pointer (some ⟨b, 0, none⟩)] w fun e w' => e = .returned (.tuple #[]) ∧ Upd b (rmasO m.sent) w w' := by
  obtain ⟨rank, state, leader⟩ := m
  have c0 := cell_of hM 0
  have c1 := cell_of hM 1
  have c2 := cell_of hM 2
  have cf0 := free_of hM 0
  have cf1 := free_of hM 1
  have cf2 := free_of hM 2
  have clt := lt_of_heap hM
  simp at c0 c1 c2
  by_cases k : 0 ≤ rank
  · go_enter Try.func48, Try.ntmps48
    go_wp2
    go_end0
    refine ⟨rfl, Upd.of_eq (by repeat (first | with_reducible apply Upd.setCell | with_reducible apply Upd.alloc | with_reducible apply Upd.drewN | exact Upd.refl hM)) ?_⟩
    simp [rmasO, MasterS.sent, k]
  · go_enter Try.func48, Try.ntmps48
    go_wp2
    go_end0
    refine ⟨rfl, Upd.of_eq (by repeat (first | with_reducible apply Upd.setCell | with_reducible apply Upd.alloc | with_reducible apply Upd.drewN | exact Upd.refl hM)) ?_⟩
    simp [rmasO, MasterS.sent, show ¬ 0 ≤ rank by omega]

theorem rmas_watch {w : World} {b : Nat} {m : MasterS} (hM : IsRMas w b m) :
    Calls Try.prog 49 #[.pointer (some ⟨b, 0, none⟩)] w fun e w' => e = .returned (.tuple #[]) ∧ Upd b (rmasO m.watch) w w' := by
  obtain ⟨rank, state, leader⟩ := m
  have c0 := cell_of hM 0
  have c1 := cell_of hM 1
  have c2 := cell_of hM 2
  have cf0 := free_of hM 0
  have cf1 := free_of hM 1
  have cf2 := free_of hM 2
  have clt := lt_of_heap hM
  simp at c0 c1 c2
  go_enter Try.func49, Try.ntmps49
  go_wp2
  go_end0
  refine ⟨rfl, Upd.of_eq (by repeat (first | with_reducible apply Upd.setCell | with_reducible apply Upd.alloc | with_reducible apply Upd.drewN | exact Upd.refl hM)) ?_⟩
  simp [rmasO, MasterS.watch]

theorem rmas_leads {w : World} {b : Nat} {m : MasterS} (hM : IsRMas w b m) :
    Calls Try.prog 51 #[.pointer (some ⟨b, 0, none⟩)] w fun e w' => e = .returned (.bool m.leads) ∧ ∃ n, w' = w.drewN n := by
  obtain ⟨rank, state, leader⟩ := m
  have c0 := cell_of hM 0
  have c1 := cell_of hM 1
  have c2 := cell_of hM 2
  have cf0 := free_of hM 0
  have cf1 := free_of hM 1
  have cf2 := free_of hM 2
  have clt := lt_of_heap hM
  simp at c0 c1 c2
  by_cases k : 0 ≤ rank
  · by_cases k2 : state = 2
    · have d2 : (state == 2) = true := by simp [k2]
      have d1 : decide (0 ≤ rank) = true := by simp [k]
      have E3 := Lib.hid (show (⟨rank, state, leader⟩ : MasterS).leads = decide (rank ≤ leader) by simp [MasterS.leads, k, k2])
      clear k2
      go_enter Try.func51, Try.ntmps51
      go_wp2
      go_quiet (fail)
      go_wp2
      go_ret
      exact ⟨by rw [E3.out]; rfl, _, rfl⟩
    · have d2 : (state == 2) = false := by simp [k2]
      have d1 : decide (0 ≤ rank) = true := by simp [k]
      have E3 := Lib.hid (show (⟨rank, state, leader⟩ : MasterS).leads = false by simp [MasterS.leads, k, k2])
      clear k2
      go_enter Try.func51, Try.ntmps51
      go_wp2
      go_quiet (fail)
      go_wp2
      go_ret
      exact ⟨by rw [E3.out]; rfl, _, rfl⟩
  · have d1 : decide (0 ≤ rank) = false := by simp [k]
    have E3 := Lib.hid (show (⟨rank, state, leader⟩ : MasterS).leads = false by simp [MasterS.leads, k])
    go_enter Try.func51, Try.ntmps51
    go_wp2
    go_quiet (fail)
    go_wp2
    go_ret
    exact ⟨by rw [E3.out]; rfl, _, rfl⟩
end Go.Proofs.Ytkciakbkiloknaa
