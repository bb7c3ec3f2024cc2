/- The package mark: each function's contract over its block. -/
import Derived.Test.YtkciakbkiloknaaChecked
import Derived.Test.YtkciakbkiloknaaBase
import Derived.WalkKit
import Derived.BigQuiet
import Derived.Deep.QuietTactic
import Derived.Outline
import Derived.KernelRfl
namespace Go.Proofs.Ytkciakbkiloknaa
open Go.RowKit

/-- How far one time is behind another one. -/
def since (a b : Int) : Int := (b - a) % 65536

structure MarkS where
  s : Int
  hs : Bool
  g : Int
  hg : Bool
  c : Int
def markO (m : MarkS) : Obj := .cells #[.int .u16 m.s, .int .i64 (b2i m.hs), .int .u16 m.g, .int .i64 (b2i m.hg), .int .i64 m.c] 77 (0, 0)
def MarkS.new : MarkS := ⟨0, false, 0, false, 0⟩
def MarkS.start (m : MarkS) (t : Int) : MarkS := { m with s := t, hs := true }
def MarkS.beat (m : MarkS) (cycle : Int) : MarkS := if m.hs then { m with g := m.s, hg := true, c := min (max cycle 0) 7 } else m
def MarkS.at (m : MarkS) (t : Int) : Int := if m.hg then since m.g t else 0
/-- Block b is a mark that reads m. -/
def Mk (w : World) (b : Nat) (m : MarkS) : Prop := w.heap[b]? = some (markO m)

theorem since_calls (a b : Int) (w : World) : Calls Try.prog 43 #[.int .u16 a, .int .u16 b] w fun e w' => e = .returned (.int .i64 (since a b)) ∧ w = w' := by
  have h1 : 0 ≤ IntKind.u16.wrap (b - a) := by rw [wu16]; omega
  have h2 : IntKind.u16.wrap (b - a) < 65536 := by rw [wu16]; omega
  go_enter Try.func43, Try.ntmps43
  go_wp2
  go_ret
  exact ⟨by rw [wu16]; rfl, rfl⟩

theorem mark_new (w : World) : Calls Try.prog 17 #[] w fun e w' => e = .returned (.pointer (some ⟨w.heap.size, 0, none⟩)) ∧ Mk w' w.heap.size MarkS.new ∧ Below w.heap.size w w' ∧ w'.heap.size = w.heap.size + 1 := by
  go_enter Try.func17, Try.ntmps17
  go_wp2
  go_ret
  exact ⟨rfl, new_blk _ _, (Below.refl _ _).alloc (Nat.le_refl _) _, by simp⟩

theorem z22 : (Try.prog.info? 22).map (·.size) = some 1 := by kernel_rfl

theorem mark_start {w : World} {b : Nat} {m : MarkS} (hM : Mk w b m) (x : Int) :
    Calls Try.prog 18 #[.pointer (some ⟨b, 0, none⟩), .int .u16 x] w fun e w' => e = .returned (.tuple #[]) ∧ Upd b (markO (m.start x)) w w' := by
  have c0 := cell_of hM 0
  have c1 := cell_of hM 1
  have f0 := free_of hM 0
  have f1 := free_of hM 1
  have hb := lt_of_heap hM
  simp at c0 c1
  have hcp := @copy_one' Try.prog 88 88 22 Try.underlying88 z22
  have hoc : ∀ k x, (Value.int k x).oneCell' = true := fun _ _ => rfl
  go_enter Try.func18, Try.ntmps18
  go_wp2
  go_end0
  go_wp2
  go_end0
  refine ⟨rfl, Upd.of_eq (by repeat (first | with_reducible apply Upd.setCell | with_reducible apply Upd.alloc | with_reducible apply Upd.drewN | exact Upd.refl hM)) ?_⟩
  simp [markO, MarkS.start, b2i_true, b2i_false]

theorem mark_forget {w : World} {b : Nat} {m : MarkS} (hM : Mk w b m) :
    Calls Try.prog 22 #[.pointer (some ⟨b, 0, none⟩)] w fun e w' => e = .returned (.tuple #[]) ∧ Upd b (markO MarkS.new) w w' := by
  have c0 := cell_of hM 0
  have c1 := cell_of hM 1
  have c2 := cell_of hM 2
  have c3 := cell_of hM 3
  have c4 := cell_of hM 4
  have f0 := free_of hM 0
  have f1 := free_of hM 1
  have f2 := free_of hM 2
  have f3 := free_of hM 3
  have f4 := free_of hM 4
  simp at c0 c1 c2 c3 c4
  go_enter Try.func22, Try.ntmps22
  go_wp2
  go_end0
  refine ⟨rfl, Upd.of_eq (by repeat (first | with_reducible apply Upd.setCell | with_reducible apply Upd.alloc | with_reducible apply Upd.drewN | exact Upd.refl hM)) ?_⟩
  simp [markO, MarkS.new, b2i_true, b2i_false]

theorem mark_beat {w : World} {b : Nat} {m : MarkS} (hM : Mk w b m) (x : Int) :
    Calls Try.prog 19 #[.pointer (some ⟨b, 0, none⟩), .int .i64 x] w fun e w' => e = .returned (.tuple #[]) ∧ Upd b (markO (m.beat x)) w w' := by
  obtain ⟨s, hs, g, hg, c⟩ := m
  have c0 := cell_of hM 0
  have c1 := cell_of hM 1
  have c2 := cell_of hM 2
  have c3 := cell_of hM 3
  have c4 := cell_of hM 4
  have f2 := free_of hM 2
  have f3 := free_of hM 3
  have f4 := free_of hM 4
  simp at c0 c1 c2 c3 c4
  cases hs
  · simp only [b2i_false] at c1
    go_enter Try.func19, Try.ntmps19
    go_wp2
    go_end0
    exact ⟨rfl, Upd.refl hM⟩
  · simp only [b2i_true] at c1
    go_enter Try.func19, Try.ntmps19
    go_wp2
    all_goals
      go_end0
      refine ⟨rfl, Upd.of_eq (by repeat (first | with_reducible apply Upd.setCell | with_reducible apply Upd.alloc | with_reducible apply Upd.drewN | exact Upd.refl hM)) ?_⟩
      simp [markO, MarkS.beat, b2i_true, b2i_false]
      omega

theorem mark_at {w : World} {b : Nat} {m : MarkS} (hM : Mk w b m) (x : Int) :
    Calls Try.prog 20 #[.pointer (some ⟨b, 0, none⟩), .int .u16 x] w fun e w' => e = .returned (.tuple #[.int .i64 (m.at x), .bool m.hg]) ∧ w = w' := by
  obtain ⟨s, hs, g, hg, c⟩ := m
  have c2 := cell_of hM 2
  have c3 := cell_of hM 3
  simp at c2 c3
  cases hg
  · simp only [b2i_false] at c3
    go_enter Try.func20, Try.ntmps20
    go_wp2
    go_ret2
    exact ⟨rfl, rfl⟩
  · simp only [b2i_true] at c3
    go_enter Try.func20, Try.ntmps20
    go_wp2_with (go_at_call 43; refine (since_calls _ _ _).mono ?_; rintro e w' ⟨rfl, rfl⟩)
    go_ret2
    exact ⟨rfl, rfl⟩

theorem mark_cycle {w : World} {b : Nat} {m : MarkS} (hM : Mk w b m) :
    Calls Try.prog 21 #[.pointer (some ⟨b, 0, none⟩)] w fun e w' => e = .returned (.int .i64 m.c) ∧ w = w' := by
  have c4 := cell_of hM 4
  simp at c4
  go_enter Try.func21, Try.ntmps21
  go_wp2
  go_ret
  exact ⟨rfl, rfl⟩

theorem mark_last {w : World} {b : Nat} {m : MarkS} (hM : Mk w b m) :
    Calls Try.prog 36 #[.pointer (some ⟨b, 0, none⟩)] w fun e w' => e = .returned (.tuple #[.int .u16 m.g, .bool m.hg]) ∧ ∃ n, w' = w.drewN n := by
  obtain ⟨s, hs, g, hg, c⟩ := m
  have c2 := cell_of hM 2
  have c3 := cell_of hM 3
  simp at c2 c3
  cases hg
  · simp only [b2i_false] at c3
    go_enter Try.func36, Try.ntmps36
    go_wp2
    go_quiet (fail)
    go_wp2
    go_ret2
    exact ⟨rfl, _, rfl⟩
  · simp only [b2i_true] at c3
    go_enter Try.func36, Try.ntmps36
    go_wp2
    go_quiet (fail)
    go_wp2
    go_ret2
    exact ⟨rfl, _, rfl⟩

theorem mark_copy {w : World} {b : Nat} {m : MarkS} (hM : Mk w b m) :
    Calls Try.prog 32 #[.pointer (some ⟨b, 0, none⟩)] w fun e w' => ∃ b', w.heap.size ≤ b' ∧ e = .returned (.pointer (some ⟨b', 0, none⟩)) ∧ Mk w' b' m ∧ Below w.heap.size w w' := by
  have c0 := cell_of hM 0
  have c1 := cell_of hM 1
  have c2 := cell_of hM 2
  have c3 := cell_of hM 3
  have c4 := cell_of hM 4
  have hb := lt_of_heap hM
  simp at c0 c1 c2 c3 c4
  go_enter Try.func32, Try.ntmps32
  go_wp2
  go_ret
  exact ⟨_, Nat.le_refl _, rfl, new_blk _ _, (Below.refl _ _).alloc (Nat.le_refl _) _⟩
end Go.Proofs.Ytkciakbkiloknaa
