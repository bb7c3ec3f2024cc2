/- Words on matrices in memory, without the program's matrix package: used where that package is not reached. -/
import Derived.Test.YtmbhgipoofllfaaMatM
import Derived.Test.YtmbhgipoofllfaaChecked
import Derived.BigQuiet
import Derived.BigGuardPart
import Derived.Deep.QuietTactic
import Derived.Outline
import Derived.Laws.EntriesVeiled
import Derived.WalkSpells
import Derived.Deep.MidRow
import Derived.Deep.RegionHeld3
namespace Go.Proofs.Ytmbhgipoofllfaa
set_option linter.unusedVariables false
set_option linter.unusedSimpArgs false
open Go.ChangeShapes Go.WideShapes Go.ChangeAt Go.RowKit Go.Deep
theorem I64.bounds {n : Int} (h : I64 n) : -9223372036854775808 ≤ n ∧ n ≤ 9223372036854775807 := by
  have := bounds_i64 h; omega

theorem ret_int {k : IntKind} {a b : Int} (h : a = b) : Ending.returned (.int k a) = .returned (.int k b) := by rw [h]
theorem ret_bool {a b : Bool} (h : a = b) : Ending.returned (.bool a) = .returned (.bool b) := by rw [h]
/-- A row of numbers in memory, at index k. -/
theorem RdL.at_ {α : Type} {k : Nat} {C : α → List Value} {w : World} {a : Option Addr} {n cap : Nat} {l : List α} (h : RdL k C w (.slice a n cap) l) (i : Nat) (hi : i < n) :
    ∃ x b off, l[i]? = some x ∧ x ∈ l ∧ a = some ⟨b, off, none⟩ ∧ b < w.heap.size ∧ ∀ j u, (C x)[j]? = some u → w.cell? ⟨b, off + (i * k + j), none⟩ = some u := by
  obtain ⟨a', cap', e, h2, h2', h3⟩ := h
  simp only [Value.slice.injEq] at e
  obtain ⟨rfl, rfl, rfl⟩ := e
  obtain ⟨b, off, e, hlt, hc⟩ := h3 i l[i] (by simp [hi])
  exact ⟨l[i], b, off, by simp [hi], by simp, e, hlt, hc⟩
theorem RdL.len {α : Type} {k : Nat} {C : α → List Value} {w : World} {a : Option Addr} {n cap : Nat} {l : List α} (h : RdL k C w (.slice a n cap) l) : n = l.length ∧ n ≤ cap ∧ cap ≤ maxLen := by
  obtain ⟨a', cap', e, h2, h2', h3⟩ := h
  simp only [Value.slice.injEq] at e
  obtain ⟨rfl, rfl, rfl⟩ := e
  exact ⟨rfl, h2, h2'⟩
theorem RdL.shape {α : Type} {k : Nat} {C : α → List Value} {w : World} {v : Value} {l : List α} (h : RdL k C w v l) : ∃ a cap, v = .slice a l.length cap ∧ RdL k C w (.slice a l.length cap) l := by
  obtain ⟨a, cap, e, h2, h2', h3⟩ := h
  exact ⟨a, cap, e, a, cap, rfl, h2, h2', h3⟩

def boxM (m : Mat) (s1 s2 s3 : Value) : Obj := .cells #[.int .i64 m.level, .int .i64 m.nodes, .int .i64 m.cycles, .int .i64 m.length, .int .i64 m.enable, .int .i64 m.unit, .int .i64 m.init, .int .u32 m.ref, s1, s2, s3] 62 (0, 0)
theorem boxM_c {w : World} {b : Nat} {m : Mat} {s1 s2 s3 : Value} (h : w.heap[b]? = some (boxM m s1 s2 s3)) :
    w.cell? ⟨b, 0, none⟩ = some (.int .i64 m.level) ∧ w.cell? ⟨b, 1, none⟩ = some (.int .i64 m.nodes) ∧ w.cell? ⟨b, 2, none⟩ = some (.int .i64 m.cycles) ∧ w.cell? ⟨b, 3, none⟩ = some (.int .i64 m.length) ∧
    w.cell? ⟨b, 4, none⟩ = some (.int .i64 m.enable) ∧ w.cell? ⟨b, 5, none⟩ = some (.int .i64 m.unit) ∧ w.cell? ⟨b, 6, none⟩ = some (.int .i64 m.init) ∧ w.cell? ⟨b, 7, none⟩ = some (.int .u32 m.ref) ∧
    w.cell? ⟨b, 8, none⟩ = some s1 ∧ w.cell? ⟨b, 9, none⟩ = some s2 ∧ w.cell? ⟨b, 10, none⟩ = some s3 :=
  ⟨cell_of h 0, cell_of h 1, cell_of h 2, cell_of h 3, cell_of h 4, cell_of h 5, cell_of h 6, cell_of h 7, cell_of h 8, cell_of h 9, cell_of h 10⟩
end Go.Proofs.Ytmbhgipoofllfaa
