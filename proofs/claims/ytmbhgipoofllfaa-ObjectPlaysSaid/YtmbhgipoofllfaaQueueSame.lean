/- 'same' of two slices of deliveries that read the same list: true. -/
import Derived.Test.YtmbhgipoofllfaaQueueCopy
namespace Go.Proofs.Ytmbhgipoofllfaa
set_option linter.unusedVariables false
set_option linter.unusedSimpArgs false
open Go.RowKit Go.Conc

/-- The slice v reads l. -/
def EvS (w : World) (v : Value) (l : List Ev) : Prop :=
  (v = .slice none 0 0 ∧ l = []) ∨ ∃ g cp, v = .slice (some ⟨g, 0, none⟩) l.length cp ∧ l.length ≤ cp ∧ ∀ k x, l[k]? = some x → w.cell? ⟨g, k * 2, none⟩ = some (.int .i64 x.msg) ∧ w.cell? ⟨g, k * 2 + 1, none⟩ = some (.string x.data)

set_option maxRecDepth 100000 in
theorem same_both {w : World} {g1 g2 cp1 cp2 : Nat} {l : List Ev} (h1 : ∀ k x, l[k]? = some x → w.cell? ⟨g1, k * 2, none⟩ = some (.int .i64 x.msg) ∧ w.cell? ⟨g1, k * 2 + 1, none⟩ = some (.string x.data))
    (h2 : ∀ k x, l[k]? = some x → w.cell? ⟨g2, k * 2, none⟩ = some (.int .i64 x.msg) ∧ w.cell? ⟨g2, k * 2 + 1, none⟩ = some (.string x.data)) (hlen : l.length ≤ 4) :
    Calls Try.prog 23 #[.slice (some ⟨g1, 0, none⟩) l.length cp1, .slice (some ⟨g2, 0, none⟩) l.length cp2] w fun e w' => e = .returned (.bool true) ∧ ∃ n, w' = w.drewN n := by
  have hp := no_held
  have hg := no_guard
  have H1 := Lib.hid h1
  have H2 := Lib.hid h2
  clear h1 h2
  go_enter Try.func23, Try.ntmps23
  go_wp2_with fail
  go_loopw [5] (fun i wr => ∃ k n : Nat, i = .int .i64 k ∧ k ≤ l.length ∧ wr = w.drewN n) (fun i _ => l.length - (intOf i).toNat)
  case atStart => exact ⟨0, 0, rfl, by omega, rfl⟩
  case round =>
    obtain ⟨k, n, rfl, hk, rfl⟩ := hrel
    by_cases hlt : k < l.length
    · obtain ⟨x, hx⟩ : ∃ x, l[k]? = some x := ⟨l[k], by simp [hlt]⟩
      obtain ⟨a0, a1⟩ := H1.out k x hx
      obtain ⟨b0, b1⟩ := H2.out k x hx
      clear hx
      go_wp2
      go_quiet (fail)
      go_wp2_with fail
      go_roundw
      case rel => exact ⟨k + 1, _, by go_num, by omega, rfl⟩
      case measure => simp [intOf]; omega
    · go_wp2
      go_ret
      exact ⟨rfl, n, rfl⟩

theorem same_evs {w : World} {v1 v2 : Value} {l : List Ev} (h1 : EvS w v1 l) (h2 : EvS w v2 l) (hlen : l.length ≤ 4) :
    Calls Try.prog 23 #[v1, v2] w fun e w' => e = .returned (.bool true) ∧ ∃ n, w' = w.drewN n := by
  rcases h1 with ⟨rfl, e1⟩ | ⟨g1, cp1, rfl, _, h1⟩ <;> rcases h2 with ⟨rfl, e2⟩ | ⟨g2, cp2, rfl, _, h2⟩
  · clear e1 e2 hlen
    go_enter Try.func23, Try.ntmps23
    go_wp2_with fail
    go_loopw [5] (fun i wr => i = .int .i64 0 ∧ wr = w) (fun _ _ => 0)
    case atStart => exact ⟨rfl, rfl⟩
    case round =>
      obtain ⟨rfl, rfl⟩ := hrel
      go_wp2
      go_ret
      exact ⟨rfl, 0, rfl⟩
  · subst e1
    clear h2 hlen
    simp only [List.length_nil]
    go_enter Try.func23, Try.ntmps23
    go_wp2_with fail
    go_loopw [5] (fun i wr => i = .int .i64 0 ∧ wr = w) (fun _ _ => 0)
    case atStart => exact ⟨rfl, rfl⟩
    case round =>
      obtain ⟨rfl, rfl⟩ := hrel
      go_wp2
      go_ret
      exact ⟨rfl, 0, rfl⟩
  · subst e2
    clear h1 hlen
    simp only [List.length_nil]
    go_enter Try.func23, Try.ntmps23
    go_wp2_with fail
    go_loopw [5] (fun i wr => i = .int .i64 0 ∧ wr = w) (fun _ _ => 0)
    case atStart => exact ⟨rfl, rfl⟩
    case round =>
      obtain ⟨rfl, rfl⟩ := hrel
      go_wp2
      go_ret
      exact ⟨rfl, 0, rfl⟩
  · exact same_both h1 h2 hlen

/-- What a slice reads stays, where the block that is turned is older than the slice's. -/
theorem EvS.keep {w w' : World} {v : Value} {l : List Ev} (h : EvS w v l) (hb : ∀ g, v.ownBlock = some g → g < w.heap.size → w'.heap[g]? = w.heap[g]?) : EvS w' v l := by
  rcases h with h | ⟨g, cp, rfl, hcp, h⟩
  · exact .inl h
  · refine .inr ⟨g, cp, rfl, hcp, fun k x hx => ?_⟩
    obtain ⟨a, b⟩ := h k x hx
    have hlt := World.block_lt_of_cell? w _ a
    have e := hb g rfl hlt
    exact ⟨(World.cell?_of_block (a := ⟨g, k * 2, none⟩) e).trans a, (World.cell?_of_block (a := ⟨g, k * 2 + 1, none⟩) e).trans b⟩
theorem evS_of {w : World} {base : Nat} {v : Value} {l : List Ev} (h : w.ownsRow base 29 2 v l.length (evCells l)) : EvS w v l := by
  have hcp : ∀ a n c, v = .slice a n c → n ≤ c := by
    intro a n c e
    obtain ⟨_, ⟨h1, h2⟩ | ⟨g, cap, cur, h1, _, _, h2, _⟩⟩ := id h
    · rw [h1] at e; cases e; omega
    · rw [h1] at e; cases e; exact h2
  rcases ownsRow_cases h with ⟨rfl, h0⟩ | ⟨g, cp, rfl, hg, hlt, hc⟩
  · exact .inl ⟨rfl, List.eq_nil_of_length_eq_zero h0⟩
  · refine .inr ⟨g, cp, rfl, hcp _ _ _ rfl, fun k x hx => ?_⟩
    have hk : k < l.length := (List.getElem?_eq_some_iff.1 hx).1
    obtain ⟨a, b⟩ := evCells_at l k x hx
    exact ⟨(hc (k * 2) (by omega)).trans a, (hc (k * 2 + 1) (by omega)).trans b⟩
end Go.Proofs.Ytmbhgipoofllfaa
