/- Rows that the call itself appends to; the law's matrix, one message an owner. -/
import Derived.Test.YtmbhgipoofllfaaObjectComes
import Derived.Deep.AppendLies
import Derived.Deep.RegionLaw
namespace Go.Proofs.Ytmbhgipoofllfaa
set_option linter.unusedVariables false
set_option linter.unusedSimpArgs false
open Go.ChangeShapes Go.WideShapes Go.ChangeAt Go.RowKit Go.Deep

theorem RdL_owns {α : Type} {K : Nat} {C : α → List Value} {w : World} {base : Nat} {t : TypeId} {v : Value} {l : List α} (hk : ∀ x, (C x).length = K) (h : w.ownsRow base t K v l.length (l.flatMap C)) : RdL K C w v l := by
  obtain ⟨hl, ⟨rfl, h1⟩ | ⟨g, cap, cur, rfl, hg, hc, hle, hmx, hsz, htk⟩⟩ := h
  · have : l = [] := List.eq_nil_of_length_eq_zero h1
    subst this
    exact ⟨none, 0, rfl, by simp, by simp [maxLen], fun i x hi => by simp at hi⟩
  · refine ⟨some ⟨g, 0, none⟩, cap, rfl, hle, hmx, fun i x hi => ⟨g, 0, rfl, lt_of_heap hc, fun j u hj => ?_⟩⟩
    have hjK : j < K := by
      have := (List.getElem?_eq_some_iff.1 hj).1
      rw [hk] at this
      exact this
    have hil := (List.getElem?_eq_some_iff.1 hi).1
    have hlt : i * K + j < l.length * K := by
      calc i * K + j < i * K + K := by omega
        _ = (i + 1) * K := by rw [Nat.add_mul, Nat.one_mul]
        _ ≤ l.length * K := Nat.mul_le_mul_right _ hil
    rw [Nat.zero_add, cell_of hc]
    have h2 := flatMap_at hk l i x j u hi hj
    rw [← htk, List.getElem?_take_of_lt hlt] at h2
    simpa using h2
/-- The row's block is behind the base. -/
theorem ownsRow_far {w : World} {base b : Nat} {e : TypeId} {size : Nat} {v : Value} {n : Nat} {xs : List Value} (h : w.ownsRow base e size v n xs) (hb : b < base) : v.ownBlock ≠ some b := by
  obtain ⟨_, ⟨rfl, _⟩ | ⟨g, cap, cur, rfl, hg, _⟩⟩ := h
  · simp [Value.ownBlock]
  · simp [Value.ownBlock]; omega
/-- Behind an append the blocks below the row's base are as they were. -/
theorem grown_below {w w' : World} {base : Nat} {e : TypeId} {size : Nat} {v : Value} {n : Nat} {xs : List Value} (hs : base ≤ w.heap.size) (h : w.ownsRow base e size v n xs) (g : w.grownBy w' v.ownBlock) : Below base w w' :=
  ⟨g.os, g.tape, g.output, g.size, fun k hk => g.block k (by omega) (fun e => ownsRow_far h hk e.symm)⟩

def zeroM : Mat := ⟨0, 0, 0, 0, 0, 0, 0, 0, [], [], []⟩
def ownMsgs (ls : List Int) (k : Nat) : List Msg := (List.range k).map fun i : Nat => ⟨(i : Int), ls.getD i 0 % 4, false⟩
def ownM (ls : List Int) : Mat := ⟨0, 0, 0, 0, 0, 0, 0, 0, [], ownMsgs ls ls.length, []⟩
theorem ownMsgs_len (ls : List Int) (k : Nat) : (ownMsgs ls k).length = k := by simp [ownMsgs]
theorem ownMsgs_succ {ls : List Int} {k : Nat} {n : Int} (h : ls[k]? = some n) : (ownMsgs ls (k + 1)).flatMap msgC = (ownMsgs ls k).flatMap msgC ++ [.int .u32 k, .int .i64 (n % 4), .bool false] := by
  simp [ownMsgs, List.range_succ, List.flatMap_append, msgC, List.getD_eq_getElem?_getD, h]
theorem own_there {ls : List Int} {k : Nat} {n : Int} (h : ls[k]? = some n) : thereE (ownM ls) k = (⟨k, n % 4, false⟩, true) := by
  have hk := (List.getElem?_eq_some_iff.1 h).1
  have h1 : ¬ ((k : Int) < 0 ∨ ((ownM ls).msgs.length : Int) ≤ k) := by simp [ownM, ownMsgs_len]; omega
  unfold thereE
  rw [if_neg h1]
  have e : ls[k] = n := by simpa [hk] using h
  simp [ownM, ownMsgs, List.getD_eq_getElem?_getD, h, hk, e]
theorem own_off (ls : List Int) : (thereE (ownM ls) (ls.length : Int)).2 = false := by
  unfold thereE
  rw [if_pos (by simp [ownM, ownMsgs_len])]
theorem own_neg (ls : List Int) : (thereE (ownM ls) (-1)).2 = false := by
  unfold thereE
  rw [if_pos (by simp)]
theorem ownM_ok {ls : List Int} (hn : ls.length ≤ 12) (hb : ∀ n ∈ ls, 0 ≤ n ∧ n ≤ 255) : (ownM ls).Ok := by
  have z : I64 0 := by decide
  refine ⟨z, z, z, z, z, z, z, (by decide : U32 0), ?_, ?_, ?_⟩
  · intro x hx; simp [ownM] at hx
  · intro x hx
    simp only [ownM, ownMsgs, List.mem_map, List.mem_range] at hx
    obtain ⟨i, hi, rfl⟩ := hx
    have hil : ls[i]? = some ls[i] := by simp [hi]
    have hbb := hb ls[i] (List.getElem_mem hi)
    simp only [Msg.Ok, List.getD_eq_getElem?_getD, hil, Option.getD_some]
    refine ⟨?_, ?_⟩
    · simp [U32, Lit.wf, IntKind.min, IntKind.max, IntKind.signed, IntKind.bits]
      omega
    · simp [I64, Lit.wf, IntKind.min, IntKind.max, IntKind.signed, IntKind.bits]
      omega
  · intro x hx; simp [ownM] at hx
theorem ownMsg_info : (Try.prog.info? 69).map (fun i => (i.zero, i.size, i.bytes)) = some (some (.agg #[.int .u32 0, .int .i64 0, .bool false]), 3, 24) := by kernel_rfl
theorem rdL_nil {α : Type} {K : Nat} {C : α → List Value} {w : World} : RdL K C w (.slice none 0 0) ([] : List α) := ⟨none, 0, rfl, by simp, by simp [maxLen], fun i x hi => by simp at hi⟩
theorem i64_small {k : Nat} (h : k ≤ 100000) : I64 (k : Int) := by
  simp [I64, Lit.wf, IntKind.min, IntKind.max, IntKind.signed, IntKind.bits]
  omega
end Go.Proofs.Ytmbhgipoofllfaa
