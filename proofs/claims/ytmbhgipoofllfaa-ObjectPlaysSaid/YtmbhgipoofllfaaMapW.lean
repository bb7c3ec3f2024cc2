/- A map from numbers to strings in memory, as a function. -/
import Derived.Test.YtmbhgipoofllfaaMatW
import Derived.Maps.StringElems
import Derived.Maps.OwnOps
import Derived.Maps.OwnSet
import Derived.Maps.Views
namespace Go.Proofs.Ytmbhgipoofllfaa
set_option linter.unusedVariables false
set_option linter.unusedSimpArgs false
open Go.ChangeShapes Go.WideShapes Go.ChangeAt Go.RowKit Go.Deep Go.Maps

theorem keyed_int : Keyed Try.prog 3 := int_keyed Try.underlying3
theorem key_int {k : Int} (hk : I64 k) : keyOf Try.prog 3 (.int .i64 k) = some (.int .i64 k) := keyOf_int_mk Try.underlying3 hk
/-- The object o is a map of at most n entries that holds f. -/
def MapO (o : Obj) (n : Nat) (f : Int → Option ByteArray) : Prop :=
  ∃ (es : Array MapEntry) (clock : Nat) (D : DataW Unit), o = .map es clock ∧ (∀ (w : World) (b : Nat), w.heap[b]? = some o → w.ownsMap Try.prog 3 (plainElem Try.prog 9) b n D) ∧ IsMap D ∧
    ∀ k, I64 k → Maps.has D (.int .i64 k) = (f k).isSome ∧ ∀ s, f k = some s → ∀ z, D.atKey (.int .i64 k) z = .lit (.string s.data.toList)
theorem mapO_of {w : World} {b n : Nat} {D : DataW Unit} {f : Int → Option ByteArray} (h : w.ownsMap Try.prog 3 (plainElem Try.prog 9) b n D) (hD : IsMap D)
    (hf : ∀ k, I64 k → Maps.has D (.int .i64 k) = (f k).isSome ∧ ∀ s, f k = some s → ∀ z, D.atKey (.int .i64 k) z = .lit (.string s.data.toList)) : ∃ o, w.heap[b]? = some o ∧ MapO o n f := by
  obtain ⟨es, clock, hb, F, hs, hD'⟩ := h
  exact ⟨_, hb, es, clock, D, rfl, fun w' b' hb' => ⟨es, clock, hb', F, hs, hD'⟩, hD, hf⟩
theorem mapO_new : MapO (.map #[] 0) 0 (fun _ => none) := by
  have h := World.ownsMap_made (H := Unit) (default : World) Try.prog 3 (plainElem Try.prog 9)
  obtain ⟨es, clock, hb, F, hs, hD⟩ := h
  have e : some (Obj.map #[] 0) = some (Obj.map es clock) := by rw [← hb]; exact (new_blk _ _).symm
  simp only [Option.some.injEq, Obj.map.injEq] at e
  obtain ⟨rfl, rfl⟩ := e
  exact ⟨#[], 0, .map [], rfl, fun w b hb => ⟨#[], 0, hb, F, hs, hD⟩, isMap_empty, fun k hk => ⟨rfl, fun s h => by cases h⟩⟩
theorem zero_string (w : World) : (zeroValue 9).run Try.prog w = .ok (.string ⟨#[]⟩) w := by kernel_rfl
theorem key_lit (k : Int) : WideAt.IsKeyLit (.int .i64 k) := trivial
/-- 's, ok := m[k]'. -/
theorem map_look {w : World} {b n : Nat} {o : Obj} {f : Int → Option ByteArray} (h : MapO o n f) (hb : w.heap[b]? = some o) {k : Int} (hk : I64 k) :
    (Instr.lookup 88 (.map (some b)) (.int .i64 k) true).run Try.prog w = .ok (.tuple #[.string ((f k).getD ⟨#[]⟩), .bool (f k).isSome]) w := by
  obtain ⟨es, clock, D, rfl, hown, hD, hf⟩ := h
  obtain ⟨h1, h2⟩ := hf k hk
  obtain ⟨v, ps, hrun, hv⟩ := (hown w b hb).look_ok (e := 9) keyed_int Try.underlying88 (zero_string w) (zd := .lit (.string [])) (zp := []) (plainElem_string Try.underlying9 (s := ⟨#[]⟩) (by decide)) (key_int hk)
  obtain ⟨s, rfl, hs, _⟩ := plainElem_string_inv Try.underlying9 hv
  simp only [Prod.mk.injEq] at hs
  rw [hrun, h1]
  cases hfk : f k with
  | none =>
    rw [hfk] at h1
    have := Maps.atKey_of_not_has (k := .int .i64 k) h1 (.lit (.string []))
    rw [this] at hs
    have e : s = ⟨#[]⟩ := by
      have := hs.1
      simp only [DataW.lit.injEq, Lit.string.injEq] at this
      obtain ⟨⟨l⟩⟩ := s
      simp at this
      rw [← this]
    rw [e]
    rfl
  | some t =>
    have := h2 t hfk (.lit (.string []))
    rw [this] at hs
    have e : s = t := by
      have := hs.1
      simp only [DataW.lit.injEq, Lit.string.injEq] at this
      obtain ⟨⟨l⟩⟩ := s
      obtain ⟨⟨l'⟩⟩ := t
      simp at this
      rw [this]
    rw [e]
    rfl
/-- 'm[k] = s'. -/
theorem map_put {w : World} {b n : Nat} {o : Obj} {f : Int → Option ByteArray} (h : MapO o n f) (hb : w.heap[b]? = some o) (hn : n < maxLen) {k : Int} (hk : I64 k) {s : ByteArray} (hs : s.size ≤ maxLen) :
    ∃ w' o', (Instr.mapUpdate 88 (.map (some b)) (.int .i64 k) (.string s)).run Try.prog w = .ok () w' ∧ Upd b o' w w' ∧ MapO o' (n + 1) (fun j => if j = k then some s else f j) := by
  obtain ⟨es, clock, D, rfl, hown, hD, hf⟩ := h
  obtain ⟨w', hrun, h1, h2⟩ := (hown w b hb).update (e := 9) keyed_int Try.underlying88 hn (key_int hk) (plainElem_string Try.underlying9 hs)
  obtain ⟨o', ho', hM⟩ := mapO_of h1 (hD.put _ _) (f := fun j => if j = k then some s else f j) (fun j hj => by
    by_cases e : j = k
    · subst e
      simp only [if_true]
      exact ⟨Maps.has_put_same hD (key_lit _) _, fun t ht z => by cases ht; exact Maps.atKey_put_same hD (key_lit _) _ _⟩
    · have hne : (Lit.int .i64 j) ≠ Lit.int .i64 k := fun h => e (by injection h)
      simp only [e, if_false]
      rw [Maps.has_put_other hne]
      exact ⟨(hf j hj).1, fun t ht z => by rw [Maps.atKey_put_other hne]; exact (hf j hj).2 t ht z⟩)
  exact ⟨w', o', hrun, ⟨h2.os, h2.tape, h2.output, h2.size, ho', fun k hk hn => h2.block k hk (by simp; exact hn)⟩, hM⟩
end Go.Proofs.Ytmbhgipoofllfaa
