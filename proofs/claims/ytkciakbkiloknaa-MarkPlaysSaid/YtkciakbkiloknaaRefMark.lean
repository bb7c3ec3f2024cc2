/- The document's mark: each function's contract over its block; what it has to do with the package's own. -/
import Derived.Test.YtkciakbkiloknaaMark
import Derived.Lib.Hide
namespace Go.Proofs.Ytkciakbkiloknaa
set_option linter.unusedVariables false
set_option linter.unusedSimpArgs false
open Go.RowKit

structure RMarkS where
  start : Int
  frm : Int
  has : Bool
  known : Bool
  cycle : Int
def rmarkO (m : RMarkS) : Obj := .cells #[.int .u16 m.start, .int .u16 m.frm, .bool m.has, .bool m.known, .int .i64 m.cycle] 41 (0, 0)
def RMarkS.new : RMarkS := ⟨0, 0, false, false, 0⟩
/-- The two agree wherever it counts. -/
def MAgree (s : MarkS) (r : RMarkS) : Prop :=
  r.has = s.hs ∧ r.known = s.hg ∧ (s.hs = true → r.start = s.s) ∧ (s.hg = true → r.frm = s.g ∧ r.cycle = s.c) ∧ (s.hg = false → s.g = 0 ∧ s.c = 0)
theorem MAgree.new : MAgree MarkS.new RMarkS.new := ⟨rfl, rfl, by simp [MarkS.new], by simp [MarkS.new], by simp [MarkS.new]⟩
def RMarkS.doStart (r : RMarkS) (t : Int) : RMarkS := { r with start := t, has := true }
def RMarkS.doBeat (r : RMarkS) (c : Int) : RMarkS := if r.has then { r with frm := r.start, known := true, cycle := max 0 (min c 7) } else r
theorem MAgree.start {s : MarkS} {r : RMarkS} (h : MAgree s r) (t : Int) : MAgree (s.start t) (r.doStart t) := by
  obtain ⟨h1, h2, h3, h4, h5⟩ := h
  exact ⟨rfl, h2, fun _ => rfl, h4, h5⟩
theorem MAgree.beat {s : MarkS} {r : RMarkS} (h : MAgree s r) (c : Int) : MAgree (s.beat c) (r.doBeat c) := by
  obtain ⟨h1, h2, h3, h4, h5⟩ := h
  unfold MarkS.beat RMarkS.doBeat
  rw [h1]
  cases hh : s.hs
  · simp only [Bool.false_eq_true, if_false]; exact ⟨h1, h2, h3, h4, h5⟩
  · simp only [if_true]
    refine ⟨by simp [h1, hh], rfl, fun _ => h3 hh, fun _ => ⟨h3 hh, by simp only; omega⟩, by simp⟩

section
variable {w : World} {b : Nat} {s : MarkS} {r : RMarkS}
theorem rmark_start (hM : w.heap[b]? = some (rmarkO r)) (t : Int) :
    Calls Try.prog 33 #[.pointer (some ⟨b, 0, none⟩), .int .u16 t] w fun e w' => e = .returned (.tuple #[]) ∧ Upd b (rmarkO (r.doStart t)) w w' := by
  have c0 := cell_of hM 0
  have c1 := cell_of hM 1
  have c2 := cell_of hM 2
  have c3 := cell_of hM 3
  have c4 := cell_of hM 4
  have cf0 := free_of hM 0
  have cf1 := free_of hM 1
  have cf2 := free_of hM 2
  have cf3 := free_of hM 3
  have cf4 := free_of hM 4
  have clt := lt_of_heap hM
  simp at c0 c1 c2 c3 c4
  go_enter Try.func33, Try.ntmps33
  go_wp2
  go_end0
  refine ⟨rfl, Upd.of_eq (by repeat (first | with_reducible apply Upd.setCell | with_reducible apply Upd.alloc | with_reducible apply Upd.drewN | exact Upd.refl hM)) ?_⟩
  simp [rmarkO, RMarkS.doStart]
theorem rmark_beat (hM : w.heap[b]? = some (rmarkO r)) (x : Int) :
    Calls Try.prog 34 #[.pointer (some ⟨b, 0, none⟩), .int .i64 x] w fun e w' => e = .returned (.tuple #[]) ∧ Upd b (rmarkO (r.doBeat x)) w w' := by
  have c0 := cell_of hM 0
  have c1 := cell_of hM 1
  have c2 := cell_of hM 2
  have c3 := cell_of hM 3
  have c4 := cell_of hM 4
  have cf0 := free_of hM 0
  have cf1 := free_of hM 1
  have cf2 := free_of hM 2
  have cf3 := free_of hM 3
  have cf4 := free_of hM 4
  have clt := lt_of_heap hM
  simp at c0 c1 c2 c3 c4
  cases hh : r.has
  · rw [hh] at c2
    go_enter Try.func34, Try.ntmps34
    go_wp2
    go_end0
    exact ⟨rfl, Upd.of_eq (Upd.refl hM) (by simp [RMarkS.doBeat, hh])⟩
  · rw [hh] at c2
    go_enter Try.func34, Try.ntmps34
    go_wp2
    all_goals
      go_end0
      refine ⟨rfl, Upd.of_eq (by repeat (first | with_reducible apply Upd.setCell | with_reducible apply Upd.alloc | with_reducible apply Upd.drewN | exact Upd.refl hM)) ?_⟩
      simp [rmarkO, RMarkS.doBeat, hh]
      try omega
theorem rsince_calls (a b : Int) (w : World) : Calls Try.prog 58 #[.int .u16 a, .int .u16 b] w fun e w' => e = .returned (.int .i64 (since a b)) ∧ w = w' := by
  have h1 : 0 ≤ IntKind.u16.wrap (b - a) := by rw [wu16]; omega
  have h2 : IntKind.u16.wrap (b - a) < 65536 := by rw [wu16]; omega
  go_enter Try.func58, Try.ntmps58
  go_wp2
  go_ret
  exact ⟨by rw [wu16]; rfl, rfl⟩
theorem rmark_at (hM : w.heap[b]? = some (rmarkO r)) (hA : MAgree s r) (x : Int) :
    Calls Try.prog 35 #[.pointer (some ⟨b, 0, none⟩), .int .u16 x] w fun e w' => e = .returned (.tuple #[.int .i64 (s.at x), .bool s.hg]) ∧ w = w' := by
  have c0 := cell_of hM 0
  have c1 := cell_of hM 1
  have c2 := cell_of hM 2
  have c3 := cell_of hM 3
  have c4 := cell_of hM 4
  have cf0 := free_of hM 0
  have cf1 := free_of hM 1
  have cf2 := free_of hM 2
  have cf3 := free_of hM 3
  have cf4 := free_of hM 4
  have clt := lt_of_heap hM
  simp at c0 c1 c2 c3 c4
  obtain ⟨h1, h2, h3, h4, h5⟩ := hA
  cases hh : s.hg
  · rw [h2, hh] at c3
    have E := Lib.hid (show s.at x = 0 by simp [MarkS.at, hh])
    clear h1 h2 h3 h4 h5
    go_enter Try.func35, Try.ntmps35
    go_wp2
    go_ret2
    exact ⟨by rw [E.out]; rfl, rfl⟩
  · rw [h2, hh] at c3
    have E := Lib.hid (show s.at x = since r.frm x by simp [MarkS.at, hh, (h4 hh).1])
    clear h1 h2 h3 h4 h5
    go_enter Try.func35, Try.ntmps35
    go_wp2_with (go_at_call 58; refine (rsince_calls _ _ _).mono ?_; rintro e w' ⟨rfl, rfl⟩)
    go_ret2
    exact ⟨by rw [E.out]; rfl, rfl⟩
theorem rmark_last (hM : w.heap[b]? = some (rmarkO r)) (hA : MAgree s r) :
    Calls Try.prog 37 #[.pointer (some ⟨b, 0, none⟩)] w fun e w' => e = .returned (.int .u16 s.g) ∧ w = w' := by
  have c0 := cell_of hM 0
  have c1 := cell_of hM 1
  have c2 := cell_of hM 2
  have c3 := cell_of hM 3
  have c4 := cell_of hM 4
  have cf0 := free_of hM 0
  have cf1 := free_of hM 1
  have cf2 := free_of hM 2
  have cf3 := free_of hM 3
  have cf4 := free_of hM 4
  have clt := lt_of_heap hM
  simp at c0 c1 c2 c3 c4
  obtain ⟨h1, h2, h3, h4, h5⟩ := hA
  cases hh : s.hg
  · rw [h2, hh] at c3
    have E := Lib.hid ((h5 hh).1)
    clear h1 h2 h3 h4 h5
    go_enter Try.func37, Try.ntmps37
    go_wp2
    go_ret
    exact ⟨by rw [E.out]; rfl, rfl⟩
  · rw [h2, hh] at c3
    have E := Lib.hid ((h4 hh).1)
    clear h1 h2 h3 h4 h5
    go_enter Try.func37, Try.ntmps37
    go_wp2
    go_ret
    exact ⟨by rw [← E.out]; rfl, rfl⟩
end
end Go.Proofs.Ytkciakbkiloknaa
