/- The frames' order: Is, sign, Arb, Cmp of frames without the long identifier. -/
import Derived.Test.YthkhlcigegbpfaaBitsOf
import Derived.Test.YthkhlcigegbpfaaRmsgL
import Derived.Lib.Bytealg
import Derived.Laws.Externs
namespace Go.Proofs.Ythkhlcigegbpfaa
set_option linter.unusedVariables false
set_option linter.unusedSimpArgs false
open Go.ChangeShapes Go.WideShapes Go.ChangeAt Go.RowKit Go.Deep

set_option maxRecDepth 100000 in
theorem cmp_bytes (a b : ByteArray) (w : World) : Calls Try.prog 91 #[.string a, .string b] w fun e w' => e = .returned (.int .i64 (Lib.compareBytes a.data.toList b.data.toList)) ∧ w' = w := by
  go_enter Try.func91, Try.ntmps91
  go_wp2
  rw [run_callFunc_extern Try.func96 (by kernel_rfl) (by kernel_rfl) (by kernel_rfl) (e := Extern.BytealgCompare.compare) (by kernel_rfl), Lib.run_compareString]
  simp only [Result.andThen]
  rw [Oper.upon_value]
  go_wp2
  go_ret
  exact ⟨rfl, rfl⟩
set_option maxRecDepth 100000 in
theorem str_compare (a b : ByteArray) (w : World) : Calls Try.prog 76 #[.string a, .string b] w fun e w' => e = .returned (.int .i64 (Lib.compareBytes a.data.toList b.data.toList)) ∧ w' = w := by
  go_enter Try.func76, Try.ntmps76
  go_wp2_with fail
  refine (cmp_bytes _ _ _).mono ?_
  rintro e w' ⟨rfl, rfl⟩
  go_wp2
  go_ret
  exact ⟨rfl, rfl⟩
theorem fr_sign (b : Bool) (w : World) : Calls Try.prog 94 #[.bool b] w fun e w' => e = .returned (.string (if b = true then ⟨#[49]⟩ else ⟨#[48]⟩)) ∧ w' = w := by
  cases b
  all_goals
    go_enter Try.func94, Try.ntmps94
    go_wp2
    go_ret
    exact ⟨rfl, rfl⟩
set_option maxRecDepth 100000 in
theorem fr_is {w : World} (id : Int) (hid : 0 ≤ id ∧ id < 2048) (data : ByteArray) (hd : data.size ≤ 8) : Calls Try.prog 92 #[.agg #[.bool false, .int .u32 id, .bool false, .string data]] w fun e w' => e = .returned (.bool true) ∧ Below w.heap.size w w' := by
  have hO := (Own.nil_ (Below.refl w.heap.size w) (Nat.le_refl _)).alloc (boxF ⟨false, id, false, data⟩)
  obtain ⟨g0, g1, g2, g3⟩ := boxF_c hO.get0
  have hl := lt_of_heap hO.get0
  simp only [boxF] at g0 g1 g2 g3 hl
  have hdi : (data.size : Int) ≤ 8 := by omega
  have h1 := hid.2
  have HO := Lib.hid hO.bel
  clear hO
  go_enter Try.func92, Try.ntmps92
  go_wp2
  all_goals first
    | (exfalso; omega)
    | (go_ret; exact ⟨rfl, HO.out⟩)
theorem str_append (xs ys : List Int) : strOfNums xs ++ strOfNums ys = strOfNums (xs ++ ys) := by
  have h : (strOfNums xs ++ strOfNums ys).data = (strOfNums (xs ++ ys)).data := by
    rw [ByteArray.data_append]
    simp [strOfNums]
  have e : ∀ a b : ByteArray, a.data = b.data → a = b := by
    intro a b hab
    obtain ⟨a⟩ := a
    obtain ⟨b⟩ := b
    simp only at hab
    rw [hab]
  exact e _ _ h
def arbL (id : Nat) : List Int := 48 :: (bit11 id ++ [48, 48])
set_option maxRecDepth 100000 in
set_option maxHeartbeats 4000000 in
theorem fr_arb {w : World} (id : Nat) (hid : id < 2048) (data : ByteArray) (hd : data.size ≤ 8) : Calls Try.prog 77 #[.agg #[.bool false, .int .u32 id, .bool false, .string data]] w fun e w' => e = .returned (.string (strOfNums (arbL id))) ∧ Below w.heap.size w w' := by
  have hO := (Own.nil_ (Below.refl w.heap.size w) (Nat.le_refl _)).alloc (boxF ⟨false, id, false, data⟩)
  obtain ⟨g0, g1, g2, g3⟩ := boxF_c hO.get0
  have hl := lt_of_heap hO.get0
  simp only [boxF] at g0 g1 g2 g3 hl
  go_enter Try.func77, Try.ntmps77
  go_wp2_with fail
  refine (own_below hO (fr_is (id : Int) (by omega) data hd)).mono ?_
  rintro e w2 ⟨rfl, hO2⟩
  clear g0 g1 g2 g3 hl hO
  obtain ⟨g0, g1, g2, g3⟩ := boxF_c hO2.get0
  have hl := lt_of_heap hO2.get0
  simp only at g0 g1 g2 g3
  have hidi : (id : Int) < 2048 := by omega
  go_wp2_with fail
  clear g0 g1 g2 g3 hl
  refine wp_region_held_drew (S := fun v => v.heap[w.heap.size]? = some (boxF ⟨false, id, false, data⟩) ∧ Below w.heap.size w v ∧ w.heap.size ≤ v.heap.size) (by kernel_rfl) ⟨hO2.get0, hO2.bel.drew, hO2.sz⟩ (fun hHeld => ?_)
  clear hO2
  refine take_op 0 rfl (by kernel_rfl) (by kernel_rfl) (by kernel_rfl) (fun _ _ _ h => h) (by rfl) (by (intro wz hSw; (obtain ⟨hbx, -, -⟩ := hSw; obtain ⟨g0, g1, g2, g3⟩ := boxF_c hbx; simp only at g0 g1 g2 g3; have hl := lt_of_heap hbx); go_simp; (try with_reducible rfl))) (by assumption) ?_
  simp only [Act.put, List.setIfInBounds_toArray, List.set_cons_zero, List.set_cons_succ]
  refine take_op 1 rfl (by kernel_rfl) (by kernel_rfl) (by kernel_rfl) (fun _ _ _ h => h) (by rfl) (by (intro wz hSw; (obtain ⟨hbx, -, -⟩ := hSw; obtain ⟨g0, g1, g2, g3⟩ := boxF_c hbx; simp only at g0 g1 g2 g3; have hl := lt_of_heap hbx); go_simp; (try with_reducible rfl))) (by assumption) ?_
  simp only [Act.put, List.setIfInBounds_toArray, List.set_cons_zero, List.set_cons_succ]
  refine take_op 2 rfl (by kernel_rfl) (by kernel_rfl) (by kernel_rfl) (fun _ _ _ h => h) (by rfl) (by (intro wz hSw; (obtain ⟨hbx, -, -⟩ := hSw; obtain ⟨g0, g1, g2, g3⟩ := boxF_c hbx; simp only at g0 g1 g2 g3; have hl := lt_of_heap hbx); go_simp; (try with_reducible rfl))) (by assumption) ?_
  simp only [Act.put, List.setIfInBounds_toArray, List.set_cons_zero, List.set_cons_succ]
  refine take_op 5 rfl (by kernel_rfl) (by kernel_rfl) (by kernel_rfl) (fun _ _ _ h => h) (by rfl) (by (intro wz hSw; (obtain ⟨hbx, -, -⟩ := hSw; obtain ⟨g0, g1, g2, g3⟩ := boxF_c hbx; simp only at g0 g1 g2 g3; have hl := lt_of_heap hbx); go_simp; (try with_reducible rfl))) (by assumption) ?_
  simp only [Act.put, List.setIfInBounds_toArray, List.set_cons_zero, List.set_cons_succ]
  refine take_op 6 rfl (by kernel_rfl) (by kernel_rfl) (by kernel_rfl) (fun _ _ _ h => h) (by rfl) (by (intro wz hSw; (obtain ⟨hbx, -, -⟩ := hSw; obtain ⟨g0, g1, g2, g3⟩ := boxF_c hbx; simp only at g0 g1 g2 g3; have hl := lt_of_heap hbx); go_simp; (try with_reducible rfl))) (by assumption) ?_
  simp only [Act.put, List.setIfInBounds_toArray, List.set_cons_zero, List.set_cons_succ]
  refine at_op 3 rfl (by kernel_rfl) (by rfl) (fun K hK => ?_)
  go_simp
  rw [show IntKind.u64.wrap (id : Int) = (id : Int) by simp [IntKind.wrap, IntKind.signed, IntKind.bits]; omega]
  refine (bits_of11 id hid _).mono ?_
  rintro e w3 ⟨rfl, hB3⟩
  refine hK.out _ _ ?_ (fun hHeld => ?_)
  · exact ⟨(hB3.block _ (lt_of_heap hHeld.1)).trans hHeld.1, hHeld.2.1.trans (hB3.mono hHeld.2.2), Nat.le_trans hHeld.2.2 hB3.size⟩
  clear hK K
  try simp only [Act.put, List.setIfInBounds_toArray, List.set_cons_zero, List.set_cons_succ]
  have hs11 : (strOfNums (bit11 id)).size = 11 := by rw [strOfNums_size]; rfl
  refine take_op 4 rfl (by kernel_rfl) (by kernel_rfl) (by kernel_rfl) (fun _ _ _ h => h) (by rfl) (by (intro w hSw; (try dsimp only at hSw); go_simp; (try with_reducible rfl))) (by assumption) ?_
  simp only [Act.put, List.setIfInBounds_toArray, List.set_cons_zero, List.set_cons_succ]
  refine at_op 7 rfl (by kernel_rfl) (by rfl) (fun K hK => ?_)
  go_simp
  refine (fr_sign false _).mono ?_
  rintro e w4 ⟨rfl, rfl⟩
  refine hK.out _ _ ?_ (fun hHeld => ?_)
  · exact hHeld
  clear hK K
  try simp only [Act.put, List.setIfInBounds_toArray, List.set_cons_zero, List.set_cons_succ]
  refine take_op 8 rfl (by kernel_rfl) (by kernel_rfl) (by kernel_rfl) (fun _ _ _ h => h) (by rfl) (by (intro w hSw; (try dsimp only at hSw); go_simp; (try with_reducible rfl))) (by assumption) ?_
  simp only [Act.put, List.setIfInBounds_toArray, List.set_cons_zero, List.set_cons_succ]
  refine take_op 9 rfl (by kernel_rfl) (by kernel_rfl) (by kernel_rfl) (fun _ _ _ h => h) (by rfl) (by (intro w hSw; (try dsimp only at hSw); go_simp; (try with_reducible rfl))) (by assumption) ?_
  simp only [Act.put, List.setIfInBounds_toArray, List.set_cons_zero, List.set_cons_succ]
  refine take_op 10 rfl (by kernel_rfl) (by kernel_rfl) (by kernel_rfl) (fun _ _ _ h => h) (by rfl) (by (intro w hSw; (try dsimp only at hSw); go_simp; (try with_reducible rfl))) (by assumption) ?_
  simp only [Act.put, List.setIfInBounds_toArray, List.set_cons_zero, List.set_cons_succ]
  refine wpAnyH_done (by kernel_rfl) ?_ _
  go_wp2
  go_ret
  refine ⟨?_, hHeld.2.1⟩
  have e1 : (⟨#[48]⟩ : ByteArray) = strOfNums [48] := rfl
  simp only [Bool.false_eq_true, if_false, e1, str_append]
  rfl
/-- The order of frames without the long identifier. -/
def cmpA (a b : Nat) : Int := Lib.compareBytes (strOfNums (arbL a)).data.toList (strOfNums (arbL b)).data.toList
end Go.Proofs.Ythkhlcigegbpfaa
