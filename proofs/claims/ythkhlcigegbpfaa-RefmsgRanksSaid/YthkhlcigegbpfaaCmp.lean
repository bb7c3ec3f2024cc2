/- The frames' order: Cmp of frames without the long identifier is their identifiers' order. -/
import Derived.Test.YthkhlcigegbpfaaArb
import Derived.Test.YthkhlcigegbpfaaRankPure
namespace Go.Proofs.Ythkhlcigegbpfaa
set_option linter.unusedVariables false
set_option linter.unusedSimpArgs false
open Go.ChangeShapes Go.WideShapes Go.ChangeAt Go.RowKit Go.Deep

theorem bits_list (n : Nat) : (bit11 n).map (fun x => UInt8.ofNat x.toNat) = bitsU 11 n := by
  have h : ∀ i, UInt8.ofNat (bitI n i).toNat = bitU n i := by
    intro i
    unfold bitI bitU
    split <;> rfl
  simp only [bit11, List.range, List.range.loop, List.map_cons, List.map_nil, h, bitsU]
theorem arb_list (n : Nat) : (strOfNums (arbL n)).data.toList = 48 :: (bitsU 11 n ++ [48, 48]) := by
  rw [strOfNums_data, arbL, List.map_cons, List.map_append, bits_list]
  rfl
theorem arb_cmp {a b : Nat} (ha : a < 2048) (hb : b < 2048) : Lib.compareBytes (strOfNums (arbL a)).data.toList (strOfNums (arbL b)).data.toList = cmpN a b := by
  rw [arb_list, arb_list]
  unfold Lib.compareBytes
  rw [cmp_bits, Nat.mod_eq_of_lt (by omega : a < 2 ^ 11), Nat.mod_eq_of_lt (by omega : b < 2 ^ 11)]
  simp
set_option maxRecDepth 100000 in
set_option maxHeartbeats 4000000 in
theorem fr_cmp {w : World} (a b : Nat) (ha : a < 2048) (hb : b < 2048) (x y : ByteArray) (hx : x.size ≤ 8) (hy : y.size ≤ 8) :
    Calls Try.prog 42 #[.agg #[.bool false, .int .u32 a, .bool false, .string x], .agg #[.bool false, .int .u32 b, .bool false, .string y]] w fun e w' => e = .returned (.int .i64 (cmpN a b)) ∧ Below w.heap.size w w' := by
  have hp := held30f
  have hg := guard30f
  have hO := ((Own.nil_ (Below.refl w.heap.size w) (Nat.le_refl _)).alloc (boxF ⟨false, a, false, x⟩)).alloc (boxF ⟨false, b, false, y⟩)
  have hms : (w.alloc (boxF ⟨false, a, false, x⟩)).heap.size = w.heap.size + 1 := by simp
  rw [hms] at hO
  clear hms
  obtain ⟨g0, g1, g2, g3⟩ := boxF_c hO.get1
  obtain ⟨k0, k1, k2, k3⟩ := boxF_c hO.get0
  have hl0 := lt_of_heap hO.get0
  have hl1 := lt_of_heap hO.get1
  simp only [boxF] at g0 g1 g2 g3 k0 k1 k2 k3 hl0 hl1
  have HO := Lib.hid hO
  clear hO
  by_cases hq : a = b ∧ x = y
  · obtain ⟨rfl, rfl⟩ := hq
    have hc : cmpN a a = 0 := by simp [cmpN]
    rw [hc]
    go_enter Try.func42, Try.ntmps42
    go_wp2
    go_ret
    exact ⟨rfl, HO.out.bel⟩
  · have hne : ¬ (a : Int) = b ∨ ¬ x.toList = y.toList := by
      by_cases h1 : a = b
      · exact .inr fun h => hq ⟨h1, toList_inj h⟩
      · exact .inl (by omega)
    have HAC := Lib.hid (arb_cmp ha hb)
    clear hq
    rcases hne with hne | hne
    all_goals
      go_enter Try.func42, Try.ntmps42
      go_wp2_with fail
      all_goals try (exfalso; simp_all; done)
      clear g0 g1 g2 g3 k0 k1 k2 k3 hl0 hl1 hp hg hne
      refine wp_region_held_drew (S := fun v => v.heap[w.heap.size]? = some (boxF ⟨false, a, false, x⟩) ∧ v.heap[w.heap.size + 1]? = some (boxF ⟨false, b, false, y⟩) ∧ Below w.heap.size w v ∧ w.heap.size + 2 ≤ v.heap.size) (by kernel_rfl) ⟨HO.out.get1, HO.out.get0, HO.out.bel.drew, (by have := lt_of_heap HO.out.get0; exact this)⟩ (fun hHeld => ?_)
      refine take_op 0 rfl (by kernel_rfl) (by kernel_rfl) (by kernel_rfl) (fun _ _ _ h => h) (by rfl) (by (intro wz hSw; (obtain ⟨hbx, -, -, -⟩ := hSw; obtain ⟨g0, g1, g2, g3⟩ := boxF_c hbx; simp only at g0 g1 g2 g3; have hl := lt_of_heap hbx); go_simp; (try with_reducible rfl))) (by assumption) ?_
      simp only [Act.put, List.setIfInBounds_toArray, List.set_cons_zero, List.set_cons_succ]
      refine take_op 2 rfl (by kernel_rfl) (by kernel_rfl) (by kernel_rfl) (fun _ _ _ h => h) (by rfl) (by (intro wz hSw; (obtain ⟨-, hbx, -, -⟩ := hSw; obtain ⟨g0, g1, g2, g3⟩ := boxF_c hbx; simp only at g0 g1 g2 g3; have hl := lt_of_heap hbx); go_simp; (try with_reducible rfl))) (by assumption) ?_
      simp only [Act.put, List.setIfInBounds_toArray, List.set_cons_zero, List.set_cons_succ]
      refine at_op 1 rfl (by kernel_rfl) (by rfl) (fun K hK => ?_)
      go_simp
      refine (fr_arb a ha x hx).mono ?_
      rintro e w3 ⟨rfl, hB⟩
      refine hK.out _ _ ?_ (fun hHeld => ?_)
      · exact ⟨(hB.block _ (lt_of_heap hHeld.1)).trans hHeld.1, (hB.block _ (lt_of_heap hHeld.2.1)).trans hHeld.2.1, hHeld.2.2.1.trans (hB.mono (by have := hHeld.2.2.2; omega)), Nat.le_trans hHeld.2.2.2 hB.size⟩
      clear hK K
      try simp only [Act.put, List.setIfInBounds_toArray, List.set_cons_zero, List.set_cons_succ]
      refine at_op 3 rfl (by kernel_rfl) (by rfl) (fun K hK => ?_)
      go_simp
      refine (fr_arb b hb y hy).mono ?_
      rintro e w4 ⟨rfl, hB⟩
      refine hK.out _ _ ?_ (fun hHeld => ?_)
      · exact ⟨(hB.block _ (lt_of_heap hHeld.1)).trans hHeld.1, (hB.block _ (lt_of_heap hHeld.2.1)).trans hHeld.2.1, hHeld.2.2.1.trans (hB.mono (by have := hHeld.2.2.2; omega)), Nat.le_trans hHeld.2.2.2 hB.size⟩
      clear hK K
      try simp only [Act.put, List.setIfInBounds_toArray, List.set_cons_zero, List.set_cons_succ]
      refine at_op 4 rfl (by kernel_rfl) (by rfl) (fun K hK => ?_)
      go_simp
      refine (str_compare _ _ _).mono ?_
      rintro e w5 ⟨rfl, rfl⟩
      rw [HAC.out]
      refine hK.out _ _ ?_ (fun hHeld => ?_)
      · exact hHeld
      clear hK K
      try simp only [Act.put, List.setIfInBounds_toArray, List.set_cons_zero, List.set_cons_succ]
      refine take_op 5 rfl (by kernel_rfl) (by kernel_rfl) (by kernel_rfl) (fun _ _ _ h => h) (by rfl) (by (intro w hSw; (try dsimp only at hSw); go_simp; (try with_reducible rfl))) (by assumption) ?_
      simp only [Act.put, List.setIfInBounds_toArray, List.set_cons_zero, List.set_cons_succ]
      refine wpAnyH_done (by kernel_rfl) ?_ _
      go_wp2
      go_ret
      exact ⟨rfl, hHeld.2.2.1⟩
end Go.Proofs.Ythkhlcigegbpfaa
