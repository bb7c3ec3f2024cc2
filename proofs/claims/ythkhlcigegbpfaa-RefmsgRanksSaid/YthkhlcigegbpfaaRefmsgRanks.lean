/- RefmsgRanks: the lesser rank's beat wins on the wire; beats win against no message of a lesser identifier. No conditions. (Printed by tools/gen_ranks.py.) -/
import Derived.Test.YthkhlcigegbpfaaRmKnown
import Derived.Test.YthkhlcigegbpfaaCmp
namespace Go.Proofs.Ythkhlcigegbpfaa
set_option linter.unusedVariables false
set_option linter.unusedSimpArgs false
open Go.ChangeShapes Go.WideShapes Go.ChangeAt Go.RowKit Go.Deep

def leastQ : Mat := ⟨2, 2, 2, 200, 1, 16, 0, 16, [0, 1, 2, 3], [], []⟩
theorem leastQ_ok : leastQ.Ok := by
  refine ⟨by decide, by decide, by decide, by decide, by decide, by decide, by decide, by decide, ?_, ?_, ?_⟩
  · intro x hx; simp [leastQ] at hx; rcases hx with rfl | rfl | rfl | rfl <;> decide
  · intro x hx; simp [leastQ] at hx
  · intro x hx; simp [leastQ] at hx
theorem leastQ_rd {w : World} {g : Nat} (h : w.heap[g]? = some (.cells #[.int .i64 0, .int .i64 1, .int .i64 2, .int .i64 3] 3 (0, 0))) : RdM w leastQ (.slice (some ⟨g, 0, none⟩) 4 4) (.slice none 0 0) (.slice none 0 0) := by
  refine ⟨leastQ_ok, ?_, ?_, ?_⟩
  · refine ⟨some ⟨g, 0, none⟩, 4, rfl, by simp [leastQ], by simp [maxLen], fun i x hi => ⟨g, 0, rfl, lt_of_heap h, fun j u hj => ?_⟩⟩
    match i, hi with
    | 0, hi =>
      simp [leastQ] at hi
      subst hi
      match j, hj with
      | 0, hj => simp [intC] at hj; subst hj; exact (cell_of h 0).trans rfl
    | 1, hi =>
      simp [leastQ] at hi
      subst hi
      match j, hj with
      | 0, hj => simp [intC] at hj; subst hj; exact (cell_of h 1).trans rfl
    | 2, hi =>
      simp [leastQ] at hi
      subst hi
      match j, hj with
      | 0, hj => simp [intC] at hj; subst hj; exact (cell_of h 2).trans rfl
    | 3, hi =>
      simp [leastQ] at hi
      subst hi
      match j, hj with
      | 0, hj => simp [intC] at hj; subst hj; exact (cell_of h 3).trans rfl
  · exact ⟨none, 0, rfl, by simp [leastQ], by simp [maxLen], fun i x hi => by simp [leastQ] at hi⟩
  · exact ⟨none, 0, rfl, by simp [leastQ], by simp [maxLen], fun i x hi => by simp [leastQ] at hi⟩
theorem build_q {i : Nat} (hi : i < 4) (c g : Int) (hc : 0 ≤ c ∧ c < 2) (d : Bool) : buildE leastQ i c g d = (⟨false, ((16 + i : Nat) : Int), false, strOfNums (beatD leastQ c g d)⟩, true) := by
  have hb : buildOk leastQ i c = true := by
    unfold buildOk
    rw [show isB leastQ = true by decide]
    simp [leastQ]
    omega
  unfold buildE
  rw [if_pos hb, show (leastQ.ref + (i : Int)) % 4294967296 = ((16 + i : Nat) : Int) by simp only [leastQ]; omega]
set_option maxRecDepth 100000 in
set_option maxHeartbeats 40000000 in
theorem RefmsgRanks_core (a b id : Int) (i j k : Nat) (hi : a % 4 = (i : Int)) (hj : b % 4 = (j : Int)) (hk : id % 2048 = (k : Int)) (ha : 0 ≤ a ∧ a ≤ 255) (hb : 0 ≤ b ∧ b ≤ 255) (hid : 0 ≤ id ∧ id ≤ 65535) (data : ByteArray) (hd : data.size ≤ maxLen) (w : World) :
    Holds 11 #[.int .u8 a, .int .u8 b, .int .u16 id, .string data] w := by
  have hi4 : i < 4 := by omega
  have hj4 : j < 4 := by omega
  have hkk : k < 2048 := by omega
  unfold maxLen at hd
  unfold Holds
  go_enter Try.func11, Try.ntmps11
  go_wp2_with fail
  refine (known21 _).mono ?_
  rintro e w1 ⟨rfl, hB1⟩
  rcases Nat.lt_or_ge 8 data.size with h8 | h8
  · have h8i : (8 : Int) < data.size := by omega
    go_wp2
    all_goals first | (exfalso; omega) | (go_ret; exact ⟨rfl, hB1⟩)
  have h8i : (data.size : Int) ≤ 8 := by omega
  have HB1 := Lib.hid hB1
  clear hB1
  go_wp2_with fail
  all_goals try (exfalso; omega)
  refine (least21 _).mono ?_
  rintro e w2 ⟨rfl, hB2, RM0⟩
  have HBW := Lib.hid (HB1.out.trans (hB2.mono HB1.out.size))
  clear hB2 RM0
  have hO := ((Own.nil_ (Below.refl w2.heap.size w2) (Nat.le_refl _)).alloc (boxM leastQ (.slice (some ⟨w2.heap.size + 1, 0, none⟩) 4 4) (.slice none 0 0) (.slice none 0 0))).alloc (.cells #[.int .i64 0, .int .i64 1, .int .i64 2, .int .i64 3] 3)
  have hms : (w2.alloc (boxM leastQ (.slice (some ⟨w2.heap.size + 1, 0, none⟩) 4 4) (.slice none 0 0) (.slice none 0 0))).heap.size = w2.heap.size + 1 := by simp
  rw [hms] at hO
  clear hms
  have RM := Lib.hid (leastQ_rd hO.get0)
  have HI := Lib.hid (i64_of (n := (i : Int)) (by omega) (by omega))
  have HJ := Lib.hid (i64_of (n := (j : Int)) (by omega) (by omega))
  simp only [matV, leastR]
  go_wp2_with fail
  refine (own_below hO (rm_build RM.out i 0 5 HI.out (by decide) (by decide) false)).mono ?_
  rintro e w3 ⟨rfl, hO⟩
  rw [build_q hi4 0 5 (by decide) false, show beatD leastQ 0 5 false = [0, 0, 0, 5] from rfl]
  simp only [frV]
  obtain ⟨c0, c1, c2, c3, c4, c5, c6, c7, c8, c9, c10⟩ := boxM_c hO.drop.get0
  simp only [leastQ] at c0 c1 c2 c3 c4 c5 c6 c7
  have hlM := lt_of_heap hO.drop.get0
  have RM3 := Lib.hid (leastQ_rd (((Below.refl w3.heap.size w3).alloc (Nat.le_refl _) (boxF ⟨false, ((16 + i : Nat) : Int), false, strOfNums [0, 0, 0, 5]⟩)).block _ (lt_of_heap hO.get0) |>.trans hO.get0))
  have hO := hO.alloc (boxF ⟨false, ((16 + i : Nat) : Int), false, strOfNums [0, 0, 0, 5]⟩)
  go_wp2_with fail
  refine (own_below hO (rm_build RM3.out j 1 9 HJ.out (by decide) (by decide) true)).mono ?_
  rintro e w4 ⟨rfl, hO⟩
  rw [build_q hj4 1 9 (by decide) true, show beatD leastQ 1 9 true = [1, 1, 0, 9] from rfl]
  simp only [frV]
  clear c0 c1 c2 c3 c4 c5 c6 c7 c8 c9 c10 hlM
  obtain ⟨x0, x1, x2, x3⟩ := boxF_c hO.get0
  simp only at x0 x1 x2 x3
  have hlX := lt_of_heap hO.get0
  have hO := (hO.alloc (boxF ⟨false, ((16 + j : Nat) : Int), false, strOfNums [1, 1, 0, 9]⟩)).alloc (boxF ⟨false, ((k : Nat) : Int), false, data⟩)
  have hms : (w4.alloc (boxF ⟨false, ((16 + j : Nat) : Int), false, strOfNums [1, 1, 0, 9]⟩)).heap.size = w4.heap.size + 1 := by simp
  rw [hms] at hO
  clear hms
  have HO := Lib.hid hO
  clear hO
  rcases Nat.lt_trichotomy i j with hij | hij | hij
  · skip
    have hc1 : cmpN (16 + i) (16 + j) = -1 := by unfold cmpN; rw [if_pos (by omega)]
    have hiji : (i : Int) < j := by omega
    rcases Nat.lt_trichotomy (16 + i) k with hik | hik | hik
    · skip
      have hc2 : cmpN (16 + i) k = -1 := by unfold cmpN; rw [if_pos (by omega)]
      as_aux_lemma =>
        have hcast : ((16 + i : Nat) : Int) = 16 + (i : Int) := by omega
        have hcast2 : ((16 + j : Nat) : Int) = 16 + (j : Int) := by omega
        have hkf : (16 + (i : Int)) < k := by omega
        have hkf2 : ((k : Int) == 16 + (i : Int)) = false := by simp; omega
        go_wp2_with fail
        all_goals try (exfalso; omega)
        rw [← hcast]
        refine (own_below HO.out (fr_cmp (16 + i) k (by omega) hkk (strOfNums [0, 0, 0, 5]) data (by decide) h8)).mono ?_
        rintro e w5 ⟨rfl, hO⟩
        rw [hc2]
        clear x0 x1 x2 x3 hlX
        obtain ⟨x0, x1, x2, x3⟩ := boxF_c hO.drop.drop.get0
        obtain ⟨y0, y1, y2, y3⟩ := boxF_c hO.drop.get0
        have hlX := lt_of_heap hO.drop.drop.get0
        have hlY := lt_of_heap hO.drop.get0
        simp only at x0 x1 x2 x3 y0 y1 y2 y3
        have HO5 := Lib.hid hO
        clear hO HO
        go_wp2_with fail
        rw [← hcast, ← hcast2]
        refine (own_below HO5.out (fr_cmp (16 + i) (16 + j) (by omega) (by omega) (strOfNums [0, 0, 0, 5]) (strOfNums [1, 1, 0, 9]) (by decide) (by decide))).mono ?_
        rintro e w6 ⟨rfl, hO⟩
        rw [hc1]
        clear x0 x1 x2 x3 y0 y1 y2 y3 hlX hlY
        obtain ⟨x0, x1, x2, x3⟩ := boxF_c hO.drop.drop.get0
        obtain ⟨f0, f1, f2, f3⟩ := boxF_c hO.get0
        have hlX := lt_of_heap hO.drop.drop.get0
        have hlF := lt_of_heap hO.get0
        simp only at x0 x1 x2 x3 f0 f1 f2 f3
        have HO6 := Lib.hid hO.bel
        clear hO HO5
        go_wp2
        all_goals try (exfalso; omega)
        go_ret
        exact ⟨rfl, HBW.out.trans (HO6.out.mono HBW.out.size)⟩
    · skip
      have hc2 : cmpN (16 + i) k = 0 := by unfold cmpN; rw [if_neg (by omega), if_neg (by omega)]
      as_aux_lemma =>
        have hcast : ((16 + i : Nat) : Int) = 16 + (i : Int) := by omega
        have hcast2 : ((16 + j : Nat) : Int) = 16 + (j : Int) := by omega
        subst hik
        have hkf2 : ((((16 + i : Nat) : Int)) == 16 + (i : Int)) = true := by simp
        go_wp2_with fail
        all_goals try (exfalso; omega)
        rw [← hcast]
        refine (own_below HO.out (fr_cmp (16 + i) (16 + i) (by omega) (by omega) (strOfNums [0, 0, 0, 5]) data (by decide) h8)).mono ?_
        rintro e w5 ⟨rfl, hO⟩
        rw [hc2]
        clear x0 x1 x2 x3 hlX
        obtain ⟨x0, x1, x2, x3⟩ := boxF_c hO.drop.drop.get0
        obtain ⟨y0, y1, y2, y3⟩ := boxF_c hO.drop.get0
        have hlX := lt_of_heap hO.drop.drop.get0
        have hlY := lt_of_heap hO.drop.get0
        simp only at x0 x1 x2 x3 y0 y1 y2 y3
        have HO5 := Lib.hid hO
        clear hO HO
        go_wp2_with fail
        rw [← hcast, ← hcast2]
        refine (own_below HO5.out (fr_cmp (16 + i) (16 + j) (by omega) (by omega) (strOfNums [0, 0, 0, 5]) (strOfNums [1, 1, 0, 9]) (by decide) (by decide))).mono ?_
        rintro e w6 ⟨rfl, hO⟩
        rw [hc1]
        clear x0 x1 x2 x3 y0 y1 y2 y3 hlX hlY
        obtain ⟨x0, x1, x2, x3⟩ := boxF_c hO.drop.drop.get0
        obtain ⟨f0, f1, f2, f3⟩ := boxF_c hO.get0
        have hlX := lt_of_heap hO.drop.drop.get0
        have hlF := lt_of_heap hO.get0
        simp only at x0 x1 x2 x3 f0 f1 f2 f3
        have HO6 := Lib.hid hO.bel
        clear hO HO5
        go_wp2
        all_goals try (exfalso; omega)
        go_ret
        exact ⟨rfl, HBW.out.trans (HO6.out.mono HBW.out.size)⟩
    · skip
      have hc2 : cmpN (16 + i) k = 1 := by unfold cmpN; rw [if_neg (by omega), if_pos (by omega)]
      as_aux_lemma =>
        have hcast : ((16 + i : Nat) : Int) = 16 + (i : Int) := by omega
        have hcast2 : ((16 + j : Nat) : Int) = 16 + (j : Int) := by omega
        have hkf : decide (16 + (i : Int) < k) = false := by simp; omega
        have hkf2 : ((k : Int) == 16 + (i : Int)) = false := by simp; omega
        go_wp2_with fail
        all_goals try (exfalso; omega)
        rw [← hcast]
        refine (own_below HO.out (fr_cmp (16 + i) k (by omega) hkk (strOfNums [0, 0, 0, 5]) data (by decide) h8)).mono ?_
        rintro e w5 ⟨rfl, hO⟩
        rw [hc2]
        clear x0 x1 x2 x3 hlX
        obtain ⟨x0, x1, x2, x3⟩ := boxF_c hO.drop.drop.get0
        obtain ⟨y0, y1, y2, y3⟩ := boxF_c hO.drop.get0
        have hlX := lt_of_heap hO.drop.drop.get0
        have hlY := lt_of_heap hO.drop.get0
        simp only at x0 x1 x2 x3 y0 y1 y2 y3
        have HO5 := Lib.hid hO
        clear hO HO
        go_wp2_with fail
        rw [← hcast, ← hcast2]
        refine (own_below HO5.out (fr_cmp (16 + i) (16 + j) (by omega) (by omega) (strOfNums [0, 0, 0, 5]) (strOfNums [1, 1, 0, 9]) (by decide) (by decide))).mono ?_
        rintro e w6 ⟨rfl, hO⟩
        rw [hc1]
        clear x0 x1 x2 x3 y0 y1 y2 y3 hlX hlY
        obtain ⟨x0, x1, x2, x3⟩ := boxF_c hO.drop.drop.get0
        obtain ⟨f0, f1, f2, f3⟩ := boxF_c hO.get0
        have hlX := lt_of_heap hO.drop.drop.get0
        have hlF := lt_of_heap hO.get0
        simp only at x0 x1 x2 x3 f0 f1 f2 f3
        have HO6 := Lib.hid hO.bel
        clear hO HO5
        go_wp2
        all_goals try (exfalso; omega)
        go_ret
        exact ⟨rfl, HBW.out.trans (HO6.out.mono HBW.out.size)⟩
  · skip
    subst hij
    have hc1 : cmpN (16 + i) (16 + i) = 0 := by unfold cmpN; rw [if_neg (by omega), if_neg (by omega)]
    rcases Nat.lt_trichotomy (16 + i) k with hik | hik | hik
    · skip
      have hc2 : cmpN (16 + i) k = -1 := by unfold cmpN; rw [if_pos (by omega)]
      as_aux_lemma =>
        have hcast : ((16 + i : Nat) : Int) = 16 + (i : Int) := by omega
        have hcast2 : ((16 + i : Nat) : Int) = 16 + (i : Int) := by omega
        have hkf : (16 + (i : Int)) < k := by omega
        have hkf2 : ((k : Int) == 16 + (i : Int)) = false := by simp; omega
        go_wp2_with fail
        all_goals try (exfalso; omega)
        rw [← hcast]
        refine (own_below HO.out (fr_cmp (16 + i) k (by omega) hkk (strOfNums [0, 0, 0, 5]) data (by decide) h8)).mono ?_
        rintro e w5 ⟨rfl, hO⟩
        rw [hc2]
        clear x0 x1 x2 x3 hlX
        obtain ⟨x0, x1, x2, x3⟩ := boxF_c hO.drop.drop.get0
        obtain ⟨y0, y1, y2, y3⟩ := boxF_c hO.drop.get0
        have hlX := lt_of_heap hO.drop.drop.get0
        have hlY := lt_of_heap hO.drop.get0
        simp only at x0 x1 x2 x3 y0 y1 y2 y3
        have HO5 := Lib.hid hO
        clear hO HO
        go_wp2_with fail
        rw [← hcast]
        refine (own_below HO5.out (fr_cmp (16 + i) (16 + i) (by omega) (by omega) (strOfNums [0, 0, 0, 5]) (strOfNums [1, 1, 0, 9]) (by decide) (by decide))).mono ?_
        rintro e w6 ⟨rfl, hO⟩
        rw [hc1]
        clear x0 x1 x2 x3 y0 y1 y2 y3 hlX hlY
        obtain ⟨x0, x1, x2, x3⟩ := boxF_c hO.drop.drop.get0
        obtain ⟨f0, f1, f2, f3⟩ := boxF_c hO.get0
        have hlX := lt_of_heap hO.drop.drop.get0
        have hlF := lt_of_heap hO.get0
        simp only at x0 x1 x2 x3 f0 f1 f2 f3
        have HO6 := Lib.hid hO.bel
        clear hO HO5
        go_wp2
        all_goals try (exfalso; omega)
        go_ret
        exact ⟨rfl, HBW.out.trans (HO6.out.mono HBW.out.size)⟩
    · skip
      have hc2 : cmpN (16 + i) k = 0 := by unfold cmpN; rw [if_neg (by omega), if_neg (by omega)]
      as_aux_lemma =>
        have hcast : ((16 + i : Nat) : Int) = 16 + (i : Int) := by omega
        have hcast2 : ((16 + i : Nat) : Int) = 16 + (i : Int) := by omega
        subst hik
        have hkf2 : ((((16 + i : Nat) : Int)) == 16 + (i : Int)) = true := by simp
        go_wp2_with fail
        all_goals try (exfalso; omega)
        rw [← hcast]
        refine (own_below HO.out (fr_cmp (16 + i) (16 + i) (by omega) (by omega) (strOfNums [0, 0, 0, 5]) data (by decide) h8)).mono ?_
        rintro e w5 ⟨rfl, hO⟩
        rw [hc2]
        clear x0 x1 x2 x3 hlX
        obtain ⟨x0, x1, x2, x3⟩ := boxF_c hO.drop.drop.get0
        obtain ⟨y0, y1, y2, y3⟩ := boxF_c hO.drop.get0
        have hlX := lt_of_heap hO.drop.drop.get0
        have hlY := lt_of_heap hO.drop.get0
        simp only at x0 x1 x2 x3 y0 y1 y2 y3
        have HO5 := Lib.hid hO
        clear hO HO
        go_wp2_with fail
        rw [← hcast]
        refine (own_below HO5.out (fr_cmp (16 + i) (16 + i) (by omega) (by omega) (strOfNums [0, 0, 0, 5]) (strOfNums [1, 1, 0, 9]) (by decide) (by decide))).mono ?_
        rintro e w6 ⟨rfl, hO⟩
        rw [hc1]
        clear x0 x1 x2 x3 y0 y1 y2 y3 hlX hlY
        obtain ⟨x0, x1, x2, x3⟩ := boxF_c hO.drop.drop.get0
        obtain ⟨f0, f1, f2, f3⟩ := boxF_c hO.get0
        have hlX := lt_of_heap hO.drop.drop.get0
        have hlF := lt_of_heap hO.get0
        simp only at x0 x1 x2 x3 f0 f1 f2 f3
        have HO6 := Lib.hid hO.bel
        clear hO HO5
        go_wp2
        all_goals try (exfalso; omega)
        go_ret
        exact ⟨rfl, HBW.out.trans (HO6.out.mono HBW.out.size)⟩
    · skip
      have hc2 : cmpN (16 + i) k = 1 := by unfold cmpN; rw [if_neg (by omega), if_pos (by omega)]
      as_aux_lemma =>
        have hcast : ((16 + i : Nat) : Int) = 16 + (i : Int) := by omega
        have hcast2 : ((16 + i : Nat) : Int) = 16 + (i : Int) := by omega
        have hkf : decide (16 + (i : Int) < k) = false := by simp; omega
        have hkf2 : ((k : Int) == 16 + (i : Int)) = false := by simp; omega
        go_wp2_with fail
        all_goals try (exfalso; omega)
        rw [← hcast]
        refine (own_below HO.out (fr_cmp (16 + i) k (by omega) hkk (strOfNums [0, 0, 0, 5]) data (by decide) h8)).mono ?_
        rintro e w5 ⟨rfl, hO⟩
        rw [hc2]
        clear x0 x1 x2 x3 hlX
        obtain ⟨x0, x1, x2, x3⟩ := boxF_c hO.drop.drop.get0
        obtain ⟨y0, y1, y2, y3⟩ := boxF_c hO.drop.get0
        have hlX := lt_of_heap hO.drop.drop.get0
        have hlY := lt_of_heap hO.drop.get0
        simp only at x0 x1 x2 x3 y0 y1 y2 y3
        have HO5 := Lib.hid hO
        clear hO HO
        go_wp2_with fail
        rw [← hcast]
        refine (own_below HO5.out (fr_cmp (16 + i) (16 + i) (by omega) (by omega) (strOfNums [0, 0, 0, 5]) (strOfNums [1, 1, 0, 9]) (by decide) (by decide))).mono ?_
        rintro e w6 ⟨rfl, hO⟩
        rw [hc1]
        clear x0 x1 x2 x3 y0 y1 y2 y3 hlX hlY
        obtain ⟨x0, x1, x2, x3⟩ := boxF_c hO.drop.drop.get0
        obtain ⟨f0, f1, f2, f3⟩ := boxF_c hO.get0
        have hlX := lt_of_heap hO.drop.drop.get0
        have hlF := lt_of_heap hO.get0
        simp only at x0 x1 x2 x3 f0 f1 f2 f3
        have HO6 := Lib.hid hO.bel
        clear hO HO5
        go_wp2
        all_goals try (exfalso; omega)
        go_ret
        exact ⟨rfl, HBW.out.trans (HO6.out.mono HBW.out.size)⟩
  · skip
    have hc1 : cmpN (16 + i) (16 + j) = 1 := by unfold cmpN; rw [if_neg (by omega), if_pos (by omega)]
    have hiji : (j : Int) < i := by omega
    have hiji2 : ¬ (i : Int) < j := by omega
    rcases Nat.lt_trichotomy (16 + i) k with hik | hik | hik
    · skip
      have hc2 : cmpN (16 + i) k = -1 := by unfold cmpN; rw [if_pos (by omega)]
      as_aux_lemma =>
        have hcast : ((16 + i : Nat) : Int) = 16 + (i : Int) := by omega
        have hcast2 : ((16 + j : Nat) : Int) = 16 + (j : Int) := by omega
        have hkf : (16 + (i : Int)) < k := by omega
        have hkf2 : ((k : Int) == 16 + (i : Int)) = false := by simp; omega
        go_wp2_with fail
        all_goals try (exfalso; omega)
        rw [← hcast]
        refine (own_below HO.out (fr_cmp (16 + i) k (by omega) hkk (strOfNums [0, 0, 0, 5]) data (by decide) h8)).mono ?_
        rintro e w5 ⟨rfl, hO⟩
        rw [hc2]
        clear x0 x1 x2 x3 hlX
        obtain ⟨x0, x1, x2, x3⟩ := boxF_c hO.drop.drop.get0
        obtain ⟨y0, y1, y2, y3⟩ := boxF_c hO.drop.get0
        have hlX := lt_of_heap hO.drop.drop.get0
        have hlY := lt_of_heap hO.drop.get0
        simp only at x0 x1 x2 x3 y0 y1 y2 y3
        have HO5 := Lib.hid hO
        clear hO HO
        go_wp2_with fail
        rw [← hcast, ← hcast2]
        refine (own_below HO5.out (fr_cmp (16 + i) (16 + j) (by omega) (by omega) (strOfNums [0, 0, 0, 5]) (strOfNums [1, 1, 0, 9]) (by decide) (by decide))).mono ?_
        rintro e w6 ⟨rfl, hO⟩
        rw [hc1]
        clear x0 x1 x2 x3 y0 y1 y2 y3 hlX hlY
        obtain ⟨x0, x1, x2, x3⟩ := boxF_c hO.drop.drop.get0
        obtain ⟨f0, f1, f2, f3⟩ := boxF_c hO.get0
        have hlX := lt_of_heap hO.drop.drop.get0
        have hlF := lt_of_heap hO.get0
        simp only at x0 x1 x2 x3 f0 f1 f2 f3
        have HO6 := Lib.hid hO.bel
        clear hO HO5
        go_wp2
        all_goals try (exfalso; omega)
        go_ret
        exact ⟨rfl, HBW.out.trans (HO6.out.mono HBW.out.size)⟩
    · skip
      have hc2 : cmpN (16 + i) k = 0 := by unfold cmpN; rw [if_neg (by omega), if_neg (by omega)]
      as_aux_lemma =>
        have hcast : ((16 + i : Nat) : Int) = 16 + (i : Int) := by omega
        have hcast2 : ((16 + j : Nat) : Int) = 16 + (j : Int) := by omega
        subst hik
        have hkf2 : ((((16 + i : Nat) : Int)) == 16 + (i : Int)) = true := by simp
        go_wp2_with fail
        all_goals try (exfalso; omega)
        rw [← hcast]
        refine (own_below HO.out (fr_cmp (16 + i) (16 + i) (by omega) (by omega) (strOfNums [0, 0, 0, 5]) data (by decide) h8)).mono ?_
        rintro e w5 ⟨rfl, hO⟩
        rw [hc2]
        clear x0 x1 x2 x3 hlX
        obtain ⟨x0, x1, x2, x3⟩ := boxF_c hO.drop.drop.get0
        obtain ⟨y0, y1, y2, y3⟩ := boxF_c hO.drop.get0
        have hlX := lt_of_heap hO.drop.drop.get0
        have hlY := lt_of_heap hO.drop.get0
        simp only at x0 x1 x2 x3 y0 y1 y2 y3
        have HO5 := Lib.hid hO
        clear hO HO
        go_wp2_with fail
        rw [← hcast, ← hcast2]
        refine (own_below HO5.out (fr_cmp (16 + i) (16 + j) (by omega) (by omega) (strOfNums [0, 0, 0, 5]) (strOfNums [1, 1, 0, 9]) (by decide) (by decide))).mono ?_
        rintro e w6 ⟨rfl, hO⟩
        rw [hc1]
        clear x0 x1 x2 x3 y0 y1 y2 y3 hlX hlY
        obtain ⟨x0, x1, x2, x3⟩ := boxF_c hO.drop.drop.get0
        obtain ⟨f0, f1, f2, f3⟩ := boxF_c hO.get0
        have hlX := lt_of_heap hO.drop.drop.get0
        have hlF := lt_of_heap hO.get0
        simp only at x0 x1 x2 x3 f0 f1 f2 f3
        have HO6 := Lib.hid hO.bel
        clear hO HO5
        go_wp2
        all_goals try (exfalso; omega)
        go_ret
        exact ⟨rfl, HBW.out.trans (HO6.out.mono HBW.out.size)⟩
    · skip
      have hc2 : cmpN (16 + i) k = 1 := by unfold cmpN; rw [if_neg (by omega), if_pos (by omega)]
      as_aux_lemma =>
        have hcast : ((16 + i : Nat) : Int) = 16 + (i : Int) := by omega
        have hcast2 : ((16 + j : Nat) : Int) = 16 + (j : Int) := by omega
        have hkf : decide (16 + (i : Int) < k) = false := by simp; omega
        have hkf2 : ((k : Int) == 16 + (i : Int)) = false := by simp; omega
        go_wp2_with fail
        all_goals try (exfalso; omega)
        rw [← hcast]
        refine (own_below HO.out (fr_cmp (16 + i) k (by omega) hkk (strOfNums [0, 0, 0, 5]) data (by decide) h8)).mono ?_
        rintro e w5 ⟨rfl, hO⟩
        rw [hc2]
        clear x0 x1 x2 x3 hlX
        obtain ⟨x0, x1, x2, x3⟩ := boxF_c hO.drop.drop.get0
        obtain ⟨y0, y1, y2, y3⟩ := boxF_c hO.drop.get0
        have hlX := lt_of_heap hO.drop.drop.get0
        have hlY := lt_of_heap hO.drop.get0
        simp only at x0 x1 x2 x3 y0 y1 y2 y3
        have HO5 := Lib.hid hO
        clear hO HO
        go_wp2_with fail
        rw [← hcast, ← hcast2]
        refine (own_below HO5.out (fr_cmp (16 + i) (16 + j) (by omega) (by omega) (strOfNums [0, 0, 0, 5]) (strOfNums [1, 1, 0, 9]) (by decide) (by decide))).mono ?_
        rintro e w6 ⟨rfl, hO⟩
        rw [hc1]
        clear x0 x1 x2 x3 y0 y1 y2 y3 hlX hlY
        obtain ⟨x0, x1, x2, x3⟩ := boxF_c hO.drop.drop.get0
        obtain ⟨f0, f1, f2, f3⟩ := boxF_c hO.get0
        have hlX := lt_of_heap hO.drop.drop.get0
        have hlF := lt_of_heap hO.get0
        simp only at x0 x1 x2 x3 f0 f1 f2 f3
        have HO6 := Lib.hid hO.bel
        clear hO HO5
        go_wp2
        all_goals try (exfalso; omega)
        go_ret
        exact ⟨rfl, HBW.out.trans (HO6.out.mono HBW.out.size)⟩
theorem RefmsgRanks_walk (a b id : Int) (data : ByteArray) (ha : (Lit.int .u8 a).wf = true) (hb : (Lit.int .u8 b).wf = true) (hid : (Lit.int .u16 id).wf = true) (hd : data.size ≤ maxLen) (W : World) : Holds 11 #[.int .u8 a, .int .u8 b, .int .u16 id, .string data] W := by
  have h1 := bounds_u8 ha
  have h2 := bounds_u8 hb
  have h3 := bounds_u16 hid
  exact RefmsgRanks_core a b id (a % 4).toNat (b % 4).toNat (id % 2048).toNat (by omega) (by omega) (by omega) h1 h2 h3 data hd W

set_option maxRecDepth 100000 in
theorem RefmsgRanks_lifted (os : Os) (started : os.Started) (H : Type) (enc : TypeId × Value → H) :
    ReturnsInHanded {} Try.checked os 11 .any (Rows.refmsgRanksSpec.pre6 enc Try.prog Try.f11 [] false) (Rows.refmsgRanksSpec.post enc Try.prog Try.f11 false true false false) := by
  refine law_lifted (n := 4) os started H enc (by kernel_rfl) Try.func11 rfl rfl (hts_of (by kernel_rfl)) rfl (fun ds h => match ds, h with | [_, _, _, _], _ => rfl)
    (ChangeSpec.witness6 (enc := enc) (C := Try.checked) false ⟨#[], #[.int .u8 0, .int .u8 0, .int .u16 0, .string ⟨#[]⟩], []⟩ 8 (by kernel_rfl) (by kernel_rfl) (by kernel_rfl) (by kernel_rfl)) ?_
  intro W base args ds p hval hA
  rw [Try.params11] at hA hval
  obtain ⟨v0, vs0, d0, ds0, p0, q0, hargs, rfl, rfl, h0, r0⟩ := trodAll_cons hA
  obtain ⟨v1, vs1, d1, ds1, p1, q1, rfl, rfl, rfl, h1, r1⟩ := trodAll_cons r0
  obtain ⟨v2, vs2, d2, ds2, p2, q2, rfl, rfl, rfl, h2, r2⟩ := trodAll_cons r1
  obtain ⟨v3, vs3, d3, ds3, p3, q3, rfl, rfl, rfl, h3, r3⟩ := trodAll_cons r2
  obtain ⟨rfl, rfl, rfl⟩ := trodAll_nil r3
  obtain rfl : args = #[v0, v1, v2, v3] := by cases args; simp_all
  obtain ⟨a0, rfl, rfl, rfl, w0⟩ := open_int Try.underlying5 (hval 0 _ v0 rfl rfl) h0
  obtain ⟨a1, rfl, rfl, rfl, w1⟩ := open_int Try.underlying5 (hval 1 _ v1 rfl rfl) h1
  obtain ⟨a2, rfl, rfl, rfl, w2⟩ := open_int Try.underlying28 (hval 2 _ v2 rfl rfl) h2
  obtain ⟨a3, rfl, rfl, rfl, w3⟩ := Go.ChangeMaps.open_string Try.underlying9 (hval 3 _ v3 rfl rfl) h3
  exact RefmsgRanks_walk a0 a1 a2 a3 w0 w1 w2 w3 W 

theorem RefmsgRanks_over : Rows.refmsgRanksRow.holds Try.pinned (OpenSpec.ofChange Rows.refmsgRanksSpec) :=
  OpenClaim.holds_of_wide 11 Try.f11 rfl rfl rfl rfl rfl rfl rfl ⟨rfl, rfl, rfl, rfl, rfl⟩ rfl rfl rfl rfl rfl (by kernel_rfl) Try.func11 (by kernel_rfl)
    (of_decide_eq_true (by kernel_rfl)) (by unfold Func.isWrapper; first | (rw [if_pos (by decide +kernel)]; kernel_rfl) | (rw [if_neg (by decide +kernel)]; exact ⟨rfl, rfl⟩))
    (fun os started H enc _ => RefmsgRanks_lifted os started H enc)
theorem RefmsgRanks_holds : Rows.RefmsgRanksSaid := RefmsgRanks_over
#print axioms RefmsgRanks_holds
end Go.Proofs.Ythkhlcigegbpfaa
