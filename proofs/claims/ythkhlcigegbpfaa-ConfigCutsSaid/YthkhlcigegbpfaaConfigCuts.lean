/- ConfigCuts: cut off, with more behind, a byte turned. No conditions. -/
import Derived.Test.YthkhlcigegbpfaaCfKnown
import Derived.Laws.IdiomStrings
import Derived.Deep.CutBlock
namespace Go.Proofs.Ythkhlcigegbpfaa
set_option linter.unusedVariables false
set_option linter.unusedSimpArgs false
open Go.ChangeShapes Go.WideShapes Go.ChangeAt Go.RowKit Go.Deep

theorem bytesRow_take (s : ByteArray) (cap : Nat) (j : Nat) (hj : j < s.size) : (bytesRow s cap)[j]? = some (.int .u8 (s[j].toNat : Int)) := bytesRow_at s cap j hj
theorem bytesRow_size (s : ByteArray) (cap : Nat) : s.size ≤ (bytesRow s cap).size := by
  have : s.size = s.data.size := rfl
  simp [bytesRow]
theorem xor_bd {a b : Int} (ha : 0 ≤ a ∧ a ≤ 255) (hb : 0 ≤ b ∧ b ≤ 255) : 0 ≤ bits BinOp.xor IntKind.u8 a b ∧ bits BinOp.xor IntKind.u8 a b ≤ 255 := by
  obtain ⟨x, rfl⟩ := Int.eq_ofNat_of_zero_le ha.1
  obtain ⟨y, rfl⟩ := Int.eq_ofNat_of_zero_le hb.1
  rw [u8_xor_nat x y (by omega) (by omega)]
  have : x ^^^ y < 2 ^ 8 := Nat.xor_lt_two_pow (by omega) (by omega)
  omega
theorem xor_zero {a : Int} (ha : 0 ≤ a ∧ a ≤ 255) : bits BinOp.xor IntKind.u8 a 0 = a := by
  obtain ⟨x, rfl⟩ := Int.eq_ofNat_of_zero_le ha.1
  have := u8_xor_nat x 0 (by omega) (by omega)
  rw [Nat.xor_zero] at this
  exact this
theorem free_ofR {w : World} {b i n k : Nat} {xs : Array Value} {t : TypeId} (h : w.heap[b]? = some (.cells xs t (n, k))) (hi : i < n) : w.frozen? ⟨b, i, none⟩ = false := by
  have h2 : ¬ n ≤ i := by omega
  simp [World.frozen?, h, h2]
/-- The bytes with the one at K turned. -/
def turned (p : ByteArray) (K : Nat) (y : Int) : List Int := (nums p).set K y
theorem turned_len (p : ByteArray) (K : Nat) (y : Int) : (turned p K y).length = p.size := by simp [turned, nums_len]
theorem turned_same {p : ByteArray} {K : Nat} (h : K < p.size) : strOfNums (turned p K (p[K].toNat : Int)) = p := by
  have e : turned p K (p[K].toNat : Int) = nums p := by
    unfold turned
    apply List.ext_getElem?
    intro i
    rw [List.getElem?_set]
    split
    · rename_i hi
      subst hi
      have hk : K < p.data.toList.length := by rw [Array.length_toList]; exact h
      simp only [nums_len, h, if_true]
      unfold nums
      rw [List.getElem?_map, List.getElem?_eq_getElem hk]
      rfl
    · rfl
  rw [e, strOfNums_nums]
/-- The row of a string's bytes with one turned, as text. -/
theorem conv_turned {w : World} {g n cap : Nat} {p : ByteArray} {K : Nat} {y : Int} {C : Array Value} {q : Nat × Nat} (hC : C = bytesRow p cap) (hK : K < p.size) (hn : n = p.size) (h : w.heap[g]? = some (.cells (C.setIfInBounds K (.int .u8 y)) 5 q)) :
    (convert 69 9 (.slice (some ⟨g, 0, none⟩) n cap)).run Try.prog w = .ok (.string (strOfNums (turned p K y))) w := by
  subst hn
  refine run_convert_bytes_arg (P := Try.prog) w 69 5 Try.underlying69 Try.underlying5 g 0 p.size cap (turned p K y) (turned_len p K y) (fun i hi => ?_) 9 Try.underlying9
  rw [Nat.zero_add, cell_of_row w g i _ 5 q h]
  have hsz := bytesRow_size p cap
  rw [← hC] at hsz
  rw [Array.getElem?_setIfInBounds]
  have hil : i < (turned p K y).length := by rw [turned_len]; exact hi
  by_cases e : K = i
  · subst e
    rw [if_pos rfl, if_pos (by omega)]
    have : (turned p K y)[K]? = some y := by
      unfold turned
      rw [List.getElem?_set]
      simp [nums_len, hK]
    simp [List.getD_eq_getElem?_getD, this, List.getElem?_eq_getElem hil] at *
    first | done | (rw [this])
  · rw [if_neg e, hC, bytesRow_take p cap i hi]
    have h1 : (turned p K y)[i]? = some (p[i].toNat : Int) := by
      unfold turned
      rw [List.getElem?_set, if_neg e]
      have hk : i < p.data.toList.length := by rw [Array.length_toList]; exact hi
      unfold nums
      rw [List.getElem?_map, List.getElem?_eq_getElem hk]
      rfl
    rw [List.getElem?_eq_getElem hil] at h1
    simp [List.getD_eq_getElem?_getD, List.getElem?_eq_getElem hil] at *
    first | done | (rw [h1])
set_option maxRecDepth 100000 in
set_option maxHeartbeats 4000000 in
theorem ConfigCuts_core (m : Mat) (s1 s2 s3 : Value) (at_ by_ : Int) (hat : 0 ≤ at_ ∧ at_ ≤ 65535) (hby : 0 ≤ by_ ∧ by_ ≤ 255) (w : World) (h : RdM w m s1 s2 s3) : Holds 14 #[matV m s1 s2 s3, .int .u16 at_, .int .u8 by_] w := by
  have hO := (Own.nil_ (Below.refl w.heap.size w) (Nat.le_refl _)).alloc (boxM m s1 s2 s3)
  obtain ⟨a1, p1, e1, r1⟩ := h.r1.shape
  obtain ⟨a2, p2, e2, r2⟩ := h.r2.shape
  obtain ⟨a3, p3, e3, r3⟩ := h.r3.shape
  subst e1 e2 e3
  clear r1 r2 r3
  have RM := Lib.hid h
  clear h
  unfold Holds matV
  go_enter Try.func14, Try.ntmps14
  go_wp2_with fail
  refine (own_below hO (known13 _)).mono ?_
  rintro e w1 ⟨rfl, hO⟩
  obtain ⟨c0, c1, c2, c3, c4, c5, c6, c7, c8, c9, c10⟩ := boxM_c hO.get0
  have hml := lt_of_heap hO.get0
  go_wp2_with fail
  refine (own_below hO (few13 (RM.out.keep hO.bel))).mono ?_
  obtain ⟨zf, hzf⟩ : ∃ z, decide (m.masters.length ≤ 10 ∧ m.msgs.length ≤ 20 ∧ m.wins.length ≤ 25) = z := ⟨_, rfl⟩
  rw [hzf]
  clear hzf
  rintro e w2 ⟨rfl, hO⟩
  clear c0 c1 c2 c3 c4 c5 c6 c7 c8 c9 c10 hml
  cases zf
  · go_wp2
    go_ret
    exact ⟨rfl, hO.bel⟩
  obtain ⟨c0, c1, c2, c3, c4, c5, c6, c7, c8, c9, c10⟩ := boxM_c hO.get0
  have hml := lt_of_heap hO.get0
  obtain ⟨p, hp⟩ : ∃ p, printE m = p := ⟨_, rfl⟩
  have HP := Lib.hid hp
  clear hp
  go_wp2_with fail
  refine (own_below hO (cf_print (RM.out.keep hO.bel))).mono ?_
  rw [HP.out]
  rintro e w3 ⟨rfl, hO⟩
  clear c0 c1 c2 c3 c4 c5 c6 c7 c8 c9 c10 hml
  cases hz : isB m with
  | false =>
    obtain rfl : p = ⟨#[]⟩ := by rw [← HP.out]; exact print_none hz
    have HZ := Lib.hid hz
    clear hz
    go_wp2
    go_ret
    exact ⟨rfl, hO.bel⟩
  | true =>
  have hsz : 16 ≤ p.size ∧ p.size ≤ 195 := by
    rw [← HP.out]
    have h1 := print_size hz
    have h2 := (bds_of hz).l1
    exact ⟨by omega, print_small⟩
  have HZ := Lib.hid hz
  clear hz
  have hne := isEmpty_of_pos (s := p) (by omega)
  obtain ⟨A, rfl⟩ := Int.eq_ofNat_of_zero_le hat.1
  obtain ⟨K, hK⟩ : ∃ K, A % p.size = K := ⟨_, rfl⟩
  have hKl : K < p.size := by rw [← hK]; exact Nat.mod_lt _ (by omega)
  have hKi : (A : Int) % (p.size : Int) = K := by rw [← hK, Int.natCast_emod]
  have hp1 : (1 : Int) ≤ p.size := by omega
  have hcut : okE (p.extract 0 K) = false := by rw [← HP.out]; exact cut_none HZ.out RM.out.ok (by rw [HP.out]; exact hKl)
  have hmore : okE (p ++ strOfNums [by_]) = false := by rw [← HP.out]; exact more_none HZ.out RM.out.ok by_ hby
  have HC := Lib.hid (pe_no hcut)
  have HMo := Lib.hid (pe_no hmore)
  have hms : (p ++ strOfNums [by_]).size ≤ maxLen := by rw [ByteArray.size_append, strOfNums_size]; unfold maxLen; simp; omega
  have hcs : (p.extract 0 K).size ≤ maxLen := by rw [ByteArray.size_extract]; unfold maxLen; omega
  have HMS := Lib.hid hms
  have HCS := Lib.hid hcs
  have hKle : K ≤ p.size := by omega
  have hKle2 : (K : Int) ≤ p.size := by omega
  clear hK hms hcs hcut hmore
  go_wp2_with fail
  refine (cf_parseQ (p.extract 0 K) HCS.out).mono ?_
  rintro e w4 ⟨t1, q1, t2, q2, t3, q3, rfl, hB, hR⟩
  rw [HC.out.1, HC.out.2]
  replace hO := hO.keep hB
  clear hB hR
  unfold matV
  have hO5 := hO.alloc_ (boxM zeroM' (.slice t1 zeroM'.masters.length q1) (.slice t2 zeroM'.msgs.length q2) (.slice t3 zeroM'.wins.length q3))
  have hcv := run_convert_bytes_arg (P := Try.prog) ((w4.alloc (boxM zeroM' (.slice t1 zeroM'.masters.length q1) (.slice t2 zeroM'.msgs.length q2) (.slice t3 zeroM'.wins.length q3))).alloc (.cells #[.int .u8 by_] 5)) 69 5 Try.underlying69 Try.underlying5 (w4.heap.size + 1) 0 1 1 [by_] rfl (fun i hi => by
    match i, hi with
    | 0, _ => exact (cell_of (new_blk2 w4 _ _) 0).trans rfl) 9 Try.underlying9
  unfold boxM at hcv
  have hpb1 : (strOfNums [by_]).size = 1 := by rw [strOfNums_size]; rfl
  generalize strOfNums [by_] = pb at *
  have hcat : p.size + 1 ≤ 9223372036854775807 := by omega
  go_wp2_with fail
  generalize p ++ pb = pq at *
  have hO6 := hO5.alloc_ (.cells #[.int .u8 by_] 5)
  refine (cf_parseQ pq HMS.out).mono ?_
  rintro e w5 ⟨t4, q4, t5, q5, t6, q6, rfl, hB, hR⟩
  rw [HMo.out.1, HMo.out.2]
  have hO7 := hO6.keep hB
  clear hB hR hcv hO hO5 hO6 HCS HMS HC HMo
  unfold matV
  go_upto_region 11 with fail
  refine world_outC (hO7.alloc_ (boxM zeroM' (.slice t4 zeroM'.masters.length q4) (.slice t5 zeroM'.msgs.length q5) (.slice t6 zeroM'.wins.length q6))) ?_
  clear hO7
  intro w6 hO
  have hcv := run_bytes_of_string (P := Try.prog) w6 9 69 5 p Try.underlying9 Try.underlying69 Try.underlying5
  obtain ⟨cap, hcap⟩ : ∃ c, grownCap w6 p.size 0 5 = c := ⟨_, rfl⟩
  rw [hcap] at hcv
  clear hcap
  have hCs2 := bytesRow_size p cap
  have hCs3 := bytesRow_take p cap K hKl
  obtain ⟨Cs, hCs⟩ : ∃ c, bytesRow p cap = c := ⟨_, rfl⟩
  rw [hCs] at hcv hCs2 hCs3
  obtain ⟨xx, hxx⟩ : ∃ x : Int, (p[K].toNat : Int) = x := ⟨_, rfl⟩
  rw [hxx] at hCs3
  have hxb : 0 ≤ xx ∧ xx ≤ 255 := by have := p[K].toNat_lt; omega
  obtain ⟨yy, hyy⟩ : ∃ y, bits BinOp.xor IntKind.u8 xx by_ = y := ⟨_, rfl⟩
  have hyb := xor_bd hxb hby
  rw [hyy] at hyb
  have hnb := new_blk w6 (.cells Cs 5 (Cs.size, Cs.size + 1))
  have hc0 := (cell_of hnb K).trans hCs3
  have hz0 : (w6.alloc (.cells Cs 5 (Cs.size, Cs.size + 1))).frozen? ⟨w6.heap.size, K, none⟩ = false := free_ofR hnb (by omega)
  have hO8 := (hO.alloc (.cells Cs 5 (Cs.size, Cs.size + 1))).upd0 (Upd.setCell K (.int .u8 yy) (Upd.refl hnb))
  obtain ⟨cc, hcc⟩ : ∃ c, strOfNums (turned p K yy) = c := ⟨_, rfl⟩
  have hback := conv_turned (y := yy) (n := p.size) hCs.symm hKl rfl hO8.drew.get0
  rw [hcc] at hback
  have hccs : cc.size = p.size := by rw [← hcc, strOfNums_size, turned_len]
  have HBK := Lib.hid (show ∀ w' : World, w'.heap[w6.heap.size]? = some (.cells (Cs.setIfInBounds K (.int .u8 yy)) 5 (Cs.size, Cs.size + 1)) → (convert 69 9 (.slice (some ⟨w6.heap.size, 0, none⟩) p.size cap)).run Try.prog w' = .ok (.string cc) w' from fun w' h' => by
    rw [← hcc]
    exact conv_turned hCs.symm hKl rfl h')
  have HCC := Lib.hid (show cc.size ≤ maxLen by unfold maxLen; omega)
  have HSAME := Lib.hid (show by_ = 0 → okE cc = true by
    intro e
    subst e
    rw [xor_zero hxb] at hyy
    rw [← hcc, ← hyy, ← hxx, turned_same hKl, ← HP.out]
    exact okE_print HZ.out RM.out.ok)
  have HO := Lib.hid hO8
  clear hCs hCs2 hCs3 hnb hO8 hO hcc hccs hxb hyb
  go_wp2_with fail
  refine (cf_parseQ cc HCC.out).mono ?_
  rintro e w7 ⟨n1, k1, n2, k2, n3, k3, rfl, hB, hR⟩
  have hO9 := (HO.out.drew.keep hB).alloc (boxM (pmE cc) (.slice n1 (pmE cc).masters.length k1) (.slice n2 (pmE cc).msgs.length k2) (.slice n3 (pmE cc).wins.length k3))
  have HR := Lib.hid (hR.keep (show Below w7.heap.size w7 (w7.alloc (boxM (pmE cc) (.slice n1 (pmE cc).masters.length k1) (.slice n2 (pmE cc).msgs.length k2) (.slice n3 (pmE cc).wins.length k3))) from (Below.refl _ _).alloc (Nat.le_refl _) _))
  have hrow := (HO.out.drew.keep hB).get0
  clear hB hR HO hc0 hz0 hback hcv
  unfold matV
  go_wp2_with fail
  cases hk : okE cc with
  | true =>
    obtain ⟨hi, hpr⟩ := okE_is hk
    have hpe : peE cc = 0 := by unfold peE; rw [hk]; rfl
    have hpm : printE (pmE cc) = cc := by
      have : pmE cc = (parseR cc).1 := by unfold pmE; rw [hk]; rfl
      rw [this]
      exact hpr
    have HPM := Lib.hid hpm
    rw [hpe]
    clear hk hi hpr hpe hpm hrow
    refine wp_region_held_drew (S := fun w' => Own w.heap.size w [(w7.heap.size, (boxM (pmE cc) (.slice n1 (pmE cc).masters.length k1) (.slice n2 (pmE cc).msgs.length k2) (.slice n3 (pmE cc).wins.length k3))), (w6.heap.size, (.cells (Cs.setIfInBounds K (.int .u8 yy)) 5 (Cs.size, Cs.size + 1))), (w.heap.size, (boxM m (.slice a1 m.masters.length p1) (.slice a2 m.msgs.length p2) (.slice a3 m.wins.length p3)))] w' ∧ Below (w7.heap.size + 1) (w7.alloc (boxM (pmE cc) (.slice n1 (pmE cc).masters.length k1) (.slice n2 (pmE cc).msgs.length k2) (.slice n3 (pmE cc).wins.length k3))) w') (by kernel_rfl) ⟨hO9.drew, (Below.refl _ _).drew⟩ (fun hHeld => ?_)
    clear hO9
    have HR2 := Lib.hid (show ∀ w' : World, Below (w7.heap.size + 1) (w7.alloc (boxM (pmE cc) (.slice n1 (pmE cc).masters.length k1) (.slice n2 (pmE cc).msgs.length k2) (.slice n3 (pmE cc).wins.length k3))) w' → RdM w' (pmE cc) (.slice n1 (pmE cc).masters.length k1) (.slice n2 (pmE cc).msgs.length k2) (.slice n3 (pmE cc).wins.length k3) from fun w' hb => HR.out.keep (by rw [show (w7.alloc (boxM (pmE cc) (.slice n1 (pmE cc).masters.length k1) (.slice n2 (pmE cc).msgs.length k2) (.slice n3 (pmE cc).wins.length k3))).heap.size = w7.heap.size + 1 by simp]; exact hb))
    by_cases hb0 : by_ = 0
    · subst hb0
      refine take_op 0 rfl (by kernel_rfl) (by kernel_rfl) (by kernel_rfl) (fun _ _ _ h => h) (by rfl) (by (intro w hSw; (try dsimp only at hSw); go_simp; (try with_reducible rfl))) (by assumption) ?_
      simp only [Act.put, List.setIfInBounds_toArray, List.set_cons_zero, List.set_cons_succ]
      refine take_op 1 rfl (by kernel_rfl) (by kernel_rfl) (by kernel_rfl) (fun _ _ _ h => h) (by rfl) (by (intro w hSw; (try dsimp only at hSw); go_simp; (try with_reducible rfl))) (by assumption) ?_
      simp only [Act.put, List.setIfInBounds_toArray, List.set_cons_zero, List.set_cons_succ]
      refine take_op 2 rfl (by kernel_rfl) (by kernel_rfl) (by kernel_rfl) (fun _ _ _ h => h) (by rfl) (by (intro w hSw; (try dsimp only at hSw); go_simp; (try with_reducible rfl))) (by assumption) ?_
      simp only [Act.put, List.setIfInBounds_toArray, List.set_cons_zero, List.set_cons_succ]
      refine take_op 3 rfl (by kernel_rfl) (by kernel_rfl) (by kernel_rfl) (fun _ _ _ h => h) (by rfl) (by (intro w hSw; (try dsimp only at hSw); go_simp; (try with_reducible rfl))) (by assumption) ?_
      simp only [Act.put, List.setIfInBounds_toArray, List.set_cons_zero, List.set_cons_succ]
      refine take_op 4 rfl (by kernel_rfl) (by kernel_rfl) (by kernel_rfl) (fun _ _ _ h => h) (by rfl) (by (intro w hSw; (try dsimp only at hSw); go_simp; (try with_reducible rfl))) (by assumption) ?_
      simp only [Act.put, List.setIfInBounds_toArray, List.set_cons_zero, List.set_cons_succ]
      refine take_op 5 rfl (by kernel_rfl) (by kernel_rfl) (by kernel_rfl) (fun _ _ _ h => h) (by rfl) (by (intro w hSw; (try dsimp only at hSw); go_simp; (try with_reducible rfl))) (by assumption) ?_
      simp only [Act.put, List.setIfInBounds_toArray, List.set_cons_zero, List.set_cons_succ]
      refine take_op 6 rfl (by kernel_rfl) (by kernel_rfl) (by kernel_rfl) (fun _ _ _ h => h) (by rfl) (by (intro w hSw; (try dsimp only at hSw); go_simp; (try with_reducible rfl))) (by assumption) ?_
      simp only [Act.put, List.setIfInBounds_toArray, List.set_cons_zero, List.set_cons_succ]
      refine take_op 7 rfl (by kernel_rfl) (by kernel_rfl) (by kernel_rfl) (fun _ _ _ h => h) (by rfl) (by (intro w hSw; (try dsimp only at hSw); go_simp; (try with_reducible rfl))) (by assumption) ?_
      simp only [Act.put, List.setIfInBounds_toArray, List.set_cons_zero, List.set_cons_succ]
      refine take_op 8 rfl (by kernel_rfl) (by kernel_rfl) (by kernel_rfl) (fun _ _ _ h => h) (by rfl) (by (intro w hSw; (try dsimp only at hSw); go_simp; (try with_reducible rfl))) (by assumption) ?_
      simp only [Act.put, List.setIfInBounds_toArray, List.set_cons_zero, List.set_cons_succ]
      refine take_op 9 rfl (by kernel_rfl) (by kernel_rfl) (by kernel_rfl) (fun _ _ _ h => h) (by rfl) (by (intro w hSw; (try dsimp only at hSw); go_simp; (try with_reducible rfl))) (by assumption) ?_
      simp only [Act.put, List.setIfInBounds_toArray, List.set_cons_zero, List.set_cons_succ]
      refine take_op 10 rfl (by kernel_rfl) (by kernel_rfl) (by kernel_rfl) (fun _ _ _ h => h) (by rfl) (by (intro w hSw; (try dsimp only at hSw); go_simp; (try with_reducible rfl))) (by assumption) ?_
      simp only [Act.put, List.setIfInBounds_toArray, List.set_cons_zero, List.set_cons_succ]
      refine take_op 11 rfl (by kernel_rfl) (by kernel_rfl) (by kernel_rfl) (fun _ _ _ h => h) (by rfl) (by (intro w hSw; (try dsimp only at hSw); go_simp; (try with_reducible rfl))) (by assumption) ?_
      simp only [Act.put, List.setIfInBounds_toArray, List.set_cons_zero, List.set_cons_succ]
      refine take_op 12 rfl (by kernel_rfl) (by kernel_rfl) (by kernel_rfl) (fun _ _ _ h => h) (by rfl) (by (intro w hSw; (try dsimp only at hSw); go_simp; (try with_reducible rfl))) (by assumption) ?_
      simp only [Act.put, List.setIfInBounds_toArray, List.set_cons_zero, List.set_cons_succ]
      refine take_op 13 rfl (by kernel_rfl) (by kernel_rfl) (by kernel_rfl) (fun _ _ _ h => h) (by rfl) (by (intro wz hSw; (obtain ⟨c0, c1, c2, c3, c4, c5, c6, c7, c8, c9, c10⟩ := boxM_c hSw.1.get0); go_simp; (try with_reducible rfl))) (by assumption) ?_
      simp only [Act.put, List.setIfInBounds_toArray, List.set_cons_zero, List.set_cons_succ]
      refine take_op 15 rfl (by kernel_rfl) (by kernel_rfl) (by kernel_rfl) (fun _ _ _ h => h) (by rfl) (by (intro w hSw; (try dsimp only at hSw); go_simp; (try with_reducible rfl))) (by assumption) ?_
      simp only [Act.put, List.setIfInBounds_toArray, List.set_cons_zero, List.set_cons_succ]
      refine take_op 16 rfl (by kernel_rfl) (by kernel_rfl) (by kernel_rfl) (fun _ _ _ h => h) (by rfl) (by (intro wz hSw; (have hcx := HBK.out _ hSw.1.get1); go_simp; (try with_reducible rfl))) (by assumption) ?_
      simp only [Act.put, List.setIfInBounds_toArray, List.set_cons_zero, List.set_cons_succ]
      refine at_op 14 rfl (by kernel_rfl) (by rfl) (fun K hK => ?_)
      go_simp
      refine (cf_print (HR2.out _ hHeld.2)).mono ?_
      rw [HPM.out]
      rintro e w8 ⟨rfl, hB⟩
      refine hK.out _ _ ?_ (fun hHeld => ?_)
      · exact ⟨hHeld.1.keep hB, hHeld.2.trans (hB.mono (Nat.le_trans (by simp) hHeld.2.size))⟩
      clear hK K
      try simp only [Act.put, List.setIfInBounds_toArray, List.set_cons_zero, List.set_cons_succ]
      refine take_op 17 rfl (by kernel_rfl) (by kernel_rfl) (by kernel_rfl) (fun _ _ _ h => h) (by rfl) (by (intro w hSw; (try dsimp only at hSw); go_simp; (try with_reducible rfl))) (by assumption) ?_
      simp only [Act.put, List.setIfInBounds_toArray, List.set_cons_zero, List.set_cons_succ]
      refine take_op 18 rfl (by kernel_rfl) (by kernel_rfl) (by kernel_rfl) (fun _ _ _ h => h) (by rfl) (by (intro w hSw; (try dsimp only at hSw); go_simp; (try with_reducible rfl))) (by assumption) ?_
      simp only [Act.put, List.setIfInBounds_toArray, List.set_cons_zero, List.set_cons_succ]
      refine take_op 19 rfl (by kernel_rfl) (by kernel_rfl) (by kernel_rfl) (fun _ _ _ h => h) (by rfl) (by (intro w hSw; (try dsimp only at hSw); go_simp; (try with_reducible rfl))) (by assumption) ?_
      simp only [Act.put, List.setIfInBounds_toArray, List.set_cons_zero, List.set_cons_succ]
      refine take_op 20 rfl (by kernel_rfl) (by kernel_rfl) (by kernel_rfl) (fun _ _ _ h => h) (by rfl) (by (intro w hSw; (try dsimp only at hSw); go_simp; (try with_reducible rfl))) (by assumption) ?_
      simp only [Act.put, List.setIfInBounds_toArray, List.set_cons_zero, List.set_cons_succ]
      refine take_op 21 rfl (by kernel_rfl) (by kernel_rfl) (by kernel_rfl) (fun _ _ _ h => h) (by rfl) (by (intro w hSw; (try dsimp only at hSw); go_simp; (try with_reducible rfl))) (by assumption) ?_
      simp only [Act.put, List.setIfInBounds_toArray, List.set_cons_zero, List.set_cons_succ]
      refine take_op 22 rfl (by kernel_rfl) (by kernel_rfl) (by kernel_rfl) (fun _ _ _ h => h) (by rfl) (by (intro w hSw; (try dsimp only at hSw); go_simp; (try with_reducible rfl))) (by assumption) ?_
      simp only [Act.put, List.setIfInBounds_toArray, List.set_cons_zero, List.set_cons_succ]
      refine take_op 23 rfl (by kernel_rfl) (by kernel_rfl) (by kernel_rfl) (fun _ _ _ h => h) (by rfl) (by (intro w hSw; (try dsimp only at hSw); go_simp; (try with_reducible rfl))) (by assumption) ?_
      simp only [Act.put, List.setIfInBounds_toArray, List.set_cons_zero, List.set_cons_succ]
      refine take_op 24 rfl (by kernel_rfl) (by kernel_rfl) (by kernel_rfl) (fun _ _ _ h => h) (by rfl) (by (intro w hSw; (try dsimp only at hSw); go_simp; (try with_reducible rfl))) (by assumption) ?_
      simp only [Act.put, List.setIfInBounds_toArray, List.set_cons_zero, List.set_cons_succ]
      refine take_op 25 rfl (by kernel_rfl) (by kernel_rfl) (by kernel_rfl) (fun _ _ _ h => h) (by rfl) (by (intro w hSw; (try dsimp only at hSw); go_simp; (try with_reducible rfl))) (by assumption) ?_
      simp only [Act.put, List.setIfInBounds_toArray, List.set_cons_zero, List.set_cons_succ]
      refine take_op 26 rfl (by kernel_rfl) (by kernel_rfl) (by kernel_rfl) (fun _ _ _ h => h) (by rfl) (by (intro w hSw; (try dsimp only at hSw); go_simp; (try with_reducible rfl))) (by assumption) ?_
      simp only [Act.put, List.setIfInBounds_toArray, List.set_cons_zero, List.set_cons_succ]
      refine take_op 27 rfl (by kernel_rfl) (by kernel_rfl) (by kernel_rfl) (fun _ _ _ h => h) (by rfl) (by (intro w hSw; (try dsimp only at hSw); go_simp; (try with_reducible rfl))) (by assumption) ?_
      simp only [Act.put, List.setIfInBounds_toArray, List.set_cons_zero, List.set_cons_succ]
      refine take_op 28 rfl (by kernel_rfl) (by kernel_rfl) (by kernel_rfl) (fun _ _ _ h => h) (by rfl) (by (intro w hSw; (try dsimp only at hSw); go_simp; (try with_reducible rfl))) (by assumption) ?_
      simp only [Act.put, List.setIfInBounds_toArray, List.set_cons_zero, List.set_cons_succ]
      refine take_op 29 rfl (by kernel_rfl) (by kernel_rfl) (by kernel_rfl) (fun _ _ _ h => h) (by rfl) (by (intro w hSw; (try dsimp only at hSw); go_simp; (try with_reducible rfl))) (by assumption) ?_
      simp only [Act.put, List.setIfInBounds_toArray, List.set_cons_zero, List.set_cons_succ]
      refine wpAnyH_done (by kernel_rfl) ?_ _
      go_wp2
      go_ret
      exact ⟨rfl, hHeld.1.bel⟩
    · have hbn : (by_ == 0) = false := by simp [hb0]
      have hbn2 : (by_ != 0) = true := by simp [hb0]
      refine take_op 0 rfl (by kernel_rfl) (by kernel_rfl) (by kernel_rfl) (fun _ _ _ h => h) (by rfl) (by (intro w hSw; (try dsimp only at hSw); go_simp; (try with_reducible rfl))) (by assumption) ?_
      simp only [Act.put, List.setIfInBounds_toArray, List.set_cons_zero, List.set_cons_succ]
      refine take_op 1 rfl (by kernel_rfl) (by kernel_rfl) (by kernel_rfl) (fun _ _ _ h => h) (by rfl) (by (intro w hSw; (try dsimp only at hSw); go_simp; (try with_reducible rfl))) (by assumption) ?_
      simp only [Act.put, List.setIfInBounds_toArray, List.set_cons_zero, List.set_cons_succ]
      refine take_op 2 rfl (by kernel_rfl) (by kernel_rfl) (by kernel_rfl) (fun _ _ _ h => h) (by rfl) (by (intro w hSw; (try dsimp only at hSw); go_simp; (try with_reducible rfl))) (by assumption) ?_
      simp only [Act.put, List.setIfInBounds_toArray, List.set_cons_zero, List.set_cons_succ]
      refine take_op 3 rfl (by kernel_rfl) (by kernel_rfl) (by kernel_rfl) (fun _ _ _ h => h) (by rfl) (by (intro w hSw; (try dsimp only at hSw); go_simp; (try with_reducible rfl))) (by assumption) ?_
      simp only [Act.put, List.setIfInBounds_toArray, List.set_cons_zero, List.set_cons_succ]
      refine take_op 4 rfl (by kernel_rfl) (by kernel_rfl) (by kernel_rfl) (fun _ _ _ h => h) (by rfl) (by (intro w hSw; (try dsimp only at hSw); go_simp; (try with_reducible rfl))) (by assumption) ?_
      simp only [Act.put, List.setIfInBounds_toArray, List.set_cons_zero, List.set_cons_succ]
      refine take_op 5 rfl (by kernel_rfl) (by kernel_rfl) (by kernel_rfl) (fun _ _ _ h => h) (by rfl) (by (intro w hSw; (try dsimp only at hSw); go_simp; (try with_reducible rfl))) (by assumption) ?_
      simp only [Act.put, List.setIfInBounds_toArray, List.set_cons_zero, List.set_cons_succ]
      refine take_op 6 rfl (by kernel_rfl) (by kernel_rfl) (by kernel_rfl) (fun _ _ _ h => h) (by rfl) (by (intro w hSw; (try dsimp only at hSw); go_simp; (try with_reducible rfl))) (by assumption) ?_
      simp only [Act.put, List.setIfInBounds_toArray, List.set_cons_zero, List.set_cons_succ]
      refine take_op 7 rfl (by kernel_rfl) (by kernel_rfl) (by kernel_rfl) (fun _ _ _ h => h) (by rfl) (by (intro w hSw; (try dsimp only at hSw); go_simp; (try with_reducible rfl))) (by assumption) ?_
      simp only [Act.put, List.setIfInBounds_toArray, List.set_cons_zero, List.set_cons_succ]
      refine take_op 8 rfl (by kernel_rfl) (by kernel_rfl) (by kernel_rfl) (fun _ _ _ h => h) (by rfl) (by (intro w hSw; (try dsimp only at hSw); go_simp; (try with_reducible rfl))) (by assumption) ?_
      simp only [Act.put, List.setIfInBounds_toArray, List.set_cons_zero, List.set_cons_succ]
      refine take_op 9 rfl (by kernel_rfl) (by kernel_rfl) (by kernel_rfl) (fun _ _ _ h => h) (by rfl) (by (intro w hSw; (try dsimp only at hSw); go_simp; (try with_reducible rfl))) (by assumption) ?_
      simp only [Act.put, List.setIfInBounds_toArray, List.set_cons_zero, List.set_cons_succ]
      refine take_op 10 rfl (by kernel_rfl) (by kernel_rfl) (by kernel_rfl) (fun _ _ _ h => h) (by rfl) (by (intro w hSw; (try dsimp only at hSw); go_simp; (try with_reducible rfl))) (by assumption) ?_
      simp only [Act.put, List.setIfInBounds_toArray, List.set_cons_zero, List.set_cons_succ]
      refine take_op 11 rfl (by kernel_rfl) (by kernel_rfl) (by kernel_rfl) (fun _ _ _ h => h) (by rfl) (by (intro w hSw; (try dsimp only at hSw); go_simp; (try with_reducible rfl))) (by assumption) ?_
      simp only [Act.put, List.setIfInBounds_toArray, List.set_cons_zero, List.set_cons_succ]
      refine take_op 12 rfl (by kernel_rfl) (by kernel_rfl) (by kernel_rfl) (fun _ _ _ h => h) (by rfl) (by (intro w hSw; (try dsimp only at hSw); go_simp; (try with_reducible rfl))) (by assumption) ?_
      simp only [Act.put, List.setIfInBounds_toArray, List.set_cons_zero, List.set_cons_succ]
      refine take_op 13 rfl (by kernel_rfl) (by kernel_rfl) (by kernel_rfl) (fun _ _ _ h => h) (by rfl) (by (intro wz hSw; (obtain ⟨c0, c1, c2, c3, c4, c5, c6, c7, c8, c9, c10⟩ := boxM_c hSw.1.get0); go_simp; (try with_reducible rfl))) (by assumption) ?_
      simp only [Act.put, List.setIfInBounds_toArray, List.set_cons_zero, List.set_cons_succ]
      refine take_op 15 rfl (by kernel_rfl) (by kernel_rfl) (by kernel_rfl) (fun _ _ _ h => h) (by rfl) (by (intro w hSw; (try dsimp only at hSw); go_simp; (try with_reducible rfl))) (by assumption) ?_
      simp only [Act.put, List.setIfInBounds_toArray, List.set_cons_zero, List.set_cons_succ]
      refine take_op 16 rfl (by kernel_rfl) (by kernel_rfl) (by kernel_rfl) (fun _ _ _ h => h) (by rfl) (by (intro wz hSw; (have hcx := HBK.out _ hSw.1.get1); go_simp; (try with_reducible rfl))) (by assumption) ?_
      simp only [Act.put, List.setIfInBounds_toArray, List.set_cons_zero, List.set_cons_succ]
      refine at_op 14 rfl (by kernel_rfl) (by rfl) (fun K hK => ?_)
      go_simp
      refine (cf_print (HR2.out _ hHeld.2)).mono ?_
      rw [HPM.out]
      rintro e w8 ⟨rfl, hB⟩
      refine hK.out _ _ ?_ (fun hHeld => ?_)
      · exact ⟨hHeld.1.keep hB, hHeld.2.trans (hB.mono (Nat.le_trans (by simp) hHeld.2.size))⟩
      clear hK K
      try simp only [Act.put, List.setIfInBounds_toArray, List.set_cons_zero, List.set_cons_succ]
      refine take_op 17 rfl (by kernel_rfl) (by kernel_rfl) (by kernel_rfl) (fun _ _ _ h => h) (by rfl) (by (intro w hSw; (try dsimp only at hSw); go_simp; (try with_reducible rfl))) (by assumption) ?_
      simp only [Act.put, List.setIfInBounds_toArray, List.set_cons_zero, List.set_cons_succ]
      refine take_op 18 rfl (by kernel_rfl) (by kernel_rfl) (by kernel_rfl) (fun _ _ _ h => h) (by rfl) (by (intro w hSw; (try dsimp only at hSw); go_simp; (try with_reducible rfl))) (by assumption) ?_
      simp only [Act.put, List.setIfInBounds_toArray, List.set_cons_zero, List.set_cons_succ]
      refine take_op 19 rfl (by kernel_rfl) (by kernel_rfl) (by kernel_rfl) (fun _ _ _ h => h) (by rfl) (by (intro w hSw; (try dsimp only at hSw); go_simp; (try with_reducible rfl))) (by assumption) ?_
      simp only [Act.put, List.setIfInBounds_toArray, List.set_cons_zero, List.set_cons_succ]
      refine take_op 20 rfl (by kernel_rfl) (by kernel_rfl) (by kernel_rfl) (fun _ _ _ h => h) (by rfl) (by (intro w hSw; (try dsimp only at hSw); go_simp; (try with_reducible rfl))) (by assumption) ?_
      simp only [Act.put, List.setIfInBounds_toArray, List.set_cons_zero, List.set_cons_succ]
      refine take_op 21 rfl (by kernel_rfl) (by kernel_rfl) (by kernel_rfl) (fun _ _ _ h => h) (by rfl) (by (intro w hSw; (try dsimp only at hSw); go_simp; (try with_reducible rfl))) (by assumption) ?_
      simp only [Act.put, List.setIfInBounds_toArray, List.set_cons_zero, List.set_cons_succ]
      refine take_op 22 rfl (by kernel_rfl) (by kernel_rfl) (by kernel_rfl) (fun _ _ _ h => h) (by rfl) (by (intro w hSw; (try dsimp only at hSw); go_simp; (try with_reducible rfl))) (by assumption) ?_
      simp only [Act.put, List.setIfInBounds_toArray, List.set_cons_zero, List.set_cons_succ]
      refine take_op 23 rfl (by kernel_rfl) (by kernel_rfl) (by kernel_rfl) (fun _ _ _ h => h) (by rfl) (by (intro w hSw; (try dsimp only at hSw); go_simp; (try with_reducible rfl))) (by assumption) ?_
      simp only [Act.put, List.setIfInBounds_toArray, List.set_cons_zero, List.set_cons_succ]
      refine take_op 24 rfl (by kernel_rfl) (by kernel_rfl) (by kernel_rfl) (fun _ _ _ h => h) (by rfl) (by (intro w hSw; (try dsimp only at hSw); go_simp; (try with_reducible rfl))) (by assumption) ?_
      simp only [Act.put, List.setIfInBounds_toArray, List.set_cons_zero, List.set_cons_succ]
      refine skip_op 25 rfl (by kernel_rfl) (by kernel_rfl) (by kernel_rfl) (fun _ _ _ h => h) (by rfl) (by assumption) ?_
      simp only [Act.put, List.setIfInBounds_toArray, List.set_cons_zero, List.set_cons_succ]
      refine skip_op 26 rfl (by kernel_rfl) (by kernel_rfl) (by kernel_rfl) (fun _ _ _ h => h) (by rfl) (by assumption) ?_
      simp only [Act.put, List.setIfInBounds_toArray, List.set_cons_zero, List.set_cons_succ]
      refine take_op 27 rfl (by kernel_rfl) (by kernel_rfl) (by kernel_rfl) (fun _ _ _ h => h) (by rfl) (by (intro w hSw; (try dsimp only at hSw); go_simp; (try with_reducible rfl))) (by assumption) ?_
      simp only [Act.put, List.setIfInBounds_toArray, List.set_cons_zero, List.set_cons_succ]
      refine take_op 28 rfl (by kernel_rfl) (by kernel_rfl) (by kernel_rfl) (fun _ _ _ h => h) (by rfl) (by (intro w hSw; (try dsimp only at hSw); go_simp; (try with_reducible rfl))) (by assumption) ?_
      simp only [Act.put, List.setIfInBounds_toArray, List.set_cons_zero, List.set_cons_succ]
      refine take_op 29 rfl (by kernel_rfl) (by kernel_rfl) (by kernel_rfl) (fun _ _ _ h => h) (by rfl) (by (intro w hSw; (try dsimp only at hSw); go_simp; (try with_reducible rfl))) (by assumption) ?_
      simp only [Act.put, List.setIfInBounds_toArray, List.set_cons_zero, List.set_cons_succ]
      refine wpAnyH_done (by kernel_rfl) ?_ _
      go_wp2
      go_ret
      exact ⟨rfl, hHeld.1.bel⟩
  | false =>
    have hb0 : ¬ by_ = 0 := fun h => by
      have := HSAME.out h
      rw [hk] at this
      cases this
    have hpe : peE cc = 130 := by unfold peE; rw [hk]; rfl
    rw [hpe]
    have hbn : (by_ == 0) = false := by simp [hb0]
    have hbn2 : (by_ != 0) = true := by simp [hb0]
    clear hk hpe hrow
    refine wp_region_held_drew (S := fun w' => Own w.heap.size w [(w7.heap.size, (boxM (pmE cc) (.slice n1 (pmE cc).masters.length k1) (.slice n2 (pmE cc).msgs.length k2) (.slice n3 (pmE cc).wins.length k3))), (w6.heap.size, (.cells (Cs.setIfInBounds K (.int .u8 yy)) 5 (Cs.size, Cs.size + 1))), (w.heap.size, (boxM m (.slice a1 m.masters.length p1) (.slice a2 m.msgs.length p2) (.slice a3 m.wins.length p3)))] w') (by kernel_rfl) hO9.drew (fun hHeld => ?_)
    clear hO9
    refine take_op 0 rfl (by kernel_rfl) (by kernel_rfl) (by kernel_rfl) (fun _ _ _ h => h) (by rfl) (by (intro w hSw; (try dsimp only at hSw); go_simp; (try with_reducible rfl))) (by assumption) ?_
    simp only [Act.put, List.setIfInBounds_toArray, List.set_cons_zero, List.set_cons_succ]
    refine take_op 1 rfl (by kernel_rfl) (by kernel_rfl) (by kernel_rfl) (fun _ _ _ h => h) (by rfl) (by (intro w hSw; (try dsimp only at hSw); go_simp; (try with_reducible rfl))) (by assumption) ?_
    simp only [Act.put, List.setIfInBounds_toArray, List.set_cons_zero, List.set_cons_succ]
    refine take_op 2 rfl (by kernel_rfl) (by kernel_rfl) (by kernel_rfl) (fun _ _ _ h => h) (by rfl) (by (intro w hSw; (try dsimp only at hSw); go_simp; (try with_reducible rfl))) (by assumption) ?_
    simp only [Act.put, List.setIfInBounds_toArray, List.set_cons_zero, List.set_cons_succ]
    refine take_op 3 rfl (by kernel_rfl) (by kernel_rfl) (by kernel_rfl) (fun _ _ _ h => h) (by rfl) (by (intro w hSw; (try dsimp only at hSw); go_simp; (try with_reducible rfl))) (by assumption) ?_
    simp only [Act.put, List.setIfInBounds_toArray, List.set_cons_zero, List.set_cons_succ]
    refine take_op 4 rfl (by kernel_rfl) (by kernel_rfl) (by kernel_rfl) (fun _ _ _ h => h) (by rfl) (by (intro w hSw; (try dsimp only at hSw); go_simp; (try with_reducible rfl))) (by assumption) ?_
    simp only [Act.put, List.setIfInBounds_toArray, List.set_cons_zero, List.set_cons_succ]
    refine take_op 5 rfl (by kernel_rfl) (by kernel_rfl) (by kernel_rfl) (fun _ _ _ h => h) (by rfl) (by (intro w hSw; (try dsimp only at hSw); go_simp; (try with_reducible rfl))) (by assumption) ?_
    simp only [Act.put, List.setIfInBounds_toArray, List.set_cons_zero, List.set_cons_succ]
    refine take_op 6 rfl (by kernel_rfl) (by kernel_rfl) (by kernel_rfl) (fun _ _ _ h => h) (by rfl) (by (intro w hSw; (try dsimp only at hSw); go_simp; (try with_reducible rfl))) (by assumption) ?_
    simp only [Act.put, List.setIfInBounds_toArray, List.set_cons_zero, List.set_cons_succ]
    refine take_op 7 rfl (by kernel_rfl) (by kernel_rfl) (by kernel_rfl) (fun _ _ _ h => h) (by rfl) (by (intro w hSw; (try dsimp only at hSw); go_simp; (try with_reducible rfl))) (by assumption) ?_
    simp only [Act.put, List.setIfInBounds_toArray, List.set_cons_zero, List.set_cons_succ]
    refine take_op 8 rfl (by kernel_rfl) (by kernel_rfl) (by kernel_rfl) (fun _ _ _ h => h) (by rfl) (by (intro w hSw; (try dsimp only at hSw); go_simp; (try with_reducible rfl))) (by assumption) ?_
    simp only [Act.put, List.setIfInBounds_toArray, List.set_cons_zero, List.set_cons_succ]
    refine take_op 9 rfl (by kernel_rfl) (by kernel_rfl) (by kernel_rfl) (fun _ _ _ h => h) (by rfl) (by (intro w hSw; (try dsimp only at hSw); go_simp; (try with_reducible rfl))) (by assumption) ?_
    simp only [Act.put, List.setIfInBounds_toArray, List.set_cons_zero, List.set_cons_succ]
    refine skip_op 10 rfl (by kernel_rfl) (by kernel_rfl) (by kernel_rfl) (fun _ _ _ h => h) (by rfl) (by assumption) ?_
    simp only [Act.put, List.setIfInBounds_toArray, List.set_cons_zero, List.set_cons_succ]
    refine skip_op 11 rfl (by kernel_rfl) (by kernel_rfl) (by kernel_rfl) (fun _ _ _ h => h) (by rfl) (by assumption) ?_
    simp only [Act.put, List.setIfInBounds_toArray, List.set_cons_zero, List.set_cons_succ]
    refine skip_op 12 rfl (by kernel_rfl) (by kernel_rfl) (by kernel_rfl) (fun _ _ _ h => h) (by rfl) (by assumption) ?_
    simp only [Act.put, List.setIfInBounds_toArray, List.set_cons_zero, List.set_cons_succ]
    refine skip_op 13 rfl (by kernel_rfl) (by kernel_rfl) (by kernel_rfl) (fun _ _ _ h => h) (by rfl) (by assumption) ?_
    simp only [Act.put, List.setIfInBounds_toArray, List.set_cons_zero, List.set_cons_succ]
    refine skip_op 14 rfl (by kernel_rfl) (by kernel_rfl) (by kernel_rfl) (fun _ _ _ h => h) (by rfl) (by assumption) ?_
    simp only [Act.put, List.setIfInBounds_toArray, List.set_cons_zero, List.set_cons_succ]
    refine skip_op 15 rfl (by kernel_rfl) (by kernel_rfl) (by kernel_rfl) (fun _ _ _ h => h) (by rfl) (by assumption) ?_
    simp only [Act.put, List.setIfInBounds_toArray, List.set_cons_zero, List.set_cons_succ]
    refine skip_op 16 rfl (by kernel_rfl) (by kernel_rfl) (by kernel_rfl) (fun _ _ _ h => h) (by rfl) (by assumption) ?_
    simp only [Act.put, List.setIfInBounds_toArray, List.set_cons_zero, List.set_cons_succ]
    refine skip_op 17 rfl (by kernel_rfl) (by kernel_rfl) (by kernel_rfl) (fun _ _ _ h => h) (by rfl) (by assumption) ?_
    simp only [Act.put, List.setIfInBounds_toArray, List.set_cons_zero, List.set_cons_succ]
    refine skip_op 18 rfl (by kernel_rfl) (by kernel_rfl) (by kernel_rfl) (fun _ _ _ h => h) (by rfl) (by assumption) ?_
    simp only [Act.put, List.setIfInBounds_toArray, List.set_cons_zero, List.set_cons_succ]
    refine take_op 19 rfl (by kernel_rfl) (by kernel_rfl) (by kernel_rfl) (fun _ _ _ h => h) (by rfl) (by (intro w hSw; (try dsimp only at hSw); go_simp; (try with_reducible rfl))) (by assumption) ?_
    simp only [Act.put, List.setIfInBounds_toArray, List.set_cons_zero, List.set_cons_succ]
    refine take_op 20 rfl (by kernel_rfl) (by kernel_rfl) (by kernel_rfl) (fun _ _ _ h => h) (by rfl) (by (intro w hSw; (try dsimp only at hSw); go_simp; (try with_reducible rfl))) (by assumption) ?_
    simp only [Act.put, List.setIfInBounds_toArray, List.set_cons_zero, List.set_cons_succ]
    refine take_op 21 rfl (by kernel_rfl) (by kernel_rfl) (by kernel_rfl) (fun _ _ _ h => h) (by rfl) (by (intro w hSw; (try dsimp only at hSw); go_simp; (try with_reducible rfl))) (by assumption) ?_
    simp only [Act.put, List.setIfInBounds_toArray, List.set_cons_zero, List.set_cons_succ]
    refine take_op 22 rfl (by kernel_rfl) (by kernel_rfl) (by kernel_rfl) (fun _ _ _ h => h) (by rfl) (by (intro w hSw; (try dsimp only at hSw); go_simp; (try with_reducible rfl))) (by assumption) ?_
    simp only [Act.put, List.setIfInBounds_toArray, List.set_cons_zero, List.set_cons_succ]
    refine take_op 23 rfl (by kernel_rfl) (by kernel_rfl) (by kernel_rfl) (fun _ _ _ h => h) (by rfl) (by (intro w hSw; (try dsimp only at hSw); go_simp; (try with_reducible rfl))) (by assumption) ?_
    simp only [Act.put, List.setIfInBounds_toArray, List.set_cons_zero, List.set_cons_succ]
    refine take_op 24 rfl (by kernel_rfl) (by kernel_rfl) (by kernel_rfl) (fun _ _ _ h => h) (by rfl) (by (intro w hSw; (try dsimp only at hSw); go_simp; (try with_reducible rfl))) (by assumption) ?_
    simp only [Act.put, List.setIfInBounds_toArray, List.set_cons_zero, List.set_cons_succ]
    refine skip_op 25 rfl (by kernel_rfl) (by kernel_rfl) (by kernel_rfl) (fun _ _ _ h => h) (by rfl) (by assumption) ?_
    simp only [Act.put, List.setIfInBounds_toArray, List.set_cons_zero, List.set_cons_succ]
    refine skip_op 26 rfl (by kernel_rfl) (by kernel_rfl) (by kernel_rfl) (fun _ _ _ h => h) (by rfl) (by assumption) ?_
    simp only [Act.put, List.setIfInBounds_toArray, List.set_cons_zero, List.set_cons_succ]
    refine take_op 27 rfl (by kernel_rfl) (by kernel_rfl) (by kernel_rfl) (fun _ _ _ h => h) (by rfl) (by (intro w hSw; (try dsimp only at hSw); go_simp; (try with_reducible rfl))) (by assumption) ?_
    simp only [Act.put, List.setIfInBounds_toArray, List.set_cons_zero, List.set_cons_succ]
    refine take_op 28 rfl (by kernel_rfl) (by kernel_rfl) (by kernel_rfl) (fun _ _ _ h => h) (by rfl) (by (intro w hSw; (try dsimp only at hSw); go_simp; (try with_reducible rfl))) (by assumption) ?_
    simp only [Act.put, List.setIfInBounds_toArray, List.set_cons_zero, List.set_cons_succ]
    refine take_op 29 rfl (by kernel_rfl) (by kernel_rfl) (by kernel_rfl) (fun _ _ _ h => h) (by rfl) (by (intro w hSw; (try dsimp only at hSw); go_simp; (try with_reducible rfl))) (by assumption) ?_
    simp only [Act.put, List.setIfInBounds_toArray, List.set_cons_zero, List.set_cons_succ]
    refine wpAnyH_done (by kernel_rfl) ?_ _
    go_wp2
    go_ret
    exact ⟨rfl, hHeld.bel⟩
set_option maxRecDepth 100000 in
theorem ConfigCuts_walk {H : Type} {enc : TypeId × Value → H} {base : Nat} {d0 : DataW H} {p0 : List MemPlace} (v0 : Value) (a1 a2 : Int) (k1 : (Lit.int .u16 a1).wf = true) (k2 : (Lit.int .u8 a2).wf = true) (W : World)
    (hv0 : Value.okWide Try.prog W .any base 27 v0) (h0 : DataW.Trod enc Try.prog W 0 (fun _ => true) true 27 v0 d0 p0) : Holds 14 #[v0, .int .u16 a1, .int .u8 a2] W := by
  obtain ⟨a, s1, s2, s3, rfl, ra⟩ := open_mat hv0 h0
  exact ConfigCuts_core a s1 s2 s3 a1 a2 (by have := u16_bounds k1; omega) (by have := u8_bounds k2; omega) W ra

set_option maxRecDepth 100000 in
theorem ConfigCuts_lifted (os : Os) (started : os.Started) (H : Type) (enc : TypeId × Value → H) :
    ReturnsInHanded {} Try.checked os 14 .any (Rows.configCutsSpec.pre6 enc Try.prog Try.f14 [] false) (Rows.configCutsSpec.post enc Try.prog Try.f14 false true false false) := by
  refine law_lifted (n := 3) os started H enc (by kernel_rfl) Try.func14 rfl rfl (hts_of (by kernel_rfl)) rfl (fun ds h => match ds, h with | [_, _, _], _ => rfl)
    (ChangeSpec.witness6 (enc := enc) (C := Try.checked) false ⟨#[], #[.agg #[.int .i64 0, .int .i64 0, .int .i64 0, .int .i64 0, .int .i64 0, .int .i64 0, .int .i64 0, .int .u32 0, .slice none 0 0, .slice none 0 0, .slice none 0 0], .int .u16 0, .int .u8 0], []⟩ 8 (by kernel_rfl) (by kernel_rfl) (by kernel_rfl) (by kernel_rfl)) ?_
  intro W base args ds p hval hA
  rw [Try.params14] at hA hval
  obtain ⟨v0, vs0, d0, ds0, p0, q0, hargs, rfl, rfl, h0, r0⟩ := trodAll_cons hA
  obtain ⟨v1, vs1, d1, ds1, p1, q1, rfl, rfl, rfl, h1, r1⟩ := trodAll_cons r0
  obtain ⟨v2, vs2, d2, ds2, p2, q2, rfl, rfl, rfl, h2, r2⟩ := trodAll_cons r1
  obtain ⟨rfl, rfl, rfl⟩ := trodAll_nil r2
  obtain rfl : args = #[v0, v1, v2] := by cases args; simp_all
  obtain ⟨a1, rfl, rfl, rfl, w1⟩ := open_int Try.underlying28 (hval 1 _ v1 rfl rfl) h1
  obtain ⟨a2, rfl, rfl, rfl, w2⟩ := open_int Try.underlying5 (hval 2 _ v2 rfl rfl) h2
  exact ConfigCuts_walk v0 a1 a2 w1 w2 W (hval 0 _ v0 rfl rfl) h0

theorem ConfigCuts_over : Rows.configCutsRow.holds Try.pinned (OpenSpec.ofChange Rows.configCutsSpec) :=
  OpenClaim.holds_of_wide 14 Try.f14 rfl rfl rfl rfl rfl rfl rfl ⟨rfl, rfl, rfl, rfl, rfl⟩ rfl rfl rfl rfl rfl (by kernel_rfl) Try.func14 (by kernel_rfl)
    (of_decide_eq_true (by kernel_rfl)) (by unfold Func.isWrapper; first | (rw [if_pos (by decide +kernel)]; kernel_rfl) | (rw [if_neg (by decide +kernel)]; exact ⟨rfl, rfl⟩))
    (fun os started H enc _ => ConfigCuts_lifted os started H enc)
theorem ConfigCuts_holds : Rows.ConfigCutsSaid := ConfigCuts_over
#print axioms ConfigCuts_holds
end Go.Proofs.Ythkhlcigegbpfaa
