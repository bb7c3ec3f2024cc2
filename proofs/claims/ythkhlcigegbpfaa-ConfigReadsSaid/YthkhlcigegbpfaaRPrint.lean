/- The reference's Print. -/
import Derived.Test.YthkhlcigegbpfaaPrint
import Derived.Test.YthkhlcigegbpfaaRefIs
import Derived.Deep.DeepCutAuto
namespace Go.Proofs.Ythkhlcigegbpfaa
set_option linter.unusedVariables false
set_option linter.unusedSimpArgs false
open Go.ChangeShapes Go.WideShapes Go.ChangeAt Go.RowKit Go.Deep

/-- The value v is a row of bytes xs of the call's own. -/
def TxR (B : Nat) (w0 : World) (v : Value) (n : Nat) (xs : List Int) (L : List (Nat × Obj)) (w : World) : Prop :=
  ∃ L1, RowL 5 1 v n (xs.map (Value.int .u8)) L1 ∧ Own B w0 (L1 ++ L) w
section
variable {B n : Nat} {v : Value} {w0 w w' : World} {xs : List Int} {L : List (Nat × Obj)}
theorem TxR.own (h : TxR B w0 v n xs L w) : Own B w0 L w := by
  obtain ⟨L1, _, hO⟩ := h
  exact hO.right
theorem TxR.len (h : TxR B w0 v n xs L w) : n = xs.length := by
  obtain ⟨L1, hR, _⟩ := h
  have := hR.1
  simp at this
  omega
theorem TxR.drew (h : TxR B w0 v n xs L w) : TxR B w0 v n xs L w.drew := by
  obtain ⟨L1, hR, hO⟩ := h
  exact ⟨L1, hR, hO.drew⟩
theorem TxR.alloc (h : TxR B w0 v n xs L w) (o : Obj) : TxR B w0 v n xs ((w.heap.size, o) :: L) (w.alloc o) := by
  obtain ⟨L1, hR, hO⟩ := h
  refine ⟨L1, hR, (hO.alloc o).perm' ?_⟩
  exact (List.perm_middle (a := (w.heap.size, o)) (l₁ := L1) (l₂ := L)).symm
theorem TxR.drop {x : Nat × Obj} (h : TxR B w0 v n xs (x :: L) w) : TxR B w0 v n xs L w := by
  obtain ⟨L1, hR, hO⟩ := h
  exact ⟨L1, hR, hO.sub (List.Sublist.append_left (List.sublist_cons_self _ _) _)⟩
theorem TxR.owns (h : TxR B w0 v n xs L w) : w.ownsRow B 5 1 v n (xs.map (Value.int .u8)) := by
  obtain ⟨L1, hR, hO⟩ := h
  exact hR.owns hO
theorem TxR.grown (h : TxR B w0 v n xs L w) {g cap n' : Nat} {ys : List Int} (hown : w'.ownsRow B 5 1 (.slice (some ⟨g, 0, none⟩) n' cap) n' (xs.map (Value.int .u8) ++ ys.map (Value.int .u8))) (hg : w.grownBy w' v.ownBlock)
    (hat : v.ownBlock = some g ∨ g = w.heap.size) : TxR B w0 (.slice (some ⟨g, 0, none⟩) n' cap) n' (xs ++ ys) L w' := by
  obtain ⟨L1, hR, hO⟩ := h
  obtain ⟨L1', hR', hO'⟩ := hR.grown hO hown hg hat
  exact ⟨L1', by rw [List.map_append]; exact hR', hO'⟩
theorem TxR.of_eq {ys : List Int} (h : TxR B w0 v n xs L w) (e : xs = ys) : TxR B w0 v n ys L w := e ▸ h
theorem TxR.conv (h : TxR B w0 v n xs L w) (hx : xs ≠ []) : (convert 69 9 v).run Try.prog w = .ok (.string (strOfNums xs)) w := by
  obtain ⟨L1, hR, hO⟩ := h
  have hl := hR.1
  simp at hl
  rcases hR.2 with ⟨_, h1, _⟩ | ⟨g, cap, cur, rfl, rfl, hle, hmx, hsz, htk⟩
  · exact absurd (List.eq_nil_of_length_eq_zero (hl.trans h1)) hx
  · have hg := (hO.all g (.cells cur 5 (0, 0)) (by simp)).2
    refine run_convert_bytes_arg (P := Try.prog) w 69 5 Try.underlying69 Try.underlying5 g 0 n cap xs hl (fun i hi => ?_) 9 Try.underlying9
    rw [Nat.zero_add, cell_of_row w g i cur 5 (0, 0) hg]
    have h1 : (cur.toList.take (n * 1))[i]? = (xs.map (Value.int .u8))[i]? := by rw [htk]
    have hi' : i < xs.length := by omega
    rw [List.getElem?_take_of_lt (by omega)] at h1
    simp [hi'] at h1
    simp [h1, hi']
theorem tx_out {P : World → Prop} (h : TxR B w0 v n xs L w) (k : ∀ u, TxR B w0 v n xs L u → P u) : P w := k w h
def PostT (B : Nat) (w0 : World) (n : Nat) (xs : List Int) (L : List (Nat × Obj)) (e : Ending) (w' : World) : Prop :=
  ∃ g cap, e = .returned (.slice (some ⟨g, 0, none⟩) n cap) ∧ TxR B w0 (.slice (some ⟨g, 0, none⟩) n cap) n xs L w'
set_option maxRecDepth 100000 in
theorem rr_twoB (h : TxR B w0 v n xs L w) (k : Int) (hk : 0 ≤ k ∧ k ≤ 65535) (hn : n ≤ 10000) :
    Calls Try.prog 83 #[v, .int .i64 k] w (PostT B w0 (n + 2) (xs ++ [k / 256, k % 256]) L) := by
  obtain ⟨i0, hi0, hi1, hi2, hi3⟩ := info_parts byte_infoC
  have hsz := h.own.sz
  have HA := Lib.hid (h.alloc (.cells #[.int .u8 (k / 256), .int .u8 (k % 256)] 5))
  have HN := Lib.hid (World.news_of_block (new_blk w (.cells #[.int .u8 (k / 256), .int .u8 (k % 256)] 5)))
  clear h
  go_enter Try.func83, Try.ntmps83
  go_wp2_with (at_builtin; refine wpList_append_lies _ rfl _ _ 69 rfl B 5 i0 (.int .u8 0) 1 1 Try.underlying69 hi0 hi1 hi2 hi3 rfl (by decide) v n (xs.map (Value.int .u8)) rfl HA.out.owns ⟨w.heap.size, 0, none⟩ 2 2 [.int .u8 (k / 256), .int .u8 (k % 256)] rfl rfl HN.out (by simp [Value.oneCell']) (by decide) (by unfold maxLen; omega) (by omega) (by simp; omega) (w.heap.size + 1) (by simp) ?_)
  intro g cap w1 hown hgrow hat hg1
  have HT := Lib.hid (HA.out.grown (ys := [k / 256, k % 256]) hown hgrow (by simpa using hat)).drop
  clear hown hgrow hat
  go_wp2
  go_ret
  exact ⟨g, cap, rfl, HT.out⟩
end
section
variable {P : Program} {ops : Array Oper} {Q : Exit → Act → World → Prop} {S : World → Prop} {d d2 : Option Tmp} {op op2 : Op} {ty ty2 : TypeId} {pos pos2 : String} {after after2 : Array Edge} {guard guard2 : Option (Nat × Bool)} {fuel : Nat} {listed : Array Bool} {a : Act} {w : World}
theorem at_op2 (i j : Nat) (hi : ops[i]? = some ⟨d, op, ty, pos, after, guard⟩) (hj : ops[j]? = some ⟨d2, op2, ty2, pos2, after2, guard2⟩) (hr : Region.ready .any ops listed = [i, j]) (hw : Region.wanted ⟨d, op, ty, pos, after, guard⟩ (yielded ops a.tmps) = true) (hw2 : Region.wanted ⟨d2, op2, ty2, pos2, after2, guard2⟩ (yielded ops a.tmps) = true)
    (h : ∀ K' : Act → World → Prop, Shut (∀ a w, S w → (S w → wpAnyH P .any ops Q S fuel (listed.setIfInBounds i true) a w) → K' a w) → Oper.wp P ⟨d, op, ty, pos, after, guard⟩ a w K' Q)
    (h2 : ∀ K' : Act → World → Prop, Shut (∀ a w, S w → (S w → wpAnyH P .any ops Q S fuel (listed.setIfInBounds j true) a w) → K' a w) → Oper.wp P ⟨d2, op2, ty2, pos2, after2, guard2⟩ a w K' Q) : wpAnyH P .any ops Q S (fuel + 1) listed a w :=
  wpAnyH_ready hr (by simp) (AllReadyH.cons hi (fun K hK => by rw [if_pos hw]; exact h K hK) (AllReadyH.cons hj (fun K hK => by rw [if_pos hw2]; exact h2 K hK) AllReadyH.nil))
end
set_option maxRecDepth 100000 in
set_option maxHeartbeats 8000000 in
theorem rf_print {w : World} {m : Mat} {s1 s2 s3 : Value} (h : RdM w m s1 s2 s3) : Calls Try.prog 47 #[matV m s1 s2 s3] w fun e w' => e = .returned (.string (printE m)) ∧ Below w.heap.size w w' := by
  have hO := (Own.nil_ (Below.refl w.heap.size w) (Nat.le_refl _)).alloc (boxM m s1 s2 s3)
  obtain ⟨i0, hi0, hi1, hi2, hi3⟩ := info_parts byte_infoC
  obtain ⟨a1, p1, e1, r1⟩ := h.r1.shape
  obtain ⟨a2, p2, e2, r2⟩ := h.r2.shape
  obtain ⟨a3, p3, e3, r3⟩ := h.r3.shape
  subst e1 e2 e3
  have l1 := r1.len.2
  have l2 := r2.len.2
  have l3 := r3.len.2
  unfold maxLen at l1 l2 l3
  have RM := Lib.hid h
  have R1 := Lib.hid r1
  have R2 := Lib.hid r2
  have R3 := Lib.hid r3
  obtain ⟨hp1, hp2⟩ := ok_pos h.ok
  have HP := Lib.hid hp2
  clear r1 r2 r3 h hp2
  obtain ⟨z, hz⟩ : ∃ z, isB m = z := ⟨_, rfl⟩
  have HZ := Lib.hid hz
  clear hz
  obtain ⟨c0, c1, c2, c3, c4, c5, c6, c7, c8, c9, c10⟩ := boxM_c hO.get0
  have hml := lt_of_heap hO.get0
  unfold matV
  go_enter Try.func47, Try.ntmps47
  go_wp2_with fail
  refine (own_below hO (rmat_is (RM.out.keep hO.bel))).mono ?_
  rw [HZ.out]
  rintro e w2 ⟨rfl, hO⟩
  clear c0 c1 c2 c3 c4 c5 c6 c7 c8 c9 c10 hml
  cases z
  · have HF := Lib.hid (print_none HZ.out)
    go_wp2
    go_ret
    rw [HF.out]
    exact ⟨rfl, hO.bel⟩
  have bd := bds_of HZ.out
  have b1 := bd.level
  have b2 := bd.nodes
  have b3 := bd.cycles
  have b4 := bd.length
  have b5 := bd.enable
  have b6 := bd.unit
  have b7 := bd.init
  have b8 := bd.ref
  have d1 := bd.l1
  have d2 := bd.l2
  have d3 := bd.l3
  have HBD := Lib.hid bd
  clear bd
  have hl0 : (boxM m (.slice a1 m.masters.length p1) (.slice a2 m.msgs.length p2) (.slice a3 m.wins.length p3)) = (boxM m (.slice a1 m.masters.length p1) (.slice a2 m.msgs.length p2) (.slice a3 m.wins.length p3)) := rfl
  clear hl0
  -- the first four bytes
  obtain ⟨c0, c1, c2, c3, c4, c5, c6, c7, c8, c9, c10⟩ := boxM_c hO.get0
  have hml := lt_of_heap hO.get0
  have HT := Lib.hid (show TxR w.heap.size w (.slice (some ⟨w2.heap.size, 0, none⟩) 4 4) 4 [79, m.level, m.nodes, m.cycles] [(w.heap.size, boxM m (.slice a1 m.masters.length p1) (.slice a2 m.msgs.length p2) (.slice a3 m.wins.length p3))] (w2.alloc (.cells #[.int .u8 79, .int .u8 m.level, .int .u8 m.nodes, .int .u8 m.cycles] 5)) from
    ⟨[(w2.heap.size, .cells #[.int .u8 79, .int .u8 m.level, .int .u8 m.nodes, .int .u8 m.cycles] 5)], ⟨rfl, .inr ⟨_, 4, _, rfl, rfl, Nat.le_refl _, by decide, rfl, rfl⟩⟩, hO.alloc (.cells #[.int .u8 79, .int .u8 m.level, .int .u8 m.nodes, .int .u8 m.cycles] 5)⟩)
  clear hO
  go_wp2_with fail
  refine (rr_twoB HT.out m.length (by omega) (by omega)).mono ?_
  rintro e w3 ⟨g3, k3, rfl, hT⟩
  clear c0 c1 c2 c3 c4 c5 c6 c7 c8 c9 c10 hml HT
  have HT := Lib.hid hT
  clear hT
  go_wp2_with fail
  refine wp_region_held_drew (S := fun w' => Own w.heap.size w [(w.heap.size, boxM m (.slice a1 m.masters.length p1) (.slice a2 m.msgs.length p2) (.slice a3 m.wins.length p3))] w') (by kernel_rfl) HT.out.own.drew (fun hHeld => ?_)
  replace HT := Lib.hid HT.out.drew
  have hw1 : IntKind.u8.wrap (m.enable) = m.enable := by rw [wu8]; omega
  have hw2 : IntKind.u8.wrap (m.unit) = m.unit := by rw [wu8]; omega
  refine take_op 0 rfl (by kernel_rfl) (by kernel_rfl) (by kernel_rfl) (fun _ _ _ h => h) (by rfl) (by (intro w hSw; (try dsimp only at hSw); go_simp; (try with_reducible rfl))) (by assumption) ?_
  simp only [Act.put, List.setIfInBounds_toArray, List.set_cons_zero, List.set_cons_succ]
  refine take_op 1 rfl (by kernel_rfl) (by kernel_rfl) (by kernel_rfl) (fun _ _ _ h => h) (by rfl) (by (intro w hSw; (try dsimp only at hSw); go_simp; (try with_reducible rfl))) (by assumption) ?_
  simp only [Act.put, List.setIfInBounds_toArray, List.set_cons_zero, List.set_cons_succ]
  refine take_op 2 rfl (by kernel_rfl) (by kernel_rfl) (by kernel_rfl) (fun _ _ _ h => h) (by rfl) (by (intro wz hSw; (obtain ⟨c0, c1, c2, c3, c4, c5, c6, c7, c8, c9, c10⟩ := boxM_c hSw.get0); go_simp; (try with_reducible rfl))) (by assumption) ?_
  simp only [Act.put, List.setIfInBounds_toArray, List.set_cons_zero, List.set_cons_succ]
  refine take_op 3 rfl (by kernel_rfl) (by kernel_rfl) (by kernel_rfl) (fun _ _ _ h => h) (by rfl) (by (intro w hSw; (try dsimp only at hSw); go_simp; (try with_reducible rfl))) (by assumption) ?_
  simp only [Act.put, List.setIfInBounds_toArray, List.set_cons_zero, List.set_cons_succ]
  refine take_op 4 rfl (by kernel_rfl) (by kernel_rfl) (by kernel_rfl) (fun _ _ _ h => h) (by rfl) (by (intro w hSw; (try dsimp only at hSw); go_simp; (try with_reducible rfl))) (by assumption) ?_
  simp only [Act.put, List.setIfInBounds_toArray, List.set_cons_zero, List.set_cons_succ]
  refine take_op 5 rfl (by kernel_rfl) (by kernel_rfl) (by kernel_rfl) (fun _ _ _ h => h) (by rfl) (by (intro wz hSw; (obtain ⟨c0, c1, c2, c3, c4, c5, c6, c7, c8, c9, c10⟩ := boxM_c hSw.get0); go_simp; (try with_reducible rfl))) (by assumption) ?_
  simp only [Act.put, List.setIfInBounds_toArray, List.set_cons_zero, List.set_cons_succ]
  refine take_op 6 rfl (by kernel_rfl) (by kernel_rfl) (by kernel_rfl) (fun _ _ _ h => h) (by rfl) (by (intro w hSw; (try dsimp only at hSw); go_simp; (try with_reducible rfl))) (by assumption) ?_
  simp only [Act.put, List.setIfInBounds_toArray, List.set_cons_zero, List.set_cons_succ]
  refine take_op 9 rfl (by kernel_rfl) (by kernel_rfl) (by kernel_rfl) (fun _ _ _ h => h) (by rfl) (by (intro w hSw; (try dsimp only at hSw); go_simp; (try with_reducible rfl))) (by assumption) ?_
  simp only [Act.put, List.setIfInBounds_toArray, List.set_cons_zero, List.set_cons_succ]
  refine take_op 10 rfl (by kernel_rfl) (by kernel_rfl) (by kernel_rfl) (fun _ _ _ h => h) (by rfl) (by (intro wz hSw; (obtain ⟨c0, c1, c2, c3, c4, c5, c6, c7, c8, c9, c10⟩ := boxM_c hSw.get0); go_simp; (try with_reducible rfl))) (by assumption) ?_
  simp only [Act.put, List.setIfInBounds_toArray, List.set_cons_zero, List.set_cons_succ]
  clear hw1 hw2
  refine at_op 7 rfl (by kernel_rfl) (by rfl) (fun K hK => ?_)
  go_simp
  have HA := Lib.hid (HT.out.alloc (.cells #[.int .u8 m.enable, .int .u8 m.unit] 5))
  have HN := Lib.hid (World.news_of_block HA.out.own.get0)
  clear HT
  refine hK.out _ _ ?_ (fun hHeld => ?_)
  · exact HA.out.own.drop
  clear hK K
  try simp only [Act.put, List.setIfInBounds_toArray, List.set_cons_zero, List.set_cons_succ]
  refine at_op 8 rfl (by kernel_rfl) (by rfl) (fun K hK => ?_)
  refine wp_append_lies _ _ _ 69 rfl w.heap.size 5 i0 (.int .u8 0) 1 1 Try.underlying69 hi0 hi1 hi2 hi3 rfl (by decide) _ _ _ (by rfl) HA.out.owns ⟨w3.drew.heap.size, 0, none⟩ 2 2 [.int .u8 m.enable, .int .u8 m.unit] (by rfl) rfl HN.out (by simp [Value.oneCell']) (by decide) (by unfold maxLen; omega) (by omega) HA.out.own.sz _ rfl ?_
  intro g4 k4 w4 hown hgrow hat _
  have HT := Lib.hid (HA.out.grown (ys := [m.enable, m.unit]) hown hgrow hat).drop
  clear hown hgrow hat HA HN
  refine hK.out _ _ ?_ (fun hHeld => ?_)
  · exact HT.out.own
  clear hK K
  try simp only [Act.put, List.setIfInBounds_toArray, List.set_cons_zero, List.set_cons_succ]
  refine at_op 11 rfl (by kernel_rfl) (by rfl) (fun K hK => ?_)
  go_simp
  refine (rr_twoB HT.out m.init (by omega) (by omega)).mono ?_
  rintro e w5 ⟨g5, k5, rfl, hT⟩
  clear HT
  have HT := Lib.hid hT
  clear hT
  refine hK.out _ _ ?_ (fun hHeld => ?_)
  · exact HT.out.own
  clear hK K
  try simp only [Act.put, List.setIfInBounds_toArray, List.set_cons_zero, List.set_cons_succ]
  refine take_op 12 rfl (by kernel_rfl) (by kernel_rfl) (by kernel_rfl) (fun _ _ _ h => h) (by rfl) (by (intro w hSw; (try dsimp only at hSw); go_simp; (try with_reducible rfl))) (by assumption) ?_
  simp only [Act.put, List.setIfInBounds_toArray, List.set_cons_zero, List.set_cons_succ]
  refine wpAnyH_done (by kernel_rfl) ?_ _
  clear hHeld
  go_wp2_with fail
  have hn6 := HT.out.len
  clear hn6
  go_cut [3] (fun v wx => Hid (∃ g k, v = .slice (some ⟨g, 0, none⟩) 13 k ∧ TxR w.heap.size w (.slice (some ⟨g, 0, none⟩) 13 k) 13 ([79, m.level, m.nodes, m.cycles] ++ [m.length / 256, m.length % 256] ++ [m.enable, m.unit] ++ [m.init / 256, m.init % 256] ++ [m.ref / 256, m.ref % 256] ++ [(m.masters.length : Int)]) [(w.heap.size, boxM m (.slice a1 m.masters.length p1) (.slice a2 m.msgs.length p2) (.slice a3 m.wins.length p3))] wx))
  case first =>
    refine wp_region_held_drew (S := fun w' => Own w.heap.size w [(w.heap.size, boxM m (.slice a1 m.masters.length p1) (.slice a2 m.msgs.length p2) (.slice a3 m.wins.length p3))] w') (by kernel_rfl) HT.out.own.drew (fun hHeld => ?_)
    replace HT := Lib.hid HT.out.drew
    have hw1 : IntKind.i64.wrap (m.ref) = m.ref := by simp [IntKind.wrap, IntKind.signed, IntKind.bits]; omega
    have hw2 : IntKind.u8.wrap ((m.masters.length : Int)) = (m.masters.length : Int) := by rw [wu8]; omega
    refine take_op 0 rfl (by kernel_rfl) (by kernel_rfl) (by kernel_rfl) (fun _ _ _ h => h) (by rfl) (by (intro w hSw; (try dsimp only at hSw); go_simp; (try with_reducible rfl))) (by assumption) ?_
    simp only [Act.put, List.setIfInBounds_toArray, List.set_cons_zero, List.set_cons_succ]
    refine take_op 1 rfl (by kernel_rfl) (by kernel_rfl) (by kernel_rfl) (fun _ _ _ h => h) (by rfl) (by (intro w hSw; (try dsimp only at hSw); go_simp; (try with_reducible rfl))) (by assumption) ?_
    simp only [Act.put, List.setIfInBounds_toArray, List.set_cons_zero, List.set_cons_succ]
    refine take_op 2 rfl (by kernel_rfl) (by kernel_rfl) (by kernel_rfl) (fun _ _ _ h => h) (by rfl) (by (intro wz hSw; (obtain ⟨c0, c1, c2, c3, c4, c5, c6, c7, c8, c9, c10⟩ := boxM_c hSw.get0); go_simp; (try with_reducible rfl))) (by assumption) ?_
    simp only [Act.put, List.setIfInBounds_toArray, List.set_cons_zero, List.set_cons_succ]
    refine take_op 3 rfl (by kernel_rfl) (by kernel_rfl) (by kernel_rfl) (fun _ _ _ h => h) (by rfl) (by (intro w hSw; (try dsimp only at hSw); go_simp; (try with_reducible rfl))) (by assumption) ?_
    simp only [Act.put, List.setIfInBounds_toArray, List.set_cons_zero, List.set_cons_succ]
    refine take_op 5 rfl (by kernel_rfl) (by kernel_rfl) (by kernel_rfl) (fun _ _ _ h => h) (by rfl) (by (intro w hSw; (try dsimp only at hSw); go_simp; (try with_reducible rfl))) (by assumption) ?_
    simp only [Act.put, List.setIfInBounds_toArray, List.set_cons_zero, List.set_cons_succ]
    refine take_op 6 rfl (by kernel_rfl) (by kernel_rfl) (by kernel_rfl) (fun _ _ _ h => h) (by rfl) (by (intro wz hSw; (obtain ⟨c0, c1, c2, c3, c4, c5, c6, c7, c8, c9, c10⟩ := boxM_c hSw.get0); go_simp; (try with_reducible rfl))) (by assumption) ?_
    simp only [Act.put, List.setIfInBounds_toArray, List.set_cons_zero, List.set_cons_succ]
    refine take_op 7 rfl (by kernel_rfl) (by kernel_rfl) (by kernel_rfl) (fun _ _ _ h => h) (by rfl) (by (intro w hSw; (try dsimp only at hSw); go_simp; (try with_reducible rfl))) (by assumption) ?_
    simp only [Act.put, List.setIfInBounds_toArray, List.set_cons_zero, List.set_cons_succ]
    refine take_op 8 rfl (by kernel_rfl) (by kernel_rfl) (by kernel_rfl) (fun _ _ _ h => h) (by rfl) (by (intro w hSw; (try dsimp only at hSw); go_simp; (try with_reducible rfl))) (by assumption) ?_
    simp only [Act.put, List.setIfInBounds_toArray, List.set_cons_zero, List.set_cons_succ]
    clear hw1 hw2
    refine at_op2 4 9 rfl rfl (by kernel_rfl) (by rfl) (by rfl) (fun K hK => ?_) (fun K hK => ?_)
    · skip
      go_simp
      refine (rr_twoB HT.out m.ref (by omega) (by omega)).mono ?_
      rintro e w6 ⟨g6, k6, rfl, hT⟩
      clear HT
      have HT := Lib.hid hT
      clear hT
      refine hK.out _ _ ?_ (fun hHeld => ?_)
      · exact HT.out.own
      clear hK K
      try simp only [Act.put, List.setIfInBounds_toArray, List.set_cons_zero, List.set_cons_succ]
      refine at_op 9 rfl (by kernel_rfl) (by rfl) (fun K hK => ?_)
      go_simp
      have HA := Lib.hid (HT.out.alloc (.cells #[.int .u8 (m.masters.length : Int)] 5))
      have HN := Lib.hid (World.news_of_block HA.out.own.get0)
      clear HT
      refine hK.out _ _ ?_ (fun hHeld => ?_)
      · exact HA.out.own.drop
      clear hK K
      try simp only [Act.put, List.setIfInBounds_toArray, List.set_cons_zero, List.set_cons_succ]
      refine at_op 10 rfl (by kernel_rfl) (by rfl) (fun K hK => ?_)
      refine wp_append_lies _ _ _ 69 rfl w.heap.size 5 i0 (.int .u8 0) 1 1 Try.underlying69 hi0 hi1 hi2 hi3 rfl (by decide) _ _ _ (by rfl) HA.out.owns ⟨w6.heap.size, 0, none⟩ 1 1 [.int .u8 (m.masters.length : Int)] (by rfl) rfl HN.out (by simp [Value.oneCell']) (by decide) (by unfold maxLen; omega) (by omega) HA.out.own.sz _ rfl ?_
      intro g7 k7 w7 hown hgrow hat _
      have HT := Lib.hid (HA.out.grown (ys := [(m.masters.length : Int)]) hown hgrow hat).drop
      clear hown hgrow hat HA HN
      refine hK.out _ _ ?_ (fun hHeld => ?_)
      · exact HT.out.own
      clear hK K
      try simp only [Act.put, List.setIfInBounds_toArray, List.set_cons_zero, List.set_cons_succ]
      refine take_op 11 rfl (by kernel_rfl) (by kernel_rfl) (by kernel_rfl) (fun _ _ _ h => h) (by rfl) (by (intro w hSw; (try dsimp only at hSw); go_simp; (try with_reducible rfl))) (by assumption) ?_
      simp only [Act.put, List.setIfInBounds_toArray, List.set_cons_zero, List.set_cons_succ]
      refine wpAnyH_done (by kernel_rfl) ?_ _
      go_wp2_with fail
      go_meet
      exact Lib.hid ⟨_, _, rfl, HT.out⟩
    · skip
      go_simp
      have HA := Lib.hid (HT.out.alloc (.cells #[.int .u8 (m.masters.length : Int)] 5))
      clear HT
      refine hK.out _ _ ?_ (fun hHeld => ?_)
      · exact HA.out.own.drop
      clear hK K
      try simp only [Act.put, List.setIfInBounds_toArray, List.set_cons_zero, List.set_cons_succ]
      refine at_op 4 rfl (by kernel_rfl) (by rfl) (fun K hK => ?_)
      go_simp
      refine (rr_twoB HA.out m.ref (by omega) (by omega)).mono ?_
      rintro e w8 ⟨g8, k8, rfl, hT⟩
      clear HA
      have HA := Lib.hid hT
      have HN := Lib.hid (World.news_of_block hT.own.get0)
      clear hT
      refine hK.out _ _ ?_ (fun hHeld => ?_)
      · exact HA.out.own.drop
      clear hK K
      try simp only [Act.put, List.setIfInBounds_toArray, List.set_cons_zero, List.set_cons_succ]
      refine at_op 10 rfl (by kernel_rfl) (by rfl) (fun K hK => ?_)
      refine wp_append_lies _ _ _ 69 rfl w.heap.size 5 i0 (.int .u8 0) 1 1 Try.underlying69 hi0 hi1 hi2 hi3 rfl (by decide) _ _ _ (by rfl) HA.out.owns ⟨_, 0, none⟩ 1 1 [.int .u8 (m.masters.length : Int)] (by rfl) rfl HN.out (by simp [Value.oneCell']) (by decide) (by unfold maxLen; omega) (by omega) HA.out.own.sz _ rfl ?_
      intro g9 k9 w9 hown hgrow hat _
      have HT := Lib.hid (HA.out.grown (ys := [(m.masters.length : Int)]) hown hgrow hat).drop
      clear hown hgrow hat HA HN
      refine hK.out _ _ ?_ (fun hHeld => ?_)
      · exact HT.out.own
      clear hK K
      try simp only [Act.put, List.setIfInBounds_toArray, List.set_cons_zero, List.set_cons_succ]
      refine take_op 11 rfl (by kernel_rfl) (by kernel_rfl) (by kernel_rfl) (fun _ _ _ h => h) (by rfl) (by (intro w hSw; (try dsimp only at hSw); go_simp; (try with_reducible rfl))) (by assumption) ?_
      simp only [Act.put, List.setIfInBounds_toArray, List.set_cons_zero, List.set_cons_succ]
      refine wpAnyH_done (by kernel_rfl) ?_ _
      go_wp2_with fail
      go_meet
      exact Lib.hid ⟨_, _, rfl, HT.out⟩
  case rest =>
    obtain ⟨g, k0, rfl, hT⟩ := hcut.out
    clear HT hcut
    obtain ⟨P, hP⟩ : ∃ P, P = [79, m.level, m.nodes, m.cycles] ++ [m.length / 256, m.length % 256] ++ [m.enable, m.unit] ++ [m.init / 256, m.init % 256] ++ [m.ref / 256, m.ref % 256] ++ [(m.masters.length : Int)] := ⟨_, rfl⟩
    rw [← hP] at hT
    have hPl : P.length = 13 := by rw [hP]; rfl
    have HP1 := Lib.hid hP
    have HT := Lib.hid hT
    clear hP hT
    go_wp2_with fail
    go_loopw [3, 4] (fun v i wr => ∃ (k n : Nat), i = .int .i64 k ∧ k ≤ m.masters.length ∧ n ≤ 200 ∧ Hid (TxR w.heap.size w v n (P ++ m.masters.take k) [(w.heap.size, boxM m (.slice a1 m.masters.length p1) (.slice a2 m.msgs.length p2) (.slice a3 m.wins.length p3))] wr)) (fun _ i _ => m.masters.length - (intOf i).toNat)
    case atStart => exact ⟨0, 13, rfl, by omega, by omega, Lib.hid (HT.out.of_eq (by simp))⟩
    case round =>
      clear HT
      obtain ⟨k, n, rfl, hk, hn, HT⟩ := hrel
      have hbox := HT.out.own.get0
      have c8 := (cell_of hbox 8).trans (show _ = some _ from rfl)
      have hml := lt_of_heap hbox
      clear hbox
      by_cases hlt : k < m.masters.length
      · skip
        have hlt' : (k : Int) < m.masters.length := by omega
        obtain ⟨y, b, off, hy, hm, rfl, hbb, hc⟩ := (R1.out.keep HT.out.own.bel).at_ k hlt
        have e0 := hc 0 _ rfl
        simp only [Nat.mul_one, Nat.add_zero] at e0
        have hyb := HBD.out.masters y hm
        have hnn := HT.out.len
        rw [List.length_append, List.length_take] at hnn
        have HY := Lib.hid (show m.masters.take (k + 1) = m.masters.take k ++ [y] by rw [List.take_add_one, hy]; rfl)
        have hn2 : n + 1 ≤ 200 := by omega
        clear hc hy hm hnn
        have HA := Lib.hid (HT.out.alloc (.cells #[.int .u8 y] 5))
        have HN := Lib.hid (World.news_of_block (new_blk wr (.cells #[.int .u8 y] 5)))
        have hszB := HT.out.own.sz
        clear HT
        go_wp2_with (at_builtin; refine wpList_append_lies _ rfl _ _ 69 rfl w.heap.size 5 i0 (.int .u8 0) 1 1 Try.underlying69 hi0 hi1 hi2 hi3 rfl (by decide) _ n _ rfl HA.out.owns ⟨wr.heap.size, 0, none⟩ 1 1 [.int .u8 y] rfl rfl HN.out (by simp [Value.oneCell']) (by decide) (by unfold maxLen; omega) (by omega) (by simp; omega) (wr.heap.size + 1) (by simp) ?_)
        intro g10 k10 w10 hown hgrow hat _
        have HT := Lib.hid (HA.out.grown (ys := [y]) (by simpa using hown) hgrow (by simpa using hat)).drop
        clear hown hgrow hat HA HN hszB
        go_wp2_with fail
        go_roundw
        case rel => exact ⟨k + 1, n + 1, by go_num, by omega, hn2, Lib.hid (HT.out.of_eq (by rw [HY.out, List.append_assoc]))⟩
        case measure => (simp [intOf]; try omega)
      obtain rfl : k = m.masters.length := by omega
      replace HT := Lib.hid (HT.out.of_eq (show _ = P ++ m.masters by rw [List.take_length]))
      have hnn := HT.out.len
      rw [List.length_append] at hnn
      clear hlt c8 hml hk
      have hbox := HT.out.own.get0
      have c8 := (cell_of hbox 8).trans (show _ = some _ from rfl)
      have c9 := (cell_of hbox 9).trans (show _ = some _ from rfl)
      have hml := lt_of_heap hbox
      clear hbox
      have HA := Lib.hid (HT.out.alloc (.cells #[.int .u8 (m.msgs.length : Int)] 5))
      have HN := Lib.hid (World.news_of_block (new_blk wr (.cells #[.int .u8 (m.msgs.length : Int)] 5)))
      have hszB := HT.out.own.sz
      clear HT
      go_wp2_with (at_builtin; refine wpList_append_lies _ rfl _ _ 69 rfl w.heap.size 5 i0 (.int .u8 0) 1 1 Try.underlying69 hi0 hi1 hi2 hi3 rfl (by decide) _ n _ rfl HA.out.owns ⟨wr.heap.size, 0, none⟩ 1 1 [.int .u8 (m.msgs.length : Int)] rfl rfl HN.out (by simp [Value.oneCell']) (by decide) (by unfold maxLen; omega) (by omega) (by simp; omega) (wr.heap.size + 1) (by simp) ?_)
      intro g11 k11 w11 hown hgrow hat _
      have HT := Lib.hid (HA.out.grown (ys := [(m.msgs.length : Int)]) (by simpa using hown) hgrow (by simpa using hat)).drop
      clear hown hgrow hat HA HN hszB
      clear c8 c9 hml
      obtain ⟨P2, hP2⟩ : ∃ P2, P2 = P ++ m.masters ++ [(m.msgs.length : Int)] := ⟨_, rfl⟩
      have hT := HT.out
      rw [← hP2] at hT
      have hPl2 : P2.length = 14 + m.masters.length := by rw [hP2]; simp; omega
      have HP2 := Lib.hid hP2
      replace HT := Lib.hid hT
      clear hP2 hT
      go_wp2_with fail
      go_loopw [3, 5] (fun v i wr => ∃ (k n : Nat), i = .int .i64 k ∧ k ≤ m.msgs.length ∧ n ≤ 200 ∧ Hid (TxR w.heap.size w v n (P2 ++ (m.msgs.take k).flatMap msgT) [(w.heap.size, boxM m (.slice a1 m.masters.length p1) (.slice a2 m.msgs.length p2) (.slice a3 m.wins.length p3))] wr)) (fun _ i _ => m.msgs.length - (intOf i).toNat)
      case atStart => exact ⟨0, _, rfl, by omega, by omega, Lib.hid (HT.out.of_eq (by simp))⟩
      case round =>
        clear HT hnn
        obtain ⟨k, n, rfl, hk, hn, HT⟩ := hrel
        have hfl : ∀ l : List Msg, (l.flatMap msgT).length = 4 * l.length := by
          intro l; induction l with
          | nil => rfl
          | cons x l ih => simp [ih, msgT]; omega
        have hbox := HT.out.own.get0
        have c9 := (cell_of hbox 9).trans (show _ = some _ from rfl)
        have hml := lt_of_heap hbox
        clear hbox
        by_cases hlt : k < m.msgs.length
        · skip
          have hlt' : (k : Int) < m.msgs.length := by omega
          obtain ⟨y, b, off, hy, hm, rfl, hbb, hc⟩ := R2.out.at_ k hlt
          have e0 := hc 0 _ rfl
          have e1 := hc 1 _ rfl
          have e2 := hc 2 _ rfl
          simp only [Nat.add_zero, ← Nat.add_assoc] at e0 e1 e2
          have hyb := HBD.out.msgs y hm
          have hyi := HP.out y hm
          have hnn := HT.out.len
          rw [List.length_append, hfl, List.length_take] at hnn
          have HY := Lib.hid (show (m.msgs.take (k + 1)).flatMap msgT = (m.msgs.take k).flatMap msgT ++ msgT y by rw [List.take_add_one, hy]; simp [List.flatMap_append])
          have hn4 : n + 4 ≤ 200 := by omega
          obtain ⟨ye, hye⟩ : ∃ ye : Bool, y.ev = ye := ⟨_, rfl⟩
          obtain ⟨en, hen⟩ : ∃ en : Int, (if y.ev = true then (1 : Int) else 0) = en := ⟨_, rfl⟩
          have HYE := Lib.hid (show msgT y = [y.id / 256, y.id % 256] ++ [y.owner, en] by simp [msgT, hen])
          have HE := Lib.hid hen
          have hE2 := (HT.out.own.bel.cell (p := ⟨b, off + k * 3 + 2, none⟩) hbb).trans e2
          have hbw := Nat.lt_of_lt_of_le hbb HT.out.own.bel.size
          rw [hye] at hE2 hen
          have E0 := Lib.hid e0
          have E1 := Lib.hid e1
          clear hc hy hm hnn hye e0 e1 e2
          cases ye
          · skip
            obtain rfl : en = 0 := by simpa using hen.symm
            clear hen
            go_wp2_with fail
            refine wp_region_held_drew (S := fun w' => Own w.heap.size w [(w.heap.size, boxM m (.slice a1 m.masters.length p1) (.slice (some ⟨b, off, none⟩) m.msgs.length p2) (.slice a3 m.wins.length p3))] w') (by kernel_rfl) HT.out.own.drew (fun hHeld => ?_)
            replace HT := Lib.hid HT.out.drew
            clear hE2 c9
            have hw1 : IntKind.i64.wrap (y.id) = y.id := by simp [IntKind.wrap, IntKind.signed, IntKind.bits]; omega
            have hw2 : IntKind.u8.wrap (y.owner) = y.owner := by rw [wu8]; omega
            refine take_op 0 rfl (by kernel_rfl) (by kernel_rfl) (by kernel_rfl) (fun _ _ _ h => h) (by rfl) (by (intro w hSw; (try dsimp only at hSw); go_simp; (try with_reducible rfl))) (by assumption) ?_
            simp only [Act.put, List.setIfInBounds_toArray, List.set_cons_zero, List.set_cons_succ]
            refine take_op 1 rfl (by kernel_rfl) (by kernel_rfl) (by kernel_rfl) (fun _ _ _ h => h) (by rfl) (by (intro w hSw; (try dsimp only at hSw); go_simp; (try with_reducible rfl))) (by assumption) ?_
            simp only [Act.put, List.setIfInBounds_toArray, List.set_cons_zero, List.set_cons_succ]
            refine take_op 2 rfl (by kernel_rfl) (by kernel_rfl) (by kernel_rfl) (fun _ _ _ h => h) (by rfl) (by (intro wz hSw; (have c9 := (cell_of hSw.get0 9).trans (show _ = some _ from rfl)); go_simp; (try with_reducible rfl))) (by assumption) ?_
            simp only [Act.put, List.setIfInBounds_toArray, List.set_cons_zero, List.set_cons_succ]
            refine take_op 3 rfl (by kernel_rfl) (by kernel_rfl) (by kernel_rfl) (fun _ _ _ h => h) (by rfl) (by (intro w hSw; (try dsimp only at hSw); go_simp; (try with_reducible rfl))) (by assumption) ?_
            simp only [Act.put, List.setIfInBounds_toArray, List.set_cons_zero, List.set_cons_succ]
            refine take_op 4 rfl (by kernel_rfl) (by kernel_rfl) (by kernel_rfl) (fun _ _ _ h => h) (by rfl) (by (intro w hSw; (try dsimp only at hSw); go_simp; (try with_reducible rfl))) (by assumption) ?_
            simp only [Act.put, List.setIfInBounds_toArray, List.set_cons_zero, List.set_cons_succ]
            refine take_op 5 rfl (by kernel_rfl) (by kernel_rfl) (by kernel_rfl) (fun _ _ _ h => h) (by rfl) (by (intro w hSw; (try dsimp only at hSw); go_simp; (try with_reducible rfl))) (by assumption) ?_
            simp only [Act.put, List.setIfInBounds_toArray, List.set_cons_zero, List.set_cons_succ]
            refine take_op 6 rfl (by kernel_rfl) (by kernel_rfl) (by kernel_rfl) (fun _ _ _ h => h) (by rfl) (by (intro wz hSw; (have e0 := (hSw.bel.cell (p := ⟨b, off + k * 3, none⟩) hbb).trans E0.out); go_simp; (try with_reducible rfl))) (by assumption) ?_
            simp only [Act.put, List.setIfInBounds_toArray, List.set_cons_zero, List.set_cons_succ]
            refine take_op 7 rfl (by kernel_rfl) (by kernel_rfl) (by kernel_rfl) (fun _ _ _ h => h) (by rfl) (by (intro w hSw; (try dsimp only at hSw); go_simp; (try with_reducible rfl))) (by assumption) ?_
            simp only [Act.put, List.setIfInBounds_toArray, List.set_cons_zero, List.set_cons_succ]
            refine take_op 9 rfl (by kernel_rfl) (by kernel_rfl) (by kernel_rfl) (fun _ _ _ h => h) (by rfl) (by (intro w hSw; (try dsimp only at hSw); go_simp; (try with_reducible rfl))) (by assumption) ?_
            simp only [Act.put, List.setIfInBounds_toArray, List.set_cons_zero, List.set_cons_succ]
            refine take_op 10 rfl (by kernel_rfl) (by kernel_rfl) (by kernel_rfl) (fun _ _ _ h => h) (by rfl) (by (intro wz hSw; (have c9 := (cell_of hSw.get0 9).trans (show _ = some _ from rfl)); go_simp; (try with_reducible rfl))) (by assumption) ?_
            simp only [Act.put, List.setIfInBounds_toArray, List.set_cons_zero, List.set_cons_succ]
            refine take_op 11 rfl (by kernel_rfl) (by kernel_rfl) (by kernel_rfl) (fun _ _ _ h => h) (by rfl) (by (intro w hSw; (try dsimp only at hSw); go_simp; (try with_reducible rfl))) (by assumption) ?_
            simp only [Act.put, List.setIfInBounds_toArray, List.set_cons_zero, List.set_cons_succ]
            refine take_op 12 rfl (by kernel_rfl) (by kernel_rfl) (by kernel_rfl) (fun _ _ _ h => h) (by rfl) (by (intro w hSw; (try dsimp only at hSw); go_simp; (try with_reducible rfl))) (by assumption) ?_
            simp only [Act.put, List.setIfInBounds_toArray, List.set_cons_zero, List.set_cons_succ]
            refine take_op 13 rfl (by kernel_rfl) (by kernel_rfl) (by kernel_rfl) (fun _ _ _ h => h) (by rfl) (by (intro w hSw; (try dsimp only at hSw); go_simp; (try with_reducible rfl))) (by assumption) ?_
            simp only [Act.put, List.setIfInBounds_toArray, List.set_cons_zero, List.set_cons_succ]
            refine take_op 14 rfl (by kernel_rfl) (by kernel_rfl) (by kernel_rfl) (fun _ _ _ h => h) (by rfl) (by (intro wz hSw; (have e1 := (hSw.bel.cell (p := ⟨b, off + k * 3 + 1, none⟩) hbb).trans E1.out); go_simp; (try with_reducible rfl))) (by assumption) ?_
            simp only [Act.put, List.setIfInBounds_toArray, List.set_cons_zero, List.set_cons_succ]
            refine take_op 15 rfl (by kernel_rfl) (by kernel_rfl) (by kernel_rfl) (fun _ _ _ h => h) (by rfl) (by (intro w hSw; (try dsimp only at hSw); go_simp; (try with_reducible rfl))) (by assumption) ?_
            simp only [Act.put, List.setIfInBounds_toArray, List.set_cons_zero, List.set_cons_succ]
            refine take_op 16 rfl (by kernel_rfl) (by kernel_rfl) (by kernel_rfl) (fun _ _ _ h => h) (by rfl) (by (intro w hSw; (try dsimp only at hSw); go_simp; (try with_reducible rfl))) (by assumption) ?_
            simp only [Act.put, List.setIfInBounds_toArray, List.set_cons_zero, List.set_cons_succ]
            clear hw1 hw2
            refine at_op2 8 17 rfl rfl (by kernel_rfl) (by rfl) (by rfl) (fun K hK => ?_) (fun K hK => ?_)
            · skip
              go_simp
              refine (rr_twoB HT.out y.id (by omega) (by omega)).mono ?_
              rintro e w12 ⟨g12, k12, rfl, hT⟩
              clear HT
              have HT := Lib.hid hT
              clear hT
              refine hK.out _ _ ?_ (fun hHeld => ?_)
              · exact HT.out.own
              clear hK K
              try simp only [Act.put, List.setIfInBounds_toArray, List.set_cons_zero, List.set_cons_succ]
              refine at_op 17 rfl (by kernel_rfl) (by rfl) (fun K hK => ?_)
              go_simp
              have HA := Lib.hid (HT.out.alloc (.cells #[.int .u8 y.owner, .int .u8 0] 5))
              have HN := Lib.hid (World.news_of_block HA.out.own.get0)
              clear HT
              refine hK.out _ _ ?_ (fun hHeld => ?_)
              · exact HA.out.own.drop
              clear hK K
              try simp only [Act.put, List.setIfInBounds_toArray, List.set_cons_zero, List.set_cons_succ]
              refine at_op 18 rfl (by kernel_rfl) (by rfl) (fun K hK => ?_)
              refine wp_append_lies _ _ _ 69 rfl w.heap.size 5 i0 (.int .u8 0) 1 1 Try.underlying69 hi0 hi1 hi2 hi3 rfl (by decide) _ _ _ (by rfl) HA.out.owns ⟨w12.heap.size, 0, none⟩ 2 2 [.int .u8 y.owner, .int .u8 0] (by rfl) rfl HN.out (by simp [Value.oneCell']) (by decide) (by unfold maxLen; omega) (by omega) HA.out.own.sz _ rfl ?_
              intro g13 k13 w13 hown hgrow hat _
              have HT := Lib.hid (HA.out.grown (ys := [y.owner, 0]) hown hgrow hat).drop
              clear hown hgrow hat HA HN
              refine hK.out _ _ ?_ (fun hHeld => ?_)
              · exact HT.out.own
              clear hK K
              try simp only [Act.put, List.setIfInBounds_toArray, List.set_cons_zero, List.set_cons_succ]
              refine take_op 19 rfl (by kernel_rfl) (by kernel_rfl) (by kernel_rfl) (fun _ _ _ h => h) (by rfl) (by (intro w hSw; (try dsimp only at hSw); go_simp; (try with_reducible rfl))) (by assumption) ?_
              simp only [Act.put, List.setIfInBounds_toArray, List.set_cons_zero, List.set_cons_succ]
              refine wpAnyH_done (by kernel_rfl) ?_ _
              go_wp2_with fail
              go_roundw
              case rel => exact ⟨k + 1, n + 4, by go_num, by omega, hn4, Lib.hid (HT.out.of_eq (by rw [HY.out, HYE.out]; simp only [List.append_assoc]))⟩
              case measure => (simp [intOf]; try omega)
            · skip
              go_simp
              have HA := Lib.hid (HT.out.alloc (.cells #[.int .u8 y.owner, .int .u8 0] 5))
              clear HT
              refine hK.out _ _ ?_ (fun hHeld => ?_)
              · exact HA.out.own.drop
              clear hK K
              try simp only [Act.put, List.setIfInBounds_toArray, List.set_cons_zero, List.set_cons_succ]
              refine at_op 8 rfl (by kernel_rfl) (by rfl) (fun K hK => ?_)
              go_simp
              refine (rr_twoB HA.out y.id (by omega) (by omega)).mono ?_
              rintro e w14 ⟨g14, k14, rfl, hT⟩
              clear HA
              have HA := Lib.hid hT
              have HN := Lib.hid (World.news_of_block hT.own.get0)
              clear hT
              refine hK.out _ _ ?_ (fun hHeld => ?_)
              · exact HA.out.own.drop
              clear hK K
              try simp only [Act.put, List.setIfInBounds_toArray, List.set_cons_zero, List.set_cons_succ]
              refine at_op 18 rfl (by kernel_rfl) (by rfl) (fun K hK => ?_)
              refine wp_append_lies _ _ _ 69 rfl w.heap.size 5 i0 (.int .u8 0) 1 1 Try.underlying69 hi0 hi1 hi2 hi3 rfl (by decide) _ _ _ (by rfl) HA.out.owns ⟨_, 0, none⟩ 2 2 [.int .u8 y.owner, .int .u8 0] (by rfl) rfl HN.out (by simp [Value.oneCell']) (by decide) (by unfold maxLen; omega) (by omega) HA.out.own.sz _ rfl ?_
              intro g15 k15 w15 hown hgrow hat _
              have HT := Lib.hid (HA.out.grown (ys := [y.owner, 0]) hown hgrow hat).drop
              clear hown hgrow hat HA HN
              refine hK.out _ _ ?_ (fun hHeld => ?_)
              · exact HT.out.own
              clear hK K
              try simp only [Act.put, List.setIfInBounds_toArray, List.set_cons_zero, List.set_cons_succ]
              refine take_op 19 rfl (by kernel_rfl) (by kernel_rfl) (by kernel_rfl) (fun _ _ _ h => h) (by rfl) (by (intro w hSw; (try dsimp only at hSw); go_simp; (try with_reducible rfl))) (by assumption) ?_
              simp only [Act.put, List.setIfInBounds_toArray, List.set_cons_zero, List.set_cons_succ]
              refine wpAnyH_done (by kernel_rfl) ?_ _
              go_wp2_with fail
              go_roundw
              case rel => exact ⟨k + 1, n + 4, by go_num, by omega, hn4, Lib.hid (HT.out.of_eq (by rw [HY.out, HYE.out]; simp only [List.append_assoc]))⟩
              case measure => (simp [intOf]; try omega)
          · skip
            obtain rfl : en = 1 := by simpa using hen.symm
            clear hen
            go_wp2_with fail
            refine wp_region_held_drew (S := fun w' => Own w.heap.size w [(w.heap.size, boxM m (.slice a1 m.masters.length p1) (.slice (some ⟨b, off, none⟩) m.msgs.length p2) (.slice a3 m.wins.length p3))] w') (by kernel_rfl) HT.out.own.drew (fun hHeld => ?_)
            replace HT := Lib.hid HT.out.drew
            clear hE2 c9
            have hw1 : IntKind.i64.wrap (y.id) = y.id := by simp [IntKind.wrap, IntKind.signed, IntKind.bits]; omega
            have hw2 : IntKind.u8.wrap (y.owner) = y.owner := by rw [wu8]; omega
            refine take_op 0 rfl (by kernel_rfl) (by kernel_rfl) (by kernel_rfl) (fun _ _ _ h => h) (by rfl) (by (intro w hSw; (try dsimp only at hSw); go_simp; (try with_reducible rfl))) (by assumption) ?_
            simp only [Act.put, List.setIfInBounds_toArray, List.set_cons_zero, List.set_cons_succ]
            refine take_op 1 rfl (by kernel_rfl) (by kernel_rfl) (by kernel_rfl) (fun _ _ _ h => h) (by rfl) (by (intro w hSw; (try dsimp only at hSw); go_simp; (try with_reducible rfl))) (by assumption) ?_
            simp only [Act.put, List.setIfInBounds_toArray, List.set_cons_zero, List.set_cons_succ]
            refine take_op 2 rfl (by kernel_rfl) (by kernel_rfl) (by kernel_rfl) (fun _ _ _ h => h) (by rfl) (by (intro wz hSw; (have c9 := (cell_of hSw.get0 9).trans (show _ = some _ from rfl)); go_simp; (try with_reducible rfl))) (by assumption) ?_
            simp only [Act.put, List.setIfInBounds_toArray, List.set_cons_zero, List.set_cons_succ]
            refine take_op 3 rfl (by kernel_rfl) (by kernel_rfl) (by kernel_rfl) (fun _ _ _ h => h) (by rfl) (by (intro w hSw; (try dsimp only at hSw); go_simp; (try with_reducible rfl))) (by assumption) ?_
            simp only [Act.put, List.setIfInBounds_toArray, List.set_cons_zero, List.set_cons_succ]
            refine take_op 4 rfl (by kernel_rfl) (by kernel_rfl) (by kernel_rfl) (fun _ _ _ h => h) (by rfl) (by (intro w hSw; (try dsimp only at hSw); go_simp; (try with_reducible rfl))) (by assumption) ?_
            simp only [Act.put, List.setIfInBounds_toArray, List.set_cons_zero, List.set_cons_succ]
            refine take_op 5 rfl (by kernel_rfl) (by kernel_rfl) (by kernel_rfl) (fun _ _ _ h => h) (by rfl) (by (intro w hSw; (try dsimp only at hSw); go_simp; (try with_reducible rfl))) (by assumption) ?_
            simp only [Act.put, List.setIfInBounds_toArray, List.set_cons_zero, List.set_cons_succ]
            refine take_op 6 rfl (by kernel_rfl) (by kernel_rfl) (by kernel_rfl) (fun _ _ _ h => h) (by rfl) (by (intro wz hSw; (have e0 := (hSw.bel.cell (p := ⟨b, off + k * 3, none⟩) hbb).trans E0.out); go_simp; (try with_reducible rfl))) (by assumption) ?_
            simp only [Act.put, List.setIfInBounds_toArray, List.set_cons_zero, List.set_cons_succ]
            refine take_op 7 rfl (by kernel_rfl) (by kernel_rfl) (by kernel_rfl) (fun _ _ _ h => h) (by rfl) (by (intro w hSw; (try dsimp only at hSw); go_simp; (try with_reducible rfl))) (by assumption) ?_
            simp only [Act.put, List.setIfInBounds_toArray, List.set_cons_zero, List.set_cons_succ]
            refine take_op 9 rfl (by kernel_rfl) (by kernel_rfl) (by kernel_rfl) (fun _ _ _ h => h) (by rfl) (by (intro w hSw; (try dsimp only at hSw); go_simp; (try with_reducible rfl))) (by assumption) ?_
            simp only [Act.put, List.setIfInBounds_toArray, List.set_cons_zero, List.set_cons_succ]
            refine take_op 10 rfl (by kernel_rfl) (by kernel_rfl) (by kernel_rfl) (fun _ _ _ h => h) (by rfl) (by (intro wz hSw; (have c9 := (cell_of hSw.get0 9).trans (show _ = some _ from rfl)); go_simp; (try with_reducible rfl))) (by assumption) ?_
            simp only [Act.put, List.setIfInBounds_toArray, List.set_cons_zero, List.set_cons_succ]
            refine take_op 11 rfl (by kernel_rfl) (by kernel_rfl) (by kernel_rfl) (fun _ _ _ h => h) (by rfl) (by (intro w hSw; (try dsimp only at hSw); go_simp; (try with_reducible rfl))) (by assumption) ?_
            simp only [Act.put, List.setIfInBounds_toArray, List.set_cons_zero, List.set_cons_succ]
            refine take_op 12 rfl (by kernel_rfl) (by kernel_rfl) (by kernel_rfl) (fun _ _ _ h => h) (by rfl) (by (intro w hSw; (try dsimp only at hSw); go_simp; (try with_reducible rfl))) (by assumption) ?_
            simp only [Act.put, List.setIfInBounds_toArray, List.set_cons_zero, List.set_cons_succ]
            refine take_op 13 rfl (by kernel_rfl) (by kernel_rfl) (by kernel_rfl) (fun _ _ _ h => h) (by rfl) (by (intro w hSw; (try dsimp only at hSw); go_simp; (try with_reducible rfl))) (by assumption) ?_
            simp only [Act.put, List.setIfInBounds_toArray, List.set_cons_zero, List.set_cons_succ]
            refine take_op 14 rfl (by kernel_rfl) (by kernel_rfl) (by kernel_rfl) (fun _ _ _ h => h) (by rfl) (by (intro wz hSw; (have e1 := (hSw.bel.cell (p := ⟨b, off + k * 3 + 1, none⟩) hbb).trans E1.out); go_simp; (try with_reducible rfl))) (by assumption) ?_
            simp only [Act.put, List.setIfInBounds_toArray, List.set_cons_zero, List.set_cons_succ]
            refine take_op 15 rfl (by kernel_rfl) (by kernel_rfl) (by kernel_rfl) (fun _ _ _ h => h) (by rfl) (by (intro w hSw; (try dsimp only at hSw); go_simp; (try with_reducible rfl))) (by assumption) ?_
            simp only [Act.put, List.setIfInBounds_toArray, List.set_cons_zero, List.set_cons_succ]
            refine take_op 16 rfl (by kernel_rfl) (by kernel_rfl) (by kernel_rfl) (fun _ _ _ h => h) (by rfl) (by (intro w hSw; (try dsimp only at hSw); go_simp; (try with_reducible rfl))) (by assumption) ?_
            simp only [Act.put, List.setIfInBounds_toArray, List.set_cons_zero, List.set_cons_succ]
            clear hw1 hw2
            refine at_op2 8 17 rfl rfl (by kernel_rfl) (by rfl) (by rfl) (fun K hK => ?_) (fun K hK => ?_)
            · skip
              go_simp
              refine (rr_twoB HT.out y.id (by omega) (by omega)).mono ?_
              rintro e w16 ⟨g16, k16, rfl, hT⟩
              clear HT
              have HT := Lib.hid hT
              clear hT
              refine hK.out _ _ ?_ (fun hHeld => ?_)
              · exact HT.out.own
              clear hK K
              try simp only [Act.put, List.setIfInBounds_toArray, List.set_cons_zero, List.set_cons_succ]
              refine at_op 17 rfl (by kernel_rfl) (by rfl) (fun K hK => ?_)
              go_simp
              have HA := Lib.hid (HT.out.alloc (.cells #[.int .u8 y.owner, .int .u8 1] 5))
              have HN := Lib.hid (World.news_of_block HA.out.own.get0)
              clear HT
              refine hK.out _ _ ?_ (fun hHeld => ?_)
              · exact HA.out.own.drop
              clear hK K
              try simp only [Act.put, List.setIfInBounds_toArray, List.set_cons_zero, List.set_cons_succ]
              refine at_op 18 rfl (by kernel_rfl) (by rfl) (fun K hK => ?_)
              refine wp_append_lies _ _ _ 69 rfl w.heap.size 5 i0 (.int .u8 0) 1 1 Try.underlying69 hi0 hi1 hi2 hi3 rfl (by decide) _ _ _ (by rfl) HA.out.owns ⟨w16.heap.size, 0, none⟩ 2 2 [.int .u8 y.owner, .int .u8 1] (by rfl) rfl HN.out (by simp [Value.oneCell']) (by decide) (by unfold maxLen; omega) (by omega) HA.out.own.sz _ rfl ?_
              intro g17 k17 w17 hown hgrow hat _
              have HT := Lib.hid (HA.out.grown (ys := [y.owner, 1]) hown hgrow hat).drop
              clear hown hgrow hat HA HN
              refine hK.out _ _ ?_ (fun hHeld => ?_)
              · exact HT.out.own
              clear hK K
              try simp only [Act.put, List.setIfInBounds_toArray, List.set_cons_zero, List.set_cons_succ]
              refine take_op 19 rfl (by kernel_rfl) (by kernel_rfl) (by kernel_rfl) (fun _ _ _ h => h) (by rfl) (by (intro w hSw; (try dsimp only at hSw); go_simp; (try with_reducible rfl))) (by assumption) ?_
              simp only [Act.put, List.setIfInBounds_toArray, List.set_cons_zero, List.set_cons_succ]
              refine wpAnyH_done (by kernel_rfl) ?_ _
              go_wp2_with fail
              go_roundw
              case rel => exact ⟨k + 1, n + 4, by go_num, by omega, hn4, Lib.hid (HT.out.of_eq (by rw [HY.out, HYE.out]; simp only [List.append_assoc]))⟩
              case measure => (simp [intOf]; try omega)
            · skip
              go_simp
              have HA := Lib.hid (HT.out.alloc (.cells #[.int .u8 y.owner, .int .u8 1] 5))
              clear HT
              refine hK.out _ _ ?_ (fun hHeld => ?_)
              · exact HA.out.own.drop
              clear hK K
              try simp only [Act.put, List.setIfInBounds_toArray, List.set_cons_zero, List.set_cons_succ]
              refine at_op 8 rfl (by kernel_rfl) (by rfl) (fun K hK => ?_)
              go_simp
              refine (rr_twoB HA.out y.id (by omega) (by omega)).mono ?_
              rintro e w18 ⟨g18, k18, rfl, hT⟩
              clear HA
              have HA := Lib.hid hT
              have HN := Lib.hid (World.news_of_block hT.own.get0)
              clear hT
              refine hK.out _ _ ?_ (fun hHeld => ?_)
              · exact HA.out.own.drop
              clear hK K
              try simp only [Act.put, List.setIfInBounds_toArray, List.set_cons_zero, List.set_cons_succ]
              refine at_op 18 rfl (by kernel_rfl) (by rfl) (fun K hK => ?_)
              refine wp_append_lies _ _ _ 69 rfl w.heap.size 5 i0 (.int .u8 0) 1 1 Try.underlying69 hi0 hi1 hi2 hi3 rfl (by decide) _ _ _ (by rfl) HA.out.owns ⟨_, 0, none⟩ 2 2 [.int .u8 y.owner, .int .u8 1] (by rfl) rfl HN.out (by simp [Value.oneCell']) (by decide) (by unfold maxLen; omega) (by omega) HA.out.own.sz _ rfl ?_
              intro g19 k19 w19 hown hgrow hat _
              have HT := Lib.hid (HA.out.grown (ys := [y.owner, 1]) hown hgrow hat).drop
              clear hown hgrow hat HA HN
              refine hK.out _ _ ?_ (fun hHeld => ?_)
              · exact HT.out.own
              clear hK K
              try simp only [Act.put, List.setIfInBounds_toArray, List.set_cons_zero, List.set_cons_succ]
              refine take_op 19 rfl (by kernel_rfl) (by kernel_rfl) (by kernel_rfl) (fun _ _ _ h => h) (by rfl) (by (intro w hSw; (try dsimp only at hSw); go_simp; (try with_reducible rfl))) (by assumption) ?_
              simp only [Act.put, List.setIfInBounds_toArray, List.set_cons_zero, List.set_cons_succ]
              refine wpAnyH_done (by kernel_rfl) ?_ _
              go_wp2_with fail
              go_roundw
              case rel => exact ⟨k + 1, n + 4, by go_num, by omega, hn4, Lib.hid (HT.out.of_eq (by rw [HY.out, HYE.out]; simp only [List.append_assoc]))⟩
              case measure => (simp [intOf]; try omega)
        obtain rfl : k = m.msgs.length := by omega
        replace HT := Lib.hid (HT.out.of_eq (show _ = P2 ++ m.msgs.flatMap msgT by rw [List.take_length]))
        have hnn := HT.out.len
        rw [List.length_append, hfl] at hnn
        have hfl2 := hfl m.msgs
        clear hlt c9 hml hk hfl
        have hbox := HT.out.own.get0
        have c9 := (cell_of hbox 9).trans (show _ = some _ from rfl)
        have c10 := (cell_of hbox 10).trans (show _ = some _ from rfl)
        have hml := lt_of_heap hbox
        clear hbox
        have HA := Lib.hid (HT.out.alloc (.cells #[.int .u8 (m.wins.length : Int)] 5))
        have HN := Lib.hid (World.news_of_block (new_blk wr (.cells #[.int .u8 (m.wins.length : Int)] 5)))
        have hszB := HT.out.own.sz
        clear HT
        go_wp2_with (at_builtin; refine wpList_append_lies _ rfl _ _ 69 rfl w.heap.size 5 i0 (.int .u8 0) 1 1 Try.underlying69 hi0 hi1 hi2 hi3 rfl (by decide) _ n _ rfl HA.out.owns ⟨wr.heap.size, 0, none⟩ 1 1 [.int .u8 (m.wins.length : Int)] rfl rfl HN.out (by simp [Value.oneCell']) (by decide) (by unfold maxLen; omega) (by omega) (by simp; omega) (wr.heap.size + 1) (by simp) ?_)
        intro g20 k20 w20 hown hgrow hat _
        have HT := Lib.hid (HA.out.grown (ys := [(m.wins.length : Int)]) (by simpa using hown) hgrow (by simpa using hat)).drop
        clear hown hgrow hat HA HN hszB
        clear c9 c10 hml
        obtain ⟨P3, hP3⟩ : ∃ P3, P3 = P2 ++ m.msgs.flatMap msgT ++ [(m.wins.length : Int)] := ⟨_, rfl⟩
        have hT := HT.out
        rw [← hP3] at hT
        have hPl3 : P3.length = 15 + m.masters.length + 4 * m.msgs.length := by rw [hP3]; simp only [List.length_append, List.length_cons, List.length_nil]; omega
        have HP3 := Lib.hid hP3
        replace HT := Lib.hid hT
        clear hP3 hT
        go_wp2_with fail
        go_loopw [3, 7] (fun v i wr => ∃ (k n : Nat), i = .int .i64 k ∧ k ≤ m.wins.length ∧ n ≤ 400 ∧ Hid (TxR w.heap.size w v n (P3 ++ (m.wins.take k).flatMap winT) [(w.heap.size, boxM m (.slice a1 m.masters.length p1) (.slice a2 m.msgs.length p2) (.slice a3 m.wins.length p3))] wr)) (fun _ i _ => m.wins.length - (intOf i).toNat)
        case atStart => exact ⟨0, _, rfl, by omega, by omega, Lib.hid (HT.out.of_eq (by simp))⟩
        case round =>
          clear HT hnn
          obtain ⟨k, n, rfl, hk, hn, HT⟩ := hrel
          have hbox := HT.out.own.get0
          have c10 := (cell_of hbox 10).trans (show _ = some _ from rfl)
          have hml := lt_of_heap hbox
          clear hbox
          by_cases hlt : k < m.wins.length
          · skip
            have hfl : ∀ l : List Win, (l.flatMap winT).length = 8 * l.length := by
              intro l; induction l with
              | nil => rfl
              | cons x l ih => simp [ih, winT]; omega
            have hlt' : (k : Int) < m.wins.length := by omega
            obtain ⟨y, b, off, hy, hm, rfl, hbb, hc⟩ := (R3.out.keep HT.out.own.bel).at_ k hlt
            have e0 := hc 0 _ rfl
            have e1 := hc 1 _ rfl
            have e2 := hc 2 _ rfl
            have e3 := hc 3 _ rfl
            have e4 := hc 4 _ rfl
            have e5 := hc 5 _ rfl
            simp only [Nat.add_zero, ← Nat.add_assoc] at e0 e1 e2 e3 e4 e5
            have hyb := HBD.out.wins y hm
            have hnn := HT.out.len
            rw [List.length_append, hfl, List.length_take] at hnn
            have HY := Lib.hid (show (m.wins.take (k + 1)).flatMap winT = (m.wins.take k).flatMap winT ++ winT y by rw [List.take_add_one, hy]; simp [List.flatMap_append])
            have hn8 : n + 8 ≤ 400 := by omega
            clear hc hy hm hnn hfl
            have HT2 := Lib.hid (HT.out.alloc (.cells #[.int .i64 y.kind, .int .i64 y.start, .int .i64 y.stop, .int .i64 y.cyc, .int .i64 y.rep, .int .i64 y.msg] 56))
            clear HT
            go_wp2_with fail
            clear e0 e1 e2 e3 e4 e5 c10 hml hbb
            refine tx_out HT2.out ?_
            intro wq hT
            clear HT2
            refine wp_region_held_drew (S := fun w' => Own w.heap.size w [(wr.heap.size, .cells #[.int .i64 y.kind, .int .i64 y.start, .int .i64 y.stop, .int .i64 y.cyc, .int .i64 y.rep, .int .i64 y.msg] 56 (0, 0)), (w.heap.size, boxM m (.slice a1 m.masters.length p1) (.slice a2 m.msgs.length p2) (.slice (some ⟨b, off, none⟩) m.wins.length p3))] w') (by kernel_rfl) hT.own.drew (fun hHeld => ?_)
            have HT := Lib.hid hT.drew
            clear hT
            have hw1 : IntKind.u8.wrap (y.kind) = y.kind := by rw [wu8]; omega
            refine take_op 0 rfl (by kernel_rfl) (by kernel_rfl) (by kernel_rfl) (fun _ _ _ h => h) (by rfl) (by (intro w hSw; (try dsimp only at hSw); go_simp; (try with_reducible rfl))) (by assumption) ?_
            simp only [Act.put, List.setIfInBounds_toArray, List.set_cons_zero, List.set_cons_succ]
            refine take_op 1 rfl (by kernel_rfl) (by kernel_rfl) (by kernel_rfl) (fun _ _ _ h => h) (by rfl) (by (intro w hSw; (try dsimp only at hSw); go_simp; (try with_reducible rfl))) (by assumption) ?_
            simp only [Act.put, List.setIfInBounds_toArray, List.set_cons_zero, List.set_cons_succ]
            refine take_op 2 rfl (by kernel_rfl) (by kernel_rfl) (by kernel_rfl) (fun _ _ _ h => h) (by rfl) (by (intro wz hSw; (have x0 := (cell_of hSw.get0 0).trans (show _ = some (Value.int .i64 y.kind) from rfl); have x1 := (cell_of hSw.get0 1).trans (show _ = some (Value.int .i64 y.start) from rfl); have x2 := (cell_of hSw.get0 2).trans (show _ = some (Value.int .i64 y.stop) from rfl)); go_simp; (try with_reducible rfl))) (by assumption) ?_
            simp only [Act.put, List.setIfInBounds_toArray, List.set_cons_zero, List.set_cons_succ]
            refine take_op 3 rfl (by kernel_rfl) (by kernel_rfl) (by kernel_rfl) (fun _ _ _ h => h) (by rfl) (by (intro w hSw; (try dsimp only at hSw); go_simp; (try with_reducible rfl))) (by assumption) ?_
            simp only [Act.put, List.setIfInBounds_toArray, List.set_cons_zero, List.set_cons_succ]
            refine take_op 6 rfl (by kernel_rfl) (by kernel_rfl) (by kernel_rfl) (fun _ _ _ h => h) (by rfl) (by (intro w hSw; (try dsimp only at hSw); go_simp; (try with_reducible rfl))) (by assumption) ?_
            simp only [Act.put, List.setIfInBounds_toArray, List.set_cons_zero, List.set_cons_succ]
            refine take_op 7 rfl (by kernel_rfl) (by kernel_rfl) (by kernel_rfl) (fun _ _ _ h => h) (by rfl) (by (intro wz hSw; (have x0 := (cell_of hSw.get0 0).trans (show _ = some (Value.int .i64 y.kind) from rfl); have x1 := (cell_of hSw.get0 1).trans (show _ = some (Value.int .i64 y.start) from rfl); have x2 := (cell_of hSw.get0 2).trans (show _ = some (Value.int .i64 y.stop) from rfl)); go_simp; (try with_reducible rfl))) (by assumption) ?_
            simp only [Act.put, List.setIfInBounds_toArray, List.set_cons_zero, List.set_cons_succ]
            refine take_op 9 rfl (by kernel_rfl) (by kernel_rfl) (by kernel_rfl) (fun _ _ _ h => h) (by rfl) (by (intro w hSw; (try dsimp only at hSw); go_simp; (try with_reducible rfl))) (by assumption) ?_
            simp only [Act.put, List.setIfInBounds_toArray, List.set_cons_zero, List.set_cons_succ]
            refine take_op 10 rfl (by kernel_rfl) (by kernel_rfl) (by kernel_rfl) (fun _ _ _ h => h) (by rfl) (by (intro wz hSw; (have x0 := (cell_of hSw.get0 0).trans (show _ = some (Value.int .i64 y.kind) from rfl); have x1 := (cell_of hSw.get0 1).trans (show _ = some (Value.int .i64 y.start) from rfl); have x2 := (cell_of hSw.get0 2).trans (show _ = some (Value.int .i64 y.stop) from rfl)); go_simp; (try with_reducible rfl))) (by assumption) ?_
            simp only [Act.put, List.setIfInBounds_toArray, List.set_cons_zero, List.set_cons_succ]
            clear hw1
            refine at_op 4 rfl (by kernel_rfl) (by rfl) (fun K hK => ?_)
            go_simp
            have HA := Lib.hid (HT.out.alloc (.cells #[.int .u8 y.kind] 5))
            have HN := Lib.hid (World.news_of_block HA.out.own.get0)
            clear HT
            refine hK.out _ _ ?_ (fun hHeld => ?_)
            · exact HA.out.own.drop
            clear hK K
            try simp only [Act.put, List.setIfInBounds_toArray, List.set_cons_zero, List.set_cons_succ]
            refine at_op 5 rfl (by kernel_rfl) (by rfl) (fun K hK => ?_)
            refine wp_append_lies _ _ _ 69 rfl w.heap.size 5 i0 (.int .u8 0) 1 1 Try.underlying69 hi0 hi1 hi2 hi3 rfl (by decide) _ _ _ (by rfl) HA.out.owns ⟨_, 0, none⟩ 1 1 [.int .u8 y.kind] (by rfl) rfl HN.out (by simp [Value.oneCell']) (by decide) (by unfold maxLen; omega) (by omega) HA.out.own.sz _ rfl ?_
            intro g21 k21 w21 hown hgrow hat _
            have HT := Lib.hid (HA.out.grown (ys := [y.kind]) hown hgrow hat).drop
            clear hown hgrow hat HA HN
            refine hK.out _ _ ?_ (fun hHeld => ?_)
            · exact HT.out.own
            clear hK K
            try simp only [Act.put, List.setIfInBounds_toArray, List.set_cons_zero, List.set_cons_succ]
            refine at_op 8 rfl (by kernel_rfl) (by rfl) (fun K hK => ?_)
            go_simp
            refine (rr_twoB HT.out y.start (by omega) (by omega)).mono ?_
            rintro e w22 ⟨g22, k22, rfl, hT⟩
            clear HT
            have HT := Lib.hid hT
            clear hT
            refine hK.out _ _ ?_ (fun hHeld => ?_)
            · exact HT.out.own
            clear hK K
            try simp only [Act.put, List.setIfInBounds_toArray, List.set_cons_zero, List.set_cons_succ]
            refine at_op 11 rfl (by kernel_rfl) (by rfl) (fun K hK => ?_)
            go_simp
            refine (rr_twoB HT.out y.stop (by omega) (by omega)).mono ?_
            rintro e w23 ⟨g23, k23, rfl, hT⟩
            clear HT
            have HT := Lib.hid hT
            clear hT
            refine hK.out _ _ ?_ (fun hHeld => ?_)
            · exact HT.out.own
            clear hK K
            try simp only [Act.put, List.setIfInBounds_toArray, List.set_cons_zero, List.set_cons_succ]
            refine take_op 12 rfl (by kernel_rfl) (by kernel_rfl) (by kernel_rfl) (fun _ _ _ h => h) (by rfl) (by (intro w hSw; (try dsimp only at hSw); go_simp; (try with_reducible rfl))) (by assumption) ?_
            simp only [Act.put, List.setIfInBounds_toArray, List.set_cons_zero, List.set_cons_succ]
            refine wpAnyH_done (by kernel_rfl) ?_ _
            clear hHeld
            have hbx := HT.out.own.get0
            have x3 := (cell_of hbx 3).trans (show _ = some (Value.int .i64 y.cyc) from rfl)
            have x4 := (cell_of hbx 4).trans (show _ = some (Value.int .i64 y.rep) from rfl)
            have x5 := (cell_of hbx 5).trans (show _ = some (Value.int .i64 y.msg) from rfl)
            have hxl := lt_of_heap hbx
            clear hbx
            have HA := Lib.hid (HT.out.alloc (.cells #[.int .u8 y.cyc, .int .u8 y.rep, .int .u8 y.msg] 5))
            have HN := Lib.hid (World.news_of_block (new_blk w23 (.cells #[.int .u8 y.cyc, .int .u8 y.rep, .int .u8 y.msg] 5)))
            have hszB := HT.out.own.sz
            clear HT
            go_wp2_with (at_builtin; refine wpList_append_lies _ rfl _ _ 69 rfl w.heap.size 5 i0 (.int .u8 0) 1 1 Try.underlying69 hi0 hi1 hi2 hi3 rfl (by decide) _ (n + 1 + 2 + 2) _ rfl HA.out.owns ⟨w23.heap.size, 0, none⟩ 3 3 [.int .u8 y.cyc, .int .u8 y.rep, .int .u8 y.msg] rfl rfl HN.out (by simp [Value.oneCell']) (by decide) (by unfold maxLen; omega) (by omega) (by simp; omega) (w23.heap.size + 1) (by simp) ?_)
            intro g24 k24 w24 hown hgrow hat _
            have HT := Lib.hid (HA.out.grown (ys := [y.cyc, y.rep, y.msg]) (by simpa using hown) hgrow (by simpa using hat)).drop
            clear hown hgrow hat HA HN hszB
            go_wp2_with fail
            go_roundw
            case rel => exact ⟨k + 1, n + 8, by go_num, by omega, hn8, Lib.hid (HT.out.drop.of_eq (by rw [HY.out]; simp [winT]))⟩
            case measure => (simp [intOf]; try omega)
          obtain rfl : k = m.wins.length := by omega
          have hT2 := HT.out.of_eq (show _ = 79 :: matT m by
            rw [List.take_length, HP3.out, HP2.out, HP1.out]
            simp [matT, headT])
          have hcv := hT2.conv (by simp)
          have HF := Lib.hid (show printE m = strOfNums (79 :: matT m) by unfold printE; rw [if_pos HZ.out])
          have hbel := hT2.own.bel
          clear hT2 hlt HT
          obtain ⟨s, hs⟩ : ∃ s, s = strOfNums (79 :: matT m) := ⟨_, rfl⟩
          rw [← hs] at hcv
          have HS := Lib.hid hs
          clear hs
          go_wp2
          go_ret
          rw [HF.out, ← HS.out]
          exact ⟨rfl, hbel⟩
end Go.Proofs.Ythkhlcigegbpfaa
