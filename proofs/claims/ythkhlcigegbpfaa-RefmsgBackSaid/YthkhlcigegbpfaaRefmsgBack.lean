/- RefmsgBack: a beat's frame is read as it was made; no message's frame is one in a matrix that passes. No conditions. -/
import Derived.Test.YthkhlcigegbpfaaBackPure
import Derived.Test.YthkhlcigegbpfaaRmKnown
namespace Go.Proofs.Ythkhlcigegbpfaa
set_option linter.unusedVariables false
set_option linter.unusedSimpArgs false
open Go.ChangeShapes Go.WideShapes Go.ChangeAt Go.RowKit Go.Deep

theorem frame_fits {m : Mat} (ho : m.Ok) {k : Int} {data : ByteArray} {f : Fr} (h : (frameE m k data).1 = f) (hd : data.size ≤ maxLen) : U32 f.id ∧ f.data.size ≤ maxLen := by
  subst h
  unfold frameE
  split
  · exact ⟨by decide, by decide⟩
  · rename_i hn
    have hk : k.toNat < m.msgs.length := by omega
    have e : m.msgs[k.toNat]? = some m.msgs[k.toNat] := List.getElem?_eq_getElem hk
    rw [e]
    exact ⟨(ho.msgs _ (List.getElem_mem hk)).1, hd⟩
section
variable {P : Program} {ops : Array Oper} {Q : Exit → Act → World → Prop} {S : World → Prop} {d d2 : Option Tmp} {op op2 : Op} {ty ty2 : TypeId} {pos pos2 : String} {after after2 : Array Edge} {guard guard2 : Option (Nat × Bool)} {fuel : Nat} {listed : Array Bool} {a : Act} {w : World}
theorem at_op2' (i j : Nat) (hi : ops[i]? = some ⟨d, op, ty, pos, after, guard⟩) (hj : ops[j]? = some ⟨d2, op2, ty2, pos2, after2, guard2⟩) (hr : Region.ready .any ops listed = [i, j]) (hw : Region.wanted ⟨d, op, ty, pos, after, guard⟩ (yielded ops a.tmps) = true) (hw2 : Region.wanted ⟨d2, op2, ty2, pos2, after2, guard2⟩ (yielded ops a.tmps) = true)
    (h : ∀ K' : Act → World → Prop, Shut (∀ a w, S w → (S w → wpAnyH P .any ops Q S fuel (listed.setIfInBounds i true) a w) → K' a w) → Oper.wp P ⟨d, op, ty, pos, after, guard⟩ a w K' Q)
    (h2 : ∀ K' : Act → World → Prop, Shut (∀ a w, S w → (S w → wpAnyH P .any ops Q S fuel (listed.setIfInBounds j true) a w) → K' a w) → Oper.wp P ⟨d2, op2, ty2, pos2, after2, guard2⟩ a w K' Q) : wpAnyH P .any ops Q S (fuel + 1) listed a w :=
  wpAnyH_ready hr (by simp) (AllReadyH.cons hi (fun K hK => by rw [if_pos hw]; exact h K hK) (AllReadyH.cons hj (fun K hK => by rw [if_pos hw2]; exact h2 K hK) AllReadyH.nil))
end
theorem world_outB {B : Nat} {w0 w : World} {L : List (Nat × Obj)} {P : World → Prop} (h : Own B w0 L w) (k : ∀ v, Own B w0 L v → P v) : P w := k w h
theorem boxF_of (f : Fr) : boxF f = .cells #[.bool f.ext, .int .u32 f.id, .bool f.rtr, .string f.data] 30 (0, 0) := rfl
set_option maxRecDepth 100000 in
set_option maxHeartbeats 8000000 in
theorem RefmsgBack_core (m : Mat) (s1 s2 s3 : Value) (rank cycle glob msg : Int) (disc : Bool) (data : ByteArray) (hrank : 0 ≤ rank ∧ rank ≤ 255) (hcycle : 0 ≤ cycle ∧ cycle ≤ 255) (hglob : 0 ≤ glob ∧ glob ≤ 65535) (hmsg : 0 ≤ msg ∧ msg ≤ 255) (hdata : data.size ≤ maxLen)
    (w : World) (h : RdM w m s1 s2 s3) : Holds 5 #[matV m s1 s2 s3, .int .u8 rank, .int .u8 cycle, .int .u16 glob, .bool disc, .int .u8 msg, .string data] w := by
  have hp := held30
  have hg := guard30
  have hp6 := held36
  have hg6 := guard36
  have hO := (Own.nil_ (Below.refl w.heap.size w) (Nat.le_refl _)).alloc (boxM m s1 s2 s3)
  obtain ⟨a1, p1, e1, r1⟩ := h.r1.shape
  obtain ⟨a2, p2, e2, r2⟩ := h.r2.shape
  obtain ⟨a3, p3, e3, r3⟩ := h.r3.shape
  subst e1 e2 e3
  clear r1 r2 r3
  have RM := Lib.hid h
  have HDA := Lib.hid hdata
  unfold maxLen at hdata
  clear h
  unfold Holds matV
  go_enter Try.func5, Try.ntmps5
  go_wp2_with fail
  refine (own_below hO (known21 _)).mono ?_
  rintro e w1 ⟨rfl, hO⟩
  obtain ⟨c0, c1, c2, c3, c4, c5, c6, c7, c8, c9, c10⟩ := boxM_c hO.get0
  have hml := lt_of_heap hO.get0
  go_wp2_with fail
  refine (own_below hO (few21 (RM.out.keep hO.bel))).mono ?_
  obtain ⟨zf, hzf⟩ : ∃ z, decide (m.masters.length ≤ 10 ∧ m.msgs.length ≤ 20 ∧ m.wins.length ≤ 25) = z := ⟨_, rfl⟩
  rw [hzf]
  have HZF := Lib.hid hzf
  clear hzf
  rintro e w2 ⟨rfl, hO⟩
  clear c0 c1 c2 c3 c4 c5 c6 c7 c8 c9 c10 hml
  cases zf
  · go_wp2
    go_ret
    exact ⟨rfl, hO.bel⟩
  by_cases h8 : 8 < data.size
  · have h8' : (8 : Int) < data.size := by omega
    go_wp2
    all_goals first | (exfalso; omega) | (go_ret; exact ⟨rfl, hO.bel⟩)
  have h8' : (data.size : Int) ≤ 8 := by omega
  have hfew : m.masters.length ≤ 10 ∧ m.msgs.length ≤ 20 ∧ m.wins.length ≤ 25 := by simpa using HZF.out
  clear HZF
  obtain ⟨c0, c1, c2, c3, c4, c5, c6, c7, c8, c9, c10⟩ := boxM_c hO.get0
  have hml := lt_of_heap hO.get0
  go_wp2_with fail
  all_goals try (exfalso; omega)
  refine (r_check (RM.out.keep hO.bel)).mono ?_
  rintro e w3 ⟨i0, e0, rfl, hB3, hF⟩
  replace hO := hO.keep hB3
  clear c0 c1 c2 c3 c4 c5 c6 c7 c8 c9 c10 hml hB3
  by_cases he : e0 = 0
  rotate_left
  · have he1 : (e0 == 0) = false := by simpa using he
    have he2 : (e0 != 0) = true := by simpa using he
    clear hF
    go_wp2
    go_ret
    exact ⟨rfl, hO.bel⟩
  subst he
  obtain ⟨hisb, hfree⟩ := hF rfl
  have hbd := bds_of hisb
  have d1 := hbd.l1
  have b3 := hbd.cycles
  have b8 := hbd.ref
  have hrp := (ok_pos RM.out.ok).1
  obtain ⟨r, hr⟩ : ∃ r, rank % (m.masters.length : Int) = r := ⟨_, rfl⟩
  obtain ⟨c, hc⟩ : ∃ c, cycle % m.cycles = c := ⟨_, rfl⟩
  have hrb : 0 ≤ r ∧ r < (m.masters.length : Int) := by rw [← hr]; exact ⟨Int.emod_nonneg _ (by omega), Int.emod_lt_of_pos _ (by omega)⟩
  have hcb : 0 ≤ c ∧ c < m.cycles := by rw [← hc]; exact ⟨Int.emod_nonneg _ (by omega), Int.emod_lt_of_pos _ (by omega)⟩
  have hbe := build_of hisb RM.out.ok glob disc hrb hcb
  have hpe := parse_build (d := disc) hisb RM.out.ok hrb hcb hglob
  have hfi := find_none hisb hfree (s := strOfNums (beatD m c glob disc)) hrb
  have hsz : (strOfNums (beatD m c glob disc)).size ≤ 4 := by
    rw [strOfNums_size]
    unfold beatD
    split <;> simp
  rw [hbe] at hpe
  simp only at hpe
  obtain ⟨sd, hsd⟩ : ∃ s, strOfNums (beatD m c glob disc) = s := ⟨_, rfl⟩
  rw [hsd] at hbe hpe hfi hsz
  have HBE := Lib.hid hbe
  have HPE := Lib.hid hpe
  have HFI := Lib.hid hfi
  have HIS := Lib.hid hisb
  have HFR := Lib.hid hfree
  have hrm : rank.tmod (m.masters.length : Int) = r := by rw [Int.tmod_eq_emod_of_nonneg hrank.1, hr]
  have hcm : cycle.tmod m.cycles = c := by rw [Int.tmod_eq_emod_of_nonneg hcycle.1, hc]
  have HSZ := Lib.hid hsz
  have hri : I64 r := i64_b (by omega)
  have hci : I64 c := i64_b (by omega)
  have HRI := Lib.hid hri
  have HCI := Lib.hid hci
  have HU := Lib.hid (show U32 (m.ref + r) from u32_b (by omega))
  clear hbe hpe hfi hisb hfree hF hbd hsd hsz hri hci
  go_wp2_with fail
  have hw1 : IntKind.i64.wrap rank = rank := by simp [IntKind.wrap, IntKind.signed, IntKind.bits]; omega
  have hw2 : IntKind.i64.wrap cycle = cycle := by simp [IntKind.wrap, IntKind.signed, IntKind.bits]; omega
  have hw3 : IntKind.i64.wrap r = r := by simp [IntKind.wrap, IntKind.signed, IntKind.bits]; omega
  have hw4 : IntKind.i64.wrap c = c := by simp [IntKind.wrap, IntKind.signed, IntKind.bits]; omega
  have hn1 : ((m.masters.length : Int) == 0) = false := by rw [beq_eq_false_iff_ne]; omega
  have hn2 : (m.cycles == 0) = false := by rw [beq_eq_false_iff_ne]; omega
  have hn3 : ¬ m.masters = [] := by intro h; rw [h] at d1; simp at d1
  have hn4 : ¬ m.cycles = 0 := by omega
  refine wp_region_held_drew (S := fun w' => Own w.heap.size w [(w.heap.size, boxM m (.slice a1 m.masters.length p1) (.slice a2 m.msgs.length p2) (.slice a3 m.wins.length p3))] w') (by kernel_rfl) hO.drew (fun hHeld => ?_)
  clear hO
  refine take_op 0 rfl (by kernel_rfl) (by kernel_rfl) (by kernel_rfl) (fun _ _ _ h => h) (by rfl) (by (intro w hSw; (try dsimp only at hSw); go_simp; (try with_reducible rfl))) (by assumption) ?_
  simp only [Act.put, List.setIfInBounds_toArray, List.set_cons_zero, List.set_cons_succ]
  refine take_op 1 rfl (by kernel_rfl) (by kernel_rfl) (by kernel_rfl) (fun _ _ _ h => h) (by rfl) (by (intro w hSw; (try dsimp only at hSw); go_simp; (try with_reducible rfl))) (by assumption) ?_
  simp only [Act.put, List.setIfInBounds_toArray, List.set_cons_zero, List.set_cons_succ]
  refine take_op 2 rfl (by kernel_rfl) (by kernel_rfl) (by kernel_rfl) (fun _ _ _ h => h) (by rfl) (by (intro w hSw; (try dsimp only at hSw); go_simp; (try with_reducible rfl))) (by assumption) ?_
  simp only [Act.put, List.setIfInBounds_toArray, List.set_cons_zero, List.set_cons_succ]
  refine take_op 3 rfl (by kernel_rfl) (by kernel_rfl) (by kernel_rfl) (fun _ _ _ h => h) (by rfl) (by (intro wz hSw; (obtain ⟨c0, c1, c2, c3, c4, c5, c6, c7, c8, c9, c10⟩ := boxM_c hSw.get0); go_simp; (try with_reducible rfl))) (by assumption) ?_
  simp only [Act.put, List.setIfInBounds_toArray, List.set_cons_zero, List.set_cons_succ]
  refine take_op 4 rfl (by kernel_rfl) (by kernel_rfl) (by kernel_rfl) (fun _ _ _ h => h) (by rfl) (by (intro w hSw; (try dsimp only at hSw); go_simp; (try with_reducible rfl))) (by assumption) ?_
  simp only [Act.put, List.setIfInBounds_toArray, List.set_cons_zero, List.set_cons_succ]
  refine take_op 5 rfl (by kernel_rfl) (by kernel_rfl) (by kernel_rfl) (fun _ _ _ h => h) (by rfl) (by (intro w hSw; (try dsimp only at hSw); go_simp; (try with_reducible rfl))) (by assumption) ?_
  simp only [Act.put, List.setIfInBounds_toArray, List.set_cons_zero, List.set_cons_succ]
  refine take_op 6 rfl (by kernel_rfl) (by kernel_rfl) (by kernel_rfl) (fun _ _ _ h => h) (by rfl) (by (intro w hSw; (try dsimp only at hSw); go_simp; (try with_reducible rfl))) (by assumption) ?_
  simp only [Act.put, List.setIfInBounds_toArray, List.set_cons_zero, List.set_cons_succ]
  refine take_op 7 rfl (by kernel_rfl) (by kernel_rfl) (by kernel_rfl) (fun _ _ _ h => h) (by rfl) (by (intro w hSw; (try dsimp only at hSw); go_simp; (try with_reducible rfl))) (by assumption) ?_
  simp only [Act.put, List.setIfInBounds_toArray, List.set_cons_zero, List.set_cons_succ]
  refine take_op 8 rfl (by kernel_rfl) (by kernel_rfl) (by kernel_rfl) (fun _ _ _ h => h) (by rfl) (by (intro w hSw; (try dsimp only at hSw); go_simp; (try with_reducible rfl))) (by assumption) ?_
  simp only [Act.put, List.setIfInBounds_toArray, List.set_cons_zero, List.set_cons_succ]
  refine take_op 9 rfl (by kernel_rfl) (by kernel_rfl) (by kernel_rfl) (fun _ _ _ h => h) (by rfl) (by (intro wz hSw; (obtain ⟨c0, c1, c2, c3, c4, c5, c6, c7, c8, c9, c10⟩ := boxM_c hSw.get0); go_simp; (try with_reducible rfl))) (by assumption) ?_
  simp only [Act.put, List.setIfInBounds_toArray, List.set_cons_zero, List.set_cons_succ]
  refine take_op 10 rfl (by kernel_rfl) (by kernel_rfl) (by kernel_rfl) (fun _ _ _ h => h) (by rfl) (by (intro w hSw; (try dsimp only at hSw); go_simp; (try with_reducible rfl))) (by assumption) ?_
  simp only [Act.put, List.setIfInBounds_toArray, List.set_cons_zero, List.set_cons_succ]
  refine take_op 11 rfl (by kernel_rfl) (by kernel_rfl) (by kernel_rfl) (fun _ _ _ h => h) (by rfl) (by (intro w hSw; (try dsimp only at hSw); go_simp; (try with_reducible rfl))) (by assumption) ?_
  simp only [Act.put, List.setIfInBounds_toArray, List.set_cons_zero, List.set_cons_succ]
  refine take_op 12 rfl (by kernel_rfl) (by kernel_rfl) (by kernel_rfl) (fun _ _ _ h => h) (by rfl) (by (intro w hSw; (try dsimp only at hSw); go_simp; (try with_reducible rfl))) (by assumption) ?_
  simp only [Act.put, List.setIfInBounds_toArray, List.set_cons_zero, List.set_cons_succ]
  refine wpAnyH_done (by kernel_rfl) ?_ _
  clear hw1 hw2 hw3 hw4 hn1 hn2 hn3 hn4
  refine world_outB hHeld ?_
  clear hHeld
  intro w4 hO
  obtain ⟨c0, c1, c2, c3, c4, c5, c6, c7, c8, c9, c10⟩ := boxM_c hO.get0
  have hml := lt_of_heap hO.get0
  go_wp2_with fail
  refine (own_below hO (rm_build (RM.out.keep hO.bel) r c glob HRI.out HCI.out hglob disc)).mono ?_
  rw [HBE.out]
  rintro e w5 ⟨rfl, hO⟩
  simp only [frV]
  clear c0 c1 c2 c3 c4 c5 c6 c7 c8 c9 c10 hml
  obtain ⟨c0, c1, c2, c3, c4, c5, c6, c7, c8, c9, c10⟩ := boxM_c hO.get0
  have hml := lt_of_heap hO.get0
  have hO5 := hO.alloc (boxF ⟨false, m.ref + r, false, sd⟩)
  clear hO
  go_wp2_with fail
  refine (own_below hO5 (rm_parse (RM.out.keep hO5.bel) (by omega) ⟨false, m.ref + r, false, sd⟩ HU.out (by unfold maxLen; simp only; have := HSZ.out; omega))).mono ?_
  rw [HPE.out]
  rintro e w6 ⟨rfl, hO⟩
  clear c0 c1 c2 c3 c4 c5 c6 c7 c8 c9 c10 hml hO5
  obtain ⟨c0, c1, c2, c3, c4, c5, c6, c7, c8, c9, c10⟩ := boxM_c hO.get1
  have hml := lt_of_heap hO.get1
  obtain ⟨f0, f1, f2, f3⟩ := boxF_c hO.get0
  have hfl := lt_of_heap hO.get0
  simp only at f0 f1 f2 f3
  by_cases hl : m.level = 2
  · have hl1 : (m.level == 2) = true := by simpa using hl
    have HW := Lib.hid (show wantB m r c glob disc = ⟨r, c, glob, disc⟩ by unfold wantB; rw [if_pos hl])
    rw [HW.out]
    simp only [btV]
    have hO7 := (hO.alloc (boxB ⟨r, c, glob, disc⟩)).alloc (boxB ⟨r, c, glob, disc⟩)
    rw [show (w6.alloc (boxB ⟨r, c, glob, disc⟩)).heap.size = w6.heap.size + 1 by simp] at hO7
    clear hO hl
    go_wp2_with fail
    refine (own_below hO7 (mat_find (RM.out.keep hO7.bel) ⟨false, m.ref + r, false, sd⟩)).mono ?_
    rw [HFI.out]
    rintro e w7 ⟨rfl, hO⟩
    clear hO7 c0 c1 c2 c3 c4 c5 c6 c7 c8 c9 c10 hml f0 f1 f2 f3 hfl
    replace hO := hO.drop.drop.drop
    obtain ⟨c0, c1, c2, c3, c4, c5, c6, c7, c8, c9, c10⟩ := boxM_c hO.get0
    have hml := lt_of_heap hO.get0
    by_cases hm0 : m.msgs = []
    · go_wp2
      go_ret
      exact ⟨rfl, hO.bel⟩
    have hmp : 0 < m.msgs.length := by
      rcases Nat.eq_zero_or_pos m.msgs.length with h | h
      · exact absurd (List.eq_nil_of_length_eq_zero h) hm0
      · exact h
    obtain ⟨k, hk⟩ : ∃ k, msg % (m.msgs.length : Int) = k := ⟨_, rfl⟩
    have hkb : 0 ≤ k ∧ k < (m.msgs.length : Int) := by rw [← hk]; exact ⟨Int.emod_nonneg _ (by omega), Int.emod_lt_of_pos _ (by omega)⟩
    have hkm : msg.tmod (m.msgs.length : Int) = k := by rw [Int.tmod_eq_emod_of_nonneg hmsg.1, hk]
    have HKI := Lib.hid (show I64 k from i64_b (by omega))
    go_wp2_with fail
    have hw1 : IntKind.i64.wrap msg = msg := by simp [IntKind.wrap, IntKind.signed, IntKind.bits]; omega
    have hw3 : IntKind.i64.wrap k = k := by simp [IntKind.wrap, IntKind.signed, IntKind.bits]; omega
    clear c0 c1 c2 c3 c4 c5 c6 c7 c8 c9 c10 hml
    refine wp_region_held_drew (S := fun w' => Own w.heap.size w [(w.heap.size, boxM m (.slice a1 m.masters.length p1) (.slice a2 m.msgs.length p2) (.slice a3 m.wins.length p3))] w') (by kernel_rfl) hO.drew (fun hHeld => ?_)
    clear hO
    refine take_op 0 rfl (by kernel_rfl) (by kernel_rfl) (by kernel_rfl) (fun _ _ _ h => h) (by rfl) (by (intro wz hSw; (obtain ⟨c0, c1, c2, c3, c4, c5, c6, c7, c8, c9, c10⟩ := boxM_c hSw.get0); go_simp; (try with_reducible rfl))) (by assumption) ?_
    simp only [Act.put, List.setIfInBounds_toArray, List.set_cons_zero, List.set_cons_succ]
    refine take_op 1 rfl (by kernel_rfl) (by kernel_rfl) (by kernel_rfl) (fun _ _ _ h => h) (by rfl) (by (intro w hSw; (try dsimp only at hSw); go_simp; (try with_reducible rfl))) (by assumption) ?_
    simp only [Act.put, List.setIfInBounds_toArray, List.set_cons_zero, List.set_cons_succ]
    refine take_op 2 rfl (by kernel_rfl) (by kernel_rfl) (by kernel_rfl) (fun _ _ _ h => h) (by rfl) (by (intro w hSw; (try dsimp only at hSw); go_simp; (try with_reducible rfl))) (by assumption) ?_
    simp only [Act.put, List.setIfInBounds_toArray, List.set_cons_zero, List.set_cons_succ]
    refine take_op 3 rfl (by kernel_rfl) (by kernel_rfl) (by kernel_rfl) (fun _ _ _ h => h) (by rfl) (by (intro w hSw; (try dsimp only at hSw); go_simp; (try with_reducible rfl))) (by assumption) ?_
    simp only [Act.put, List.setIfInBounds_toArray, List.set_cons_zero, List.set_cons_succ]
    refine take_op 4 rfl (by kernel_rfl) (by kernel_rfl) (by kernel_rfl) (fun _ _ _ h => h) (by rfl) (by (intro wz hSw; (obtain ⟨c0, c1, c2, c3, c4, c5, c6, c7, c8, c9, c10⟩ := boxM_c hSw.get0); go_simp; (try with_reducible rfl))) (by assumption) ?_
    simp only [Act.put, List.setIfInBounds_toArray, List.set_cons_zero, List.set_cons_succ]
    refine take_op 5 rfl (by kernel_rfl) (by kernel_rfl) (by kernel_rfl) (fun _ _ _ h => h) (by rfl) (by (intro w hSw; (try dsimp only at hSw); go_simp; (try with_reducible rfl))) (by assumption) ?_
    simp only [Act.put, List.setIfInBounds_toArray, List.set_cons_zero, List.set_cons_succ]
    refine take_op 6 rfl (by kernel_rfl) (by kernel_rfl) (by kernel_rfl) (fun _ _ _ h => h) (by rfl) (by (intro w hSw; (try dsimp only at hSw); go_simp; (try with_reducible rfl))) (by assumption) ?_
    simp only [Act.put, List.setIfInBounds_toArray, List.set_cons_zero, List.set_cons_succ]
    refine take_op 7 rfl (by kernel_rfl) (by kernel_rfl) (by kernel_rfl) (fun _ _ _ h => h) (by rfl) (by (intro w hSw; (try dsimp only at hSw); go_simp; (try with_reducible rfl))) (by assumption) ?_
    simp only [Act.put, List.setIfInBounds_toArray, List.set_cons_zero, List.set_cons_succ]
    clear hw1 hw3
    obtain ⟨⟨ge, gi, gr, gd⟩, hgf⟩ : ∃ x, (frameE m k data).1 = x := ⟨_, rfl⟩
    have hno := frame_msg HIS.out HFR.out k data
    have HGU := Lib.hid (show U32 gi ∧ gd.size ≤ maxLen from frame_fits RM.out.ok hgf (by unfold maxLen; omega))
    rw [hgf] at hno
    have HGF := Lib.hid hgf
    have HNO := Lib.hid hno
    clear hgf hno
    refine at_op2' 8 12 rfl rfl (by kernel_rfl) (by rfl) (by rfl) (fun K hK => ?_) (fun K hK => ?_)
    · go_simp
      refine (own_below hHeld (mat_frame (RM.out.keep hHeld.bel) k HKI.out data HDA.out)).mono ?_
      rw [HGF.out]
      rintro e w8 ⟨rfl, hO⟩
      simp only [frV]
      refine hK.out _ _ ?_ (fun hHeld => ?_)
      · exact hO
      clear hK K
      try simp only [Act.put, List.setIfInBounds_toArray, List.set_cons_zero, List.set_cons_succ]
      refine take_op 9 rfl (by kernel_rfl) (by kernel_rfl) (by kernel_rfl) (fun _ _ _ h => h) (by rfl) (by (intro w hSw; (try dsimp only at hSw); go_simp; (try with_reducible rfl))) (by assumption) ?_
      simp only [Act.put, List.setIfInBounds_toArray, List.set_cons_zero, List.set_cons_succ]
      refine take_op 10 rfl (by kernel_rfl) (by kernel_rfl) (by kernel_rfl) (fun _ _ _ h => h) (by rfl) (by (intro w hSw; (try dsimp only at hSw); go_simp; (try with_reducible rfl))) (by assumption) ?_
      simp only [Act.put, List.setIfInBounds_toArray, List.set_cons_zero, List.set_cons_succ]
      refine take_op 11 rfl (by kernel_rfl) (by kernel_rfl) (by kernel_rfl) (fun _ _ _ h => h) (by rfl) (by (intro w hSw; (try dsimp only at hSw); go_simp; (try with_reducible rfl))) (by assumption) ?_
      simp only [Act.put, List.setIfInBounds_toArray, List.set_cons_zero, List.set_cons_succ]
      refine at_op 12 rfl (by kernel_rfl) (by rfl) (fun K hK => ?_)
      go_simp
      have hA := hHeld.alloc (boxF noF)
      refine hK.out _ _ ?_ (fun hHeld => ?_)
      · exact hHeld.alloc_ (boxF noF)
      clear hK K
      try simp only [Act.put, List.setIfInBounds_toArray, List.set_cons_zero, List.set_cons_succ]
      obtain ⟨z0, z1, z2, z3⟩ := boxF_c hA.get0
      have zf0 := free_of hA.get0 0
      have zf1 := free_of hA.get0 1
      have zf2 := free_of hA.get0 2
      have zf3 := free_of hA.get0 3
      have zl := lt_of_heap hA.get0
      refine at_op 13 rfl (by kernel_rfl) (by rfl) (fun K hK => ?_)
      go_simp
      refine hK.out _ _ ?_ (fun hHeld => ?_)
      · exact hO.alloc_ (boxF ⟨ge, gi, gr, gd⟩)
      clear hK K
      try simp only [Act.put, List.setIfInBounds_toArray, List.set_cons_zero, List.set_cons_succ]
      refine take_op 14 rfl (by kernel_rfl) (by kernel_rfl) (by kernel_rfl) (fun _ _ _ h => h) (by rfl) (by (intro w hSw; (try dsimp only at hSw); go_simp; (try with_reducible rfl))) (by assumption) ?_
      simp only [Act.put, List.setIfInBounds_toArray, List.set_cons_zero, List.set_cons_succ]
      refine wpAnyH_done (by kernel_rfl) ?_ _
      clear hHeld hA z0 z1 z2 z3 zf0 zf1 zf2 zf3 zl
      refine world_outB (hO.alloc (boxF ⟨ge, gi, gr, gd⟩)) ?_
      obtain ⟨bn, hbn⟩ : ∃ b, w8.heap.size = b := ⟨_, rfl⟩
      rw [hbn]
      clear hO
      intro w9 hO
      obtain ⟨c0, c1, c2, c3, c4, c5, c6, c7, c8, c9, c10⟩ := boxM_c hO.get1
      have hml := lt_of_heap hO.get1
      obtain ⟨f0, f1, f2, f3⟩ := boxF_c hO.get0
      have hfl := lt_of_heap hO.get0
      simp only at f0 f1 f2 f3
      go_wp2_with fail
      refine (own_below hO (rm_parse (RM.out.keep hO.bel) (by omega) ⟨ge, gi, gr, gd⟩ HGU.out.1 HGU.out.2)).mono ?_
      rw [HNO.out]
      obtain ⟨⟨q1, q2, q3, q4⟩, hq⟩ : ∃ x, (parseE m ⟨ge, gi, gr, gd⟩).1 = x := ⟨_, rfl⟩
      rw [hq]
      clear hq
      simp only [btV]
      rintro e w9 ⟨rfl, hO⟩
      go_wp2
      go_ret
      exact ⟨rfl, (hO.alloc_ (boxB ⟨q1, q2, q3, q4⟩)).bel⟩
    · go_simp
      have hA : Own w.heap.size w [(w7.heap.size, boxF noF), (w.heap.size, boxM m (.slice a1 m.masters.length p1) (.slice a2 m.msgs.length p2) (.slice a3 m.wins.length p3))] _ := hHeld.alloc (boxF noF)
      refine hK.out _ _ ?_ (fun hHeld => ?_)
      · exact hHeld.alloc_ (boxF noF)
      clear hK K
      try simp only [Act.put, List.setIfInBounds_toArray, List.set_cons_zero, List.set_cons_succ]
      clear hHeld
      refine at_op 8 rfl (by kernel_rfl) (by rfl) (fun K hK => ?_)
      go_simp
      refine (own_below hA (mat_frame (RM.out.keep hA.bel) k HKI.out data HDA.out)).mono ?_
      rw [HGF.out]
      rintro e w8 ⟨rfl, hO⟩
      simp only [frV]
      refine hK.out _ _ ?_ (fun hHeld => ?_)
      · exact hO.drop
      clear hK K
      try simp only [Act.put, List.setIfInBounds_toArray, List.set_cons_zero, List.set_cons_succ]
      clear hA
      refine take_op 9 rfl (by kernel_rfl) (by kernel_rfl) (by kernel_rfl) (fun _ _ _ h => h) (by rfl) (by (intro w hSw; (try dsimp only at hSw); go_simp; (try with_reducible rfl))) (by assumption) ?_
      simp only [Act.put, List.setIfInBounds_toArray, List.set_cons_zero, List.set_cons_succ]
      refine take_op 10 rfl (by kernel_rfl) (by kernel_rfl) (by kernel_rfl) (fun _ _ _ h => h) (by rfl) (by (intro w hSw; (try dsimp only at hSw); go_simp; (try with_reducible rfl))) (by assumption) ?_
      simp only [Act.put, List.setIfInBounds_toArray, List.set_cons_zero, List.set_cons_succ]
      refine take_op 11 rfl (by kernel_rfl) (by kernel_rfl) (by kernel_rfl) (fun _ _ _ h => h) (by rfl) (by (intro w hSw; (try dsimp only at hSw); go_simp; (try with_reducible rfl))) (by assumption) ?_
      simp only [Act.put, List.setIfInBounds_toArray, List.set_cons_zero, List.set_cons_succ]
      obtain ⟨z0, z1, z2, z3⟩ := boxF_c hO.get0
      have zf0 := free_of hO.get0 0
      have zf1 := free_of hO.get0 1
      have zf2 := free_of hO.get0 2
      have zf3 := free_of hO.get0 3
      have zl := lt_of_heap hO.get0
      have hOF := hO.upd0 (fr_set hO.get0 ⟨ge, gi, gr, gd⟩)
      refine at_op 13 rfl (by kernel_rfl) (by rfl) (fun K hK => ?_)
      go_simp
      refine hK.out _ _ ?_ (fun hHeld => ?_)
      · exact hOF.drop
      clear hK K
      try simp only [Act.put, List.setIfInBounds_toArray, List.set_cons_zero, List.set_cons_succ]
      refine take_op 14 rfl (by kernel_rfl) (by kernel_rfl) (by kernel_rfl) (fun _ _ _ h => h) (by rfl) (by (intro w hSw; (try dsimp only at hSw); go_simp; (try with_reducible rfl))) (by assumption) ?_
      simp only [Act.put, List.setIfInBounds_toArray, List.set_cons_zero, List.set_cons_succ]
      refine wpAnyH_done (by kernel_rfl) ?_ _
      clear hHeld hO z0 z1 z2 z3 zf0 zf1 zf2 zf3 zl
      refine world_outB hOF ?_
      clear hOF
      intro w9 hO
      obtain ⟨c0, c1, c2, c3, c4, c5, c6, c7, c8, c9, c10⟩ := boxM_c hO.get1
      have hml := lt_of_heap hO.get1
      obtain ⟨f0, f1, f2, f3⟩ := boxF_c hO.get0
      have hfl := lt_of_heap hO.get0
      simp only at f0 f1 f2 f3
      go_wp2_with fail
      refine (own_below hO (rm_parse (RM.out.keep hO.bel) (by omega) ⟨ge, gi, gr, gd⟩ HGU.out.1 HGU.out.2)).mono ?_
      rw [HNO.out]
      obtain ⟨⟨q1, q2, q3, q4⟩, hq⟩ : ∃ x, (parseE m ⟨ge, gi, gr, gd⟩).1 = x := ⟨_, rfl⟩
      rw [hq]
      clear hq
      simp only [btV]
      rintro e w9 ⟨rfl, hO⟩
      go_wp2
      go_ret
      exact ⟨rfl, (hO.alloc_ (boxB ⟨q1, q2, q3, q4⟩)).bel⟩
  · have hl1 : (m.level == 2) = false := by simpa using hl
    have HW := Lib.hid (show wantB m r c glob disc = ⟨r, c, 0, false⟩ by unfold wantB; rw [if_neg hl])
    rw [HW.out]
    simp only [btV]
    have hO7 := (hO.alloc (boxB ⟨r, c, 0, false⟩)).alloc (boxB ⟨r, c, 0, false⟩)
    rw [show (w6.alloc (boxB ⟨r, c, 0, false⟩)).heap.size = w6.heap.size + 1 by simp] at hO7
    clear hO hl
    go_wp2_with fail
    refine (own_below hO7 (mat_find (RM.out.keep hO7.bel) ⟨false, m.ref + r, false, sd⟩)).mono ?_
    rw [HFI.out]
    rintro e w7 ⟨rfl, hO⟩
    clear hO7 c0 c1 c2 c3 c4 c5 c6 c7 c8 c9 c10 hml f0 f1 f2 f3 hfl
    replace hO := hO.drop.drop.drop
    obtain ⟨c0, c1, c2, c3, c4, c5, c6, c7, c8, c9, c10⟩ := boxM_c hO.get0
    have hml := lt_of_heap hO.get0
    by_cases hm0 : m.msgs = []
    · go_wp2
      go_ret
      exact ⟨rfl, hO.bel⟩
    have hmp : 0 < m.msgs.length := by
      rcases Nat.eq_zero_or_pos m.msgs.length with h | h
      · exact absurd (List.eq_nil_of_length_eq_zero h) hm0
      · exact h
    obtain ⟨k, hk⟩ : ∃ k, msg % (m.msgs.length : Int) = k := ⟨_, rfl⟩
    have hkb : 0 ≤ k ∧ k < (m.msgs.length : Int) := by rw [← hk]; exact ⟨Int.emod_nonneg _ (by omega), Int.emod_lt_of_pos _ (by omega)⟩
    have hkm : msg.tmod (m.msgs.length : Int) = k := by rw [Int.tmod_eq_emod_of_nonneg hmsg.1, hk]
    have HKI := Lib.hid (show I64 k from i64_b (by omega))
    go_wp2_with fail
    have hw1 : IntKind.i64.wrap msg = msg := by simp [IntKind.wrap, IntKind.signed, IntKind.bits]; omega
    have hw3 : IntKind.i64.wrap k = k := by simp [IntKind.wrap, IntKind.signed, IntKind.bits]; omega
    clear c0 c1 c2 c3 c4 c5 c6 c7 c8 c9 c10 hml
    refine wp_region_held_drew (S := fun w' => Own w.heap.size w [(w.heap.size, boxM m (.slice a1 m.masters.length p1) (.slice a2 m.msgs.length p2) (.slice a3 m.wins.length p3))] w') (by kernel_rfl) hO.drew (fun hHeld => ?_)
    clear hO
    refine take_op 0 rfl (by kernel_rfl) (by kernel_rfl) (by kernel_rfl) (fun _ _ _ h => h) (by rfl) (by (intro wz hSw; (obtain ⟨c0, c1, c2, c3, c4, c5, c6, c7, c8, c9, c10⟩ := boxM_c hSw.get0); go_simp; (try with_reducible rfl))) (by assumption) ?_
    simp only [Act.put, List.setIfInBounds_toArray, List.set_cons_zero, List.set_cons_succ]
    refine take_op 1 rfl (by kernel_rfl) (by kernel_rfl) (by kernel_rfl) (fun _ _ _ h => h) (by rfl) (by (intro w hSw; (try dsimp only at hSw); go_simp; (try with_reducible rfl))) (by assumption) ?_
    simp only [Act.put, List.setIfInBounds_toArray, List.set_cons_zero, List.set_cons_succ]
    refine take_op 2 rfl (by kernel_rfl) (by kernel_rfl) (by kernel_rfl) (fun _ _ _ h => h) (by rfl) (by (intro w hSw; (try dsimp only at hSw); go_simp; (try with_reducible rfl))) (by assumption) ?_
    simp only [Act.put, List.setIfInBounds_toArray, List.set_cons_zero, List.set_cons_succ]
    refine take_op 3 rfl (by kernel_rfl) (by kernel_rfl) (by kernel_rfl) (fun _ _ _ h => h) (by rfl) (by (intro w hSw; (try dsimp only at hSw); go_simp; (try with_reducible rfl))) (by assumption) ?_
    simp only [Act.put, List.setIfInBounds_toArray, List.set_cons_zero, List.set_cons_succ]
    refine take_op 4 rfl (by kernel_rfl) (by kernel_rfl) (by kernel_rfl) (fun _ _ _ h => h) (by rfl) (by (intro wz hSw; (obtain ⟨c0, c1, c2, c3, c4, c5, c6, c7, c8, c9, c10⟩ := boxM_c hSw.get0); go_simp; (try with_reducible rfl))) (by assumption) ?_
    simp only [Act.put, List.setIfInBounds_toArray, List.set_cons_zero, List.set_cons_succ]
    refine take_op 5 rfl (by kernel_rfl) (by kernel_rfl) (by kernel_rfl) (fun _ _ _ h => h) (by rfl) (by (intro w hSw; (try dsimp only at hSw); go_simp; (try with_reducible rfl))) (by assumption) ?_
    simp only [Act.put, List.setIfInBounds_toArray, List.set_cons_zero, List.set_cons_succ]
    refine take_op 6 rfl (by kernel_rfl) (by kernel_rfl) (by kernel_rfl) (fun _ _ _ h => h) (by rfl) (by (intro w hSw; (try dsimp only at hSw); go_simp; (try with_reducible rfl))) (by assumption) ?_
    simp only [Act.put, List.setIfInBounds_toArray, List.set_cons_zero, List.set_cons_succ]
    refine take_op 7 rfl (by kernel_rfl) (by kernel_rfl) (by kernel_rfl) (fun _ _ _ h => h) (by rfl) (by (intro w hSw; (try dsimp only at hSw); go_simp; (try with_reducible rfl))) (by assumption) ?_
    simp only [Act.put, List.setIfInBounds_toArray, List.set_cons_zero, List.set_cons_succ]
    clear hw1 hw3
    obtain ⟨⟨ge, gi, gr, gd⟩, hgf⟩ : ∃ x, (frameE m k data).1 = x := ⟨_, rfl⟩
    have hno := frame_msg HIS.out HFR.out k data
    have HGU := Lib.hid (show U32 gi ∧ gd.size ≤ maxLen from frame_fits RM.out.ok hgf (by unfold maxLen; omega))
    rw [hgf] at hno
    have HGF := Lib.hid hgf
    have HNO := Lib.hid hno
    clear hgf hno
    refine at_op2' 8 12 rfl rfl (by kernel_rfl) (by rfl) (by rfl) (fun K hK => ?_) (fun K hK => ?_)
    · go_simp
      refine (own_below hHeld (mat_frame (RM.out.keep hHeld.bel) k HKI.out data HDA.out)).mono ?_
      rw [HGF.out]
      rintro e w8 ⟨rfl, hO⟩
      simp only [frV]
      refine hK.out _ _ ?_ (fun hHeld => ?_)
      · exact hO
      clear hK K
      try simp only [Act.put, List.setIfInBounds_toArray, List.set_cons_zero, List.set_cons_succ]
      refine take_op 9 rfl (by kernel_rfl) (by kernel_rfl) (by kernel_rfl) (fun _ _ _ h => h) (by rfl) (by (intro w hSw; (try dsimp only at hSw); go_simp; (try with_reducible rfl))) (by assumption) ?_
      simp only [Act.put, List.setIfInBounds_toArray, List.set_cons_zero, List.set_cons_succ]
      refine take_op 10 rfl (by kernel_rfl) (by kernel_rfl) (by kernel_rfl) (fun _ _ _ h => h) (by rfl) (by (intro w hSw; (try dsimp only at hSw); go_simp; (try with_reducible rfl))) (by assumption) ?_
      simp only [Act.put, List.setIfInBounds_toArray, List.set_cons_zero, List.set_cons_succ]
      refine take_op 11 rfl (by kernel_rfl) (by kernel_rfl) (by kernel_rfl) (fun _ _ _ h => h) (by rfl) (by (intro w hSw; (try dsimp only at hSw); go_simp; (try with_reducible rfl))) (by assumption) ?_
      simp only [Act.put, List.setIfInBounds_toArray, List.set_cons_zero, List.set_cons_succ]
      refine at_op 12 rfl (by kernel_rfl) (by rfl) (fun K hK => ?_)
      go_simp
      have hA := hHeld.alloc (boxF noF)
      refine hK.out _ _ ?_ (fun hHeld => ?_)
      · exact hHeld.alloc_ (boxF noF)
      clear hK K
      try simp only [Act.put, List.setIfInBounds_toArray, List.set_cons_zero, List.set_cons_succ]
      obtain ⟨z0, z1, z2, z3⟩ := boxF_c hA.get0
      have zf0 := free_of hA.get0 0
      have zf1 := free_of hA.get0 1
      have zf2 := free_of hA.get0 2
      have zf3 := free_of hA.get0 3
      have zl := lt_of_heap hA.get0
      refine at_op 13 rfl (by kernel_rfl) (by rfl) (fun K hK => ?_)
      go_simp
      refine hK.out _ _ ?_ (fun hHeld => ?_)
      · exact hO.alloc_ (boxF ⟨ge, gi, gr, gd⟩)
      clear hK K
      try simp only [Act.put, List.setIfInBounds_toArray, List.set_cons_zero, List.set_cons_succ]
      refine take_op 14 rfl (by kernel_rfl) (by kernel_rfl) (by kernel_rfl) (fun _ _ _ h => h) (by rfl) (by (intro w hSw; (try dsimp only at hSw); go_simp; (try with_reducible rfl))) (by assumption) ?_
      simp only [Act.put, List.setIfInBounds_toArray, List.set_cons_zero, List.set_cons_succ]
      refine wpAnyH_done (by kernel_rfl) ?_ _
      clear hHeld hA z0 z1 z2 z3 zf0 zf1 zf2 zf3 zl
      refine world_outB (hO.alloc (boxF ⟨ge, gi, gr, gd⟩)) ?_
      obtain ⟨bn, hbn⟩ : ∃ b, w8.heap.size = b := ⟨_, rfl⟩
      rw [hbn]
      clear hO
      intro w9 hO
      obtain ⟨c0, c1, c2, c3, c4, c5, c6, c7, c8, c9, c10⟩ := boxM_c hO.get1
      have hml := lt_of_heap hO.get1
      obtain ⟨f0, f1, f2, f3⟩ := boxF_c hO.get0
      have hfl := lt_of_heap hO.get0
      simp only at f0 f1 f2 f3
      go_wp2_with fail
      refine (own_below hO (rm_parse (RM.out.keep hO.bel) (by omega) ⟨ge, gi, gr, gd⟩ HGU.out.1 HGU.out.2)).mono ?_
      rw [HNO.out]
      obtain ⟨⟨q1, q2, q3, q4⟩, hq⟩ : ∃ x, (parseE m ⟨ge, gi, gr, gd⟩).1 = x := ⟨_, rfl⟩
      rw [hq]
      clear hq
      simp only [btV]
      rintro e w9 ⟨rfl, hO⟩
      go_wp2
      go_ret
      exact ⟨rfl, (hO.alloc_ (boxB ⟨q1, q2, q3, q4⟩)).bel⟩
    · go_simp
      have hA : Own w.heap.size w [(w7.heap.size, boxF noF), (w.heap.size, boxM m (.slice a1 m.masters.length p1) (.slice a2 m.msgs.length p2) (.slice a3 m.wins.length p3))] _ := hHeld.alloc (boxF noF)
      refine hK.out _ _ ?_ (fun hHeld => ?_)
      · exact hHeld.alloc_ (boxF noF)
      clear hK K
      try simp only [Act.put, List.setIfInBounds_toArray, List.set_cons_zero, List.set_cons_succ]
      clear hHeld
      refine at_op 8 rfl (by kernel_rfl) (by rfl) (fun K hK => ?_)
      go_simp
      refine (own_below hA (mat_frame (RM.out.keep hA.bel) k HKI.out data HDA.out)).mono ?_
      rw [HGF.out]
      rintro e w8 ⟨rfl, hO⟩
      simp only [frV]
      refine hK.out _ _ ?_ (fun hHeld => ?_)
      · exact hO.drop
      clear hK K
      try simp only [Act.put, List.setIfInBounds_toArray, List.set_cons_zero, List.set_cons_succ]
      clear hA
      refine take_op 9 rfl (by kernel_rfl) (by kernel_rfl) (by kernel_rfl) (fun _ _ _ h => h) (by rfl) (by (intro w hSw; (try dsimp only at hSw); go_simp; (try with_reducible rfl))) (by assumption) ?_
      simp only [Act.put, List.setIfInBounds_toArray, List.set_cons_zero, List.set_cons_succ]
      refine take_op 10 rfl (by kernel_rfl) (by kernel_rfl) (by kernel_rfl) (fun _ _ _ h => h) (by rfl) (by (intro w hSw; (try dsimp only at hSw); go_simp; (try with_reducible rfl))) (by assumption) ?_
      simp only [Act.put, List.setIfInBounds_toArray, List.set_cons_zero, List.set_cons_succ]
      refine take_op 11 rfl (by kernel_rfl) (by kernel_rfl) (by kernel_rfl) (fun _ _ _ h => h) (by rfl) (by (intro w hSw; (try dsimp only at hSw); go_simp; (try with_reducible rfl))) (by assumption) ?_
      simp only [Act.put, List.setIfInBounds_toArray, List.set_cons_zero, List.set_cons_succ]
      obtain ⟨z0, z1, z2, z3⟩ := boxF_c hO.get0
      have zf0 := free_of hO.get0 0
      have zf1 := free_of hO.get0 1
      have zf2 := free_of hO.get0 2
      have zf3 := free_of hO.get0 3
      have zl := lt_of_heap hO.get0
      have hOF := hO.upd0 (fr_set hO.get0 ⟨ge, gi, gr, gd⟩)
      refine at_op 13 rfl (by kernel_rfl) (by rfl) (fun K hK => ?_)
      go_simp
      refine hK.out _ _ ?_ (fun hHeld => ?_)
      · exact hOF.drop
      clear hK K
      try simp only [Act.put, List.setIfInBounds_toArray, List.set_cons_zero, List.set_cons_succ]
      refine take_op 14 rfl (by kernel_rfl) (by kernel_rfl) (by kernel_rfl) (fun _ _ _ h => h) (by rfl) (by (intro w hSw; (try dsimp only at hSw); go_simp; (try with_reducible rfl))) (by assumption) ?_
      simp only [Act.put, List.setIfInBounds_toArray, List.set_cons_zero, List.set_cons_succ]
      refine wpAnyH_done (by kernel_rfl) ?_ _
      clear hHeld hO z0 z1 z2 z3 zf0 zf1 zf2 zf3 zl
      refine world_outB hOF ?_
      clear hOF
      intro w9 hO
      obtain ⟨c0, c1, c2, c3, c4, c5, c6, c7, c8, c9, c10⟩ := boxM_c hO.get1
      have hml := lt_of_heap hO.get1
      obtain ⟨f0, f1, f2, f3⟩ := boxF_c hO.get0
      have hfl := lt_of_heap hO.get0
      simp only at f0 f1 f2 f3
      go_wp2_with fail
      refine (own_below hO (rm_parse (RM.out.keep hO.bel) (by omega) ⟨ge, gi, gr, gd⟩ HGU.out.1 HGU.out.2)).mono ?_
      rw [HNO.out]
      obtain ⟨⟨q1, q2, q3, q4⟩, hq⟩ : ∃ x, (parseE m ⟨ge, gi, gr, gd⟩).1 = x := ⟨_, rfl⟩
      rw [hq]
      clear hq
      simp only [btV]
      rintro e w9 ⟨rfl, hO⟩
      go_wp2
      go_ret
      exact ⟨rfl, (hO.alloc_ (boxB ⟨q1, q2, q3, q4⟩)).bel⟩
set_option maxRecDepth 100000 in
theorem RefmsgBack_walk {H : Type} {enc : TypeId × Value → H} {base : Nat} {d0 : DataW H} {p0 : List MemPlace} (v0 : Value) (b1 b2 b3 : Int) (b4 : Bool) (b5 : Int) (b6 : ByteArray) (k1 : (Lit.int .u8 b1).wf = true) (k2 : (Lit.int .u8 b2).wf = true) (k3 : (Lit.int .u16 b3).wf = true) (k5 : (Lit.int .u8 b5).wf = true) (k6 : b6.size ≤ maxLen) (W : World)
    (hv0 : Value.okWide Try.prog W .any base 27 v0) (h0 : DataW.Trod enc Try.prog W 0 (fun _ => true) true 27 v0 d0 p0) : Holds 5 #[v0, .int .u8 b1, .int .u8 b2, .int .u16 b3, .bool b4, .int .u8 b5, .string b6] W := by
  obtain ⟨a, s1, s2, s3, rfl, ra⟩ := open_mat hv0 h0
  exact RefmsgBack_core a s1 s2 s3 b1 b2 b3 b5 b4 b6 (by have := u8_bounds k1; omega) (by have := u8_bounds k2; omega) (by have := u16_bounds k3; omega) (by have := u8_bounds k5; omega) k6 W ra

set_option maxRecDepth 100000 in
theorem RefmsgBack_lifted (os : Os) (started : os.Started) (H : Type) (enc : TypeId × Value → H) :
    ReturnsInHanded {} Try.checked os 5 .any (Rows.refmsgBackSpec.pre6 enc Try.prog Try.f5 [] false) (Rows.refmsgBackSpec.post enc Try.prog Try.f5 false true false false) := by
  refine law_lifted (n := 7) os started H enc (by kernel_rfl) Try.func5 rfl rfl (hts_of (by kernel_rfl)) rfl (fun ds h => match ds, h with | [_, _, _, _, _, _, _], _ => rfl)
    (ChangeSpec.witness6 (enc := enc) (C := Try.checked) false ⟨#[], #[.agg #[.int .i64 0, .int .i64 0, .int .i64 0, .int .i64 0, .int .i64 0, .int .i64 0, .int .i64 0, .int .u32 0, .slice none 0 0, .slice none 0 0, .slice none 0 0], .int .u8 0, .int .u8 0, .int .u16 0, .bool false, .int .u8 0, .string ⟨#[]⟩], []⟩ 8 (by kernel_rfl) (by kernel_rfl) (by kernel_rfl) (by kernel_rfl)) ?_
  intro W base args ds p hval hA
  rw [Try.params5] at hA hval
  obtain ⟨v0, vs0, d0, ds0, p0, q0, hargs, rfl, rfl, h0, r0⟩ := trodAll_cons hA
  obtain ⟨v1, vs1, d1, ds1, p1, q1, rfl, rfl, rfl, h1, r1⟩ := trodAll_cons r0
  obtain ⟨v2, vs2, d2, ds2, p2, q2, rfl, rfl, rfl, h2, r2⟩ := trodAll_cons r1
  obtain ⟨v3, vs3, d3, ds3, p3, q3, rfl, rfl, rfl, h3, r3⟩ := trodAll_cons r2
  obtain ⟨v4, vs4, d4, ds4, p4, q4, rfl, rfl, rfl, h4, r4⟩ := trodAll_cons r3
  obtain ⟨v5, vs5, d5, ds5, p5, q5, rfl, rfl, rfl, h5, r5⟩ := trodAll_cons r4
  obtain ⟨v6, vs6, d6, ds6, p6, q6, rfl, rfl, rfl, h6, r6⟩ := trodAll_cons r5
  obtain ⟨rfl, rfl, rfl⟩ := trodAll_nil r6
  obtain rfl : args = #[v0, v1, v2, v3, v4, v5, v6] := by cases args; simp_all
  obtain ⟨a1, rfl, rfl, rfl, w1⟩ := open_int Try.underlying5 (hval 1 _ v1 rfl rfl) h1
  obtain ⟨a2, rfl, rfl, rfl, w2⟩ := open_int Try.underlying5 (hval 2 _ v2 rfl rfl) h2
  obtain ⟨a3, rfl, rfl, rfl, w3⟩ := open_int Try.underlying28 (hval 3 _ v3 rfl rfl) h3
  obtain ⟨a4, rfl, rfl, rfl⟩ := open_bool Try.underlying4 (hval 4 _ v4 rfl rfl) h4
  obtain ⟨a5, rfl, rfl, rfl, w5⟩ := open_int Try.underlying5 (hval 5 _ v5 rfl rfl) h5
  obtain ⟨a6, rfl, rfl, rfl, w6⟩ := Go.ChangeMaps.open_string Try.underlying9 (hval 6 _ v6 rfl rfl) h6
  exact RefmsgBack_walk v0 a1 a2 a3 a4 a5 a6 w1 w2 w3 w5 w6 W (hval 0 _ v0 rfl rfl) h0

theorem RefmsgBack_over : Rows.refmsgBackRow.holds Try.pinned (OpenSpec.ofChange Rows.refmsgBackSpec) :=
  OpenClaim.holds_of_wide 5 Try.f5 rfl rfl rfl rfl rfl rfl rfl ⟨rfl, rfl, rfl, rfl, rfl⟩ rfl rfl rfl rfl rfl (by kernel_rfl) Try.func5 (by kernel_rfl)
    (of_decide_eq_true (by kernel_rfl)) (by unfold Func.isWrapper; first | (rw [if_pos (by decide +kernel)]; kernel_rfl) | (rw [if_neg (by decide +kernel)]; exact ⟨rfl, rfl⟩))
    (fun os started H enc _ => RefmsgBack_lifted os started H enc)
theorem RefmsgBack_holds : Rows.RefmsgBackSaid := RefmsgBack_over
#print axioms RefmsgBack_holds
end Go.Proofs.Ythkhlcigegbpfaa
