/- Size; what chapter 13's known and few tell. -/
import Derived.Test.YthkhlcigegbpfaaParse
import Derived.Test.YthkhlcigegbpfaaRefSame
namespace Go.Proofs.Ythkhlcigegbpfaa
set_option linter.unusedVariables false
set_option linter.unusedSimpArgs false
open Go.ChangeShapes Go.WideShapes Go.ChangeAt Go.RowKit Go.Deep

theorem Own.at_ {B : Nat} {w0 w : World} {L : List (Nat × Obj)} (h : Own B w0 L w) (b : Nat) (o : Obj) (hm : (b, o) ∈ L) : w.heap[b]? = some o := (h.all b o hm).2
theorem world_outC {B : Nat} {w0 w : World} {L : List (Nat × Obj)} {P : World → Prop} (h : Own B w0 L w) (k : ∀ v, Own B w0 L v → P v) : P w := k w h
theorem cf_size {w : World} {m : Mat} {s1 s2 s3 : Value} (h : RdM w m s1 s2 s3) : Calls Try.prog 48 #[matV m s1 s2 s3] w fun e w' => e = .returned (.int .i64 (printE m).size) ∧ Below w.heap.size w w' := by
  have hO := (Own.nil_ (Below.refl w.heap.size w) (Nat.le_refl _)).alloc (boxM m s1 s2 s3)
  obtain ⟨a1, p1, e1, r1⟩ := h.r1.shape
  obtain ⟨a2, p2, e2, r2⟩ := h.r2.shape
  obtain ⟨a3, p3, e3, r3⟩ := h.r3.shape
  subst e1 e2 e3
  clear r1 r2 r3
  have RM := Lib.hid h
  clear h
  obtain ⟨c0, c1, c2, c3, c4, c5, c6, c7, c8, c9, c10⟩ := boxM_c hO.get0
  have hml := lt_of_heap hO.get0
  unfold matV
  go_enter Try.func48, Try.ntmps48
  go_wp2_with fail
  refine (own_below hO (cf_print (RM.out.keep hO.bel))).mono ?_
  obtain ⟨p, hp⟩ : ∃ p, printE m = p := ⟨_, rfl⟩
  rw [hp]
  have HP := Lib.hid hp
  clear hp
  rintro e w2 ⟨rfl, hO⟩
  go_wp2
  go_ret
  rw [HP.out]
  exact ⟨rfl, hO.bel⟩
theorem few13 {w : World} {m : Mat} {s1 s2 s3 : Value} (h : RdM w m s1 s2 s3) : Calls Try.prog 44 #[matV m s1 s2 s3] w fun e w' => e = .returned (.bool (decide (m.masters.length ≤ 10 ∧ m.msgs.length ≤ 20 ∧ m.wins.length ≤ 25))) ∧ Below w.heap.size w w' := by
  have hO := (Own.nil_ (Below.refl w.heap.size w) (Nat.le_refl _)).alloc (boxM m s1 s2 s3)
  obtain ⟨a1, p1, e1, r1⟩ := h.r1.shape
  obtain ⟨a2, p2, e2, r2⟩ := h.r2.shape
  obtain ⟨a3, p3, e3, r3⟩ := h.r3.shape
  subst e1 e2 e3
  have l1 := r1.len.2
  have l2 := r2.len.2
  have l3 := r3.len.2
  unfold maxLen at l1 l2 l3
  clear r1 r2 r3 h
  obtain ⟨c0, c1, c2, c3, c4, c5, c6, c7, c8, c9, c10⟩ := boxM_c hO.get0
  clear c0 c1 c2 c3 c4 c5 c6 c7
  unfold matV
  go_enter Try.func44, Try.ntmps44
  go_wp2
  all_goals first
    | (exfalso; omega)
    | (go_ret; exact ⟨ret_bool (by simp; omega), hO.bel⟩)
    | (go_ret; exact ⟨ret_bool (by rw [Bool.eq_iff_iff]; simp; omega), hO.bel⟩)
def PostQ (b : ByteArray) (w : World) (e : Ending) (w' : World) : Prop :=
  ∃ a1 p1 a2 p2 a3 p3, e = .returned (.tuple #[matV (pmE b) (.slice a1 (pmE b).masters.length p1) (.slice a2 (pmE b).msgs.length p2) (.slice a3 (pmE b).wins.length p3), .int .i64 (peE b)]) ∧ Below w.heap.size w w' ∧ RdM w' (pmE b) (.slice a1 (pmE b).masters.length p1) (.slice a2 (pmE b).msgs.length p2) (.slice a3 (pmE b).wins.length p3)
theorem cf_parseQ {w : World} (b : ByteArray) (hb : b.size ≤ maxLen) : Calls Try.prog 46 #[.string b] w (PostQ b w) := by
  refine (cf_parse b hb).mono ?_
  rintro e w' ⟨s1, s2, s3, he, hB, hR⟩
  obtain ⟨a1, p1, e1, r1⟩ := hR.r1.shape
  obtain ⟨a2, p2, e2, r2⟩ := hR.r2.shape
  obtain ⟨a3, p3, e3, r3⟩ := hR.r3.shape
  subst e1 e2 e3
  exact ⟨a1, p1, a2, p2, a3, p3, he, hB, hR⟩
def leastK : Mat := ⟨1, 2, 1, 200, 1, 16, 0, 0, [0], [], []⟩
theorem leastK_rd {w : World} {g : Nat} (h : w.heap[g]? = some (.cells #[.int .i64 0] 3 (0, 0))) : RdM w leastK (.slice (some ⟨g, 0, none⟩) 1 1) (.slice none 0 0) (.slice none 0 0) := by
  refine ⟨⟨by decide, by decide, by decide, by decide, by decide, by decide, by decide, by decide, ?_, ?_, ?_⟩, ?_, ?_, ?_⟩
  · intro x hx; simp [leastK] at hx; subst hx; decide
  · intro x hx; simp [leastK] at hx
  · intro x hx; simp [leastK] at hx
  · refine ⟨some ⟨g, 0, none⟩, 1, rfl, by simp [leastK], by simp [maxLen], fun i x hi => ⟨g, 0, rfl, lt_of_heap h, fun j u hj => ?_⟩⟩
    match i, hi with
    | 0, hi =>
      simp [leastK] at hi
      subst hi
      match j, hj with
      | 0, hj => simp [intC] at hj; subst hj; exact (cell_of h 0).trans rfl
  · exact ⟨none, 0, rfl, by simp [leastK], by simp [maxLen], fun i x hi => by simp [leastK] at hi⟩
  · exact ⟨none, 0, rfl, by simp [leastK], by simp [maxLen], fun i x hi => by simp [leastK] at hi⟩
theorem leastK_ok : leastK.Ok := by
  refine ⟨by decide, by decide, by decide, by decide, by decide, by decide, by decide, by decide, ?_, ?_, ?_⟩
  · intro x hx; simp [leastK] at hx; subst hx; decide
  · intro x hx; simp [leastK] at hx
  · intro x hx; simp [leastK] at hx
theorem pe_ok {m : Mat} (h : isB m = true) (ho : m.Ok) : pmE (printE m) = m ∧ peE (printE m) = 0 := by
  have hk := okE_print h ho
  unfold pmE peE
  rw [hk, parseR_print h ho]
  exact ⟨rfl, rfl⟩
theorem pe_no {b : ByteArray} (h : okE b = false) : pmE b = zeroM' ∧ peE b = 130 := by
  unfold pmE peE
  rw [h]
  exact ⟨rfl, rfl⟩
theorem leastK_p : printE leastK = ⟨#[79, 1, 2, 1, 0, 200, 1, 16, 0, 0, 0, 0, 1, 0, 0, 0]⟩ := by
  unfold printE
  rw [if_pos (by decide)]
  rfl
theorem first_of {q : ByteArray} (h : 0 < q.size) (e : q = ⟨#[79, 1, 2, 1, 0, 200, 1, 16, 0, 0, 0, 0, 1, 0, 0, 0]⟩) : ((q[0]'h).toNat : Int) = 79 := by
  subst e
  rfl
set_option maxRecDepth 100000 in
set_option maxHeartbeats 400000 in
theorem known13 (w : World) : Calls Try.prog 43 #[] w fun e w' => e = .returned (.bool true) ∧ Below w.heap.size w w' := by
  have hi : isB leastK = true := by decide
  obtain ⟨hk1, hk2⟩ := pe_ok hi leastK_ok
  obtain ⟨hn1, hn2⟩ := pe_no (more_none hi leastK_ok 120 (by decide))
  have hz : printE zeroM' = ⟨#[]⟩ := print_none (by decide)
  have hsz : (printE leastK).size = 16 := print_size hi
  have hs0 : 0 < (printE leastK).size := by omega
  have h79 : (((printE leastK)[0]'hs0).toNat : Int) = 79 := first_of hs0 leastK_p
  have hx : strOfNums [120] = ⟨#[120]⟩ := rfl
  rw [hx] at hn1 hn2
  have HS := Lib.hid (sameB_rfl leastK)
  have hq2 : (printE leastK ++ (⟨#[120]⟩ : ByteArray)).size ≤ maxLen := by rw [ByteArray.size_append, hsz]; decide
  have HQ2 := Lib.hid hq2
  have HZ := Lib.hid hz
  have HSZ := Lib.hid hsz
  clear hi hx hq2 hz
  generalize hp : printE leastK = p at *
  have HP := Lib.hid hp
  have HK := Lib.hid (And.intro hk1 hk2)
  have HN := Lib.hid (And.intro hn1 hn2)
  clear hp hk1 hk2 hn1 hn2
  have hpi : (p.size : Int) = 16 := by omega
  have HX := Lib.hid (show p.size ≤ maxLen by rw [hsz]; decide)
  clear hsz
  go_enter Try.func43, Try.ntmps43
  go_wp2_with fail
  have hO := ((Own.nil_ (Below.refl w.heap.size w) (Nat.le_refl _)).alloc (.cells #[.int .i64 0] 3)).alloc (boxM leastK (.slice (some ⟨w.heap.size, 0, none⟩) 1 1) (.slice none 0 0) (.slice none 0 0))
  have hsw : ∀ o : Obj, (w.alloc o).heap.size = w.heap.size + 1 := fun o => by simp
  rw [hsw] at hO
  clear hsw
  refine (own_below hO (cf_print (leastK_rd (hO.at_ w.heap.size (.cells #[.int .i64 0] 3 (0, 0)) (by simp))))).mono ?_
  rw [HP.out]
  rintro e w1 ⟨rfl, hO⟩
  go_wp2_with fail
  refine (cf_parseQ p HX.out).mono ?_
  rintro e w2 ⟨t1, q1, t2, q2, t3, q3, rfl, hB, hR⟩
  rw [HK.out.1] at hR
  rw [HK.out.1, HK.out.2]
  have HR := Lib.hid hR
  replace hO := hO.keep hB
  clear hB hR
  unfold matV
  go_wp2_with fail
  replace hO := hO.alloc (boxM leastK (.slice t1 leastK.masters.length q1) (.slice t2 leastK.msgs.length q2) (.slice t3 leastK.wins.length q3))
  replace HR := Lib.hid (HR.out.keep (show Below w2.heap.size w2 (w2.alloc (boxM leastK (.slice t1 leastK.masters.length q1) (.slice t2 leastK.msgs.length q2) (.slice t3 leastK.wins.length q3))) from (Below.refl _ _).alloc (Nat.le_refl _) _))
  generalize p ++ (⟨#[120]⟩ : ByteArray) = q at *
  refine (cf_parseQ q HQ2.out).mono ?_
  rintro e w3 ⟨u1, x1, u2, x2, u3, x3, rfl, hB, hR⟩
  replace HR := Lib.hid (HR.out.keep hB)
  replace hO := hO.keep hB
  rw [HN.out.1, HN.out.2]
  clear hB hR
  unfold matV
  obtain ⟨c0, c1, c2, c3, c4, c5, c6, c7, c8, c9, c10⟩ := boxM_c (hO.at_ (w.heap.size + 1) (boxM leastK (.slice (some ⟨w.heap.size, 0, none⟩) 1 1) (.slice none 0 0) (.slice none 0 0)) (by simp))
  have hml := lt_of_heap (hO.at_ (w.heap.size + 1) (boxM leastK (.slice (some ⟨w.heap.size, 0, none⟩) 1 1) (.slice none 0 0) (.slice none 0 0)) (by simp))
  obtain ⟨d0, d1, d2, d3, d4, d5, d6, d7, d8, d9, d10⟩ := boxM_c (hO.at_ w2.heap.size (boxM leastK (.slice t1 leastK.masters.length q1) (.slice t2 leastK.msgs.length q2) (.slice t3 leastK.wins.length q3)) (by simp))
  have hdl := lt_of_heap (hO.at_ w2.heap.size (boxM leastK (.slice t1 leastK.masters.length q1) (.slice t2 leastK.msgs.length q2) (.slice t3 leastK.wins.length q3)) (by simp))
  go_wp2_with fail
  have hB4 : Below w3.heap.size w3 (w3.alloc (boxM zeroM' (.slice u1 zeroM'.masters.length x1) (.slice u2 zeroM'.msgs.length x2) (.slice u3 zeroM'.wins.length x3))) := (Below.refl _ _).alloc (Nat.le_refl _) _
  replace HR := Lib.hid (HR.out.keep hB4)
  replace hO := hO.alloc_ (boxM zeroM' (.slice u1 zeroM'.masters.length x1) (.slice u2 zeroM'.msgs.length x2) (.slice u3 zeroM'.wins.length x3))
  refine (own_below hO (rmat_same (leastK_rd (hO.at_ w.heap.size (.cells #[.int .i64 0] 3 (0, 0)) (by simp))) HR.out)).mono ?_
  rw [HS.out]
  rintro e w4 ⟨rfl, hO⟩
  clear c0 c1 c2 c3 c4 c5 c6 c7 c8 c9 c10 d0 d1 d2 d3 d4 d5 d6 d7 d8 d9 d10 hml hdl hB4 HR
  obtain ⟨c0, c1, c2, c3, c4, c5, c6, c7, c8, c9, c10⟩ := boxM_c (hO.at_ (w.heap.size + 1) (boxM leastK (.slice (some ⟨w.heap.size, 0, none⟩) 1 1) (.slice none 0 0) (.slice none 0 0)) (by simp))
  have hml := lt_of_heap (hO.at_ (w.heap.size + 1) (boxM leastK (.slice (some ⟨w.heap.size, 0, none⟩) 1 1) (.slice none 0 0) (.slice none 0 0)) (by simp))
  go_wp2_with fail
  refine (own_below hO (cf_size (leastK_rd (hO.at_ w.heap.size (.cells #[.int .i64 0] 3 (0, 0)) (by simp))))).mono ?_
  rw [HP.out, HSZ.out]
  rintro e w5 ⟨rfl, hO⟩
  go_wp2_with fail
  refine (own_below hO (cf_print (zeroM_rd' _))).mono ?_
  rw [HZ.out]
  rintro e w6 ⟨rfl, hO⟩
  go_wp2
  go_ret
  exact ⟨rfl, hO.bel⟩
end Go.Proofs.Ythkhlcigegbpfaa
