/- MatrixApart: one thing changed makes another matrix. No conditions. Printed by gen_apart.py. -/
import Derived.Test.YthkhlcigegbpfaaMatKnown
import Derived.Test.YthkhlcigegbpfaaRefSame
import Derived.Test.YthkhlcigegbpfaaMatApartP
import Derived.ChangeMaps5
import Derived.BigRegion
import Derived.ArgAppend
namespace Go.Proofs.Ythkhlcigegbpfaa
set_option linter.unusedVariables false
set_option linter.unusedSimpArgs false
open Go.ChangeShapes Go.WideShapes Go.ChangeAt Go.RowKit Go.Deep

theorem sameB_refl' (m : Mat) : sameB m m = true := by
  have hr : ∀ {α : Type} {p : α → α → Bool} (hp : ∀ x, p x x = true) (l : List α), eqL p l l = true := by
    intro α p hp l
    unfold eqL
    simp only [decide_true, Bool.true_and, List.all_eq_true]
    intro z hz
    obtain ⟨i, hi⟩ := List.getElem?_of_mem hz
    rw [List.getElem?_zip_eq_some] at hi
    have := hi.1.symm.trans hi.2
    cases z
    simp only [Option.some.injEq] at this
    subst this
    exact hp _
  unfold sameB headEq
  simp [hr (p := fun (x y : Int) => x == y) (by simp), hr (p := msgEq) (by simp [msgEq]), hr (p := winEq) (by simp [winEq])]

set_option maxRecDepth 100000 in
set_option maxHeartbeats 8000000 in
theorem MatrixApart_core (a : Mat) (s1 s2 s3 : Value) (what at_ : Nat) (hwh : what < 256) (hat : at_ < 256) (w : World) (ha : RdM w a s1 s2 s3) :
    Holds 10 #[matV a s1 s2 s3, .int .u8 what, .int .u8 at_] w := by
  have hO := (Own.nil_ (Below.refl w.heap.size w) (Nat.le_refl _)).alloc (boxM a s1 s2 s3)
  obtain ⟨a1, p1, e1, _⟩ := ha.r1.shape
  obtain ⟨a2, p2, e2, _⟩ := ha.r2.shape
  obtain ⟨a3, p3, e3, _⟩ := ha.r3.shape
  subst e1 e2 e3
  have RA := Lib.hid ha
  clear ha
  obtain ⟨c0, c1, c2, c3, c4, c5, c6, c7, c8, c9, c10⟩ := boxM_c hO.get0
  have hml := lt_of_heap hO.get0
  unfold Holds matV
  go_enter Try.func10, Try.ntmps10
  go_wp2_with fail
  refine (own_below hO (known12 _)).mono ?_
  rintro e w1 ⟨rfl, hO⟩
  clear c0 c1 c2 c3 c4 c5 c6 c7 c8 c9 c10 hml
  obtain ⟨c0, c1, c2, c3, c4, c5, c6, c7, c8, c9, c10⟩ := boxM_c hO.get0
  have hml := lt_of_heap hO.get0
  go_wp2_with fail
  refine (own_below hO (few_any (RA.out.keep hO.bel))).mono ?_
  rintro e w2 ⟨rfl, hO⟩
  clear c0 c1 c2 c3 c4 c5 c6 c7 c8 c9 c10 hml
  rcases Decidable.em (a.masters.length ≤ 10 ∧ a.msgs.length ≤ 20 ∧ a.wins.length ≤ 25) with hf | hf
  rotate_left
  · rw [decide_eq_false hf]
    go_wp2
    all_goals first | (exfalso; omega) | (go_ret; exact ⟨rfl, hO.bel⟩)
  rw [decide_eq_true hf]
  obtain ⟨c0, c1, c2, c3, c4, c5, c6, c7, c8, c9, c10⟩ := boxM_c hO.get0
  have hml := lt_of_heap hO.get0
  go_wp2_with fail
  have hbase2 := hO.sz
  refine (mat_copy (RA.out.keep hO.bel) ⟨by omega, by omega, by omega⟩).mono ?_
  rintro e w3 ⟨v1, v2, v3, rfl, hB, hN⟩
  replace hO := hO.keep hB
  obtain ⟨x1, e1, z1⟩ := newL_len hN.n1
  obtain ⟨x2, e2, z2⟩ := newL_len hN.n2
  obtain ⟨x3, e3, z3⟩ := newL_len hN.n3
  subst e1 e2 e3
  have Z1 := Lib.hid z1
  clear z1 z2 z3 hB hml
  clear c0 c1 c2 c3 c4 c5 c6 c7 c8 c9 c10
  simp only [matV]
  have hNB := lt_of_heap hO.get0
  replace hO := hO.alloc (boxM a (.slice x1 a.masters.length a.masters.length) (.slice x2 a.msgs.length a.msgs.length) (.slice x3 a.wins.length a.wins.length))
  have hN1 := hN.keep ((Below.refl w3.heap.size w3).alloc (Nat.le_refl _) (boxM a (.slice x1 a.masters.length a.masters.length) (.slice x2 a.msgs.length a.msgs.length) (.slice x3 a.wins.length a.wins.length)))
  have RN := Lib.hid (hN1.rd ⟨by omega, by omega, by omega⟩ RA.out.ok)
  have HN := Lib.hid hN1
  clear hN hN1 hNB
  have LS := Lib.hid (sameB_refl' a)
  have hfew := hf
  clear hf
  obtain ⟨c0, c1, c2, c3, c4, c5, c6, c7, c8, c9, c10⟩ := boxM_c hO.get1
  obtain ⟨d0, d1, d2, d3, d4, d5, d6, d7, d8, d9, d10⟩ := boxM_c hO.get0
  have hml := lt_of_heap hO.get1
  have hnl := lt_of_heap hO.get0
  unfold boxM at c0 c1 c2 c3 c4 c5 c6 c7 c8 c9 c10 d0 d1 d2 d3 d4 d5 d6 d7 d8 d9 d10 hml hnl
  go_wp2_with fail
  refine (mat_same (RA.out.keep hO.bel) RN.out).mono ?_
  rintro e w4 ⟨rfl, hB⟩
  replace hO := hO.keep hB
  replace RN := Lib.hid (RN.out.keep hB)
  replace HN := Lib.hid (HN.out.keep hB)
  clear hB hml hnl
  clear c0 c1 c2 c3 c4 c5 c6 c7 c8 c9 c10 d0 d1 d2 d3 d4 d5 d6 d7 d8 d9 d10
  rw [LS.out]
  obtain ⟨c0, c1, c2, c3, c4, c5, c6, c7, c8, c9, c10⟩ := boxM_c hO.get1
  obtain ⟨d0, d1, d2, d3, d4, d5, d6, d7, d8, d9, d10⟩ := boxM_c hO.get0
  have hml := lt_of_heap hO.get1
  have hnl := lt_of_heap hO.get0
  go_wp2_with fail
  refine (mat_same RN.out (RA.out.keep hO.bel)).mono ?_
  rintro e w5 ⟨rfl, hB⟩
  replace hO := hO.keep hB
  replace HN := Lib.hid (HN.out.keep hB)
  clear hB hml hnl RN
  clear c0 c1 c2 c3 c4 c5 c6 c7 c8 c9 c10 d0 d1 d2 d3 d4 d5 d6 d7 d8 d9 d10
  rw [LS.out]
  go_upto_region 8 with fail
  have hm6 : (what : Int) % 6 = ((what % 6 : Nat) : Int) := by omega
  obtain ⟨k6, hk6, hlt6⟩ : ∃ k, what % 6 = k ∧ k < 6 := ⟨_, rfl, Nat.mod_lt _ (by omega)⟩
  rw [hk6] at hm6
  obtain ⟨bn, hbn⟩ : ∃ bn, bn = w3.heap.size := ⟨_, rfl⟩
  match k6, hlt6 with
  | 0, _ =>
    obtain ⟨d0, d1, d2, d3, d4, d5, d6, d7, d8, d9, d10⟩ := boxM_c hO.get0
    have hnl := lt_of_heap hO.get0
    have f0 := free_of hO.get0 6
    have f1 := free_of hO.get0 7
    have f2 := free_of hO.get0 8
    go_upto_region 26 with fail
    clear d0 d1 d2 d3 d4 d5 d6 d7 d8 d9 d10 hnl f0 f1 f2
    have hF := hO.upd0 (Upd.setCell 6 (.int .i64 (wrap64 (a.init + 1))) (Upd.refl hO.get0))
    have hF : Own w.heap.size w [(w3.heap.size, boxM { a with init := wrap64 (a.init + 1) } (.slice x1 a.masters.length a.masters.length) (.slice x2 a.msgs.length a.msgs.length) (.slice x3 a.wins.length a.wins.length)), (w.heap.size, boxM a (.slice a1 a.masters.length p1) (.slice a2 a.msgs.length p2) (.slice a3 a.wins.length p3))] (w5.setCell ⟨w3.heap.size, 6, none⟩ (.int .i64 (wrap64 (a.init + 1)))) := by simpa [boxM] using hF
    have hU := Upd.setCell 6 (.int .i64 (wrap64 (a.init + 1))) (Upd.refl hO.get0)
    have RN := Lib.hid (show RdM _ { a with init := wrap64 (a.init + 1) } (.slice x1 a.masters.length a.masters.length) (.slice x2 a.msgs.length a.msgs.length) (.slice x3 a.wins.length a.wins.length) from NewM.rd (m := { a with init := wrap64 (a.init + 1) }) ⟨NewL.far HN.out.n1 hU hO.get0 (by decide), NewL.far HN.out.n2 hU hO.get0 (by decide), NewL.far HN.out.n3 hU hO.get0 (by decide)⟩ (show FewM a from ⟨by omega, by omega, by omega⟩) { RA.out.ok with init := wrap_ok })
    have hS := Lib.hid (show sameB a { a with init := wrap64 (a.init + 1) } = false from same_off1 (by unfold headEq; simp only [wrap_apart RA.out.ok.init, Bool.and_false, Bool.false_and]))
    obtain ⟨c0, c1, c2, c3, c4, c5, c6, c7, c8, c9, c10⟩ := boxM_c hF.get1
    obtain ⟨d0, d1, d2, d3, d4, d5, d6, d7, d8, d9, d10⟩ := boxM_c hF.get0
    have hml := lt_of_heap hF.get1
    have hnl := lt_of_heap hF.get0
    go_wp2_with fail
    refine (mat_same (RA.out.keep hF.bel) RN.out).mono ?_
    rintro e wx ⟨rfl, hB⟩
    replace hF := hF.keep hB
    replace RN := Lib.hid (RN.out.keep hB)
    clear hB hml hnl
    clear c0 c1 c2 c3 c4 c5 c6 c7 c8 c9 c10 d0 d1 d2 d3 d4 d5 d6 d7 d8 d9 d10
    rw [hS.out]
    obtain ⟨c0, c1, c2, c3, c4, c5, c6, c7, c8, c9, c10⟩ := boxM_c hF.get1
    obtain ⟨d0, d1, d2, d3, d4, d5, d6, d7, d8, d9, d10⟩ := boxM_c hF.get0
    have hml := lt_of_heap hF.get1
    have hnl := lt_of_heap hF.get0
    go_wp2_with fail
    refine (rmat_same (RA.out.keep hF.bel) RN.out).mono ?_
    rintro e wy ⟨rfl, hB⟩
    replace hF := hF.keep hB
    clear hB hml hnl
    clear c0 c1 c2 c3 c4 c5 c6 c7 c8 c9 c10 d0 d1 d2 d3 d4 d5 d6 d7 d8 d9 d10
    rw [hS.out]
    go_wp2
    all_goals first | (exfalso; omega) | (go_ret; exact ⟨rfl, hF.bel⟩)
  | 1, _ =>
    obtain ⟨d0, d1, d2, d3, d4, d5, d6, d7, d8, d9, d10⟩ := boxM_c hO.get0
    have hnl := lt_of_heap hO.get0
    have f0 := free_of hO.get0 6
    have f1 := free_of hO.get0 7
    have f2 := free_of hO.get0 8
    obtain ⟨i0, hi0, hi1, hi2, hi3⟩ := info_int
    have HNA := Lib.hid (HN.out.keep ((Below.refl w5.heap.size w5).alloc (Nat.le_refl _) (.cells #[.int .i64 3] 3)))
    go_wp2_with (at_builtin; refine wpList_append_grows _ rfl _ _ 23 rfl 3 i0 (.int .i64 0) 1 8 Try.underlying23 hi0 hi3 hi2 hi1 rfl (by decide) x1 a.masters.length a.masters.length (a.masters.flatMap intC) rfl ?b0 ?b1 ?b2 ⟨w5.heap.size, 0, none⟩ 1 1 [.int .i64 3] rfl rfl ?b3 ?b4 ?b5 ?b6 ?b7 ?_)
    case b0 =>
      intro h
      have := Z1.out h
      simp [this]
    case b1 => exact flatMap_len intC_len _
    case b2 =>
      intro b hb j u hj
      rcases HNA.out.n1 with ⟨h, h'⟩ | ⟨g, e, _, hg⟩
      · rw [h'] at hj
        simp at hj
      · simp only [Value.slice.injEq] at e
        rw [hb] at e
        simp only [Option.some.injEq] at e
        rw [e.1]
        have := cell_of hg j
        rw [show (Addr.add ⟨g, 0, none⟩ j : Addr) = ⟨g, j, none⟩ by (unfold Addr.add; simp; omega), this]
        simpa using hj
    case b3 =>
      intro j u hj
      have hn := new_blk w5 (.cells #[.int .i64 3] 3)
      match j, hj with
      | 0, hj => simp at hj; subst hj; exact (cell_of hn 0).trans rfl
    case b4 => intro u hu; simp at hu; subst hu; rfl
    case b5 => omega
    case b6 => unfold maxLen; omega
    case b7 => omega
    intro v' w6 hR hG
    obtain ⟨g, cp, rfl⟩ : ∃ g cp, v' = .slice (some ⟨g, 0, none⟩) (a.masters.length + 1) cp := by
      obtain ⟨_, ⟨_, h0⟩ | ⟨g, cap, cur, rfl, _⟩⟩ := id hR
      · omega
      · exact ⟨_, _, rfl⟩
    have hO6 := (hO.alloc_ (.cells #[.int .i64 3] 3)).keep (below_grown hG)
    have HN6 := Lib.hid (HNA.out.keep (below_grown hG))
    have hbase := Lib.hid hG.size
    clear d0 d1 d2 d3 d4 d5 d6 d7 d8 d9 d10 hnl f0 f1 f2
    obtain ⟨d0, d1, d2, d3, d4, d5, d6, d7, d8, d9, d10⟩ := boxM_c hO6.get0
    have hnl := lt_of_heap hO6.get0
    have f2 := free_of hO6.get0 8
    have hlw5 := lt_of_heap hO.get0
    clear hO hG
    go_upto_region 26 with fail
    clear d0 d1 d2 d3 d4 d5 d6 d7 d8 d9 d10 hnl f2
    have hU := Upd.setCell 8 (.slice (some ⟨g, 0, none⟩) (a.masters.length + 1) cp) (Upd.refl hO6.get0)
    have hF := hO6.upd0 hU
    have hF : Own w.heap.size w [(w3.heap.size, boxM { a with masters := a.masters ++ [3] } (.slice (some ⟨g, 0, none⟩) (a.masters.length + 1) cp) (.slice x2 a.msgs.length a.msgs.length) (.slice x3 a.wins.length a.wins.length)), (w.heap.size, boxM a (.slice a1 a.masters.length p1) (.slice a2 a.msgs.length p2) (.slice a3 a.wins.length p3))] (w6.setCell ⟨w3.heap.size, 8, none⟩ (.slice (some ⟨g, 0, none⟩) (a.masters.length + 1) cp)) := by simpa [boxM] using hF
    have hR1 : (w6.setCell ⟨w3.heap.size, 8, none⟩ (.slice (some ⟨g, 0, none⟩) (a.masters.length + 1) cp)).ownsRow (w5.heap.size + 1) 3 1 (.slice (some ⟨g, 0, none⟩) (a.masters.length + 1) cp) (a.masters ++ [3]).length ((a.masters ++ [3]).flatMap intC) := by
      have := ownsRow_of hR (w' := w6.setCell ⟨w3.heap.size, 8, none⟩ (.slice (some ⟨g, 0, none⟩) (a.masters.length + 1) cp)) (fun g hg hl => hU.other g hl (by omega))
      simpa [intC] using this
    have RN := Lib.hid (show RdM _ { a with masters := a.masters ++ [3] } (.slice (some ⟨g, 0, none⟩) (a.masters.length + 1) cp) (.slice x2 a.msgs.length a.msgs.length) (.slice x3 a.wins.length a.wins.length) from ⟨{ RA.out.ok with masters := fun x hx => (List.mem_append.1 hx).elim (RA.out.ok.masters x) (fun h => by rw [List.mem_singleton.1 h]; decide) }, RdL_owns intC_len (by simp) hR1, (NewL.far HN6.out.n2 hU hO6.get0 (by decide)).rd msgC_len (show a.msgs.length ≤ maxLen by unfold maxLen; omega), (NewL.far HN6.out.n3 hU hO6.get0 (by decide)).rd winC_len (show a.wins.length ≤ maxLen by unfold maxLen; omega)⟩)
    have hS := Lib.hid (show sameB a { a with masters := a.masters ++ [3] } = false from same_off2 (eqL_ne (by simp)))
    clear hR hR1
    obtain ⟨c0, c1, c2, c3, c4, c5, c6, c7, c8, c9, c10⟩ := boxM_c hF.get1
    obtain ⟨d0, d1, d2, d3, d4, d5, d6, d7, d8, d9, d10⟩ := boxM_c hF.get0
    have hml := lt_of_heap hF.get1
    have hnl := lt_of_heap hF.get0
    go_wp2_with fail
    refine (mat_same (RA.out.keep hF.bel) RN.out).mono ?_
    rintro e wx ⟨rfl, hB⟩
    replace hF := hF.keep hB
    replace RN := Lib.hid (RN.out.keep hB)
    clear hB hml hnl
    clear c0 c1 c2 c3 c4 c5 c6 c7 c8 c9 c10 d0 d1 d2 d3 d4 d5 d6 d7 d8 d9 d10
    rw [hS.out]
    obtain ⟨c0, c1, c2, c3, c4, c5, c6, c7, c8, c9, c10⟩ := boxM_c hF.get1
    obtain ⟨d0, d1, d2, d3, d4, d5, d6, d7, d8, d9, d10⟩ := boxM_c hF.get0
    have hml := lt_of_heap hF.get1
    have hnl := lt_of_heap hF.get0
    go_wp2_with fail
    refine (rmat_same (RA.out.keep hF.bel) RN.out).mono ?_
    rintro e wy ⟨rfl, hB⟩
    replace hF := hF.keep hB
    clear hB hml hnl
    clear c0 c1 c2 c3 c4 c5 c6 c7 c8 c9 c10 d0 d1 d2 d3 d4 d5 d6 d7 d8 d9 d10
    rw [hS.out]
    go_wp2
    all_goals first | (exfalso; omega) | (go_ret; exact ⟨rfl, hF.bel⟩)
  | 2, _ =>
    rcases Nat.eq_zero_or_pos a.msgs.length with h0 | hpos
    · have h0' : a.msgs.length ≤ 0 := by omega
      clear h0
      obtain ⟨d0, d1, d2, d3, d4, d5, d6, d7, d8, d9, d10⟩ := boxM_c hO.get0
      have hnl := lt_of_heap hO.get0
      go_wp2
      all_goals first | (exfalso; omega) | (go_ret; exact ⟨rfl, hO.bel⟩)
    obtain ⟨g, e1, hg, hgk⟩ := newL_blk HN.out.n2 hpos
    simp only [Value.slice.injEq] at e1
    obtain ⟨rfl, _, _⟩ := e1
    obtain ⟨k, hk, hkl⟩ : ∃ k, at_ % a.msgs.length = k ∧ k < a.msgs.length := ⟨_, rfl, Nat.mod_lt _ hpos⟩
    have hmod : ((at_ : Int)).tmod (a.msgs.length : Int) = (k : Int) := by rw [← hk]; exact (Int.ofNat_tmod at_ a.msgs.length).symm
    clear hk
    obtain ⟨z, hz⟩ : ∃ z, a.msgs[k]? = some z := ⟨_, List.getElem?_eq_getElem hkl⟩
    have HZ := Lib.hid hz
    have lc : w5.cell? ⟨g, k * 3 + 2, none⟩ = some (.bool z.ev) := (cell_of hgk _).trans (by simpa using flatMap_at msgC_len a.msgs k z 2 _ hz rfl)
    have lf := free_of hgk (k * 3 + 2)
    have lg := lt_of_heap hgk
    have HG := Lib.hid hgk
    clear hz hgk
    obtain ⟨d0, d1, d2, d3, d4, d5, d6, d7, d8, d9, d10⟩ := boxM_c hO.get0
    have hnl := lt_of_heap hO.get0
    go_upto_region 17 with fail
    go_region
    go_upto_region 26 with fail
    clear d0 d1 d2 d3 d4 d5 d6 d7 d8 d9 d10 hnl lc lf lg hmod
    have hU := (Upd.setCell (k * 3 + 2) (.bool (!z.ev)) (Upd.refl HG.out)).drew
    have hnn : ∀ b u, (b, u) ∈ [(w3.heap.size, boxM a (.slice x1 a.masters.length a.masters.length) (.slice (some ⟨g, 0, none⟩) a.msgs.length a.msgs.length) (.slice x3 a.wins.length a.wins.length)), (w.heap.size, boxM a (.slice a1 a.masters.length p1) (.slice a2 a.msgs.length p2) (.slice a3 a.wins.length p3))] → b ≠ g := by
      intro b u hm he
      rw [he] at hm
      have h2 := (hO.all _ u hm).2
      rw [HG.out] at h2
      simp only [List.mem_cons, Prod.mk.injEq, List.not_mem_nil, or_false] at hm
      rcases hm with ⟨_, rfl⟩ | ⟨_, rfl⟩ <;> (simp only [boxM, Option.some.injEq, Obj.cells.injEq] at h2; exact absurd h2.2.1 (by decide))
    have hF := ((hO.more HG.out (by omega) hnn).upd0 hU).drop
    have hF : Own w.heap.size w [(w3.heap.size, boxM { a with msgs := a.msgs.set k ({ z with ev := !z.ev }) } (.slice x1 a.masters.length a.masters.length) (.slice (some ⟨g, 0, none⟩) a.msgs.length a.msgs.length) (.slice x3 a.wins.length a.wins.length)), (w.heap.size, boxM a (.slice a1 a.masters.length p1) (.slice a2 a.msgs.length p2) (.slice a3 a.wins.length p3))] _ := hF
    have hb1 := hU.blk
    have hR1 : RdL 3 msgC (w5.setCell ⟨g, k * 3 + 2, none⟩ (.bool (!z.ev))).drew (.slice (some ⟨g, 0, none⟩) a.msgs.length a.msgs.length) (a.msgs.set k ({ z with ev := !z.ev })) :=
      RdL_set msgC_len (show a.msgs.length ≤ maxLen by unfold maxLen; omega) HZ.out (j0 := 2) (by decide) rfl (by simpa using hb1)
    have hmem := List.mem_of_getElem? HZ.out
    have RN := Lib.hid (show RdM _ { a with msgs := a.msgs.set k ({ z with ev := !z.ev }) } (.slice x1 a.masters.length a.masters.length) (.slice (some ⟨g, 0, none⟩) a.msgs.length a.msgs.length) (.slice x3 a.wins.length a.wins.length) from ⟨{ RA.out.ok with msgs := fun x hx => (List.mem_or_eq_of_mem_set hx).elim (RA.out.ok.msgs x) (fun h => by rw [h]; exact RA.out.ok.msgs z hmem) }, (NewL.far HN.out.n1 hU HG.out (by decide)).rd intC_len (show a.masters.length ≤ maxLen by unfold maxLen; omega), hR1, (NewL.far HN.out.n3 hU HG.out (by decide)).rd winC_len (show a.wins.length ≤ maxLen by unfold maxLen; omega)⟩)
    have hS := Lib.hid (show sameB a { a with msgs := a.msgs.set k ({ z with ev := !z.ev }) } = false from same_off3 (eqL_off HZ.out (List.getElem?_set_self hkl) (by simp [msgEq])))
    clear hb1 hR1 hnn hU
    obtain ⟨c0, c1, c2, c3, c4, c5, c6, c7, c8, c9, c10⟩ := boxM_c hF.get1
    obtain ⟨d0, d1, d2, d3, d4, d5, d6, d7, d8, d9, d10⟩ := boxM_c hF.get0
    have hml := lt_of_heap hF.get1
    have hnl := lt_of_heap hF.get0
    go_wp2_with fail
    refine (mat_same (RA.out.keep hF.bel) RN.out).mono ?_
    rintro e wx ⟨rfl, hB⟩
    replace hF := hF.keep hB
    replace RN := Lib.hid (RN.out.keep hB)
    clear hB hml hnl
    clear c0 c1 c2 c3 c4 c5 c6 c7 c8 c9 c10 d0 d1 d2 d3 d4 d5 d6 d7 d8 d9 d10
    rw [hS.out]
    obtain ⟨c0, c1, c2, c3, c4, c5, c6, c7, c8, c9, c10⟩ := boxM_c hF.get1
    obtain ⟨d0, d1, d2, d3, d4, d5, d6, d7, d8, d9, d10⟩ := boxM_c hF.get0
    have hml := lt_of_heap hF.get1
    have hnl := lt_of_heap hF.get0
    go_wp2_with fail
    refine (rmat_same (RA.out.keep hF.bel) RN.out).mono ?_
    rintro e wy ⟨rfl, hB⟩
    replace hF := hF.keep hB
    clear hB hml hnl
    clear c0 c1 c2 c3 c4 c5 c6 c7 c8 c9 c10 d0 d1 d2 d3 d4 d5 d6 d7 d8 d9 d10
    rw [hS.out]
    go_wp2
    all_goals first | (exfalso; omega) | (go_ret; exact ⟨rfl, hF.bel⟩)
  | 3, _ =>
    rcases Nat.eq_zero_or_pos a.wins.length with h0 | hpos
    · have h0' : a.wins.length ≤ 0 := by omega
      clear h0
      obtain ⟨d0, d1, d2, d3, d4, d5, d6, d7, d8, d9, d10⟩ := boxM_c hO.get0
      have hnl := lt_of_heap hO.get0
      go_wp2
      all_goals first | (exfalso; omega) | (go_ret; exact ⟨rfl, hO.bel⟩)
    obtain ⟨g, e1, hg, hgk⟩ := newL_blk HN.out.n3 hpos
    simp only [Value.slice.injEq] at e1
    obtain ⟨rfl, _, _⟩ := e1
    obtain ⟨k, hk, hkl⟩ : ∃ k, at_ % a.wins.length = k ∧ k < a.wins.length := ⟨_, rfl, Nat.mod_lt _ hpos⟩
    have hmod : ((at_ : Int)).tmod (a.wins.length : Int) = (k : Int) := by rw [← hk]; exact (Int.ofNat_tmod at_ a.wins.length).symm
    clear hk
    obtain ⟨z, hz⟩ : ∃ z, a.wins[k]? = some z := ⟨_, List.getElem?_eq_getElem hkl⟩
    have HZ := Lib.hid hz
    have lc : w5.cell? ⟨g, k * 6 + 5, none⟩ = some (.int .i64 z.msg) := (cell_of hgk _).trans (by simpa using flatMap_at winC_len a.wins k z 5 _ hz rfl)
    have lf := free_of hgk (k * 6 + 5)
    have lg := lt_of_heap hgk
    have HG := Lib.hid hgk
    clear hz hgk
    obtain ⟨d0, d1, d2, d3, d4, d5, d6, d7, d8, d9, d10⟩ := boxM_c hO.get0
    have hnl := lt_of_heap hO.get0
    go_upto_region 21 with fail
    go_region
    go_upto_region 26 with fail
    clear d0 d1 d2 d3 d4 d5 d6 d7 d8 d9 d10 hnl lc lf lg hmod
    have hU := (Upd.setCell (k * 6 + 5) (.int .i64 (wrap64 (z.msg + 1))) (Upd.refl HG.out)).drew
    have hnn : ∀ b u, (b, u) ∈ [(w3.heap.size, boxM a (.slice x1 a.masters.length a.masters.length) (.slice x2 a.msgs.length a.msgs.length) (.slice (some ⟨g, 0, none⟩) a.wins.length a.wins.length)), (w.heap.size, boxM a (.slice a1 a.masters.length p1) (.slice a2 a.msgs.length p2) (.slice a3 a.wins.length p3))] → b ≠ g := by
      intro b u hm he
      rw [he] at hm
      have h2 := (hO.all _ u hm).2
      rw [HG.out] at h2
      simp only [List.mem_cons, Prod.mk.injEq, List.not_mem_nil, or_false] at hm
      rcases hm with ⟨_, rfl⟩ | ⟨_, rfl⟩ <;> (simp only [boxM, Option.some.injEq, Obj.cells.injEq] at h2; exact absurd h2.2.1 (by decide))
    have hF := ((hO.more HG.out (by omega) hnn).upd0 hU).drop
    have hF : Own w.heap.size w [(w3.heap.size, boxM { a with wins := a.wins.set k ({ z with msg := wrap64 (z.msg + 1) }) } (.slice x1 a.masters.length a.masters.length) (.slice x2 a.msgs.length a.msgs.length) (.slice (some ⟨g, 0, none⟩) a.wins.length a.wins.length)), (w.heap.size, boxM a (.slice a1 a.masters.length p1) (.slice a2 a.msgs.length p2) (.slice a3 a.wins.length p3))] _ := hF
    have hb1 := hU.blk
    have hR1 : RdL 6 winC (w5.setCell ⟨g, k * 6 + 5, none⟩ (.int .i64 (wrap64 (z.msg + 1)))).drew (.slice (some ⟨g, 0, none⟩) a.wins.length a.wins.length) (a.wins.set k ({ z with msg := wrap64 (z.msg + 1) })) :=
      RdL_set winC_len (show a.wins.length ≤ maxLen by unfold maxLen; omega) HZ.out (j0 := 5) (by decide) rfl (by simpa using hb1)
    have hmem := List.mem_of_getElem? HZ.out
    have RN := Lib.hid (show RdM _ { a with wins := a.wins.set k ({ z with msg := wrap64 (z.msg + 1) }) } (.slice x1 a.masters.length a.masters.length) (.slice x2 a.msgs.length a.msgs.length) (.slice (some ⟨g, 0, none⟩) a.wins.length a.wins.length) from ⟨{ RA.out.ok with wins := fun x hx => (List.mem_or_eq_of_mem_set hx).elim (RA.out.ok.wins x) (fun h => by rw [h]; exact (by obtain ⟨o1, o2, o3, o4, o5, o6⟩ := RA.out.ok.wins z hmem; exact ⟨o1, o2, o3, o4, o5, wrap_ok⟩)) }, (NewL.far HN.out.n1 hU HG.out (by decide)).rd intC_len (show a.masters.length ≤ maxLen by unfold maxLen; omega), (NewL.far HN.out.n2 hU HG.out (by decide)).rd msgC_len (show a.msgs.length ≤ maxLen by unfold maxLen; omega), hR1⟩)
    have hS := Lib.hid (show sameB a { a with wins := a.wins.set k ({ z with msg := wrap64 (z.msg + 1) }) } = false from same_off4 (eqL_off HZ.out (List.getElem?_set_self hkl) (by unfold winEq; simp only [wrap_apart (RA.out.ok.wins z hmem).2.2.2.2.2, Bool.and_false])))
    clear hb1 hR1 hnn hU
    obtain ⟨c0, c1, c2, c3, c4, c5, c6, c7, c8, c9, c10⟩ := boxM_c hF.get1
    obtain ⟨d0, d1, d2, d3, d4, d5, d6, d7, d8, d9, d10⟩ := boxM_c hF.get0
    have hml := lt_of_heap hF.get1
    have hnl := lt_of_heap hF.get0
    go_wp2_with fail
    refine (mat_same (RA.out.keep hF.bel) RN.out).mono ?_
    rintro e wx ⟨rfl, hB⟩
    replace hF := hF.keep hB
    replace RN := Lib.hid (RN.out.keep hB)
    clear hB hml hnl
    clear c0 c1 c2 c3 c4 c5 c6 c7 c8 c9 c10 d0 d1 d2 d3 d4 d5 d6 d7 d8 d9 d10
    rw [hS.out]
    obtain ⟨c0, c1, c2, c3, c4, c5, c6, c7, c8, c9, c10⟩ := boxM_c hF.get1
    obtain ⟨d0, d1, d2, d3, d4, d5, d6, d7, d8, d9, d10⟩ := boxM_c hF.get0
    have hml := lt_of_heap hF.get1
    have hnl := lt_of_heap hF.get0
    go_wp2_with fail
    refine (rmat_same (RA.out.keep hF.bel) RN.out).mono ?_
    rintro e wy ⟨rfl, hB⟩
    replace hF := hF.keep hB
    clear hB hml hnl
    clear c0 c1 c2 c3 c4 c5 c6 c7 c8 c9 c10 d0 d1 d2 d3 d4 d5 d6 d7 d8 d9 d10
    rw [hS.out]
    go_wp2
    all_goals first | (exfalso; omega) | (go_ret; exact ⟨rfl, hF.bel⟩)
  | 4, _ =>
    rcases Nat.eq_zero_or_pos a.masters.length with h0 | hpos
    · have h0' : a.masters.length ≤ 0 := by omega
      clear h0
      obtain ⟨d0, d1, d2, d3, d4, d5, d6, d7, d8, d9, d10⟩ := boxM_c hO.get0
      have hnl := lt_of_heap hO.get0
      go_wp2
      all_goals first | (exfalso; omega) | (go_ret; exact ⟨rfl, hO.bel⟩)
    obtain ⟨g, e1, hg, hgk⟩ := newL_blk HN.out.n1 hpos
    simp only [Value.slice.injEq] at e1
    obtain ⟨rfl, _, _⟩ := e1
    obtain ⟨k, hk, hkl⟩ : ∃ k, at_ % a.masters.length = k ∧ k < a.masters.length := ⟨_, rfl, Nat.mod_lt _ hpos⟩
    have hmod : ((at_ : Int)).tmod (a.masters.length : Int) = (k : Int) := by rw [← hk]; exact (Int.ofNat_tmod at_ a.masters.length).symm
    clear hk
    obtain ⟨z, hz⟩ : ∃ z, a.masters[k]? = some z := ⟨_, List.getElem?_eq_getElem hkl⟩
    have HZ := Lib.hid hz
    have lc : w5.cell? ⟨g, k, none⟩ = some (.int .i64 z) := (cell_of hgk _).trans (by simpa using flatMap_at intC_len a.masters k z 0 _ hz rfl)
    have lf := free_of hgk (k)
    have lg := lt_of_heap hgk
    have HG := Lib.hid hgk
    clear hz hgk
    obtain ⟨d0, d1, d2, d3, d4, d5, d6, d7, d8, d9, d10⟩ := boxM_c hO.get0
    have hnl := lt_of_heap hO.get0
    go_upto_region 25 with fail
    go_region
    go_upto_region 26 with fail
    clear d0 d1 d2 d3 d4 d5 d6 d7 d8 d9 d10 hnl lc lf lg hmod
    have hU := (Upd.setCell (k) (.int .i64 (wrap64 (z + 1))) (Upd.refl HG.out)).drew
    have hnn : ∀ b u, (b, u) ∈ [(w3.heap.size, boxM a (.slice (some ⟨g, 0, none⟩) a.masters.length a.masters.length) (.slice x2 a.msgs.length a.msgs.length) (.slice x3 a.wins.length a.wins.length)), (w.heap.size, boxM a (.slice a1 a.masters.length p1) (.slice a2 a.msgs.length p2) (.slice a3 a.wins.length p3))] → b ≠ g := by
      intro b u hm he
      rw [he] at hm
      have h2 := (hO.all _ u hm).2
      rw [HG.out] at h2
      simp only [List.mem_cons, Prod.mk.injEq, List.not_mem_nil, or_false] at hm
      rcases hm with ⟨_, rfl⟩ | ⟨_, rfl⟩ <;> (simp only [boxM, Option.some.injEq, Obj.cells.injEq] at h2; exact absurd h2.2.1 (by decide))
    have hF := ((hO.more HG.out (by omega) hnn).upd0 hU).drop
    have hF : Own w.heap.size w [(w3.heap.size, boxM { a with masters := a.masters.set k (wrap64 (z + 1)) } (.slice (some ⟨g, 0, none⟩) a.masters.length a.masters.length) (.slice x2 a.msgs.length a.msgs.length) (.slice x3 a.wins.length a.wins.length)), (w.heap.size, boxM a (.slice a1 a.masters.length p1) (.slice a2 a.msgs.length p2) (.slice a3 a.wins.length p3))] _ := hF
    have hb1 := hU.blk
    have hR1 : RdL 1 intC (w5.setCell ⟨g, k, none⟩ (.int .i64 (wrap64 (z + 1)))).drew (.slice (some ⟨g, 0, none⟩) a.masters.length a.masters.length) (a.masters.set k (wrap64 (z + 1))) :=
      RdL_set intC_len (show a.masters.length ≤ maxLen by unfold maxLen; omega) HZ.out (j0 := 0) (by decide) rfl (by simpa using hb1)
    have hmem := List.mem_of_getElem? HZ.out
    have RN := Lib.hid (show RdM _ { a with masters := a.masters.set k (wrap64 (z + 1)) } (.slice (some ⟨g, 0, none⟩) a.masters.length a.masters.length) (.slice x2 a.msgs.length a.msgs.length) (.slice x3 a.wins.length a.wins.length) from ⟨{ RA.out.ok with masters := fun x hx => (List.mem_or_eq_of_mem_set hx).elim (RA.out.ok.masters x) (fun h => by rw [h]; exact wrap_ok) }, hR1, (NewL.far HN.out.n2 hU HG.out (by decide)).rd msgC_len (show a.msgs.length ≤ maxLen by unfold maxLen; omega), (NewL.far HN.out.n3 hU HG.out (by decide)).rd winC_len (show a.wins.length ≤ maxLen by unfold maxLen; omega)⟩)
    have hS := Lib.hid (show sameB a { a with masters := a.masters.set k (wrap64 (z + 1)) } = false from same_off2 (eqL_off HZ.out (List.getElem?_set_self hkl) (wrap_apart (RA.out.ok.masters z hmem))))
    clear hb1 hR1 hnn hU
    obtain ⟨c0, c1, c2, c3, c4, c5, c6, c7, c8, c9, c10⟩ := boxM_c hF.get1
    obtain ⟨d0, d1, d2, d3, d4, d5, d6, d7, d8, d9, d10⟩ := boxM_c hF.get0
    have hml := lt_of_heap hF.get1
    have hnl := lt_of_heap hF.get0
    go_wp2_with fail
    refine (mat_same (RA.out.keep hF.bel) RN.out).mono ?_
    rintro e wx ⟨rfl, hB⟩
    replace hF := hF.keep hB
    replace RN := Lib.hid (RN.out.keep hB)
    clear hB hml hnl
    clear c0 c1 c2 c3 c4 c5 c6 c7 c8 c9 c10 d0 d1 d2 d3 d4 d5 d6 d7 d8 d9 d10
    rw [hS.out]
    obtain ⟨c0, c1, c2, c3, c4, c5, c6, c7, c8, c9, c10⟩ := boxM_c hF.get1
    obtain ⟨d0, d1, d2, d3, d4, d5, d6, d7, d8, d9, d10⟩ := boxM_c hF.get0
    have hml := lt_of_heap hF.get1
    have hnl := lt_of_heap hF.get0
    go_wp2_with fail
    refine (rmat_same (RA.out.keep hF.bel) RN.out).mono ?_
    rintro e wy ⟨rfl, hB⟩
    replace hF := hF.keep hB
    clear hB hml hnl
    clear c0 c1 c2 c3 c4 c5 c6 c7 c8 c9 c10 d0 d1 d2 d3 d4 d5 d6 d7 d8 d9 d10
    rw [hS.out]
    go_wp2
    all_goals first | (exfalso; omega) | (go_ret; exact ⟨rfl, hF.bel⟩)
  | 5, _ =>
    obtain ⟨d0, d1, d2, d3, d4, d5, d6, d7, d8, d9, d10⟩ := boxM_c hO.get0
    have hnl := lt_of_heap hO.get0
    have f0 := free_of hO.get0 6
    have f1 := free_of hO.get0 7
    have f2 := free_of hO.get0 8
    go_upto_region 26 with fail
    clear d0 d1 d2 d3 d4 d5 d6 d7 d8 d9 d10 hnl f0 f1 f2
    have hF := hO.upd0 (Upd.setCell 7 (.int .u32 ((a.ref + 8) % 4294967296)) (Upd.refl hO.get0))
    have hF : Own w.heap.size w [(w3.heap.size, boxM { a with ref := (a.ref + 8) % 4294967296 } (.slice x1 a.masters.length a.masters.length) (.slice x2 a.msgs.length a.msgs.length) (.slice x3 a.wins.length a.wins.length)), (w.heap.size, boxM a (.slice a1 a.masters.length p1) (.slice a2 a.msgs.length p2) (.slice a3 a.wins.length p3))] (w5.setCell ⟨w3.heap.size, 7, none⟩ (.int .u32 ((a.ref + 8) % 4294967296))) := by simpa [boxM] using hF
    have hU := Upd.setCell 7 (.int .u32 ((a.ref + 8) % 4294967296)) (Upd.refl hO.get0)
    have RN := Lib.hid (show RdM _ { a with ref := (a.ref + 8) % 4294967296 } (.slice x1 a.masters.length a.masters.length) (.slice x2 a.msgs.length a.msgs.length) (.slice x3 a.wins.length a.wins.length) from NewM.rd (m := { a with ref := (a.ref + 8) % 4294967296 }) ⟨NewL.far HN.out.n1 hU hO.get0 (by decide), NewL.far HN.out.n2 hU hO.get0 (by decide), NewL.far HN.out.n3 hU hO.get0 (by decide)⟩ (show FewM a from ⟨by omega, by omega, by omega⟩) { RA.out.ok with ref := wrap32_ok })
    have hS := Lib.hid (show sameB a { a with ref := (a.ref + 8) % 4294967296 } = false from same_off1 (by unfold headEq; simp only [wrap8_apart RA.out.ok.ref, Bool.and_false, Bool.false_and]))
    obtain ⟨c0, c1, c2, c3, c4, c5, c6, c7, c8, c9, c10⟩ := boxM_c hF.get1
    obtain ⟨d0, d1, d2, d3, d4, d5, d6, d7, d8, d9, d10⟩ := boxM_c hF.get0
    have hml := lt_of_heap hF.get1
    have hnl := lt_of_heap hF.get0
    go_wp2_with fail
    refine (mat_same (RA.out.keep hF.bel) RN.out).mono ?_
    rintro e wx ⟨rfl, hB⟩
    replace hF := hF.keep hB
    replace RN := Lib.hid (RN.out.keep hB)
    clear hB hml hnl
    clear c0 c1 c2 c3 c4 c5 c6 c7 c8 c9 c10 d0 d1 d2 d3 d4 d5 d6 d7 d8 d9 d10
    rw [hS.out]
    obtain ⟨c0, c1, c2, c3, c4, c5, c6, c7, c8, c9, c10⟩ := boxM_c hF.get1
    obtain ⟨d0, d1, d2, d3, d4, d5, d6, d7, d8, d9, d10⟩ := boxM_c hF.get0
    have hml := lt_of_heap hF.get1
    have hnl := lt_of_heap hF.get0
    go_wp2_with fail
    refine (rmat_same (RA.out.keep hF.bel) RN.out).mono ?_
    rintro e wy ⟨rfl, hB⟩
    replace hF := hF.keep hB
    clear hB hml hnl
    clear c0 c1 c2 c3 c4 c5 c6 c7 c8 c9 c10 d0 d1 d2 d3 d4 d5 d6 d7 d8 d9 d10
    rw [hS.out]
    go_wp2
    all_goals first | (exfalso; omega) | (go_ret; exact ⟨rfl, hF.bel⟩)
set_option maxRecDepth 100000 in
theorem MatrixApart_walk {H : Type} {enc : TypeId × Value → H} {base : Nat} {d0 : DataW H} {p0 : List MemPlace} (v0 : Value) (a1 a2 : Int) (w1 : (Lit.int .u8 a1).wf = true) (w2 : (Lit.int .u8 a2).wf = true) (W : World)
    (hv0 : Value.okWide Try.prog W .any base 27 v0) (h0 : DataW.Trod enc Try.prog W 0 (fun _ => true) true 27 v0 d0 p0) :
    Holds 10 #[v0, .int .u8 a1, .int .u8 a2] W := by
  obtain ⟨a, s1, s2, s3, rfl, ra⟩ := open_mat hv0 h0
  have b1 := bounds_u8 w1
  have b2 := bounds_u8 w2
  obtain ⟨n1, rfl⟩ : ∃ n : Nat, a1 = n := ⟨a1.toNat, by omega⟩
  obtain ⟨n2, rfl⟩ : ∃ n : Nat, a2 = n := ⟨a2.toNat, by omega⟩
  exact MatrixApart_core a s1 s2 s3 n1 n2 (by omega) (by omega) W ra

set_option maxRecDepth 100000 in
theorem MatrixApart_lifted (os : Os) (started : os.Started) (H : Type) (enc : TypeId × Value → H) :
    ReturnsInHanded {} Try.checked os 10 .any (Rows.matrixApartSpec.pre6 enc Try.prog Try.f10 [] false) (Rows.matrixApartSpec.post enc Try.prog Try.f10 false true false false) := by
  refine law_lifted (n := 3) os started H enc (by kernel_rfl) Try.func10 rfl rfl (hts_of (by kernel_rfl)) rfl (fun ds h => match ds, h with | [_, _, _], _ => rfl)
    (ChangeSpec.witness6 (enc := enc) (C := Try.checked) false ⟨#[], #[.agg #[.int .i64 0, .int .i64 0, .int .i64 0, .int .i64 0, .int .i64 0, .int .i64 0, .int .i64 0, .int .u32 0, .slice none 0 0, .slice none 0 0, .slice none 0 0], .int .u8 0, .int .u8 0], []⟩ 8 (by kernel_rfl) (by kernel_rfl) (by kernel_rfl) (by kernel_rfl)) ?_
  intro W base args ds p hval hA
  rw [Try.params10] at hA hval
  obtain ⟨v0, vs0, d0, ds0, p0, q0, hargs, rfl, rfl, h0, r0⟩ := trodAll_cons hA
  obtain ⟨v1, vs1, d1, ds1, p1, q1, rfl, rfl, rfl, h1, r1⟩ := trodAll_cons r0
  obtain ⟨v2, vs2, d2, ds2, p2, q2, rfl, rfl, rfl, h2, r2⟩ := trodAll_cons r1
  obtain ⟨rfl, rfl, rfl⟩ := trodAll_nil r2
  obtain rfl : args = #[v0, v1, v2] := by cases args; simp_all
  obtain ⟨a1, rfl, rfl, rfl, w1⟩ := open_int Try.underlying5 (hval 1 _ v1 rfl rfl) h1
  obtain ⟨a2, rfl, rfl, rfl, w2⟩ := open_int Try.underlying5 (hval 2 _ v2 rfl rfl) h2
  exact MatrixApart_walk v0 a1 a2 w1 w2 W (hval 0 _ v0 rfl rfl) h0

theorem MatrixApart_over : Rows.matrixApartRow.holds Try.pinned (OpenSpec.ofChange Rows.matrixApartSpec) :=
  OpenClaim.holds_of_wide 10 Try.f10 rfl rfl rfl rfl rfl rfl rfl ⟨rfl, rfl, rfl, rfl, rfl⟩ rfl rfl rfl rfl rfl (by kernel_rfl) Try.func10 (by kernel_rfl)
    (of_decide_eq_true (by kernel_rfl)) (by unfold Func.isWrapper; first | (rw [if_pos (by decide +kernel)]; kernel_rfl) | (rw [if_neg (by decide +kernel)]; exact ⟨rfl, rfl⟩))
    (fun os started H enc _ => MatrixApart_lifted os started H enc)
theorem MatrixApart_holds : Rows.MatrixApartSaid := MatrixApart_over
#print axioms MatrixApart_holds
end Go.Proofs.Ythkhlcigegbpfaa
