/- RefmsgTells: of every beat its frame; of every frame the beat, or that it is none. No conditions. -/
import Derived.Test.YthkhlcigegbpfaaRmKnown
import Derived.Test.YthkhlcigegbpfaaRmsg4
namespace Go.Proofs.Ythkhlcigegbpfaa
set_option linter.unusedVariables false
set_option linter.unusedSimpArgs false
open Go.ChangeShapes Go.WideShapes Go.ChangeAt Go.RowKit Go.Deep

set_option maxRecDepth 100000 in
set_option maxHeartbeats 8000000 in
theorem RefmsgTells_core {w : World} {m : Mat} {s1 s2 s3 : Value} (h : RdM w m s1 s2 s3) (rank cycle glob : Int) (hr : I64 rank) (hc : I64 cycle) (hgl : 0 ≤ glob ∧ glob ≤ 65535) (disc : Bool) (f : Fr) (hid : U32 f.id) (hd : f.data.size ≤ maxLen) :
    Holds 3 #[matV m s1 s2 s3, .int .i64 rank, .int .i64 cycle, .int .u16 glob, .bool disc, frV f] w := by
  have hp := held30
  have hg := guard30
  have hp6 := held36
  have hg6 := guard36
  have hO := ((Own.nil_ (Below.refl w.heap.size w) (Nat.le_refl _)).alloc (boxM m s1 s2 s3)).alloc (boxF f)
  have hms : (w.alloc (boxM m s1 s2 s3)).heap.size = w.heap.size + 1 := by simp
  rw [hms] at hO
  clear hms
  obtain ⟨a1, p1, e1, r1⟩ := h.r1.shape
  obtain ⟨a2, p2, e2, r2⟩ := h.r2.shape
  obtain ⟨a3, p3, e3, r3⟩ := h.r3.shape
  subst e1 e2 e3
  have RM := Lib.hid h
  have HID := Lib.hid (And.intro hid hd)
  have HRC := Lib.hid (And.intro hr (And.intro hc hgl))
  unfold maxLen at hd
  clear r1 r2 r3 h hid hr hc hgl
  unfold Holds matV frV
  go_enter Try.func3, Try.ntmps3
  go_wp2_with fail
  refine (own_below hO (known21 _)).mono ?_
  rintro e w1 ⟨rfl, hO⟩
  obtain ⟨c0, c1, c2, c3, c4, c5, c6, c7, c8, c9, c10⟩ := boxM_c hO.get1
  obtain ⟨g0, g1, g2, g3⟩ := boxF_c hO.get0
  have hl0 := lt_of_heap hO.get0
  have hl1 := lt_of_heap hO.get1
  go_wp2_with fail
  refine (own_below hO (few21 (RM.out.keep hO.bel))).mono ?_
  obtain ⟨z, hz⟩ : ∃ z, decide (m.masters.length ≤ 10 ∧ m.msgs.length ≤ 20 ∧ m.wins.length ≤ 25) = z := ⟨_, rfl⟩
  have HZ := Lib.hid hz
  rw [hz]
  clear hz
  rintro e w2 ⟨rfl, hO⟩
  clear c0 c1 c2 c3 c4 c5 c6 c7 c8 c9 c10 g0 g1 g2 g3 hl0 hl1
  obtain ⟨c0, c1, c2, c3, c4, c5, c6, c7, c8, c9, c10⟩ := boxM_c hO.get1
  obtain ⟨g0, g1, g2, g3⟩ := boxF_c hO.get0
  have hl0 := lt_of_heap hO.get0
  have hl1 := lt_of_heap hO.get1
  have HO := Lib.hid hO
  clear hO
  by_cases hgo : z = true ∧ f.data.size ≤ 20
  rotate_left
  · have HB := Lib.hid HO.out.bel
    cases z
    · go_wp2
      all_goals (go_ret; exact ⟨rfl, HB.out⟩)
    · have h20 : (20 : Int) < f.data.size := by simp at hgo; omega
      go_wp2
      all_goals first | (exfalso; omega) | (go_ret; exact ⟨rfl, HB.out⟩)
  obtain ⟨rfl, h20⟩ := hgo
  have h20i : (f.data.size : Int) ≤ 20 := by omega
  have HM := Lib.hid (show m.masters.length ≤ 100000 by
    have := of_decide_eq_true HZ.out
    omega)
  obtain ⟨⟨⟨be, bi, br, bd⟩, bz⟩, hbb⟩ : ∃ x, buildE m rank cycle glob disc = x := ⟨_, rfl⟩
  obtain ⟨⟨⟨pr, pc, pg, pd⟩, pz⟩, hpp⟩ : ∃ x, parseE m f = x := ⟨_, rfl⟩
  have HBB := Lib.hid hbb
  have HPP := Lib.hid hpp
  clear hbb hpp
  go_wp2_with fail
  all_goals try (exfalso; omega)
  refine (own_below HO.out (rm_build (RM.out.keep HO.out.bel) rank cycle glob HRC.out.1 HRC.out.2.1 HRC.out.2.2 disc)).mono ?_
  rintro e w3 ⟨rfl, hO⟩
  rw [HBB.out]
  simp only [frV]
  clear c0 c1 c2 c3 c4 c5 c6 c7 c8 c9 c10 g0 g1 g2 g3 hl0 hl1 HO
  obtain ⟨c0, c1, c2, c3, c4, c5, c6, c7, c8, c9, c10⟩ := boxM_c hO.get1
  have hl1 := lt_of_heap hO.get1
  go_wp2_with fail
  replace hO := hO.alloc (boxF ⟨be, bi, br, bd⟩)
  refine (own_below hO (rr_build (RM.out.keep hO.bel) rank cycle glob HRC.out.1 HRC.out.2.1 HRC.out.2.2 disc)).mono ?_
  rintro e w4 ⟨rfl, hO⟩
  rw [HBB.out]
  simp only [frV]
  clear c0 c1 c2 c3 c4 c5 c6 c7 c8 c9 c10 hl1
  have hO := hO.alloc (boxF ⟨be, bi, br, bd⟩)
  have hM4 := (hO.drop.drop.drop).get0
  have hF4 := (hO.drop.drop).get0
  obtain ⟨c0, c1, c2, c3, c4, c5, c6, c7, c8, c9, c10⟩ := boxM_c hM4
  obtain ⟨g0, g1, g2, g3⟩ := boxF_c hF4
  have hl1 := lt_of_heap hM4
  have hl0 := lt_of_heap hF4
  clear hM4 hF4
  simp only [boxF] at c0 c1 c2 c3 c4 c5 c6 c7 c8 c9 c10 g0 g1 g2 g3 hl0 hl1
  go_wp2_with fail
  refine (own_below hO (rm_parse (RM.out.keep hO.bel) HM.out f HID.out.1 HID.out.2)).mono ?_
  rintro e w5 ⟨rfl, hO⟩
  rw [HPP.out]
  simp only [btV]
  clear c0 c1 c2 c3 c4 c5 c6 c7 c8 c9 c10 g0 g1 g2 g3 hl0 hl1
  obtain ⟨c0, c1, c2, c3, c4, c5, c6, c7, c8, c9, c10⟩ := boxM_c (hO.drop.drop.drop).get0
  obtain ⟨g0, g1, g2, g3⟩ := boxF_c (hO.drop.drop).get0
  have hl1 := lt_of_heap (hO.drop.drop.drop).get0
  have hl0 := lt_of_heap (hO.drop.drop).get0
  go_wp2_with fail
  replace hO := hO.alloc (boxB ⟨pr, pc, pg, pd⟩)
  refine (own_below hO (rr_beats (RM.out.keep hO.bel) HM.out f HID.out.1 HID.out.2)).mono ?_
  rintro e w6 ⟨rfl, hO⟩
  rw [HPP.out]
  simp only [btV]
  clear c0 c1 c2 c3 c4 c5 c6 c7 c8 c9 c10 g0 g1 g2 g3 hl0 hl1
  obtain ⟨g0, g1, g2, g3⟩ := boxF_c hO.drop.get0
  obtain ⟨k0, k1, k2, k3⟩ := boxF_c hO.drop.drop.get0
  obtain ⟨x0, x1, x2, x3⟩ := boxB_c hO.get0
  simp only at g0 g1 g2 g3 k0 k1 k2 k3 x0 x1 x2 x3
  have hl0 := lt_of_heap hO.get0
  have hl1 := lt_of_heap hO.drop.get0
  have hl2 := lt_of_heap hO.drop.drop.get0
  go_wp2
  go_ret
  exact ⟨rfl, hO.bel.alloc hO.sz _⟩
set_option maxRecDepth 100000 in
theorem RefmsgTells_walk {H : Type} {enc : TypeId × Value → H} {base : Nat} {d0 d5 : DataW H} {p0 p5 : List MemPlace} (v0 : Value) (rank cycle glob : Int) (disc : Bool) (v5 : Value) (hr : (Lit.int .i64 rank).wf = true) (hc : (Lit.int .i64 cycle).wf = true) (hg : (Lit.int .u16 glob).wf = true) (W : World)
    (hv0 : Value.okWide Try.prog W .any base 27 v0) (h0 : DataW.Trod enc Try.prog W 0 (fun _ => true) true 27 v0 d0 p0)
    (hv5 : Value.okWide Try.prog W .any base 30 v5) (h5 : DataW.Trod enc Try.prog W 0 (fun _ => true) true 30 v5 d5 p5) :
    Holds 3 #[v0, .int .i64 rank, .int .i64 cycle, .int .u16 glob, .bool disc, v5] W := by
  obtain ⟨m, s1, s2, s3, rfl, hm⟩ := open_mat hv0 h0
  obtain ⟨f, rfl, hid, hd⟩ := open_frame hv5 h5
  exact RefmsgTells_core hm rank cycle glob hr hc (bounds_u16 hg) disc f hid hd

set_option maxRecDepth 100000 in
theorem RefmsgTells_lifted (os : Os) (started : os.Started) (H : Type) (enc : TypeId × Value → H) :
    ReturnsInHanded {} Try.checked os 3 .any (Rows.refmsgTellsSpec.pre6 enc Try.prog Try.f3 [] false) (Rows.refmsgTellsSpec.post enc Try.prog Try.f3 false true false false) := by
  refine law_lifted (n := 6) os started H enc (by kernel_rfl) Try.func3 rfl rfl (hts_of (by kernel_rfl)) rfl (fun ds h => match ds, h with | [_, _, _, _, _, _], _ => rfl)
    (ChangeSpec.witness6 (enc := enc) (C := Try.checked) false ⟨#[], #[.agg #[.int .i64 0, .int .i64 0, .int .i64 0, .int .i64 0, .int .i64 0, .int .i64 0, .int .i64 0, .int .u32 0, .slice none 0 0, .slice none 0 0, .slice none 0 0], .int .i64 0, .int .i64 0, .int .u16 0, .bool false, .agg #[.bool false, .int .u32 0, .bool false, .string ⟨#[]⟩]], []⟩ 8 (by kernel_rfl) (by kernel_rfl) (by kernel_rfl) (by kernel_rfl)) ?_
  intro W base args ds p hval hA
  rw [Try.params3] at hA hval
  obtain ⟨v0, vs0, d0, ds0, p0, q0, hargs, rfl, rfl, h0, r0⟩ := trodAll_cons hA
  obtain ⟨v1, vs1, d1, ds1, p1, q1, rfl, rfl, rfl, h1, r1⟩ := trodAll_cons r0
  obtain ⟨v2, vs2, d2, ds2, p2, q2, rfl, rfl, rfl, h2, r2⟩ := trodAll_cons r1
  obtain ⟨v3, vs3, d3, ds3, p3, q3, rfl, rfl, rfl, h3, r3⟩ := trodAll_cons r2
  obtain ⟨v4, vs4, d4, ds4, p4, q4, rfl, rfl, rfl, h4, r4⟩ := trodAll_cons r3
  obtain ⟨v5, vs5, d5, ds5, p5, q5, rfl, rfl, rfl, h5, r5⟩ := trodAll_cons r4
  obtain ⟨rfl, rfl, rfl⟩ := trodAll_nil r5
  obtain rfl : args = #[v0, v1, v2, v3, v4, v5] := by cases args; simp_all
  obtain ⟨a1, rfl, rfl, rfl, w1⟩ := open_int Try.underlying3 (hval 1 _ v1 rfl rfl) h1
  obtain ⟨a2, rfl, rfl, rfl, w2⟩ := open_int Try.underlying3 (hval 2 _ v2 rfl rfl) h2
  obtain ⟨a3, rfl, rfl, rfl, w3⟩ := open_int Try.underlying28 (hval 3 _ v3 rfl rfl) h3
  obtain ⟨a4, rfl, rfl, rfl⟩ := open_bool Try.underlying4 (hval 4 _ v4 rfl rfl) h4
  exact RefmsgTells_walk v0 a1 a2 a3 a4 v5 w1 w2 w3 W (hval 0 _ v0 rfl rfl) h0 (hval 5 _ v5 rfl rfl) h5

theorem RefmsgTells_over : Rows.refmsgTellsRow.holds Try.pinned (OpenSpec.ofChange Rows.refmsgTellsSpec) :=
  OpenClaim.holds_of_wide 3 Try.f3 rfl rfl rfl rfl rfl rfl rfl ⟨rfl, rfl, rfl, rfl, rfl⟩ rfl rfl rfl rfl rfl (by kernel_rfl) Try.func3 (by kernel_rfl)
    (of_decide_eq_true (by kernel_rfl)) (by unfold Func.isWrapper; first | (rw [if_pos (by decide +kernel)]; kernel_rfl) | (rw [if_neg (by decide +kernel)]; exact ⟨rfl, rfl⟩))
    (fun os started H enc _ => RefmsgTells_lifted os started H enc)
theorem RefmsgTells_holds : Rows.RefmsgTellsSaid := RefmsgTells_over
#print axioms RefmsgTells_holds
end Go.Proofs.Ythkhlcigegbpfaa
