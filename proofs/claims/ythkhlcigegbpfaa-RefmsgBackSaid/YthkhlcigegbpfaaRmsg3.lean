/- Parse. -/
import Derived.Test.YthkhlcigegbpfaaRmsgL
namespace Go.Proofs.Ythkhlcigegbpfaa
set_option linter.unusedVariables false
set_option linter.unusedSimpArgs false
open Go.ChangeShapes Go.WideShapes Go.ChangeAt Go.RowKit Go.Deep
set_option maxRecDepth 100000 in
set_option maxHeartbeats 40000000 in
theorem rm_parse {w : World} {m : Mat} {s1 s2 s3 : Value} (h : RdM w m s1 s2 s3) (hfew : m.masters.length ≤ 100000) (f : Fr) (hid : U32 f.id) (hd : f.data.size ≤ maxLen) :
    Calls Try.prog 22 #[matV m s1 s2 s3, frV f] w fun e w' => e = .returned (.tuple #[btV (parseE m f).1, .bool (parseE m f).2]) ∧ Below w.heap.size w w' := by
  have hO := (((Own.nil_ (Below.refl w.heap.size w) (Nat.le_refl _)).alloc (boxM m s1 s2 s3)).alloc (boxF f)).alloc (boxB noB)
  have hms : (w.alloc (boxM m s1 s2 s3)).heap.size = w.heap.size + 1 := by simp
  have hms2 : ((w.alloc (boxM m s1 s2 s3)).alloc (boxF f)).heap.size = w.heap.size + 1 + 1 := by simp
  rw [hms2, hms] at hO
  clear hms hms2
  obtain ⟨a1, p1, e1, r1⟩ := h.r1.shape
  subst e1
  have l1 := r1.len.2
  unfold maxLen at l1 hd
  have hrf := h.ok.ref
  have hru : 0 ≤ m.ref ∧ m.ref ≤ 4294967295 := bounds_u32 hrf
  have hiu : 0 ≤ f.id ∧ f.id ≤ 4294967295 := bounds_u32 hid
  have RM := Lib.hid h
  clear r1 h hrf
  obtain ⟨c0, c1, c2, c3, c4, c5, c6, c7, c8, c9, c10⟩ := boxM_c (hO.drop.drop).get0
  obtain ⟨g0, g1, g2, g3⟩ := boxF_c hO.drop.get0
  have hl0 := lt_of_heap hO.get0
  have hl1 := lt_of_heap hO.drop.get0
  have hl2 := lt_of_heap hO.drop.drop.get0
  have HO := Lib.hid hO
  clear hO
  unfold matV frV
  go_enter Try.func22, Try.ntmps22
  unfold boxM boxF boxB noB at c0 c1 c2 c3 c4 c5 c6 c7 c8 c9 c10 g0 g1 g2 g3 hl0 hl1 hl2
  by_cases hsz : f.data.size = 0
  · have HF := Lib.hid (parse_none (m := m) (f := f) (.inl hsz))
    have hszi : (f.data.size : Int) = 0 := by omega
    go_wp2
    all_goals try (exfalso; omega)
    all_goals
      rw [HF.out]
      obtain ⟨r0, r1, r2, r3⟩ := boxB_c HO.out.get0
      simp only [noB, boxB, boxM, boxF] at r0 r1 r2 r3
      refine bodyPost_ret (v := .tuple #[btV noB, .bool false]) ?_ rfl ⟨rfl, HO.out.bel⟩
      simp only [results, Try.results22]
      simp [go_sem, btV, noB, r0, r1, r2, r3]
  have hsz0 : 0 < f.data.size := by omega
  have hszi : (0 : Int) < f.data.size := by omega
  by_cases hir : f.id < m.ref
  · have HF := Lib.hid (parse_none (m := m) (f := f) (.inr (.inl hir)))
    go_wp2
    all_goals try (exfalso; omega)
    all_goals
      rw [HF.out]
      obtain ⟨r0, r1, r2, r3⟩ := boxB_c HO.out.get0
      simp only [noB, boxB, boxM, boxF] at r0 r1 r2 r3
      refine bodyPost_ret (v := .tuple #[btV noB, .bool false]) ?_ rfl ⟨rfl, HO.out.bel⟩
      simp only [results, Try.results22]
      simp [go_sem, btV, noB, r0, r1, r2, r3]
  by_cases hil : (m.masters.length : Int) ≤ f.id - m.ref
  · have HF := Lib.hid (parse_none (m := m) (f := f) (.inr (.inr hil)))
    go_wp2_with fail
    all_goals try (exfalso; omega)
    go_wp2
    all_goals try (exfalso; omega)
    all_goals
      rw [HF.out]
      obtain ⟨r0, r1, r2, r3⟩ := boxB_c HO.out.get0
      simp only [noB, boxB, boxM, boxF] at r0 r1 r2 r3
      refine bodyPost_ret (v := .tuple #[btV noB, .bool false]) ?_ rfl ⟨rfl, HO.out.bel⟩
      simp only [results, Try.results22]
      simp [go_sem, btV, noB, r0, r1, r2, r3]
  go_wp2_with fail
  all_goals try (exfalso; omega)
  obtain ⟨d0, hd0⟩ : ∃ d, dAt f.data 0 = d := ⟨_, rfl⟩
  have hdd := (dAt_of hsz0).trans hd0
  have hb0 := dAt_bounds f.data 0
  rw [hd0] at hb0
  have hw0 : wrap64 d0 = d0 := by unfold wrap64; omega
  go_region
  have hO4 := (HO.out.alloc (boxB ⟨f.id - m.ref, d0, 0, false⟩)).drew
  refine world_out hO4 ?_
  clear hO4 HO c0 c1 c2 c3 c4 c5 c6 c7 c8 c9 c10 g0 g1 g2 g3 hl0 hl1 hl2
  intro w4 hO
  have hms3 : (((w.alloc (boxM m (.slice a1 m.masters.length p1) s2 s3)).alloc (boxF f)).alloc (boxB noB)).heap.size = w.heap.size + 1 + 1 + 1 := by simp
  rw [hms3] at hO
  clear hms3
  obtain ⟨c0, c1, c2, c3, c4, c5, c6, c7, c8, c9, c10⟩ := boxM_c hO.drop.drop.drop.get0
  obtain ⟨g0, g1, g2, g3⟩ := boxF_c hO.drop.drop.get0
  obtain ⟨x0, x1, x2, x3⟩ := boxB_c hO.get0
  have xf2 := free_of hO.get0 2
  have xf3 := free_of hO.get0 3
  have hl0 := lt_of_heap hO.drop.get0
  have hl1 := lt_of_heap hO.drop.drop.get0
  have hl2 := lt_of_heap hO.drop.drop.drop.get0
  have hl3 := lt_of_heap hO.get0
  simp only at x0 x1 x2 x3
  have HO := Lib.hid hO
  clear hO
  by_cases h24 : m.level = 2 ∧ f.data.size = 4
  · obtain ⟨h2, h4⟩ := h24
    have h1s : 1 < f.data.size := by omega
    have h2s : 2 < f.data.size := by omega
    have h3s : 3 < f.data.size := by omega
    have h4i : (f.data.size : Int) = 4 := by omega
    obtain ⟨d1, hd1⟩ : ∃ d, dAt f.data 1 = d := ⟨_, rfl⟩
    obtain ⟨d2, hd2⟩ : ∃ d, dAt f.data 2 = d := ⟨_, rfl⟩
    obtain ⟨d3, hd3⟩ : ∃ d, dAt f.data 3 = d := ⟨_, rfl⟩
    have he1 := (dAt_of h1s).trans hd1
    have he2 := (dAt_of h2s).trans hd2
    have he3 := (dAt_of h3s).trans hd3
    have hor := or16 (dAt_bounds f.data 2) (dAt_bounds f.data 3)
    rw [hd2, hd3] at hor
    have hor2 := or16b (dAt_bounds f.data 2) (dAt_bounds f.data 3)
    rw [hd2, hd3] at hor2
    have hb1 := dAt_bounds f.data 1
    have hb2 := dAt_bounds f.data 2
    have hb3 := dAt_bounds f.data 3
    rw [hd1] at hb1
    rw [hd2] at hb2
    rw [hd3] at hb3
    have HBP := Lib.hid (show beatP m f = ⟨f.id - m.ref, d0, d2 * 256 + d3, d1 == 1⟩ by unfold beatP; rw [if_pos ⟨h2, h4⟩, hd0, hd1, hd2, hd3])
    have hlv : (m.level == 2) = true := by simp [h2]
    clear hd0 hd1 hd2 hd3 h2
    go_wp2_with fail
    have hO5 := HO.out.upd0 ((Upd.setCell 3 (.bool (d1 == 1)) (Upd.refl HO.out.get0)).of_eq (show _ = boxB ⟨f.id - m.ref, d0, 0, d1 == 1⟩ by simp [boxB]))
    refine world_out hO5 ?_
    clear hO5
    intro w5 hO
    clear c0 c1 c2 c3 c4 c5 c6 c7 c8 c9 c10 g0 g1 g2 g3 x0 x1 x2 x3 xf2 xf3 hl0 hl1 hl2 hl3
    obtain ⟨c0, c1, c2, c3, c4, c5, c6, c7, c8, c9, c10⟩ := boxM_c hO.drop.drop.drop.get0
    obtain ⟨g0, g1, g2, g3⟩ := boxF_c hO.drop.drop.get0
    obtain ⟨x0, x1, x2, x3⟩ := boxB_c hO.get0
    have xf2 := free_of hO.get0 2
    have xf3 := free_of hO.get0 3
    have hl0 := lt_of_heap hO.drop.get0
    have hl1 := lt_of_heap hO.drop.drop.get0
    have hl2 := lt_of_heap hO.drop.drop.drop.get0
    have hl3 := lt_of_heap hO.get0
    simp only at x0 x1 x2 x3
    clear HO
    have HO := Lib.hid hO
    clear hO
    go_region
    have HO6 := Lib.hid ((HO.out.upd0 ((Upd.setCell 2 (.int .u16 (d2 * 256 + d3)) (Upd.refl HO.out.get0)).of_eq (show _ = boxB ⟨f.id - m.ref, d0, d2 * 256 + d3, d1 == 1⟩ by simp [boxB]))).drew)
    as_aux_lemma =>
      refine world_out HO6.out ?_
      clear c0 c1 c2 c3 c4 c5 c6 c7 c8 c9 c10 g0 g1 g2 g3 x0 x1 x2 x3 xf2 xf3 hl0 hl1 hl2 hl3 HO HO6 h1s h2s h3s h4i he1 he2 he3 hor hor2 h4
      intro w6 hO
      obtain ⟨c0, c1, c2, c3, c4, c5, c6, c7, c8, c9, c10⟩ := boxM_c hO.drop.drop.drop.get0
      obtain ⟨g0, g1, g2, g3⟩ := boxF_c hO.drop.drop.get0
      obtain ⟨x0, x1, x2, x3⟩ := boxB_c hO.get0
      have hl0 := lt_of_heap hO.drop.get0
      have hl1 := lt_of_heap hO.drop.drop.get0
      have hl2 := lt_of_heap hO.drop.drop.drop.get0
      have hl3 := lt_of_heap hO.get0
      simp only at x0 x1 x2 x3
      have HO := Lib.hid hO
      clear hO
      obtain ⟨⟨fe, fi, fr, fd⟩, hfx⟩ : ∃ x, (buildE m (f.id - m.ref) (d0) (d2 * 256 + d3) (d1 == 1)).1 = x := ⟨_, rfl⟩
      obtain ⟨z, hz⟩ : ∃ z, (buildE m (f.id - m.ref) (d0) (d2 * 256 + d3) (d1 == 1)).2 = z := ⟨_, rfl⟩
      have HPE0 := Lib.hid (show parseE m f = if z = true ∧ frEqB ⟨fe, fi, fr, fd⟩ f = true then (⟨f.id - m.ref, d0, d2 * 256 + d3, d1 == 1⟩, true) else (noB, false) by
        unfold parseE
        rw [if_neg (by omega), HBP.out]
        simp only [hfx, hz])
      have HFX := Lib.hid (And.intro hfx hz)
      clear hfx hz
      have hir' : m.ref ≤ f.id := by omega
      have hi1 : I64 (f.id - m.ref) := i64_of (by omega) (by omega)
      have hi2 : I64 (d0) := i64_of (by omega) (by omega)
      go_wp2_with fail
      refine (own_below HO.out (rm_build (RM.out.keep HO.out.bel) (f.id - m.ref) (d0) (d2 * 256 + d3) hi1 hi2 (by omega) (d1 == 1))).mono ?_
      rintro e w7 ⟨rfl, hO⟩
      rw [HFX.out.1, HFX.out.2]
      simp only [frV]
      clear c0 c1 c2 c3 c4 c5 c6 c7 c8 c9 c10 g0 g1 g2 g3 x0 x1 x2 x3 hl0 hl1 hl2 hl3 hi1 hi2
      obtain ⟨g0, g1, g2, g3⟩ := boxF_c hO.drop.drop.get0
      obtain ⟨x0, x1, x2, x3⟩ := boxB_c hO.get0
      obtain ⟨y0, y1, y2, y3⟩ := boxB_c hO.drop.get0
      have yf0 := free_of hO.drop.get0 0
      have yf1 := free_of hO.drop.get0 1
      have yf2 := free_of hO.drop.get0 2
      have yf3 := free_of hO.drop.get0 3
      have hl0 := lt_of_heap hO.drop.get0
      have hl1 := lt_of_heap hO.drop.drop.get0
      have hl3 := lt_of_heap hO.get0
      simp only at x0 x1 x2 x3
      have hp30 := held30f
      have hg30 := guard30f
      have HO7 := Lib.hid hO
      clear hO HO
      cases z
      · have HPE := Lib.hid (show parseE m f = (noB, false) by rw [HPE0.out]; rfl)
        go_wp2
        rw [HPE.out]
        have hu := (bt_set HO7.out.drop.get0 noB).alloc (.cells #[.bool fe, .int .u32 fi, .bool fr, .string fd] 30)
        obtain ⟨r0, r1, r2, r3⟩ := boxB_c hu.blk
        simp only [noB] at r0 r1 r2 r3
        refine bodyPost_ret (v := .tuple #[btV noB, .bool false]) ?_ rfl ⟨rfl, hu.below HO7.out.bel (by omega) (by have := HO7.out.sz; omega)⟩
        simp only [results, Try.results22]
        simp [go_sem, btV, noB, boxF, r0, r1, r2, r3]
      · by_cases q0 : fe = f.ext
        · subst q0
          by_cases q1 : fi = f.id
          · subst q1
            by_cases q2 : fr = f.rtr
            · subst q2
              by_cases q3 : fd = f.data
              · have HPE := Lib.hid (show parseE m f = (⟨f.id - m.ref, d0, d2 * 256 + d3, d1 == 1⟩, true) by rw [HPE0.out, if_pos ⟨rfl, by simp [frEqB, q3]⟩])
                subst q3
                go_wp2
                rw [HPE.out]
                have hu := (bt_set HO7.out.drop.get0 ⟨f.id - m.ref, d0, d2 * 256 + d3, d1 == 1⟩).alloc (.cells #[.bool f.ext, .int .u32 f.id, .bool f.rtr, .string f.data] 30)
                obtain ⟨r0, r1, r2, r3⟩ := boxB_c hu.blk
                simp only [noB] at r0 r1 r2 r3
                refine bodyPost_ret (v := .tuple #[btV ⟨f.id - m.ref, d0, d2 * 256 + d3, d1 == 1⟩, .bool true]) ?_ rfl ⟨rfl, hu.below HO7.out.bel (by omega) (by have := HO7.out.sz; omega)⟩
                simp only [results, Try.results22]
                simp [go_sem, btV, noB, boxF, r0, r1, r2, r3]
              · have HPE := Lib.hid (show parseE m f = (noB, false) by rw [HPE0.out, if_neg (by simp [frEqB, q3])])
                have hq3 : ¬ fd.toList = f.data.toList := fun h => q3 (toList_inj h)
                go_wp2
                rw [HPE.out]
                have hu := (bt_set HO7.out.drop.get0 noB).alloc (.cells #[.bool f.ext, .int .u32 f.id, .bool f.rtr, .string fd] 30)
                obtain ⟨r0, r1, r2, r3⟩ := boxB_c hu.blk
                simp only [noB] at r0 r1 r2 r3
                refine bodyPost_ret (v := .tuple #[btV noB, .bool false]) ?_ rfl ⟨rfl, hu.below HO7.out.bel (by omega) (by have := HO7.out.sz; omega)⟩
                simp only [results, Try.results22]
                simp [go_sem, btV, noB, boxF, r0, r1, r2, r3]
            · have HPE := Lib.hid (show parseE m f = (noB, false) by rw [HPE0.out, if_neg (by simp [frEqB, q2])])
              go_wp2
              rw [HPE.out]
              have hu := (bt_set HO7.out.drop.get0 noB).alloc (.cells #[.bool f.ext, .int .u32 f.id, .bool fr, .string fd] 30)
              obtain ⟨r0, r1, r2, r3⟩ := boxB_c hu.blk
              simp only [noB] at r0 r1 r2 r3
              refine bodyPost_ret (v := .tuple #[btV noB, .bool false]) ?_ rfl ⟨rfl, hu.below HO7.out.bel (by omega) (by have := HO7.out.sz; omega)⟩
              simp only [results, Try.results22]
              simp [go_sem, btV, noB, boxF, r0, r1, r2, r3]
          · have HPE := Lib.hid (show parseE m f = (noB, false) by rw [HPE0.out, if_neg (by simp [frEqB, q1])])
            go_wp2
            rw [HPE.out]
            have hu := (bt_set HO7.out.drop.get0 noB).alloc (.cells #[.bool f.ext, .int .u32 fi, .bool fr, .string fd] 30)
            obtain ⟨r0, r1, r2, r3⟩ := boxB_c hu.blk
            simp only [noB] at r0 r1 r2 r3
            refine bodyPost_ret (v := .tuple #[btV noB, .bool false]) ?_ rfl ⟨rfl, hu.below HO7.out.bel (by omega) (by have := HO7.out.sz; omega)⟩
            simp only [results, Try.results22]
            simp [go_sem, btV, noB, boxF, r0, r1, r2, r3]
        · have HPE := Lib.hid (show parseE m f = (noB, false) by rw [HPE0.out, if_neg (by simp [frEqB, q0])])
          go_wp2
          rw [HPE.out]
          have hu := (bt_set HO7.out.drop.get0 noB).alloc (.cells #[.bool fe, .int .u32 fi, .bool fr, .string fd] 30)
          obtain ⟨r0, r1, r2, r3⟩ := boxB_c hu.blk
          simp only [noB] at r0 r1 r2 r3
          refine bodyPost_ret (v := .tuple #[btV noB, .bool false]) ?_ rfl ⟨rfl, hu.below HO7.out.bel (by omega) (by have := HO7.out.sz; omega)⟩
          simp only [results, Try.results22]
          simp [go_sem, btV, noB, boxF, r0, r1, r2, r3]
  · have HBP := Lib.hid (show beatP m f = ⟨f.id - m.ref, d0, 0, false⟩ by unfold beatP; rw [if_neg h24, hd0])
    have h24' : ¬ (m.level = 2 ∧ (f.data.size : Int) = 4) := by omega
    have hO := HO.out
    by_cases h2 : m.level = 2
    · have h4i : ((f.data.size : Int) == 4) = false := by simp; omega
      have hlv : (m.level == 2) = true := by simp [h2]
      clear h2 h24 h24'
      as_aux_lemma =>
        obtain ⟨⟨fe, fi, fr, fd⟩, hfx⟩ : ∃ x, (buildE m (f.id - m.ref) (d0) (0) (false)).1 = x := ⟨_, rfl⟩
        obtain ⟨z, hz⟩ : ∃ z, (buildE m (f.id - m.ref) (d0) (0) (false)).2 = z := ⟨_, rfl⟩
        have HPE0 := Lib.hid (show parseE m f = if z = true ∧ frEqB ⟨fe, fi, fr, fd⟩ f = true then (⟨f.id - m.ref, d0, 0, false⟩, true) else (noB, false) by
          unfold parseE
          rw [if_neg (by omega), HBP.out]
          simp only [hfx, hz])
        have HFX := Lib.hid (And.intro hfx hz)
        clear hfx hz
        have hir' : m.ref ≤ f.id := by omega
        have hi1 : I64 (f.id - m.ref) := i64_of (by omega) (by omega)
        have hi2 : I64 (d0) := i64_of (by omega) (by omega)
        go_wp2_with fail
        refine (own_below HO.out (rm_build (RM.out.keep HO.out.bel) (f.id - m.ref) (d0) (0) hi1 hi2 (by omega) (false))).mono ?_
        rintro e w7 ⟨rfl, hO⟩
        rw [HFX.out.1, HFX.out.2]
        simp only [frV]
        clear c0 c1 c2 c3 c4 c5 c6 c7 c8 c9 c10 g0 g1 g2 g3 x0 x1 x2 x3 hl0 hl1 hl2 hl3 hi1 hi2
        obtain ⟨g0, g1, g2, g3⟩ := boxF_c hO.drop.drop.get0
        obtain ⟨x0, x1, x2, x3⟩ := boxB_c hO.get0
        obtain ⟨y0, y1, y2, y3⟩ := boxB_c hO.drop.get0
        have yf0 := free_of hO.drop.get0 0
        have yf1 := free_of hO.drop.get0 1
        have yf2 := free_of hO.drop.get0 2
        have yf3 := free_of hO.drop.get0 3
        have hl0 := lt_of_heap hO.drop.get0
        have hl1 := lt_of_heap hO.drop.drop.get0
        have hl3 := lt_of_heap hO.get0
        simp only at x0 x1 x2 x3
        have hp30 := held30f
        have hg30 := guard30f
        have HO7 := Lib.hid hO
        clear hO HO
        cases z
        · have HPE := Lib.hid (show parseE m f = (noB, false) by rw [HPE0.out]; rfl)
          go_wp2
          rw [HPE.out]
          have hu := (bt_set HO7.out.drop.get0 noB).alloc (.cells #[.bool fe, .int .u32 fi, .bool fr, .string fd] 30)
          obtain ⟨r0, r1, r2, r3⟩ := boxB_c hu.blk
          simp only [noB] at r0 r1 r2 r3
          refine bodyPost_ret (v := .tuple #[btV noB, .bool false]) ?_ rfl ⟨rfl, hu.below HO7.out.bel (by omega) (by have := HO7.out.sz; omega)⟩
          simp only [results, Try.results22]
          simp [go_sem, btV, noB, boxF, r0, r1, r2, r3]
        · by_cases q0 : fe = f.ext
          · subst q0
            by_cases q1 : fi = f.id
            · subst q1
              by_cases q2 : fr = f.rtr
              · subst q2
                by_cases q3 : fd = f.data
                · have HPE := Lib.hid (show parseE m f = (⟨f.id - m.ref, d0, 0, false⟩, true) by rw [HPE0.out, if_pos ⟨rfl, by simp [frEqB, q3]⟩])
                  subst q3
                  go_wp2
                  rw [HPE.out]
                  have hu := (bt_set HO7.out.drop.get0 ⟨f.id - m.ref, d0, 0, false⟩).alloc (.cells #[.bool f.ext, .int .u32 f.id, .bool f.rtr, .string f.data] 30)
                  obtain ⟨r0, r1, r2, r3⟩ := boxB_c hu.blk
                  simp only [noB] at r0 r1 r2 r3
                  refine bodyPost_ret (v := .tuple #[btV ⟨f.id - m.ref, d0, 0, false⟩, .bool true]) ?_ rfl ⟨rfl, hu.below HO7.out.bel (by omega) (by have := HO7.out.sz; omega)⟩
                  simp only [results, Try.results22]
                  simp [go_sem, btV, noB, boxF, r0, r1, r2, r3]
                · have HPE := Lib.hid (show parseE m f = (noB, false) by rw [HPE0.out, if_neg (by simp [frEqB, q3])])
                  have hq3 : ¬ fd.toList = f.data.toList := fun h => q3 (toList_inj h)
                  go_wp2
                  rw [HPE.out]
                  have hu := (bt_set HO7.out.drop.get0 noB).alloc (.cells #[.bool f.ext, .int .u32 f.id, .bool f.rtr, .string fd] 30)
                  obtain ⟨r0, r1, r2, r3⟩ := boxB_c hu.blk
                  simp only [noB] at r0 r1 r2 r3
                  refine bodyPost_ret (v := .tuple #[btV noB, .bool false]) ?_ rfl ⟨rfl, hu.below HO7.out.bel (by omega) (by have := HO7.out.sz; omega)⟩
                  simp only [results, Try.results22]
                  simp [go_sem, btV, noB, boxF, r0, r1, r2, r3]
              · have HPE := Lib.hid (show parseE m f = (noB, false) by rw [HPE0.out, if_neg (by simp [frEqB, q2])])
                go_wp2
                rw [HPE.out]
                have hu := (bt_set HO7.out.drop.get0 noB).alloc (.cells #[.bool f.ext, .int .u32 f.id, .bool fr, .string fd] 30)
                obtain ⟨r0, r1, r2, r3⟩ := boxB_c hu.blk
                simp only [noB] at r0 r1 r2 r3
                refine bodyPost_ret (v := .tuple #[btV noB, .bool false]) ?_ rfl ⟨rfl, hu.below HO7.out.bel (by omega) (by have := HO7.out.sz; omega)⟩
                simp only [results, Try.results22]
                simp [go_sem, btV, noB, boxF, r0, r1, r2, r3]
            · have HPE := Lib.hid (show parseE m f = (noB, false) by rw [HPE0.out, if_neg (by simp [frEqB, q1])])
              go_wp2
              rw [HPE.out]
              have hu := (bt_set HO7.out.drop.get0 noB).alloc (.cells #[.bool f.ext, .int .u32 fi, .bool fr, .string fd] 30)
              obtain ⟨r0, r1, r2, r3⟩ := boxB_c hu.blk
              simp only [noB] at r0 r1 r2 r3
              refine bodyPost_ret (v := .tuple #[btV noB, .bool false]) ?_ rfl ⟨rfl, hu.below HO7.out.bel (by omega) (by have := HO7.out.sz; omega)⟩
              simp only [results, Try.results22]
              simp [go_sem, btV, noB, boxF, r0, r1, r2, r3]
          · have HPE := Lib.hid (show parseE m f = (noB, false) by rw [HPE0.out, if_neg (by simp [frEqB, q0])])
            go_wp2
            rw [HPE.out]
            have hu := (bt_set HO7.out.drop.get0 noB).alloc (.cells #[.bool fe, .int .u32 fi, .bool fr, .string fd] 30)
            obtain ⟨r0, r1, r2, r3⟩ := boxB_c hu.blk
            simp only [noB] at r0 r1 r2 r3
            refine bodyPost_ret (v := .tuple #[btV noB, .bool false]) ?_ rfl ⟨rfl, hu.below HO7.out.bel (by omega) (by have := HO7.out.sz; omega)⟩
            simp only [results, Try.results22]
            simp [go_sem, btV, noB, boxF, r0, r1, r2, r3]
    · have hlv : (m.level == 2) = false := by simp [h2]
      clear h2 h24 h24'
      as_aux_lemma =>
        obtain ⟨⟨fe, fi, fr, fd⟩, hfx⟩ : ∃ x, (buildE m (f.id - m.ref) (d0) (0) (false)).1 = x := ⟨_, rfl⟩
        obtain ⟨z, hz⟩ : ∃ z, (buildE m (f.id - m.ref) (d0) (0) (false)).2 = z := ⟨_, rfl⟩
        have HPE0 := Lib.hid (show parseE m f = if z = true ∧ frEqB ⟨fe, fi, fr, fd⟩ f = true then (⟨f.id - m.ref, d0, 0, false⟩, true) else (noB, false) by
          unfold parseE
          rw [if_neg (by omega), HBP.out]
          simp only [hfx, hz])
        have HFX := Lib.hid (And.intro hfx hz)
        clear hfx hz
        have hir' : m.ref ≤ f.id := by omega
        have hi1 : I64 (f.id - m.ref) := i64_of (by omega) (by omega)
        have hi2 : I64 (d0) := i64_of (by omega) (by omega)
        go_wp2_with fail
        refine (own_below HO.out (rm_build (RM.out.keep HO.out.bel) (f.id - m.ref) (d0) (0) hi1 hi2 (by omega) (false))).mono ?_
        rintro e w7 ⟨rfl, hO⟩
        rw [HFX.out.1, HFX.out.2]
        simp only [frV]
        clear c0 c1 c2 c3 c4 c5 c6 c7 c8 c9 c10 g0 g1 g2 g3 x0 x1 x2 x3 hl0 hl1 hl2 hl3 hi1 hi2
        obtain ⟨g0, g1, g2, g3⟩ := boxF_c hO.drop.drop.get0
        obtain ⟨x0, x1, x2, x3⟩ := boxB_c hO.get0
        obtain ⟨y0, y1, y2, y3⟩ := boxB_c hO.drop.get0
        have yf0 := free_of hO.drop.get0 0
        have yf1 := free_of hO.drop.get0 1
        have yf2 := free_of hO.drop.get0 2
        have yf3 := free_of hO.drop.get0 3
        have hl0 := lt_of_heap hO.drop.get0
        have hl1 := lt_of_heap hO.drop.drop.get0
        have hl3 := lt_of_heap hO.get0
        simp only at x0 x1 x2 x3
        have hp30 := held30f
        have hg30 := guard30f
        have HO7 := Lib.hid hO
        clear hO HO
        cases z
        · have HPE := Lib.hid (show parseE m f = (noB, false) by rw [HPE0.out]; rfl)
          go_wp2
          rw [HPE.out]
          have hu := (bt_set HO7.out.drop.get0 noB).alloc (.cells #[.bool fe, .int .u32 fi, .bool fr, .string fd] 30)
          obtain ⟨r0, r1, r2, r3⟩ := boxB_c hu.blk
          simp only [noB] at r0 r1 r2 r3
          refine bodyPost_ret (v := .tuple #[btV noB, .bool false]) ?_ rfl ⟨rfl, hu.below HO7.out.bel (by omega) (by have := HO7.out.sz; omega)⟩
          simp only [results, Try.results22]
          simp [go_sem, btV, noB, boxF, r0, r1, r2, r3]
        · by_cases q0 : fe = f.ext
          · subst q0
            by_cases q1 : fi = f.id
            · subst q1
              by_cases q2 : fr = f.rtr
              · subst q2
                by_cases q3 : fd = f.data
                · have HPE := Lib.hid (show parseE m f = (⟨f.id - m.ref, d0, 0, false⟩, true) by rw [HPE0.out, if_pos ⟨rfl, by simp [frEqB, q3]⟩])
                  subst q3
                  go_wp2
                  rw [HPE.out]
                  have hu := (bt_set HO7.out.drop.get0 ⟨f.id - m.ref, d0, 0, false⟩).alloc (.cells #[.bool f.ext, .int .u32 f.id, .bool f.rtr, .string f.data] 30)
                  obtain ⟨r0, r1, r2, r3⟩ := boxB_c hu.blk
                  simp only [noB] at r0 r1 r2 r3
                  refine bodyPost_ret (v := .tuple #[btV ⟨f.id - m.ref, d0, 0, false⟩, .bool true]) ?_ rfl ⟨rfl, hu.below HO7.out.bel (by omega) (by have := HO7.out.sz; omega)⟩
                  simp only [results, Try.results22]
                  simp [go_sem, btV, noB, boxF, r0, r1, r2, r3]
                · have HPE := Lib.hid (show parseE m f = (noB, false) by rw [HPE0.out, if_neg (by simp [frEqB, q3])])
                  have hq3 : ¬ fd.toList = f.data.toList := fun h => q3 (toList_inj h)
                  go_wp2
                  rw [HPE.out]
                  have hu := (bt_set HO7.out.drop.get0 noB).alloc (.cells #[.bool f.ext, .int .u32 f.id, .bool f.rtr, .string fd] 30)
                  obtain ⟨r0, r1, r2, r3⟩ := boxB_c hu.blk
                  simp only [noB] at r0 r1 r2 r3
                  refine bodyPost_ret (v := .tuple #[btV noB, .bool false]) ?_ rfl ⟨rfl, hu.below HO7.out.bel (by omega) (by have := HO7.out.sz; omega)⟩
                  simp only [results, Try.results22]
                  simp [go_sem, btV, noB, boxF, r0, r1, r2, r3]
              · have HPE := Lib.hid (show parseE m f = (noB, false) by rw [HPE0.out, if_neg (by simp [frEqB, q2])])
                go_wp2
                rw [HPE.out]
                have hu := (bt_set HO7.out.drop.get0 noB).alloc (.cells #[.bool f.ext, .int .u32 f.id, .bool fr, .string fd] 30)
                obtain ⟨r0, r1, r2, r3⟩ := boxB_c hu.blk
                simp only [noB] at r0 r1 r2 r3
                refine bodyPost_ret (v := .tuple #[btV noB, .bool false]) ?_ rfl ⟨rfl, hu.below HO7.out.bel (by omega) (by have := HO7.out.sz; omega)⟩
                simp only [results, Try.results22]
                simp [go_sem, btV, noB, boxF, r0, r1, r2, r3]
            · have HPE := Lib.hid (show parseE m f = (noB, false) by rw [HPE0.out, if_neg (by simp [frEqB, q1])])
              go_wp2
              rw [HPE.out]
              have hu := (bt_set HO7.out.drop.get0 noB).alloc (.cells #[.bool f.ext, .int .u32 fi, .bool fr, .string fd] 30)
              obtain ⟨r0, r1, r2, r3⟩ := boxB_c hu.blk
              simp only [noB] at r0 r1 r2 r3
              refine bodyPost_ret (v := .tuple #[btV noB, .bool false]) ?_ rfl ⟨rfl, hu.below HO7.out.bel (by omega) (by have := HO7.out.sz; omega)⟩
              simp only [results, Try.results22]
              simp [go_sem, btV, noB, boxF, r0, r1, r2, r3]
          · have HPE := Lib.hid (show parseE m f = (noB, false) by rw [HPE0.out, if_neg (by simp [frEqB, q0])])
            go_wp2
            rw [HPE.out]
            have hu := (bt_set HO7.out.drop.get0 noB).alloc (.cells #[.bool fe, .int .u32 fi, .bool fr, .string fd] 30)
            obtain ⟨r0, r1, r2, r3⟩ := boxB_c hu.blk
            simp only [noB] at r0 r1 r2 r3
            refine bodyPost_ret (v := .tuple #[btV noB, .bool false]) ?_ rfl ⟨rfl, hu.below HO7.out.bel (by omega) (by have := HO7.out.sz; omega)⟩
            simp only [results, Try.results22]
            simp [go_sem, btV, noB, boxF, r0, r1, r2, r3]
end Go.Proofs.Ythkhlcigegbpfaa
