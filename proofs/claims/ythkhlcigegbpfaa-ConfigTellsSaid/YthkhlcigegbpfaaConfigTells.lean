/- ConfigTells: of every matrix its bytes, by which it is known. No conditions. -/
import Derived.Test.YthkhlcigegbpfaaCfKnown
import Derived.Test.YthkhlcigegbpfaaRPrint
namespace Go.Proofs.Ythkhlcigegbpfaa
set_option linter.unusedVariables false
set_option linter.unusedSimpArgs false
open Go.ChangeShapes Go.WideShapes Go.ChangeAt Go.RowKit Go.Deep

set_option maxRecDepth 100000 in
set_option maxHeartbeats 4000000 in
theorem ConfigTells_core (m : Mat) (s1 s2 s3 : Value) (w : World) (h : RdM w m s1 s2 s3) : Holds 12 #[matV m s1 s2 s3] w := by
  have hO := (Own.nil_ (Below.refl w.heap.size w) (Nat.le_refl _)).alloc (boxM m s1 s2 s3)
  obtain ⟨a1, p1, e1, r1⟩ := h.r1.shape
  obtain ⟨a2, p2, e2, r2⟩ := h.r2.shape
  obtain ⟨a3, p3, e3, r3⟩ := h.r3.shape
  subst e1 e2 e3
  clear r1 r2 r3
  have RM := Lib.hid h
  clear h
  unfold Holds matV
  go_enter Try.func12, Try.ntmps12
  go_wp2_with fail
  refine (own_below hO (known13 _)).mono ?_
  rintro e w1 ⟨rfl, hO⟩
  obtain ⟨c0, c1, c2, c3, c4, c5, c6, c7, c8, c9, c10⟩ := boxM_c hO.get0
  have hml := lt_of_heap hO.get0
  go_wp2_with fail
  refine (own_below hO (few13 (RM.out.keep hO.bel))).mono ?_
  obtain ⟨zf, hzf⟩ : ∃ z, decide (m.masters.length ≤ 10 ∧ m.msgs.length ≤ 20 ∧ m.wins.length ≤ 25) = z := ⟨_, rfl⟩
  rw [hzf]
  clear hzf
  rintro e w2 ⟨rfl, hO⟩
  clear c0 c1 c2 c3 c4 c5 c6 c7 c8 c9 c10 hml
  cases zf
  · go_wp2
    go_ret
    exact ⟨rfl, hO.bel⟩
  obtain ⟨c0, c1, c2, c3, c4, c5, c6, c7, c8, c9, c10⟩ := boxM_c hO.get0
  have hml := lt_of_heap hO.get0
  have hsm := print_small (m := m)
  have hpe : (isB m = true → pmE (printE m) = m ∧ peE (printE m) = 0 ∧ 0 < (printE m).size) ∧ (isB m = false → printE m = ⟨#[]⟩ ∧ pmE (printE m) = zeroM' ∧ peE (printE m) = 130) := by
    refine ⟨fun hi => ⟨(pe_ok hi RM.out.ok).1, (pe_ok hi RM.out.ok).2, by rw [print_size hi]; omega⟩, fun hi => ?_⟩
    have h1 := print_none hi
    exact ⟨h1, by rw [h1]; exact pe_no okE_none⟩
  obtain ⟨p, hp⟩ : ∃ p, printE m = p := ⟨_, rfl⟩
  rw [hp] at hsm hpe
  have HP := Lib.hid hp
  have HPE := Lib.hid hpe
  clear hp hpe
  have HSM := Lib.hid (show p.size ≤ maxLen by unfold maxLen; omega)
  clear hsm
  go_wp2_with fail
  refine (own_below hO (cf_print (RM.out.keep hO.bel))).mono ?_
  rw [HP.out]
  rintro e w3 ⟨rfl, hO⟩
  clear c0 c1 c2 c3 c4 c5 c6 c7 c8 c9 c10 hml
  go_wp2_with fail
  refine (cf_parseQ p HSM.out).mono ?_
  rintro e w4 ⟨t1, q1, t2, q2, t3, q3, rfl, hB, hR⟩
  obtain ⟨n, hn⟩ : ∃ n, pmE p = n := ⟨_, rfl⟩
  obtain ⟨en, hen⟩ : ∃ en, peE p = en := ⟨_, rfl⟩
  have HPE2 := Lib.hid (show (isB m = true → n = m ∧ en = 0 ∧ 0 < p.size) ∧ (isB m = false → p = ⟨#[]⟩ ∧ n = zeroM' ∧ en = 130) from by rw [← hn, ← hen]; exact HPE.out)
  rw [hn, hen]
  rw [hn] at hR
  have hO4 := hO.keep hB
  have HR := Lib.hid (hR.keep (show Below w4.heap.size w4 (w4.alloc (boxM n (.slice t1 n.masters.length q1) (.slice t2 n.msgs.length q2) (.slice t3 n.wins.length q3))) from (Below.refl _ _).alloc (Nat.le_refl _) _))
  clear hB hR hn hen HPE hO
  unfold matV
  obtain ⟨c0, c1, c2, c3, c4, c5, c6, c7, c8, c9, c10⟩ := boxM_c hO4.get0
  have hml := lt_of_heap hO4.get0
  have hO := hO4.alloc (boxM n (.slice t1 n.masters.length q1) (.slice t2 n.msgs.length q2) (.slice t3 n.wins.length q3))
  clear hO4
  go_wp2_with fail
  refine (rf_print (RM.out.keep hO.bel)).mono ?_
  rw [HP.out]
  rintro e w5 ⟨rfl, hB⟩
  replace hO := hO.keep hB
  replace HR := Lib.hid (HR.out.keep hB)
  clear c0 c1 c2 c3 c4 c5 c6 c7 c8 c9 c10 hml hB
  obtain ⟨c0, c1, c2, c3, c4, c5, c6, c7, c8, c9, c10⟩ := boxM_c hO.get1
  have hml := lt_of_heap hO.get1
  go_wp2_with fail
  refine (cf_size (RM.out.keep hO.bel)).mono ?_
  rw [HP.out]
  rintro e w6 ⟨rfl, hB⟩
  replace hO := hO.keep hB
  replace HR := Lib.hid (HR.out.keep hB)
  clear c0 c1 c2 c3 c4 c5 c6 c7 c8 c9 c10 hml hB
  cases hz : isB m with
  | false =>
    obtain ⟨rfl, _, rfl⟩ := HPE2.out.2 hz
    have HZ := Lib.hid hz
    clear hz
    go_wp2
    go_ret
    exact ⟨rfl, hO.bel⟩
  | true =>
    obtain ⟨rfl, rfl, hp0⟩ := HPE2.out.1 hz
    have HZ := Lib.hid hz
    have hne := isEmpty_of_pos hp0
    have HS := Lib.hid (sameB_rfl n)
    clear hz
    obtain ⟨c0, c1, c2, c3, c4, c5, c6, c7, c8, c9, c10⟩ := boxM_c hO.get1
    have hml := lt_of_heap hO.get1
    obtain ⟨d0, d1, d2, d3, d4, d5, d6, d7, d8, d9, d10⟩ := boxM_c hO.get0
    have hdl := lt_of_heap hO.get0
    go_wp2_with fail
    refine (own_below hO (rmat_same (RM.out.keep hO.bel) HR.out)).mono ?_
    rw [HS.out]
    rintro e w7 ⟨rfl, hO⟩
    go_wp2
    go_ret
    exact ⟨rfl, hO.bel⟩
set_option maxRecDepth 100000 in
theorem ConfigTells_walk {H : Type} {enc : TypeId × Value → H} {base : Nat} {d0 : DataW H} {p0 : List MemPlace} (v0 : Value) (W : World)
    (hv0 : Value.okWide Try.prog W .any base 27 v0) (h0 : DataW.Trod enc Try.prog W 0 (fun _ => true) true 27 v0 d0 p0) : Holds 12 #[v0] W := by
  obtain ⟨a, s1, s2, s3, rfl, ra⟩ := open_mat hv0 h0
  exact ConfigTells_core a s1 s2 s3 W ra

set_option maxRecDepth 100000 in
theorem ConfigTells_lifted (os : Os) (started : os.Started) (H : Type) (enc : TypeId × Value → H) :
    ReturnsInHanded {} Try.checked os 12 .any (Rows.configTellsSpec.pre6 enc Try.prog Try.f12 [] false) (Rows.configTellsSpec.post enc Try.prog Try.f12 false true false false) := by
  refine law_lifted (n := 1) os started H enc (by kernel_rfl) Try.func12 rfl rfl (hts_of (by kernel_rfl)) rfl (fun ds h => match ds, h with | [_], _ => rfl)
    (ChangeSpec.witness6 (enc := enc) (C := Try.checked) false ⟨#[], #[.agg #[.int .i64 0, .int .i64 0, .int .i64 0, .int .i64 0, .int .i64 0, .int .i64 0, .int .i64 0, .int .u32 0, .slice none 0 0, .slice none 0 0, .slice none 0 0]], []⟩ 8 (by kernel_rfl) (by kernel_rfl) (by kernel_rfl) (by kernel_rfl)) ?_
  intro W base args ds p hval hA
  rw [Try.params12] at hA hval
  obtain ⟨v0, vs0, d0, ds0, p0, q0, hargs, rfl, rfl, h0, r0⟩ := trodAll_cons hA
  obtain ⟨rfl, rfl, rfl⟩ := trodAll_nil r0
  obtain rfl : args = #[v0] := by cases args; simp_all
  exact ConfigTells_walk v0 W (hval 0 _ v0 rfl rfl) h0

theorem ConfigTells_over : Rows.configTellsRow.holds Try.pinned (OpenSpec.ofChange Rows.configTellsSpec) :=
  OpenClaim.holds_of_wide 12 Try.f12 rfl rfl rfl rfl rfl rfl rfl ⟨rfl, rfl, rfl, rfl, rfl⟩ rfl rfl rfl rfl rfl (by kernel_rfl) Try.func12 (by kernel_rfl)
    (of_decide_eq_true (by kernel_rfl)) (by unfold Func.isWrapper; first | (rw [if_pos (by decide +kernel)]; kernel_rfl) | (rw [if_neg (by decide +kernel)]; exact ⟨rfl, rfl⟩))
    (fun os started H enc _ => ConfigTells_lifted os started H enc)
theorem ConfigTells_holds : Rows.ConfigTellsSaid := ConfigTells_over
#print axioms ConfigTells_holds
end Go.Proofs.Ythkhlcigegbpfaa
