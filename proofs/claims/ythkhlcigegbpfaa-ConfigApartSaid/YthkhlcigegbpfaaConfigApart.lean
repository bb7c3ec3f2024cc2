/- ConfigApart: unlike matrices have unlike bytes. No conditions. -/
import Derived.Test.YthkhlcigegbpfaaCfKnown
namespace Go.Proofs.Ythkhlcigegbpfaa
set_option linter.unusedVariables false
set_option linter.unusedSimpArgs false
open Go.ChangeShapes Go.WideShapes Go.ChangeAt Go.RowKit Go.Deep

set_option maxRecDepth 100000 in
set_option maxHeartbeats 4000000 in
theorem ConfigApart_core (a b : Mat) (s1 s2 s3 t1 t2 t3 : Value) (w : World) (ha : RdM w a s1 s2 s3) (hb : RdM w b t1 t2 t3) : Holds 16 #[matV a s1 s2 s3, matV b t1 t2 t3] w := by
  have hO := ((Own.nil_ (Below.refl w.heap.size w) (Nat.le_refl _)).alloc (boxM a s1 s2 s3)).alloc (boxM b t1 t2 t3)
  have hsz : ∀ o : Obj, (w.alloc o).heap.size = w.heap.size + 1 := fun o => by simp
  rw [hsz] at hO
  clear hsz
  obtain ⟨a1, p1, e1, _⟩ := ha.r1.shape
  obtain ⟨a2, p2, e2, _⟩ := ha.r2.shape
  obtain ⟨a3, p3, e3, _⟩ := ha.r3.shape
  obtain ⟨b1, q1, f1, _⟩ := hb.r1.shape
  obtain ⟨b2, q2, f2, _⟩ := hb.r2.shape
  obtain ⟨b3, q3, f3, _⟩ := hb.r3.shape
  subst e1 e2 e3 f1 f2 f3
  have RA := Lib.hid ha
  have RB := Lib.hid hb
  clear ha hb
  unfold Holds matV
  go_enter Try.func16, Try.ntmps16
  go_wp2_with fail
  refine (own_below hO (known13 _)).mono ?_
  rintro e w1 ⟨rfl, hO⟩
  obtain ⟨c0, c1, c2, c3, c4, c5, c6, c7, c8, c9, c10⟩ := boxM_c hO.get1
  have hml := lt_of_heap hO.get1
  go_wp2_with fail
  refine (own_below hO (few13 (RA.out.keep hO.bel))).mono ?_
  obtain ⟨z1, hz1⟩ : ∃ z, decide (a.masters.length ≤ 10 ∧ a.msgs.length ≤ 20 ∧ a.wins.length ≤ 25) = z := ⟨_, rfl⟩
  rw [hz1]
  clear hz1
  rintro e w2 ⟨rfl, hO⟩
  clear c0 c1 c2 c3 c4 c5 c6 c7 c8 c9 c10 hml
  cases z1
  · go_wp2
    go_ret
    exact ⟨rfl, hO.bel⟩
  obtain ⟨c0, c1, c2, c3, c4, c5, c6, c7, c8, c9, c10⟩ := boxM_c hO.get0
  have hml := lt_of_heap hO.get0
  go_wp2_with fail
  refine (own_below hO (few13 (RB.out.keep hO.bel))).mono ?_
  obtain ⟨z1, hz1⟩ : ∃ z, decide (b.masters.length ≤ 10 ∧ b.msgs.length ≤ 20 ∧ b.wins.length ≤ 25) = z := ⟨_, rfl⟩
  rw [hz1]
  clear hz1
  rintro e w3 ⟨rfl, hO⟩
  clear c0 c1 c2 c3 c4 c5 c6 c7 c8 c9 c10 hml
  cases z1
  · go_wp2
    go_ret
    exact ⟨rfl, hO.bel⟩
  obtain ⟨c0, c1, c2, c3, c4, c5, c6, c7, c8, c9, c10⟩ := boxM_c hO.get1
  have hml := lt_of_heap hO.get1
  obtain ⟨z1, hz1⟩ : ∃ z, isB a = z := ⟨_, rfl⟩
  obtain ⟨z2, hz2⟩ : ∃ z, isB b = z := ⟨_, rfl⟩
  have HZ1 := Lib.hid hz1
  have HZ2 := Lib.hid hz2
  clear hz1 hz2
  go_wp2_with fail
  refine (own_below hO (rmat_is (RA.out.keep hO.bel))).mono ?_
  rw [HZ1.out]
  rintro e w4 ⟨rfl, hO⟩
  clear c0 c1 c2 c3 c4 c5 c6 c7 c8 c9 c10 hml
  cases z1
  · go_wp2
    go_ret
    exact ⟨rfl, hO.bel⟩
  obtain ⟨c0, c1, c2, c3, c4, c5, c6, c7, c8, c9, c10⟩ := boxM_c hO.get0
  have hml := lt_of_heap hO.get0
  go_wp2_with fail
  refine (own_below hO (rmat_is (RB.out.keep hO.bel))).mono ?_
  rw [HZ2.out]
  rintro e w5 ⟨rfl, hO⟩
  clear c0 c1 c2 c3 c4 c5 c6 c7 c8 c9 c10 hml
  cases z2
  · go_wp2
    go_ret
    exact ⟨rfl, hO.bel⟩
  go_wp2_with fail
  have hl := apart_law HZ1.out HZ2.out RA.out.ok RB.out.ok
  obtain ⟨p, hp⟩ : ∃ p, printE a = p := ⟨_, rfl⟩
  obtain ⟨q, hq⟩ : ∃ q, printE b = q := ⟨_, rfl⟩
  obtain ⟨z, hz⟩ : ∃ z, sameB a b = z := ⟨_, rfl⟩
  rw [hp, hq, hz] at hl
  have hpq : (p.toList == q.toList) = z := by
    rw [← hl, Bool.eq_iff_iff]
    simp
    exact ⟨fun h => tl_inj h, fun h => by rw [h]⟩
  have HP := Lib.hid hp
  have HQ := Lib.hid hq
  have HZ := Lib.hid hz
  clear hp hq hz hl
  refine wp_region_held_drew (S := fun w' => Own w.heap.size w [(w.heap.size + 1, boxM b (.slice b1 b.masters.length q1) (.slice b2 b.msgs.length q2) (.slice b3 b.wins.length q3)), (w.heap.size, boxM a (.slice a1 a.masters.length p1) (.slice a2 a.msgs.length p2) (.slice a3 a.wins.length p3))] w') (by kernel_rfl) hO.drew (fun hHeld => ?_)
  clear hO
  refine take_op 0 rfl (by kernel_rfl) (by kernel_rfl) (by kernel_rfl) (fun _ _ _ h => h) (by rfl) (by (intro wz hSw; (obtain ⟨c0, c1, c2, c3, c4, c5, c6, c7, c8, c9, c10⟩ := boxM_c hSw.get1); go_simp; (try with_reducible rfl))) (by assumption) ?_
  simp only [Act.put, List.setIfInBounds_toArray, List.set_cons_zero, List.set_cons_succ]
  refine take_op 5 rfl (by kernel_rfl) (by kernel_rfl) (by kernel_rfl) (fun _ _ _ h => h) (by rfl) (by (intro wz hSw; (obtain ⟨c0, c1, c2, c3, c4, c5, c6, c7, c8, c9, c10⟩ := boxM_c hSw.get1); go_simp; (try with_reducible rfl))) (by assumption) ?_
  simp only [Act.put, List.setIfInBounds_toArray, List.set_cons_zero, List.set_cons_succ]
  refine take_op 2 rfl (by kernel_rfl) (by kernel_rfl) (by kernel_rfl) (fun _ _ _ h => h) (by rfl) (by (intro wz hSw; (obtain ⟨c0, c1, c2, c3, c4, c5, c6, c7, c8, c9, c10⟩ := boxM_c hSw.get0); go_simp; (try with_reducible rfl))) (by assumption) ?_
  simp only [Act.put, List.setIfInBounds_toArray, List.set_cons_zero, List.set_cons_succ]
  refine take_op 6 rfl (by kernel_rfl) (by kernel_rfl) (by kernel_rfl) (fun _ _ _ h => h) (by rfl) (by (intro wz hSw; (obtain ⟨c0, c1, c2, c3, c4, c5, c6, c7, c8, c9, c10⟩ := boxM_c hSw.get0); go_simp; (try with_reducible rfl))) (by assumption) ?_
  simp only [Act.put, List.setIfInBounds_toArray, List.set_cons_zero, List.set_cons_succ]
  refine at_op 1 rfl (by kernel_rfl) (by rfl) (fun K hK => ?_)
  go_simp
  refine (own_below hHeld (cf_print (RA.out.keep hHeld.bel))).mono ?_
  rw [HP.out]
  rintro e w6 ⟨rfl, hO⟩
  refine hK.out _ _ ?_ (fun hHeld => ?_)
  · exact hO
  clear hK K
  try simp only [Act.put, List.setIfInBounds_toArray, List.set_cons_zero, List.set_cons_succ]
  refine at_op 3 rfl (by kernel_rfl) (by rfl) (fun K hK => ?_)
  go_simp
  refine (own_below hHeld (cf_print (RB.out.keep hHeld.bel))).mono ?_
  rw [HQ.out]
  rintro e w7 ⟨rfl, hO⟩
  refine hK.out _ _ ?_ (fun hHeld => ?_)
  · exact hO
  clear hK K
  try simp only [Act.put, List.setIfInBounds_toArray, List.set_cons_zero, List.set_cons_succ]
  refine take_op 4 rfl (by kernel_rfl) (by kernel_rfl) (by kernel_rfl) (fun _ _ _ h => h) (by rfl) (by (intro w hSw; (try dsimp only at hSw); go_simp; (try with_reducible rfl))) (by assumption) ?_
  simp only [Act.put, List.setIfInBounds_toArray, List.set_cons_zero, List.set_cons_succ]
  refine at_op 7 rfl (by kernel_rfl) (by rfl) (fun K hK => ?_)
  go_simp
  refine (own_below hHeld (rmat_same (RA.out.keep hHeld.bel) (RB.out.keep hHeld.bel))).mono ?_
  rw [HZ.out]
  rintro e w8 ⟨rfl, hO⟩
  refine hK.out _ _ ?_ (fun hHeld => ?_)
  · exact hO
  clear hK K
  try simp only [Act.put, List.setIfInBounds_toArray, List.set_cons_zero, List.set_cons_succ]
  refine take_op 8 rfl (by kernel_rfl) (by kernel_rfl) (by kernel_rfl) (fun _ _ _ h => h) (by rfl) (by (intro w hSw; (try dsimp only at hSw); go_simp; (try with_reducible rfl))) (by assumption) ?_
  simp only [Act.put, List.setIfInBounds_toArray, List.set_cons_zero, List.set_cons_succ]
  refine take_op 9 rfl (by kernel_rfl) (by kernel_rfl) (by kernel_rfl) (fun _ _ _ h => h) (by rfl) (by (intro w hSw; (try dsimp only at hSw); go_simp; (try with_reducible rfl))) (by assumption) ?_
  simp only [Act.put, List.setIfInBounds_toArray, List.set_cons_zero, List.set_cons_succ]
  refine wpAnyH_done (by kernel_rfl) ?_ _
  go_wp2
  go_ret
  exact ⟨rfl, hHeld.bel⟩
set_option maxRecDepth 100000 in
theorem ConfigApart_walk {H : Type} {enc : TypeId × Value → H} {base : Nat} {d0 d1 : DataW H} {p0 p1 : List MemPlace} (v0 v1 : Value) (W : World)
    (hv0 : Value.okWide Try.prog W .any base 27 v0) (h0 : DataW.Trod enc Try.prog W 0 (fun _ => true) true 27 v0 d0 p0)
    (hv1 : Value.okWide Try.prog W .any base 27 v1) (h1 : DataW.Trod enc Try.prog W 0 (fun _ => true) true 27 v1 d1 p1) : Holds 16 #[v0, v1] W := by
  obtain ⟨a, s1, s2, s3, rfl, ra⟩ := open_mat hv0 h0
  obtain ⟨b, t1, t2, t3, rfl, rb⟩ := open_mat hv1 h1
  exact ConfigApart_core a b s1 s2 s3 t1 t2 t3 W ra rb

set_option maxRecDepth 100000 in
theorem ConfigApart_lifted (os : Os) (started : os.Started) (H : Type) (enc : TypeId × Value → H) :
    ReturnsInHanded {} Try.checked os 16 .any (Rows.configApartSpec.pre6 enc Try.prog Try.f16 [] false) (Rows.configApartSpec.post enc Try.prog Try.f16 false true false false) := by
  refine law_lifted (n := 2) os started H enc (by kernel_rfl) Try.func16 rfl rfl (hts_of (by kernel_rfl)) rfl (fun ds h => match ds, h with | [_, _], _ => rfl)
    (ChangeSpec.witness6 (enc := enc) (C := Try.checked) false ⟨#[], #[.agg #[.int .i64 0, .int .i64 0, .int .i64 0, .int .i64 0, .int .i64 0, .int .i64 0, .int .i64 0, .int .u32 0, .slice none 0 0, .slice none 0 0, .slice none 0 0], .agg #[.int .i64 0, .int .i64 0, .int .i64 0, .int .i64 0, .int .i64 0, .int .i64 0, .int .i64 0, .int .u32 0, .slice none 0 0, .slice none 0 0, .slice none 0 0]], []⟩ 8 (by kernel_rfl) (by kernel_rfl) (by kernel_rfl) (by kernel_rfl)) ?_
  intro W base args ds p hval hA
  rw [Try.params16] at hA hval
  obtain ⟨v0, vs0, d0, ds0, p0, q0, hargs, rfl, rfl, h0, r0⟩ := trodAll_cons hA
  obtain ⟨v1, vs1, d1, ds1, p1, q1, rfl, rfl, rfl, h1, r1⟩ := trodAll_cons r0
  obtain ⟨rfl, rfl, rfl⟩ := trodAll_nil r1
  obtain rfl : args = #[v0, v1] := by cases args; simp_all
  exact ConfigApart_walk v0 v1 W (hval 0 _ v0 rfl rfl) h0 (hval 1 _ v1 rfl rfl) h1

theorem ConfigApart_over : Rows.configApartRow.holds Try.pinned (OpenSpec.ofChange Rows.configApartSpec) :=
  OpenClaim.holds_of_wide 16 Try.f16 rfl rfl rfl rfl rfl rfl rfl ⟨rfl, rfl, rfl, rfl, rfl⟩ rfl rfl rfl rfl rfl (by kernel_rfl) Try.func16 (by kernel_rfl)
    (of_decide_eq_true (by kernel_rfl)) (by unfold Func.isWrapper; first | (rw [if_pos (by decide +kernel)]; kernel_rfl) | (rw [if_neg (by decide +kernel)]; exact ⟨rfl, rfl⟩))
    (fun os started H enc _ => ConfigApart_lifted os started H enc)
theorem ConfigApart_holds : Rows.ConfigApartSaid := ConfigApart_over
#print axioms ConfigApart_holds
end Go.Proofs.Ythkhlcigegbpfaa
