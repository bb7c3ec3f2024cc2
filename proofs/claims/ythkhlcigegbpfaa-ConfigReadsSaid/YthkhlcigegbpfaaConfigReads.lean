/- ConfigReads: whatever bytes are a matrix just if they are that one's. No conditions. -/
import Derived.Test.YthkhlcigegbpfaaCfKnown
import Derived.Test.YthkhlcigegbpfaaRParse
namespace Go.Proofs.Ythkhlcigegbpfaa
set_option linter.unusedVariables false
set_option linter.unusedSimpArgs false
open Go.ChangeShapes Go.WideShapes Go.ChangeAt Go.RowKit Go.Deep

def PostRQ (b : ByteArray) (w : World) (e : Ending) (w' : World) : Prop :=
  ∃ a1 p1 a2 p2 a3 p3, e = .returned (.tuple #[matV (pmE b) (.slice a1 (pmE b).masters.length p1) (.slice a2 (pmE b).msgs.length p2) (.slice a3 (pmE b).wins.length p3), .bool (okE b)]) ∧ Below w.heap.size w w' ∧ RdM w' (pmE b) (.slice a1 (pmE b).masters.length p1) (.slice a2 (pmE b).msgs.length p2) (.slice a3 (pmE b).wins.length p3)
theorem rf_parseQ {w : World} (b : ByteArray) (hb : b.size ≤ maxLen) : Calls Try.prog 49 #[.string b] w (PostRQ b w) := by
  refine (rf_parse b hb).mono ?_
  rintro e w' ⟨s1, s2, s3, he, hB, hR⟩
  obtain ⟨a1, p1, e1, r1⟩ := hR.r1.shape
  obtain ⟨a2, p2, e2, r2⟩ := hR.r2.shape
  obtain ⟨a3, p3, e3, r3⟩ := hR.r3.shape
  subst e1 e2 e3
  exact ⟨a1, p1, a2, p2, a3, p3, he, hB, hR⟩
set_option maxRecDepth 100000 in
set_option maxHeartbeats 4000000 in
theorem ConfigReads_walk (b : ByteArray) (hb : b.size ≤ maxLen) (w : World) : Holds 13 #[.string b] w := by
  have HB := Lib.hid hb
  unfold maxLen at hb
  unfold Holds
  go_enter Try.func13, Try.ntmps13
  go_wp2_with fail
  refine (known13 _).mono ?_
  rintro e w1 ⟨rfl, hB1⟩
  by_cases h6 : 600 < b.size
  · have h6' : (600 : Int) < b.size := by omega
    go_wp2
    all_goals first | (exfalso; omega) | (go_ret; exact ⟨rfl, hB1⟩)
  have h6' : (b.size : Int) ≤ 600 := by omega
  have HB1 := Lib.hid hB1
  clear hB1
  go_wp2_with fail
  all_goals try (exfalso; omega)
  refine (cf_parseQ b HB.out).mono ?_
  rintro e w2 ⟨a1, p1, a2, p2, a3, p3, rfl, hB, hR⟩
  have hpr : okE b = true → printE (pmE b) = b := by
    intro h
    unfold pmE
    rw [h]
    exact (okE_is h).2
  have HPR := Lib.hid hpr
  clear hpr
  obtain ⟨n, hn⟩ : ∃ n, pmE b = n := ⟨_, rfl⟩
  obtain ⟨en, hen⟩ : ∃ en, peE b = en := ⟨_, rfl⟩
  obtain ⟨k, hk⟩ : ∃ k, okE b = k := ⟨_, rfl⟩
  have HEK := Lib.hid (show en = if k = true then 0 else 130 by rw [← hen, ← hk]; rfl)
  have HN := Lib.hid hn
  have HK := Lib.hid hk
  rw [hn, hen]
  rw [hn] at hR
  have HB2 := Lib.hid (HB1.out.trans (hB.mono HB1.out.size))
  have hO := (Own.nil_ (Below.refl w2.heap.size w2) (Nat.le_refl _)).alloc (boxM n (.slice a1 n.masters.length p1) (.slice a2 n.msgs.length p2) (.slice a3 n.wins.length p3))
  have HR := Lib.hid (hR.keep (show Below w2.heap.size w2 (w2.alloc (boxM n (.slice a1 n.masters.length p1) (.slice a2 n.msgs.length p2) (.slice a3 n.wins.length p3))) from (Below.refl _ _).alloc (Nat.le_refl _) _))
  clear hB hR hn hen hk HB1
  unfold matV
  go_wp2_with fail
  refine (rf_parseQ b HB.out).mono ?_
  rintro e w3 ⟨b1, q1, b2, q2, b3, q3, rfl, hB, hR⟩
  rw [HN.out, HK.out]
  rw [HN.out] at hR
  replace hO := hO.keep hB
  replace HR := Lib.hid (HR.out.keep hB)
  obtain ⟨c0, c1, c2, c3, c4, c5, c6, c7, c8, c9, c10⟩ := boxM_c hO.get0
  have hml := lt_of_heap hO.get0
  replace hO := hO.alloc (boxM n (.slice b1 n.masters.length q1) (.slice b2 n.msgs.length q2) (.slice b3 n.wins.length q3))
  replace HR := Lib.hid (HR.out.keep (show Below w3.heap.size w3 (w3.alloc (boxM n (.slice b1 n.masters.length q1) (.slice b2 n.msgs.length q2) (.slice b3 n.wins.length q3))) from (Below.refl _ _).alloc (Nat.le_refl _) _))
  have HR2 := Lib.hid (hR.keep (show Below w3.heap.size w3 (w3.alloc (boxM n (.slice b1 n.masters.length q1) (.slice b2 n.msgs.length q2) (.slice b3 n.wins.length q3))) from (Below.refl _ _).alloc (Nat.le_refl _) _))
  clear hB hR
  unfold matV
  have HS := Lib.hid (sameB_rfl n)
  cases k
  · have hek' : en = 130 := by rw [HEK.out]; rfl
    subst hek'
    clear HEK
    go_wp2_with fail
    refine (own_below hO (rmat_same HR.out HR2.out)).mono ?_
    rw [HS.out]
    rintro e w4 ⟨rfl, hO⟩
    go_wp2
    go_ret
    exact ⟨rfl, HB2.out.trans (hO.bel.mono HB2.out.size)⟩
  · have hek' : en = 0 := by rw [HEK.out]; rfl
    subst hek'
    clear HEK
    have HPN := Lib.hid (show printE n = b by rw [← HN.out]; exact HPR.out HK.out)
    go_wp2_with fail
    refine (rmat_same HR.out HR2.out).mono ?_
    rw [HS.out]
    rintro e w4 ⟨rfl, hB⟩
    replace hO := hO.keep hB
    replace HR := Lib.hid (HR.out.keep hB)
    clear c0 c1 c2 c3 c4 c5 c6 c7 c8 c9 c10 hml hB HR2
    obtain ⟨c0, c1, c2, c3, c4, c5, c6, c7, c8, c9, c10⟩ := boxM_c hO.get1
    have hml := lt_of_heap hO.get1
    go_wp2_with fail
    refine (own_below hO (cf_print HR.out)).mono ?_
    rw [HPN.out]
    rintro e w5 ⟨rfl, hO⟩
    go_wp2
    go_ret
    exact ⟨rfl, HB2.out.trans (hO.bel.mono HB2.out.size)⟩

set_option maxRecDepth 100000 in
theorem ConfigReads_lifted (os : Os) (started : os.Started) (H : Type) (enc : TypeId × Value → H) :
    ReturnsInHanded {} Try.checked os 13 .any (Rows.configReadsSpec.pre6 enc Try.prog Try.f13 [] false) (Rows.configReadsSpec.post enc Try.prog Try.f13 false true false false) := by
  refine law_lifted (n := 1) os started H enc (by kernel_rfl) Try.func13 rfl rfl (hts_of (by kernel_rfl)) rfl (fun ds h => match ds, h with | [_], _ => rfl)
    (ChangeSpec.witness6 (enc := enc) (C := Try.checked) false ⟨#[], #[.string ⟨#[]⟩], []⟩ 8 (by kernel_rfl) (by kernel_rfl) (by kernel_rfl) (by kernel_rfl)) ?_
  intro W base args ds p hval hA
  rw [Try.params13] at hA hval
  obtain ⟨v0, vs0, d0, ds0, p0, q0, hargs, rfl, rfl, h0, r0⟩ := trodAll_cons hA
  obtain ⟨rfl, rfl, rfl⟩ := trodAll_nil r0
  obtain rfl : args = #[v0] := by cases args; simp_all
  obtain ⟨a0, rfl, rfl, rfl, w0⟩ := Go.ChangeMaps.open_string Try.underlying9 (hval 0 _ v0 rfl rfl) h0
  exact ConfigReads_walk a0 w0 W 

theorem ConfigReads_over : Rows.configReadsRow.holds Try.pinned (OpenSpec.ofChange Rows.configReadsSpec) :=
  OpenClaim.holds_of_wide 13 Try.f13 rfl rfl rfl rfl rfl rfl rfl ⟨rfl, rfl, rfl, rfl, rfl⟩ rfl rfl rfl rfl rfl (by kernel_rfl) Try.func13 (by kernel_rfl)
    (of_decide_eq_true (by kernel_rfl)) (by unfold Func.isWrapper; first | (rw [if_pos (by decide +kernel)]; kernel_rfl) | (rw [if_neg (by decide +kernel)]; exact ⟨rfl, rfl⟩))
    (fun os started H enc _ => ConfigReads_lifted os started H enc)
theorem ConfigReads_holds : Rows.ConfigReadsSaid := ConfigReads_over
#print axioms ConfigReads_holds
end Go.Proofs.Ythkhlcigegbpfaa
