/- matrix.Copy. -/
import Derived.Test.YthkhlcigegbpfaaMatCopy
import Derived.Deep.RegionWith
import Derived.Deep.DeepCutAuto
namespace Go.Proofs.Ythkhlcigegbpfaa
set_option linter.unusedVariables false
set_option linter.unusedSimpArgs false
open Go.ChangeShapes Go.WideShapes Go.ChangeAt Go.RowKit Go.Deep

def FewM (m : Mat) : Prop := m.masters.length ≤ 100000 ∧ m.msgs.length ≤ 100000 ∧ m.wins.length ≤ 100000
/-- A matrix whose lists lie in blocks of their own. -/
structure NewM (base : Nat) (w : World) (m : Mat) (v1 v2 v3 : Value) : Prop where
  n1 : NewL intC 3 base w v1 m.masters
  n2 : NewL msgC 53 base w v2 m.msgs
  n3 : NewL winC 56 base w v3 m.wins
theorem NewM.keep {base : Nat} {w w' : World} {m : Mat} {v1 v2 v3 : Value} (h : NewM base w m v1 v2 v3) (hb : Below w.heap.size w w') : NewM base w' m v1 v2 v3 := ⟨h.n1.keep hb, h.n2.keep hb, h.n3.keep hb⟩
theorem NewM.rd {base : Nat} {w : World} {m : Mat} {v1 v2 v3 : Value} (h : NewM base w m v1 v2 v3) (hf : FewM m) (ho : m.Ok) : RdM w m v1 v2 v3 := by
  obtain ⟨f1, f2, f3⟩ := hf
  exact ⟨ho, h.n1.rd intC_len (by unfold maxLen; omega), h.n2.rd msgC_len (by unfold maxLen; omega), h.n3.rd winC_len (by unfold maxLen; omega)⟩

def resM : Obj := .cells #[.int .i64 0, .int .i64 0, .int .i64 0, .int .i64 0, .int .i64 0, .int .i64 0, .int .i64 0, .int .u32 0, .slice none 0 0, .slice none 0 0, .slice none 0 0] 27 (0, 0)
theorem results_copy {w : World} {b : Nat} {m : Mat} {s1 s2 s3 : Value} {tmps : Array Value} (ht : tmps.getD 2 undef = .pointer (some ⟨b, 0, none⟩)) (h : w.heap[b]? = some (boxM m s1 s2 s3)) :
    (results Try.f31 tmps).run Try.prog w = .ok (matV m s1 s2 s3) w := by
  obtain ⟨r0, r1, r2, r3, r4, r5, r6, r7, r8, r9, r10⟩ := boxM_c h
  have ht' : tmps[2]?.getD undef = .pointer (some ⟨b, 0, none⟩) := by simpa using ht
  simp [results, Try.results31, go_sem, ht', r0, r1, r2, r3, r4, r5, r6, r7, r8, r9, r10, matV]
theorem NewL.upd {α : Type} {C : α → List Value} {base b : Nat} {t : TypeId} {o : Obj} {w w' : World} {v : Value} {l : List α} (h : NewL C t base w v l) (u : Upd b o w w') (hb : b < base) : NewL C t base w' v l := by
  rcases h with h | ⟨g, e, hl, hg⟩
  · exact .inl h
  · exact .inr ⟨g, e, hl, (u.other g (lt_of_heap hg) (by omega)).trans hg⟩
theorem NewL.base {α : Type} {C : α → List Value} {b b' : Nat} {t : TypeId} {w : World} {v : Value} {l : List α} (h : NewL C t b w v l) (hb : b' ≤ b) : NewL C t b' w v l := by
  rcases h with h | ⟨g, e, hl, hg⟩
  · exact .inl h
  · exact .inr ⟨g, e, Nat.le_trans hb hl, hg⟩
/-- What Copy's statement leaves. -/
def Copied (w : World) (m : Mat) (wx : World) : Prop :=
  ∃ a1 n1 c1 a2 n2 c2 a3 n3 c3, Own w.heap.size w [(w.heap.size + 1, resM), (w.heap.size, boxM m (.slice a1 n1 c1) (.slice a2 n2 c2) (.slice a3 n3 c3))] wx ∧ w.heap.size + 2 ≤ wx.heap.size ∧ NewM (w.heap.size + 2) wx m (.slice a1 n1 c1) (.slice a2 n2 c2) (.slice a3 n3 c3)
theorem shaped {α : Type} {C : α → List Value} {t : TypeId} {P : Program} {f : FuncId} {args : Array Value} {w : World} {base : Nat} {l : List α}
    (h : Calls P f args w fun e w' => ∃ v', e = .returned v' ∧ Below w.heap.size w w' ∧ NewL C t base w' v' l) :
    Calls P f args w fun e w' => ∃ a n c, e = .returned (.slice a n c) ∧ Below w.heap.size w w' ∧ NewL C t base w' (.slice a n c) l := by
  refine h.mono ?_
  rintro e w' ⟨v', rfl, hB, hN⟩
  rcases id hN with ⟨rfl, _⟩ | ⟨g, rfl, _⟩
  · exact ⟨_, _, _, rfl, hB, hN⟩
  · exact ⟨_, _, _, rfl, hB, hN⟩
set_option maxRecDepth 100000 in
set_option maxHeartbeats 2000000 in
theorem mat_copy {w : World} {m : Mat} {s1 s2 s3 : Value} (h : RdM w m s1 s2 s3) (hf : FewM m) :
    Calls Try.prog 31 #[matV m s1 s2 s3] w fun e w' => ∃ v1 v2 v3, e = .returned (matV m v1 v2 v3) ∧ Below w.heap.size w w' ∧ NewM w.heap.size w' m v1 v2 v3 := by
  obtain ⟨f1, f2, f3⟩ := hf
  obtain ⟨a1, p1, e1, r1⟩ := h.r1.shape
  obtain ⟨a2, p2, e2, r2⟩ := h.r2.shape
  obtain ⟨a3, p3, e3, r3⟩ := h.r3.shape
  subst e1 e2 e3
  clear h
  have R1 := Lib.hid r1
  have R2 := Lib.hid r2
  have R3 := Lib.hid r3
  clear r1 r2 r3
  have hO := (Own.nil_ (Below.refl w.heap.size w) (Nat.le_refl _)).alloc (boxM m (.slice a1 m.masters.length p1) (.slice a2 m.msgs.length p2) (.slice a3 m.wins.length p3))
  go_enter Try.func31, Try.ntmps31
  unfold matV
  have hcell : ∀ w' : World, Own w.heap.size w [(w.heap.size + 1, resM), (w.heap.size, boxM m (.slice a1 m.masters.length p1) (.slice a2 m.msgs.length p2) (.slice a3 m.wins.length p3))] w' → w'.cell? ⟨w.heap.size, 8, none⟩ = some (.slice a1 m.masters.length p1) ∧ w'.cell? ⟨w.heap.size, 9, none⟩ = some (.slice a2 m.msgs.length p2) ∧ w'.cell? ⟨w.heap.size, 10, none⟩ = some (.slice a3 m.wins.length p3) ∧ w'.frozen? ⟨w.heap.size, 8, none⟩ = false ∧ w'.frozen? ⟨w.heap.size, 9, none⟩ = false ∧ w'.frozen? ⟨w.heap.size, 10, none⟩ = false :=
    fun w' h => ⟨cell_of h.get1 8, cell_of h.get1 9, cell_of h.get1 10, free_of h.get1 8, free_of h.get1 9, free_of h.get1 10⟩
  have HCELL := Lib.hid hcell
  clear hcell
  go_upto_region 1 with fail
  replace hO := hO.alloc resM
  have hsz : ∀ o : Obj, (w.alloc o).heap.size = w.heap.size + 1 := fun o => by simp
  rw [hsz] at hO
  have hsz2 : ∀ o o' : Obj, (((w.alloc o).alloc o').drew).heap.size = w.heap.size + 2 := fun o o' => by simp
  replace hO := hO.drew
  have hN1 : True := trivial
  have hN2 : True := trivial
  go_cut [] (fun wx => Copied w m wx)
  case first =>
    go_region_with (first
      | (go_at_call 57; refine (shaped (copied_ints (R1.out.keep hO.bel) f1)).mono ?_; rintro e w1 ⟨x1, y1, z1, rfl, hB, hN1⟩; have hz := lt_of_heap hO.get0; replace hN1 := hN1.base (b' := w.heap.size + 2) (by omega); clear hz; replace hO := hO.keep hB; obtain ⟨d8, d9, d10, g8, g9, g10⟩ := HCELL.out w1 hO; clear hB)
      | (go_at_call 58; refine (shaped (copied_msgs (R2.out.keep hO.bel) f2)).mono ?_; rintro e w2 ⟨x2, y2, z2, rfl, hB, hN2⟩; have hz := lt_of_heap hO.get0; replace hN2 := hN2.base (b' := w.heap.size + 2) (by omega); clear hz; replace hO := hO.keep hB; obtain ⟨d8, d9, d10, g8, g9, g10⟩ := HCELL.out w2 hO; replace hN1 := hN1.keep hB; clear hB)
      | (go_at_call 59; refine (shaped (copied_wins (R3.out.keep hO.bel) f3)).mono ?_; rintro e w3 ⟨x3, y3, z3, rfl, hB, hN3⟩; have hz := lt_of_heap hO.get0; replace hN3 := hN3.base (b' := w.heap.size + 2) (by omega); clear hz; replace hO := hO.keep hB; obtain ⟨d8, d9, d10, g8, g9, g10⟩ := HCELL.out w3 hO; replace hN1 := hN1.keep hB; replace hN2 := hN2.keep hB; clear hB))
    all_goals
      clear d8 d9 d10 g8 g9 g10
      have hU := (((Upd.refl hO.get1).setCell 8 (.slice x1 y1 z1)).setCell 9 (.slice x2 y2 z2)).setCell 10 (.slice x3 y3 z3)
      have hR : Upd w.heap.size (boxM m (.slice x1 y1 z1) (.slice x2 y2 z2) (.slice x3 y3 z3)) w3 _ := hU.of_eq (by simp [boxM])
      have hO' := hO.upd1 hR
      go_wp2_with fail
      go_meet
      have hz := lt_of_heap hO'.get0
      exact ⟨x1, y1, z1, x2, y2, z2, x3, y3, z3, hO', by omega, ⟨hN1.upd hR (by omega), hN2.upd hR (by omega), hN3.upd hR (by omega)⟩⟩
  case rest =>
    obtain ⟨b1, n1, k1, b2, n2, k2, b3, n3, k3, hO, hz, hN⟩ := hcut
    have c0 := cell_of hO.get1 0
    have c1 := cell_of hO.get1 1
    have c2 := cell_of hO.get1 2
    have c3 := cell_of hO.get1 3
    have c4 := cell_of hO.get1 4
    have c5 := cell_of hO.get1 5
    have c6 := cell_of hO.get1 6
    have c7 := cell_of hO.get1 7
    have c8 := cell_of hO.get1 8
    have c9 := cell_of hO.get1 9
    have c10 := cell_of hO.get1 10
    have cf0 := free_of hO.get1 0
    have cf1 := free_of hO.get1 1
    have cf2 := free_of hO.get1 2
    have cf3 := free_of hO.get1 3
    have cf4 := free_of hO.get1 4
    have cf5 := free_of hO.get1 5
    have cf6 := free_of hO.get1 6
    have cf7 := free_of hO.get1 7
    have cf8 := free_of hO.get1 8
    have cf9 := free_of hO.get1 9
    have cf10 := free_of hO.get1 10
    have clt := lt_of_heap hO.get1
    simp at c0 c1 c2 c3 c4 c5 c6 c7 c8 c9 c10
    have d0 := cell_of hO.get0 0
    have d1 := cell_of hO.get0 1
    have d2 := cell_of hO.get0 2
    have d3 := cell_of hO.get0 3
    have d4 := cell_of hO.get0 4
    have d5 := cell_of hO.get0 5
    have d6 := cell_of hO.get0 6
    have d7 := cell_of hO.get0 7
    have d8 := cell_of hO.get0 8
    have d9 := cell_of hO.get0 9
    have d10 := cell_of hO.get0 10
    have df0 := free_of hO.get0 0
    have df1 := free_of hO.get0 1
    have df2 := free_of hO.get0 2
    have df3 := free_of hO.get0 3
    have df4 := free_of hO.get0 4
    have df5 := free_of hO.get0 5
    have df6 := free_of hO.get0 6
    have df7 := free_of hO.get0 7
    have df8 := free_of hO.get0 8
    have df9 := free_of hO.get0 9
    have df10 := free_of hO.get0 10
    have dlt := lt_of_heap hO.get0
    simp at d0 d1 d2 d3 d4 d5 d6 d7 d8 d9 d10
    go_wp2
    have hU := (((((((((((Upd.refl hO.get0).setCell 0 (.int .i64 m.level)).setCell 1 (.int .i64 m.nodes)).setCell 2 (.int .i64 m.cycles)).setCell 3 (.int .i64 m.length)).setCell 4 (.int .i64 m.enable)).setCell 5 (.int .i64 m.unit)).setCell 6 (.int .i64 m.init)).setCell 7 (.int .u32 m.ref)).setCell 8 (.slice b1 n1 k1)).setCell 9 (.slice b2 n2 k2)).setCell 10 (.slice b3 n3 k3)
    have hR : Upd (w.heap.size + 1) (boxM m (.slice b1 n1 k1) (.slice b2 n2 k2) (.slice b3 n3 k3)) wc _ := hU.of_eq (by simp [boxM])
    exact bodyPost_ret (results_copy rfl hR.blk) rfl
      ⟨_, _, _, rfl, (hO.upd0 hR).bel, (hN.n1.upd hR (by omega)).base (by omega), (hN.n2.upd hR (by omega)).base (by omega), (hN.n3.upd hR (by omega)).base (by omega)⟩
end Go.Proofs.Ythkhlcigegbpfaa
