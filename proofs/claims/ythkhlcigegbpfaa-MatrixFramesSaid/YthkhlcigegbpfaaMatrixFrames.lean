/- MatrixFrames: each message's frame is found as it, unless another one ahead of it has its identifier. No conditions. -/
import Derived.Test.YthkhlcigegbpfaaMatKnown
import Derived.ChangeMaps5
namespace Go.Proofs.Ythkhlcigegbpfaa
set_option linter.unusedVariables false
set_option linter.unusedSimpArgs false
open Go.ChangeShapes Go.WideShapes Go.ChangeAt Go.RowKit Go.Deep

theorem firstI_spec {α : Type} {p : α → Bool} {l : List α} {i : Nat} {x : α} (hi : l[i]? = some x) (hp : p x = true) : ∃ (k : Nat) (y : α), firstI p l = (k : Int) ∧ k ≤ i ∧ l[k]? = some y ∧ p y = true := by
  have hlt : l.findIdx p < l.length := List.findIdx_lt_length_of_exists ⟨x, List.mem_of_getElem? hi, hp⟩
  refine ⟨l.findIdx p, l[l.findIdx p], by unfold firstI; rw [if_pos hlt], ?_, by simp [hlt], List.findIdx_getElem (w := hlt)⟩
  rcases Nat.lt_or_ge i (l.findIdx p) with h | h
  · have := List.not_of_lt_findIdx h
    have hil := (List.getElem?_eq_some_iff.1 hi)
    rw [hil.2] at this
    simp [hp] at this
  · exact h

set_option maxRecDepth 100000 in
set_option maxHeartbeats 4000000 in
theorem MatrixFrames_core (m : Mat) (s1 s2 s3 : Value) (data : ByteArray) (hd : data.size ≤ maxLen) (w : World) (hm : RdM w m s1 s2 s3) : Holds 8 #[matV m s1 s2 s3, .string data] w := by
  have hO := (Own.nil_ (Below.refl w.heap.size w) (Nat.le_refl _)).alloc (boxM m s1 s2 s3)
  obtain ⟨a1, p1, e1, _⟩ := hm.r1.shape
  obtain ⟨a2, p2, e2, r2⟩ := hm.r2.shape
  obtain ⟨a3, p3, e3, _⟩ := hm.r3.shape
  subst e1 e2 e3
  have l2 := r2.len.2
  unfold maxLen at l2 hd
  have HM := Lib.hid hm
  have R2 := Lib.hid r2
  have HD := Lib.hid hd
  clear r2 hm
  obtain ⟨c0, c1, c2, c3, c4, c5, c6, c7, c8, c9, c10⟩ := boxM_c hO.get0
  unfold Holds matV
  go_enter Try.func8, Try.ntmps8
  go_wp2_with fail
  refine (own_below hO (known12 _)).mono ?_
  rintro e w1 ⟨rfl, hO⟩
  clear c0 c1 c2 c3 c4 c5 c6 c7 c8 c9 c10
  obtain ⟨c0, c1, c2, c3, c4, c5, c6, c7, c8, c9, c10⟩ := boxM_c hO.get0
  go_wp2_with fail
  refine (own_below hO (few_any (HM.out.keep hO.bel))).mono ?_
  rintro e w2 ⟨rfl, hO⟩
  clear c0 c1 c2 c3 c4 c5 c6 c7 c8 c9 c10
  by_cases hf : m.masters.length ≤ 10 ∧ m.msgs.length ≤ 20 ∧ m.wins.length ≤ 25
  · rw [decide_eq_true hf]
    by_cases h8 : data.size ≤ 8
    · go_wp2_with fail
      go_loopw [5] (fun i wr => ∃ k : Nat, i = .int .i64 k ∧ k ≤ m.msgs.length ∧ Own w.heap.size w [(w.heap.size, boxM m (.slice a1 m.masters.length p1) (.slice a2 m.msgs.length p2) (.slice a3 m.wins.length p3))] wr) (fun i _ => m.msgs.length - (intOf i).toNat)
      case atStart => exact ⟨0, rfl, by omega, hO⟩
      case round =>
        clear hO
        obtain ⟨k, rfl, hk, hO⟩ := hrel
        obtain ⟨c0, c1, c2, c3, c4, c5, c6, c7, c8, c9, c10⟩ := boxM_c hO.get0
        by_cases hlt : k < m.msgs.length
        · obtain ⟨x, b, off, hx, hxm, rfl, hb, hc⟩ := R2.out.at_ k hlt
          have e0 := hc 0 _ rfl
          have HE := frameE m (k : Int) data
          have hfe : frameE m (k : Int) data = (⟨false, x.id, false, data⟩, true) := by
            unfold frameE
            rw [if_neg (by omega)]
            simp [hx]
          obtain ⟨j, y, hj, hjk, hy, hyp⟩ := firstI_spec (p := fun (z : Msg) => z.id == x.id) hx (by simp)
          obtain ⟨x', b', off', hx', _, e', hb', hc'⟩ := R2.out.at_ j (by omega)
          rw [hy] at hx'
          cases hx'
          simp only [Option.some.injEq, Addr.mk.injEq] at e'
          obtain ⟨rfl, rfl, _⟩ := e'
          have d0 := hc' 0 _ rfl
          have hyx : y.id = x.id := by simpa using hyp
          simp only [Nat.add_zero] at e0 d0
          rw [hyx] at d0
          have HC0 := Lib.hid e0
          have HC1 := Lib.hid d0
          have HFE := Lib.hid hfe
          have HJ := Lib.hid (show findI m ⟨false, x.id, false, data⟩ = (j : Int) from hj)
          clear e0 d0 hfe hj hc hc' hx hy hyp hyx HE
          go_wp2_with fail
          refine (own_below hO (mat_frame (HM.out.keep hO.bel) (k : Int) (WalkArith.wf_i64 (by omega)) data (by unfold maxLen; exact HD.out))).mono ?_
          rintro e w3 ⟨rfl, hO⟩
          rw [HFE.out]
          simp only [frV]
          clear c0 c1 c2 c3 c4 c5 c6 c7 c8 c9 c10
          obtain ⟨c0, c1, c2, c3, c4, c5, c6, c7, c8, c9, c10⟩ := boxM_c hO.get0
          have hml := lt_of_heap hO.get0
          go_wp2_with fail
          replace hO := hO.alloc (boxF ⟨false, x.id, false, data⟩)
          refine (own_below hO (mat_find (HM.out.keep hO.bel) ⟨false, x.id, false, data⟩)).mono ?_
          rintro e w4 ⟨rfl, hO⟩
          rw [HJ.out]
          clear c0 c1 c2 c3 c4 c5 c6 c7 c8 c9 c10
          obtain ⟨f0, f1, f2, f3⟩ := boxF_c hO.get0
          have hfl := lt_of_heap hO.get0
          clear hml
          simp only at f0 f1 f2 f3
          go_wp2_with fail
          clear f0 f1 f2 f3 hfl
          have hO2 : Own w.heap.size w [(w4.heap.size, boxF ⟨false, x.id, true, data⟩), (w3.heap.size, boxF ⟨false, x.id, false, data⟩), (w.heap.size, (boxM m (.slice a1 m.masters.length p1) (.slice (some ⟨b, off, none⟩) m.msgs.length p2) (.slice a3 m.wins.length p3)))] _ := hO.alloc (boxF ⟨false, x.id, true, data⟩)
          have HX := Lib.hid (show findI m ⟨false, x.id, true, data⟩ = -1 by simp [findI])
          have hjl : decide ((k : Int) < (j : Int)) = false := by simp; omega
          have hjl2 : decide (k < j) = false := by simp; omega
          have hj0 : (0 : Int) ≤ (j : Int) := by omega
          have hjn : (j : Int) < (m.msgs.length : Int) := by omega
          refine wp_region_held_drew (S := fun w' => Own w.heap.size w [(w4.heap.size, boxF ⟨false, x.id, true, data⟩), (w3.heap.size, boxF ⟨false, x.id, false, data⟩), (w.heap.size, (boxM m (.slice a1 m.masters.length p1) (.slice (some ⟨b, off, none⟩) m.msgs.length p2) (.slice a3 m.wins.length p3)))] w') (by kernel_rfl) hO2.drew (fun hHeld => ?_)
          clear hO hO2
          refine take_op 0 rfl (by kernel_rfl) (by kernel_rfl) (by kernel_rfl) (fun _ _ _ h => h) (by rfl) (by (intro w hSw; (try dsimp only at hSw); go_simp; (try with_reducible rfl))) (by assumption) ?_
          simp only [Act.put, List.setIfInBounds_toArray, List.set_cons_zero, List.set_cons_succ]
          refine take_op 1 rfl (by kernel_rfl) (by kernel_rfl) (by kernel_rfl) (fun _ _ _ h => h) (by rfl) (by (intro w hSw; (try dsimp only at hSw); go_simp; (try with_reducible rfl))) (by assumption) ?_
          simp only [Act.put, List.setIfInBounds_toArray, List.set_cons_zero, List.set_cons_succ]
          refine take_op 2 rfl (by kernel_rfl) (by kernel_rfl) (by kernel_rfl) (fun _ _ _ h => h) (by rfl) (by (intro w hSw; (try dsimp only at hSw); go_simp; (try with_reducible rfl))) (by assumption) ?_
          simp only [Act.put, List.setIfInBounds_toArray, List.set_cons_zero, List.set_cons_succ]
          refine take_op 3 rfl (by kernel_rfl) (by kernel_rfl) (by kernel_rfl) (fun _ _ _ h => h) (by rfl) (by (intro w hSw; (try dsimp only at hSw); go_simp; (try with_reducible rfl))) (by assumption) ?_
          simp only [Act.put, List.setIfInBounds_toArray, List.set_cons_zero, List.set_cons_succ]
          refine take_op 4 rfl (by kernel_rfl) (by kernel_rfl) (by kernel_rfl) (fun _ _ _ h => h) (by rfl) (by (intro w hSw; (try dsimp only at hSw); go_simp; (try with_reducible rfl))) (by assumption) ?_
          simp only [Act.put, List.setIfInBounds_toArray, List.set_cons_zero, List.set_cons_succ]
          refine take_op 5 rfl (by kernel_rfl) (by kernel_rfl) (by kernel_rfl) (fun _ _ _ h => h) (by rfl) (by (intro w hSw; (try dsimp only at hSw); go_simp; (try with_reducible rfl))) (by assumption) ?_
          simp only [Act.put, List.setIfInBounds_toArray, List.set_cons_zero, List.set_cons_succ]
          refine take_op 6 rfl (by kernel_rfl) (by kernel_rfl) (by kernel_rfl) (fun _ _ _ h => h) (by rfl) (by (intro w hSw; (try dsimp only at hSw); go_simp; (try with_reducible rfl))) (by assumption) ?_
          simp only [Act.put, List.setIfInBounds_toArray, List.set_cons_zero, List.set_cons_succ]
          refine take_op 7 rfl (by kernel_rfl) (by kernel_rfl) (by kernel_rfl) (fun _ _ _ h => h) (by rfl) (by (intro w hSw; (try dsimp only at hSw); go_simp; (try with_reducible rfl))) (by assumption) ?_
          simp only [Act.put, List.setIfInBounds_toArray, List.set_cons_zero, List.set_cons_succ]
          refine take_op 8 rfl (by kernel_rfl) (by kernel_rfl) (by kernel_rfl) (fun _ _ _ h => h) (by rfl) (by (intro w hSw; (try dsimp only at hSw); go_simp; (try with_reducible rfl))) (by assumption) ?_
          simp only [Act.put, List.setIfInBounds_toArray, List.set_cons_zero, List.set_cons_succ]
          refine take_op 9 rfl (by kernel_rfl) (by kernel_rfl) (by kernel_rfl) (fun _ _ _ h => h) (by rfl) (by (intro w hSw; (try dsimp only at hSw); go_simp; (try with_reducible rfl))) (by assumption) ?_
          simp only [Act.put, List.setIfInBounds_toArray, List.set_cons_zero, List.set_cons_succ]
          refine take_op 10 rfl (by kernel_rfl) (by kernel_rfl) (by kernel_rfl) (fun _ _ _ h => h) (by rfl) (by (intro w hSw; (try dsimp only at hSw); go_simp; (try with_reducible rfl))) (by assumption) ?_
          simp only [Act.put, List.setIfInBounds_toArray, List.set_cons_zero, List.set_cons_succ]
          refine take_op 11 rfl (by kernel_rfl) (by kernel_rfl) (by kernel_rfl) (fun _ _ _ h => h) (by rfl) (by (intro w hSw; (try dsimp only at hSw); go_simp; (try with_reducible rfl))) (by assumption) ?_
          simp only [Act.put, List.setIfInBounds_toArray, List.set_cons_zero, List.set_cons_succ]
          refine take_op 12 rfl (by kernel_rfl) (by kernel_rfl) (by kernel_rfl) (fun _ _ _ h => h) (by rfl) (by (intro w hSw; (try dsimp only at hSw); go_simp; (try with_reducible rfl))) (by assumption) ?_
          simp only [Act.put, List.setIfInBounds_toArray, List.set_cons_zero, List.set_cons_succ]
          refine take_op 13 rfl (by kernel_rfl) (by kernel_rfl) (by kernel_rfl) (fun _ _ _ h => h) (by rfl) (by (intro w hSw; (obtain ⟨c0, c1, c2, c3, c4, c5, c6, c7, c8, c9, c10⟩ := boxM_c hSw.get2); go_simp; (try with_reducible rfl))) (by assumption) ?_
          simp only [Act.put, List.setIfInBounds_toArray, List.set_cons_zero, List.set_cons_succ]
          refine take_op 14 rfl (by kernel_rfl) (by kernel_rfl) (by kernel_rfl) (fun _ _ _ h => h) (by rfl) (by (intro w hSw; (try dsimp only at hSw); go_simp; (try with_reducible rfl))) (by assumption) ?_
          simp only [Act.put, List.setIfInBounds_toArray, List.set_cons_zero, List.set_cons_succ]
          refine take_op 15 rfl (by kernel_rfl) (by kernel_rfl) (by kernel_rfl) (fun _ _ _ h => h) (by rfl) (by (intro w hSw; (try dsimp only at hSw); go_simp; (try with_reducible rfl))) (by assumption) ?_
          simp only [Act.put, List.setIfInBounds_toArray, List.set_cons_zero, List.set_cons_succ]
          refine take_op 16 rfl (by kernel_rfl) (by kernel_rfl) (by kernel_rfl) (fun _ _ _ h => h) (by rfl) (by (intro w hSw; (try dsimp only at hSw); go_simp; (try with_reducible rfl))) (by assumption) ?_
          simp only [Act.put, List.setIfInBounds_toArray, List.set_cons_zero, List.set_cons_succ]
          refine take_op 17 rfl (by kernel_rfl) (by kernel_rfl) (by kernel_rfl) (fun _ _ _ h => h) (by rfl) (by (intro w hSw; (have q0 := (hSw.bel.cell (p := ⟨b, off + j * 3, none⟩) hb).trans HC1.out); go_simp; (try with_reducible rfl))) (by assumption) ?_
          simp only [Act.put, List.setIfInBounds_toArray, List.set_cons_zero, List.set_cons_succ]
          refine take_op 18 rfl (by kernel_rfl) (by kernel_rfl) (by kernel_rfl) (fun _ _ _ h => h) (by rfl) (by (intro w hSw; (try dsimp only at hSw); go_simp; (try with_reducible rfl))) (by assumption) ?_
          simp only [Act.put, List.setIfInBounds_toArray, List.set_cons_zero, List.set_cons_succ]
          refine take_op 19 rfl (by kernel_rfl) (by kernel_rfl) (by kernel_rfl) (fun _ _ _ h => h) (by rfl) (by (intro w hSw; (obtain ⟨c0, c1, c2, c3, c4, c5, c6, c7, c8, c9, c10⟩ := boxM_c hSw.get2); go_simp; (try with_reducible rfl))) (by assumption) ?_
          simp only [Act.put, List.setIfInBounds_toArray, List.set_cons_zero, List.set_cons_succ]
          refine take_op 20 rfl (by kernel_rfl) (by kernel_rfl) (by kernel_rfl) (fun _ _ _ h => h) (by rfl) (by (intro w hSw; (try dsimp only at hSw); go_simp; (try with_reducible rfl))) (by assumption) ?_
          simp only [Act.put, List.setIfInBounds_toArray, List.set_cons_zero, List.set_cons_succ]
          refine take_op 21 rfl (by kernel_rfl) (by kernel_rfl) (by kernel_rfl) (fun _ _ _ h => h) (by rfl) (by (intro w hSw; (try dsimp only at hSw); go_simp; (try with_reducible rfl))) (by assumption) ?_
          simp only [Act.put, List.setIfInBounds_toArray, List.set_cons_zero, List.set_cons_succ]
          refine take_op 22 rfl (by kernel_rfl) (by kernel_rfl) (by kernel_rfl) (fun _ _ _ h => h) (by rfl) (by (intro w hSw; (try dsimp only at hSw); go_simp; (try with_reducible rfl))) (by assumption) ?_
          simp only [Act.put, List.setIfInBounds_toArray, List.set_cons_zero, List.set_cons_succ]
          refine take_op 23 rfl (by kernel_rfl) (by kernel_rfl) (by kernel_rfl) (fun _ _ _ h => h) (by rfl) (by (intro w hSw; (have q0 := (hSw.bel.cell (p := ⟨b, off + k * 3, none⟩) hb).trans HC0.out); go_simp; (try with_reducible rfl))) (by assumption) ?_
          simp only [Act.put, List.setIfInBounds_toArray, List.set_cons_zero, List.set_cons_succ]
          refine take_op 24 rfl (by kernel_rfl) (by kernel_rfl) (by kernel_rfl) (fun _ _ _ h => h) (by rfl) (by (intro w hSw; (try dsimp only at hSw); go_simp; (try with_reducible rfl))) (by assumption) ?_
          simp only [Act.put, List.setIfInBounds_toArray, List.set_cons_zero, List.set_cons_succ]
          refine take_op 25 rfl (by kernel_rfl) (by kernel_rfl) (by kernel_rfl) (fun _ _ _ h => h) (by rfl) (by (intro w hSw; (try dsimp only at hSw); go_simp; (try with_reducible rfl))) (by assumption) ?_
          simp only [Act.put, List.setIfInBounds_toArray, List.set_cons_zero, List.set_cons_succ]
          refine take_op 26 rfl (by kernel_rfl) (by kernel_rfl) (by kernel_rfl) (fun _ _ _ h => h) (by rfl) (by (intro w hSw; (try dsimp only at hSw); go_simp; (try with_reducible rfl))) (by assumption) ?_
          simp only [Act.put, List.setIfInBounds_toArray, List.set_cons_zero, List.set_cons_succ]
          refine take_op 27 rfl (by kernel_rfl) (by kernel_rfl) (by kernel_rfl) (fun _ _ _ h => h) (by rfl) (by (intro w hSw; (obtain ⟨c0, c1, c2, c3, c4, c5, c6, c7, c8, c9, c10⟩ := boxM_c hSw.get2); go_simp; (try with_reducible rfl))) (by assumption) ?_
          simp only [Act.put, List.setIfInBounds_toArray, List.set_cons_zero, List.set_cons_succ]
          refine take_op 28 rfl (by kernel_rfl) (by kernel_rfl) (by kernel_rfl) (fun _ _ _ h => h) (by rfl) (by (intro w hSw; (obtain ⟨g0, g1, g2, g3⟩ := boxF_c hSw.get0); go_simp; (try with_reducible rfl))) (by assumption) ?_
          simp only [Act.put, List.setIfInBounds_toArray, List.set_cons_zero, List.set_cons_succ]
          refine at_op 29 rfl (by kernel_rfl) (by rfl) (fun K hK => ?_)
          go_simp
          refine (own_below hHeld (mat_find (HM.out.keep hHeld.bel) ⟨false, x.id, true, data⟩)).mono ?_
          rintro e w5 ⟨rfl, hO⟩
          rw [HX.out]
          refine hK.out _ _ ?_ (fun hHeld => ?_)
          · exact hO
          clear hK K
          try simp only [Act.put, List.setIfInBounds_toArray, List.set_cons_zero, List.set_cons_succ]
          refine take_op 30 rfl (by kernel_rfl) (by kernel_rfl) (by kernel_rfl) (fun _ _ _ h => h) (by rfl) (by (intro w hSw; (try dsimp only at hSw); go_simp; (try with_reducible rfl))) (by assumption) ?_
          simp only [Act.put, List.setIfInBounds_toArray, List.set_cons_zero, List.set_cons_succ]
          refine take_op 31 rfl (by kernel_rfl) (by kernel_rfl) (by kernel_rfl) (fun _ _ _ h => h) (by rfl) (by (intro w hSw; (try dsimp only at hSw); go_simp; (try with_reducible rfl))) (by assumption) ?_
          simp only [Act.put, List.setIfInBounds_toArray, List.set_cons_zero, List.set_cons_succ]
          refine wpAnyH_done (by kernel_rfl) ?_ _
          replace hHeld := hHeld.drop.drop
          go_wp2_with fail
          go_roundw
          case rel => exact ⟨k + 1, by go_num, by omega, hHeld⟩
          case measure => simp [intOf]; omega
        · have HFE := Lib.hid (show frameE m (m.msgs.length : Int) data = (noF, false) by
            unfold frameE
            rw [if_pos (by omega)]
            rfl)
          go_wp2_with fail
          refine (own_below hO (mat_frame (HM.out.keep hO.bel) (m.msgs.length : Int) (WalkArith.wf_i64 (by omega)) data (by unfold maxLen; exact HD.out))).mono ?_
          rintro e w3 ⟨rfl, hO⟩
          rw [HFE.out]
          simp only [frV, noF]
          go_wp2
          go_ret
          exact ⟨rfl, (hO.alloc_ _).bel⟩
    · go_wp2
      all_goals first | (exfalso; omega) | (go_ret; exact ⟨rfl, hO.bel⟩)
  · rw [decide_eq_false hf]
    go_wp2
    go_ret
    exact ⟨rfl, hO.bel⟩
set_option maxRecDepth 100000 in
theorem MatrixFrames_walk {H : Type} {enc : TypeId × Value → H} {base : Nat} {d0 : DataW H} {p0 : List MemPlace} (v0 : Value) (a1 : ByteArray) (w1 : a1.size ≤ maxLen) (W : World)
    (hv : Value.okWide Try.prog W .any base 27 v0) (h : DataW.Trod enc Try.prog W 0 (fun _ => true) true 27 v0 d0 p0) :
    Holds 8 #[v0, .string a1] W := by
  obtain ⟨m, s1, s2, s3, rfl, hr⟩ := open_mat hv h
  exact MatrixFrames_core m s1 s2 s3 a1 w1 W hr

set_option maxRecDepth 100000 in
theorem MatrixFrames_lifted (os : Os) (started : os.Started) (H : Type) (enc : TypeId × Value → H) :
    ReturnsInHanded {} Try.checked os 8 .any (Rows.matrixFramesSpec.pre6 enc Try.prog Try.f8 [] false) (Rows.matrixFramesSpec.post enc Try.prog Try.f8 false true false false) := by
  refine law_lifted (n := 2) os started H enc (by kernel_rfl) Try.func8 rfl rfl (hts_of (by kernel_rfl)) rfl (fun ds h => match ds, h with | [_, _], _ => rfl)
    (ChangeSpec.witness6 (enc := enc) (C := Try.checked) false ⟨#[], #[.agg #[.int .i64 0, .int .i64 0, .int .i64 0, .int .i64 0, .int .i64 0, .int .i64 0, .int .i64 0, .int .u32 0, .slice none 0 0, .slice none 0 0, .slice none 0 0], .string ⟨#[]⟩], []⟩ 8 (by kernel_rfl) (by kernel_rfl) (by kernel_rfl) (by kernel_rfl)) ?_
  intro W base args ds p hval hA
  rw [Try.params8] at hA hval
  obtain ⟨v0, vs0, d0, ds0, p0, q0, hargs, rfl, rfl, h0, r0⟩ := trodAll_cons hA
  obtain ⟨v1, vs1, d1, ds1, p1, q1, rfl, rfl, rfl, h1, r1⟩ := trodAll_cons r0
  obtain ⟨rfl, rfl, rfl⟩ := trodAll_nil r1
  obtain rfl : args = #[v0, v1] := by cases args; simp_all
  obtain ⟨a1, rfl, rfl, rfl, w1⟩ := Go.ChangeMaps.open_string Try.underlying9 (hval 1 _ v1 rfl rfl) h1
  exact MatrixFrames_walk v0 a1 w1 W (hval 0 _ v0 rfl rfl) h0

theorem MatrixFrames_over : Rows.matrixFramesRow.holds Try.pinned (OpenSpec.ofChange Rows.matrixFramesSpec) :=
  OpenClaim.holds_of_wide 8 Try.f8 rfl rfl rfl rfl rfl rfl rfl ⟨rfl, rfl, rfl, rfl, rfl⟩ rfl rfl rfl rfl rfl (by kernel_rfl) Try.func8 (by kernel_rfl)
    (of_decide_eq_true (by kernel_rfl)) (by unfold Func.isWrapper; first | (rw [if_pos (by decide +kernel)]; kernel_rfl) | (rw [if_neg (by decide +kernel)]; exact ⟨rfl, rfl⟩))
    (fun os started H enc _ => MatrixFrames_lifted os started H enc)
theorem MatrixFrames_holds : Rows.MatrixFramesSaid := MatrixFrames_over
#print axioms MatrixFrames_holds
end Go.Proofs.Ythkhlcigegbpfaa
