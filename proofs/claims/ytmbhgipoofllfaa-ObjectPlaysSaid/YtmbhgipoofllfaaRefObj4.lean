/- The reference's messages: New: five blocks are made in whatever order. (Printed by tools/gen_refnew.py.) -/
import Derived.Test.YtmbhgipoofllfaaRefObj3
namespace Go.Proofs.Ytmbhgipoofllfaa
set_option linter.unusedVariables false
set_option linter.unusedSimpArgs false
open Go.ChangeShapes Go.WideShapes Go.ChangeAt Go.RowKit Go.Deep

theorem name_it {P : Program} {md : Region.Mode} {ops : Array Oper} {Q : Exit → Act → World → Prop} {S : World → Prop} {fuel : Nat} {listed : Array Bool} {a : Act} {w : World} (h : ∀ K, wpAnyH P md ops Q S = K → K fuel listed a w) : wpAnyH P md ops Q S fuel listed a w := h _ rfl
theorem str_info : (Try.prog.info? 9).map (fun i => (i.zero, i.size, i.bytes)) = some (some (.string ⟨#[]⟩), 1, 16) := by kernel_rfl
theorem boo_info : (Try.prog.info? 4).map (fun i => (i.zero, i.size, i.bytes)) = some (some (.bool false), 1, 1) := by kernel_rfl
theorem make_str {n : Nat} (hn : n ≤ 100000) (w : World) : (Instr.makeSlice 54 (.int .i64 (n : Int)) (.int .i64 (n : Int))).run Try.prog w = .ok (.slice (some ⟨w.heap.size, 0, none⟩) n n) (w.alloc (strO n (fun _ => none))) := by
  obtain ⟨i0, hi0, hz0, hz1, hz2⟩ := info_parts str_info
  have h := run_make_rowN (P := Try.prog) 54 9 i0 _ Try.underlying54 hi0 hz0 .i64 .i64 n n (Nat.le_refl _) (by rw [hz2]; omega) (by omega) w
  rw [h, hz1]
  have e : madeCells (Value.string ⟨#[]⟩).cells (n * 1) = (strR n (fun _ => none)).toArray := by
    apply Array.ext
    · simp [madeCells, strR]
    · intro i h1 h2
      simp [madeCells, strR, Value.cells, Nat.mod_one]
  rw [e]
  rfl
theorem make_boo {n : Nat} (hn : n ≤ 100000) (w : World) : (Instr.makeSlice 80 (.int .i64 (n : Int)) (.int .i64 (n : Int))).run Try.prog w = .ok (.slice (some ⟨w.heap.size, 0, none⟩) n n) (w.alloc (booO n (fun _ => none))) := by
  obtain ⟨i0, hi0, hz0, hz1, hz2⟩ := info_parts boo_info
  have h := run_make_rowN (P := Try.prog) 80 4 i0 _ Try.underlying80 hi0 hz0 .i64 .i64 n n (Nat.le_refl _) (by rw [hz2]; omega) (by omega) w
  rw [h, hz1]
  have e : madeCells (Value.bool false).cells (n * 1) = (booR n (fun _ => none)).toArray := by
    apply Array.ext
    · simp [madeCells, booR]
    · intro i h1 h2
      simp [madeCells, booR, Value.cells, Nat.mod_one]
  rw [e]
  rfl
/-- What stands behind New. -/
structure RNew (m : Mat) (s1 s2 s3 : Value) (who : Int) (x : RD) (w w' : World) : Prop where
  bel : Below w.heap.size w w'
  hr : w'.heap[x.r]? = some (robO m s1 s2 s3 who m.msgs.length x)
  ho : w'.heap[x.bo]? = some (strO m.msgs.length (fun _ => none))
  hh : w'.heap[x.bh]? = some (booO m.msgs.length (fun _ => none))
  hc : w'.heap[x.bc]? = some (strO m.msgs.length (fun _ => none))
  hg : w'.heap[x.bg]? = some (booO m.msgs.length (fun _ => none))
  hq : w'.heap[x.bq]? = some (rqO 4 (.slice none 0 0))
  far : ∀ b ∈ [x.r, x.bo, x.bh, x.bc, x.bg, x.bq], w.heap.size ≤ b
  nd : [x.r, x.bo, x.bh, x.bc, x.bg, x.bq].Nodup
theorem ne_blk {w : World} {b c : Nat} {o p : Obj} (h : w.heap[b]? = some o) (h' : w.heap[c]? = some p) (hn : o ≠ p) : b ≠ c := by
  rintro rfl
  rw [h] at h'
  exact hn (Option.some.inj h')
theorem str_boo {n k : Nat} {f g : Int → Option ByteArray} : strO n f ≠ booO k g := by simp [strO, booO]
theorem str_rq {n : Nat} {f : Int → Option ByteArray} {r : Int} {v : Value} : strO n f ≠ rqO r v := by simp [strO, rqO]
theorem boo_rq {n : Nat} {f : Int → Option ByteArray} {r : Int} {v : Value} : booO n f ≠ rqO r v := by simp [booO, rqO]
set_option maxRecDepth 100000 in
set_option maxHeartbeats 8000000 in
theorem r_new {w : World} {m : Mat} {s1 s2 s3 : Value} (h : RdM w m s1 s2 s3) (hn : m.msgs.length ≤ 100000) (who : Int) :
    Calls Try.prog 33 #[matV m s1 s2 s3, .int .i64 who] w fun e w' => ∃ x : RD, e = .returned (.pointer (some ⟨x.r, 0, none⟩)) ∧ RNew m s1 s2 s3 who x w w' := by
  obtain ⟨a2, p2, e2, r2⟩ := h.r2.shape
  subst e2
  have hO := (Own.nil_ (Below.refl w.heap.size w) (Nat.le_refl _)).alloc (boxM m s1 (.slice a2 m.msgs.length p2) s3)
  obtain ⟨c0, c1, c2, c3, c4, c5, c6, c7, c8, c9, c10⟩ := boxM_c hO.get0
  have hml := lt_of_heap hO.get0
  unfold boxM at c0 c1 c2 c3 c4 c5 c6 c7 c8 c9 c10 hml
  have hmS := fun w : World => make_str hn w
  have hmB := fun w : World => make_boo hn w
  go_enter Try.func33, Try.ntmps33
  unfold matV
  go_wp2_with fail
  clear c0 c1 c2 c3 c4 c5 c6 c7 c8 c9 c10 hml
  refine wp_region_held_drew (S := fun v => v.heap[w.heap.size]? = some (boxM m s1 (.slice a2 m.msgs.length p2) s3)) (by kernel_rfl) hO.get0 (fun hHeld => ?_)
  refine take_op 0 rfl (by kernel_rfl) (by kernel_rfl) (by kernel_rfl) (fun _ _ _ h => h) (by rfl) (by (intro wz hSw; (obtain ⟨c0, c1, c2, c3, c4, c5, c6, c7, c8, c9, c10⟩ := boxM_c hSw; have hl := lt_of_heap hSw); go_simp; (try with_reducible rfl))) (by assumption) ?_
  simp only [Act.put, List.setIfInBounds_toArray, List.set_cons_zero, List.set_cons_succ]
  refine take_op 1 rfl (by kernel_rfl) (by kernel_rfl) (by kernel_rfl) (fun _ _ _ h => h) (by rfl) (by (intro w hSw; (try dsimp only at hSw); go_simp; (try with_reducible rfl))) (by assumption) ?_
  simp only [Act.put, List.setIfInBounds_toArray, List.set_cons_zero, List.set_cons_succ]
  refine take_op 2 rfl (by kernel_rfl) (by kernel_rfl) (by kernel_rfl) (fun _ _ _ h => h) (by rfl) (by (intro w hSw; (try dsimp only at hSw); go_simp; (try with_reducible rfl))) (by assumption) ?_
  simp only [Act.put, List.setIfInBounds_toArray, List.set_cons_zero, List.set_cons_succ]
  refine take_op 4 rfl (by kernel_rfl) (by kernel_rfl) (by kernel_rfl) (fun _ _ _ h => h) (by rfl) (by (intro w hSw; (try dsimp only at hSw); go_simp; (try with_reducible rfl))) (by assumption) ?_
  simp only [Act.put, List.setIfInBounds_toArray, List.set_cons_zero, List.set_cons_succ]
  refine take_op 6 rfl (by kernel_rfl) (by kernel_rfl) (by kernel_rfl) (fun _ _ _ h => h) (by rfl) (by (intro w hSw; (try dsimp only at hSw); go_simp; (try with_reducible rfl))) (by assumption) ?_
  simp only [Act.put, List.setIfInBounds_toArray, List.set_cons_zero, List.set_cons_succ]
  refine take_op 8 rfl (by kernel_rfl) (by kernel_rfl) (by kernel_rfl) (fun _ _ _ h => h) (by rfl) (by (intro w hSw; (try dsimp only at hSw); go_simp; (try with_reducible rfl))) (by assumption) ?_
  simp only [Act.put, List.setIfInBounds_toArray, List.set_cons_zero, List.set_cons_succ]
  refine name_it (fun K hK => ?_)
  have HB0 : Below w.heap.size w (w.alloc (boxM m s1 (.slice a2 m.msgs.length p2) s3)).drew := hO.bel.drew
  have HX0 := hHeld
  clear hHeld hO h r2
  have st11111 : ∀ (bo bh bc bg bq : Nat) (wv : World), Below w.heap.size w wv → w.heap.size ≤ wv.heap.size → wv.heap[w.heap.size]? = some (boxM m s1 (.slice a2 m.msgs.length p2) s3) → wv.heap[bo]? = some (strO m.msgs.length (fun _ => none)) → w.heap.size ≤ bo → wv.heap[bh]? = some (booO m.msgs.length (fun _ => none)) → w.heap.size ≤ bh → wv.heap[bc]? = some (strO m.msgs.length (fun _ => none)) → w.heap.size ≤ bc → wv.heap[bg]? = some (booO m.msgs.length (fun _ => none)) → w.heap.size ≤ bg → wv.heap[bq]? = some (rqO 4 (.slice none 0 0)) → w.heap.size ≤ bq → bo ≠ bc → bh ≠ bg → K 3 #[true, true, true, true, true, true, true, true, true, true, true, false, false, false] ⟨#[.agg #[.int .i64 m.level, .int .i64 m.nodes, .int .i64 m.cycles, .int .i64 m.length, .int .i64 m.enable, .int .i64 m.unit, .int .i64 m.init, .int .u32 m.ref, s1, .slice a2 m.msgs.length p2, s3], .int .i64 who, .pointer (some ⟨w.heap.size, 0, none⟩), undef, .pointer none, .int .i64 (m.msgs.length : Int), .pointer (some ⟨w.heap.size, 9, none⟩), .slice a2 m.msgs.length p2, .int .i64 (m.msgs.length : Int), .agg #[.int .i64 m.level, .int .i64 m.nodes, .int .i64 m.cycles, .int .i64 m.length, .int .i64 m.enable, .int .i64 m.unit, .int .i64 m.init, .int .u32 m.ref, s1, .slice a2 m.msgs.length p2, s3], .int .i64 who, .int .i64 (m.msgs.length : Int), .slice (some ⟨bo, 0, none⟩) m.msgs.length m.msgs.length, .int .i64 (m.msgs.length : Int), .slice (some ⟨bh, 0, none⟩) m.msgs.length m.msgs.length, .int .i64 (m.msgs.length : Int), .slice (some ⟨bc, 0, none⟩) m.msgs.length m.msgs.length, .int .i64 (m.msgs.length : Int), .slice (some ⟨bg, 0, none⟩) m.msgs.length m.msgs.length, .pointer (some ⟨bq, 0, none⟩), undef, undef], []⟩ wv := by
    intro bo bh bc bg bq wv hB hz hx h3 g3 h5 g5 h7 g7 h9 g9 h10 g10 d37 d59
    rw [← hK]
    have HH := Lib.hid (And.intro h3 (And.intro h5 (And.intro h7 (And.intro h9 h10))))
    have HG := Lib.hid (And.intro g3 (And.intro g5 (And.intro g7 (And.intro g9 g10))))
    have HB := Lib.hid hB
    have HX := Lib.hid hx
    have hSS := hx
    clear h3 h5 h7 h9 h10 g3 g5 g7 g9 g10 hB hx hK
    refine take_op 11 rfl (by kernel_rfl) (by kernel_rfl) (by kernel_rfl) (fun _ _ _ h => h) (by rfl) (by (intro w hSw; (try dsimp only at hSw); go_simp; (try with_reducible rfl))) (by assumption) ?_
    simp only [Act.put, List.setIfInBounds_toArray, List.set_cons_zero, List.set_cons_succ]
    refine at_op 12 rfl (by kernel_rfl) (by rfl) (fun K hK => ?_)
    go_simp
    have hS1 := (old_blk wv (robO m s1 (.slice a2 m.msgs.length p2) s3 who m.msgs.length ⟨wv.heap.size, bo, bh, bc, bg, bq⟩) w.heap.size (lt_of_heap hSS)).trans hSS
    refine hK.out _ _ ?_ (fun hHeld => ?_)
    · exact hS1
    clear hK K
    try simp only [Act.put, List.setIfInBounds_toArray, List.set_cons_zero, List.set_cons_succ]
    refine take_op 13 rfl (by kernel_rfl) (by kernel_rfl) (by kernel_rfl) (fun _ _ _ h => h) (by rfl) (by (intro w hSw; (try dsimp only at hSw); go_simp; (try with_reducible rfl))) (by assumption) ?_
    simp only [Act.put, List.setIfInBounds_toArray, List.set_cons_zero, List.set_cons_succ]
    refine wpAnyH_done (by kernel_rfl) ?_ _
    go_wp2
    go_ret
    obtain ⟨h3, h5, h7, h9, h10⟩ := HH.out
    obtain ⟨g3, g5, g7, g9, g10⟩ := HG.out
    have k3 := lt_of_heap h3
    have k5 := lt_of_heap h5
    have k7 := lt_of_heap h7
    have k9 := lt_of_heap h9
    have k10 := lt_of_heap h10
    refine ⟨⟨wv.heap.size, bo, bh, bc, bg, bq⟩, rfl, HB.out.alloc (by omega) _, new_blk _ _, (old_blk _ _ _ k3).trans h3, (old_blk _ _ _ k5).trans h5, (old_blk _ _ _ k7).trans h7, (old_blk _ _ _ k9).trans h9, (old_blk _ _ _ k10).trans h10, ?_, ?_⟩
    · intro b hb
      simp only [List.mem_cons, List.not_mem_nil, or_false] at hb
      rcases hb with rfl | rfl | rfl | rfl | rfl | rfl <;> omega
    · have e1 := ne_blk h3 h5 str_boo
      have e2 := ne_blk h3 h9 str_boo
      have e3 := ne_blk h3 h10 str_rq
      have e4 := ne_blk h7 h5 str_boo
      have e5 := ne_blk h7 h9 str_boo
      have e6 := ne_blk h7 h10 str_rq
      have e7 := ne_blk h5 h10 boo_rq
      have e8 := ne_blk h9 h10 boo_rq
      simp only [List.nodup_cons, List.mem_cons, List.not_mem_nil, or_false, not_or, not_false_eq_true, List.nodup_nil, and_true]
      refine ⟨⟨?_, ?_, ?_, ?_, ?_⟩, ⟨?_, ?_, ?_, ?_⟩, ⟨?_, ?_, ?_⟩, ⟨?_, ?_⟩, ?_⟩ <;> omega
  have st11110 : ∀ (bo bh bc bg : Nat) (wv : World), Below w.heap.size w wv → w.heap.size ≤ wv.heap.size → wv.heap[w.heap.size]? = some (boxM m s1 (.slice a2 m.msgs.length p2) s3) → wv.heap[bo]? = some (strO m.msgs.length (fun _ => none)) → w.heap.size ≤ bo → wv.heap[bh]? = some (booO m.msgs.length (fun _ => none)) → w.heap.size ≤ bh → wv.heap[bc]? = some (strO m.msgs.length (fun _ => none)) → w.heap.size ≤ bc → wv.heap[bg]? = some (booO m.msgs.length (fun _ => none)) → w.heap.size ≤ bg → bo ≠ bc → bh ≠ bg → K 4 #[true, true, true, true, true, true, true, true, true, true, false, false, false, false] ⟨#[.agg #[.int .i64 m.level, .int .i64 m.nodes, .int .i64 m.cycles, .int .i64 m.length, .int .i64 m.enable, .int .i64 m.unit, .int .i64 m.init, .int .u32 m.ref, s1, .slice a2 m.msgs.length p2, s3], .int .i64 who, .pointer (some ⟨w.heap.size, 0, none⟩), undef, .pointer none, .int .i64 (m.msgs.length : Int), .pointer (some ⟨w.heap.size, 9, none⟩), .slice a2 m.msgs.length p2, .int .i64 (m.msgs.length : Int), .agg #[.int .i64 m.level, .int .i64 m.nodes, .int .i64 m.cycles, .int .i64 m.length, .int .i64 m.enable, .int .i64 m.unit, .int .i64 m.init, .int .u32 m.ref, s1, .slice a2 m.msgs.length p2, s3], .int .i64 who, .int .i64 (m.msgs.length : Int), .slice (some ⟨bo, 0, none⟩) m.msgs.length m.msgs.length, .int .i64 (m.msgs.length : Int), .slice (some ⟨bh, 0, none⟩) m.msgs.length m.msgs.length, .int .i64 (m.msgs.length : Int), .slice (some ⟨bc, 0, none⟩) m.msgs.length m.msgs.length, .int .i64 (m.msgs.length : Int), .slice (some ⟨bg, 0, none⟩) m.msgs.length m.msgs.length, undef, undef, undef], []⟩ wv := by
    intro bo bh bc bg wv hB hz hx h3 g3 h5 g5 h7 g7 h9 g9 d37 d59
    rw [← hK]
    refine wpAnyH_ready (rs := [10]) (by kernel_rfl) (by simp) (AllReadyH.cons rfl (fun K' hK' => ?_) (AllReadyH.nil))
    · rw [if_pos (by rfl)]
      go_simp
      refine (rque_new 4 _).mono ?_
      rintro e wa ⟨rfl, rfl⟩
      rw [show max (1 : Int) (min 4 4) = 4 by decide]
      refine hK'.out _ _ ((old_blk wv (rqO 4 (.slice none 0 0)) w.heap.size (lt_of_heap hx)).trans hx) (fun _ => ?_)
      try simp only [Act.put, List.setIfInBounds_toArray, List.set_cons_zero, List.set_cons_succ]
      rw [hK]
      exact st11111 bo bh bc bg wv.heap.size (wv.alloc (rqO 4 (.slice none 0 0))) (hB.alloc hz _) (by simp; omega) ((old_blk wv _ w.heap.size (lt_of_heap hx)).trans hx) ((old_blk wv _ _ (lt_of_heap h3)).trans h3) g3 ((old_blk wv _ _ (lt_of_heap h5)).trans h5) g5 ((old_blk wv _ _ (lt_of_heap h7)).trans h7) g7 ((old_blk wv _ _ (lt_of_heap h9)).trans h9) g9 (new_blk _ _) hz d37 d59
  have st11101 : ∀ (bo bh bc bq : Nat) (wv : World), Below w.heap.size w wv → w.heap.size ≤ wv.heap.size → wv.heap[w.heap.size]? = some (boxM m s1 (.slice a2 m.msgs.length p2) s3) → wv.heap[bo]? = some (strO m.msgs.length (fun _ => none)) → w.heap.size ≤ bo → wv.heap[bh]? = some (booO m.msgs.length (fun _ => none)) → w.heap.size ≤ bh → wv.heap[bc]? = some (strO m.msgs.length (fun _ => none)) → w.heap.size ≤ bc → wv.heap[bq]? = some (rqO 4 (.slice none 0 0)) → w.heap.size ≤ bq → bo ≠ bc → K 4 #[true, true, true, true, true, true, true, true, true, false, true, false, false, false] ⟨#[.agg #[.int .i64 m.level, .int .i64 m.nodes, .int .i64 m.cycles, .int .i64 m.length, .int .i64 m.enable, .int .i64 m.unit, .int .i64 m.init, .int .u32 m.ref, s1, .slice a2 m.msgs.length p2, s3], .int .i64 who, .pointer (some ⟨w.heap.size, 0, none⟩), undef, .pointer none, .int .i64 (m.msgs.length : Int), .pointer (some ⟨w.heap.size, 9, none⟩), .slice a2 m.msgs.length p2, .int .i64 (m.msgs.length : Int), .agg #[.int .i64 m.level, .int .i64 m.nodes, .int .i64 m.cycles, .int .i64 m.length, .int .i64 m.enable, .int .i64 m.unit, .int .i64 m.init, .int .u32 m.ref, s1, .slice a2 m.msgs.length p2, s3], .int .i64 who, .int .i64 (m.msgs.length : Int), .slice (some ⟨bo, 0, none⟩) m.msgs.length m.msgs.length, .int .i64 (m.msgs.length : Int), .slice (some ⟨bh, 0, none⟩) m.msgs.length m.msgs.length, .int .i64 (m.msgs.length : Int), .slice (some ⟨bc, 0, none⟩) m.msgs.length m.msgs.length, .int .i64 (m.msgs.length : Int), undef, .pointer (some ⟨bq, 0, none⟩), undef, undef], []⟩ wv := by
    intro bo bh bc bq wv hB hz hx h3 g3 h5 g5 h7 g7 h10 g10 d37
    rw [← hK]
    refine wpAnyH_ready (rs := [9]) (by kernel_rfl) (by simp) (AllReadyH.cons rfl (fun K' hK' => ?_) (AllReadyH.nil))
    · rw [if_pos (by rfl)]
      go_simp
      refine hK'.out _ _ ((old_blk wv (booO m.msgs.length (fun _ => none)) w.heap.size (lt_of_heap hx)).trans hx) (fun _ => ?_)
      try simp only [Act.put, List.setIfInBounds_toArray, List.set_cons_zero, List.set_cons_succ]
      rw [hK]
      exact st11111 bo bh bc wv.heap.size bq (wv.alloc (booO m.msgs.length (fun _ => none))) (hB.alloc hz _) (by simp; omega) ((old_blk wv _ w.heap.size (lt_of_heap hx)).trans hx) ((old_blk wv _ _ (lt_of_heap h3)).trans h3) g3 ((old_blk wv _ _ (lt_of_heap h5)).trans h5) g5 ((old_blk wv _ _ (lt_of_heap h7)).trans h7) g7 (new_blk _ _) hz ((old_blk wv _ _ (lt_of_heap h10)).trans h10) g10 d37 (fun e => by have := lt_of_heap h5; omega)
  have st11011 : ∀ (bo bh bg bq : Nat) (wv : World), Below w.heap.size w wv → w.heap.size ≤ wv.heap.size → wv.heap[w.heap.size]? = some (boxM m s1 (.slice a2 m.msgs.length p2) s3) → wv.heap[bo]? = some (strO m.msgs.length (fun _ => none)) → w.heap.size ≤ bo → wv.heap[bh]? = some (booO m.msgs.length (fun _ => none)) → w.heap.size ≤ bh → wv.heap[bg]? = some (booO m.msgs.length (fun _ => none)) → w.heap.size ≤ bg → wv.heap[bq]? = some (rqO 4 (.slice none 0 0)) → w.heap.size ≤ bq → bh ≠ bg → K 4 #[true, true, true, true, true, true, true, false, true, true, true, false, false, false] ⟨#[.agg #[.int .i64 m.level, .int .i64 m.nodes, .int .i64 m.cycles, .int .i64 m.length, .int .i64 m.enable, .int .i64 m.unit, .int .i64 m.init, .int .u32 m.ref, s1, .slice a2 m.msgs.length p2, s3], .int .i64 who, .pointer (some ⟨w.heap.size, 0, none⟩), undef, .pointer none, .int .i64 (m.msgs.length : Int), .pointer (some ⟨w.heap.size, 9, none⟩), .slice a2 m.msgs.length p2, .int .i64 (m.msgs.length : Int), .agg #[.int .i64 m.level, .int .i64 m.nodes, .int .i64 m.cycles, .int .i64 m.length, .int .i64 m.enable, .int .i64 m.unit, .int .i64 m.init, .int .u32 m.ref, s1, .slice a2 m.msgs.length p2, s3], .int .i64 who, .int .i64 (m.msgs.length : Int), .slice (some ⟨bo, 0, none⟩) m.msgs.length m.msgs.length, .int .i64 (m.msgs.length : Int), .slice (some ⟨bh, 0, none⟩) m.msgs.length m.msgs.length, .int .i64 (m.msgs.length : Int), undef, .int .i64 (m.msgs.length : Int), .slice (some ⟨bg, 0, none⟩) m.msgs.length m.msgs.length, .pointer (some ⟨bq, 0, none⟩), undef, undef], []⟩ wv := by
    intro bo bh bg bq wv hB hz hx h3 g3 h5 g5 h9 g9 h10 g10 d59
    rw [← hK]
    refine wpAnyH_ready (rs := [7]) (by kernel_rfl) (by simp) (AllReadyH.cons rfl (fun K' hK' => ?_) (AllReadyH.nil))
    · rw [if_pos (by rfl)]
      go_simp
      refine hK'.out _ _ ((old_blk wv (strO m.msgs.length (fun _ => none)) w.heap.size (lt_of_heap hx)).trans hx) (fun _ => ?_)
      try simp only [Act.put, List.setIfInBounds_toArray, List.set_cons_zero, List.set_cons_succ]
      rw [hK]
      exact st11111 bo bh wv.heap.size bg bq (wv.alloc (strO m.msgs.length (fun _ => none))) (hB.alloc hz _) (by simp; omega) ((old_blk wv _ w.heap.size (lt_of_heap hx)).trans hx) ((old_blk wv _ _ (lt_of_heap h3)).trans h3) g3 ((old_blk wv _ _ (lt_of_heap h5)).trans h5) g5 (new_blk _ _) hz ((old_blk wv _ _ (lt_of_heap h9)).trans h9) g9 ((old_blk wv _ _ (lt_of_heap h10)).trans h10) g10 (fun e => by have := lt_of_heap h3; omega) d59
  have st10111 : ∀ (bo bc bg bq : Nat) (wv : World), Below w.heap.size w wv → w.heap.size ≤ wv.heap.size → wv.heap[w.heap.size]? = some (boxM m s1 (.slice a2 m.msgs.length p2) s3) → wv.heap[bo]? = some (strO m.msgs.length (fun _ => none)) → w.heap.size ≤ bo → wv.heap[bc]? = some (strO m.msgs.length (fun _ => none)) → w.heap.size ≤ bc → wv.heap[bg]? = some (booO m.msgs.length (fun _ => none)) → w.heap.size ≤ bg → wv.heap[bq]? = some (rqO 4 (.slice none 0 0)) → w.heap.size ≤ bq → bo ≠ bc → K 4 #[true, true, true, true, true, false, true, true, true, true, true, false, false, false] ⟨#[.agg #[.int .i64 m.level, .int .i64 m.nodes, .int .i64 m.cycles, .int .i64 m.length, .int .i64 m.enable, .int .i64 m.unit, .int .i64 m.init, .int .u32 m.ref, s1, .slice a2 m.msgs.length p2, s3], .int .i64 who, .pointer (some ⟨w.heap.size, 0, none⟩), undef, .pointer none, .int .i64 (m.msgs.length : Int), .pointer (some ⟨w.heap.size, 9, none⟩), .slice a2 m.msgs.length p2, .int .i64 (m.msgs.length : Int), .agg #[.int .i64 m.level, .int .i64 m.nodes, .int .i64 m.cycles, .int .i64 m.length, .int .i64 m.enable, .int .i64 m.unit, .int .i64 m.init, .int .u32 m.ref, s1, .slice a2 m.msgs.length p2, s3], .int .i64 who, .int .i64 (m.msgs.length : Int), .slice (some ⟨bo, 0, none⟩) m.msgs.length m.msgs.length, .int .i64 (m.msgs.length : Int), undef, .int .i64 (m.msgs.length : Int), .slice (some ⟨bc, 0, none⟩) m.msgs.length m.msgs.length, .int .i64 (m.msgs.length : Int), .slice (some ⟨bg, 0, none⟩) m.msgs.length m.msgs.length, .pointer (some ⟨bq, 0, none⟩), undef, undef], []⟩ wv := by
    intro bo bc bg bq wv hB hz hx h3 g3 h7 g7 h9 g9 h10 g10 d37
    rw [← hK]
    refine wpAnyH_ready (rs := [5]) (by kernel_rfl) (by simp) (AllReadyH.cons rfl (fun K' hK' => ?_) (AllReadyH.nil))
    · rw [if_pos (by rfl)]
      go_simp
      refine hK'.out _ _ ((old_blk wv (booO m.msgs.length (fun _ => none)) w.heap.size (lt_of_heap hx)).trans hx) (fun _ => ?_)
      try simp only [Act.put, List.setIfInBounds_toArray, List.set_cons_zero, List.set_cons_succ]
      rw [hK]
      exact st11111 bo wv.heap.size bc bg bq (wv.alloc (booO m.msgs.length (fun _ => none))) (hB.alloc hz _) (by simp; omega) ((old_blk wv _ w.heap.size (lt_of_heap hx)).trans hx) ((old_blk wv _ _ (lt_of_heap h3)).trans h3) g3 (new_blk _ _) hz ((old_blk wv _ _ (lt_of_heap h7)).trans h7) g7 ((old_blk wv _ _ (lt_of_heap h9)).trans h9) g9 ((old_blk wv _ _ (lt_of_heap h10)).trans h10) g10 d37 (fun e => by have := lt_of_heap h9; omega)
  have st01111 : ∀ (bh bc bg bq : Nat) (wv : World), Below w.heap.size w wv → w.heap.size ≤ wv.heap.size → wv.heap[w.heap.size]? = some (boxM m s1 (.slice a2 m.msgs.length p2) s3) → wv.heap[bh]? = some (booO m.msgs.length (fun _ => none)) → w.heap.size ≤ bh → wv.heap[bc]? = some (strO m.msgs.length (fun _ => none)) → w.heap.size ≤ bc → wv.heap[bg]? = some (booO m.msgs.length (fun _ => none)) → w.heap.size ≤ bg → wv.heap[bq]? = some (rqO 4 (.slice none 0 0)) → w.heap.size ≤ bq → bh ≠ bg → K 4 #[true, true, true, false, true, true, true, true, true, true, true, false, false, false] ⟨#[.agg #[.int .i64 m.level, .int .i64 m.nodes, .int .i64 m.cycles, .int .i64 m.length, .int .i64 m.enable, .int .i64 m.unit, .int .i64 m.init, .int .u32 m.ref, s1, .slice a2 m.msgs.length p2, s3], .int .i64 who, .pointer (some ⟨w.heap.size, 0, none⟩), undef, .pointer none, .int .i64 (m.msgs.length : Int), .pointer (some ⟨w.heap.size, 9, none⟩), .slice a2 m.msgs.length p2, .int .i64 (m.msgs.length : Int), .agg #[.int .i64 m.level, .int .i64 m.nodes, .int .i64 m.cycles, .int .i64 m.length, .int .i64 m.enable, .int .i64 m.unit, .int .i64 m.init, .int .u32 m.ref, s1, .slice a2 m.msgs.length p2, s3], .int .i64 who, .int .i64 (m.msgs.length : Int), undef, .int .i64 (m.msgs.length : Int), .slice (some ⟨bh, 0, none⟩) m.msgs.length m.msgs.length, .int .i64 (m.msgs.length : Int), .slice (some ⟨bc, 0, none⟩) m.msgs.length m.msgs.length, .int .i64 (m.msgs.length : Int), .slice (some ⟨bg, 0, none⟩) m.msgs.length m.msgs.length, .pointer (some ⟨bq, 0, none⟩), undef, undef], []⟩ wv := by
    intro bh bc bg bq wv hB hz hx h5 g5 h7 g7 h9 g9 h10 g10 d59
    rw [← hK]
    refine wpAnyH_ready (rs := [3]) (by kernel_rfl) (by simp) (AllReadyH.cons rfl (fun K' hK' => ?_) (AllReadyH.nil))
    · rw [if_pos (by rfl)]
      go_simp
      refine hK'.out _ _ ((old_blk wv (strO m.msgs.length (fun _ => none)) w.heap.size (lt_of_heap hx)).trans hx) (fun _ => ?_)
      try simp only [Act.put, List.setIfInBounds_toArray, List.set_cons_zero, List.set_cons_succ]
      rw [hK]
      exact st11111 wv.heap.size bh bc bg bq (wv.alloc (strO m.msgs.length (fun _ => none))) (hB.alloc hz _) (by simp; omega) ((old_blk wv _ w.heap.size (lt_of_heap hx)).trans hx) (new_blk _ _) hz ((old_blk wv _ _ (lt_of_heap h5)).trans h5) g5 ((old_blk wv _ _ (lt_of_heap h7)).trans h7) g7 ((old_blk wv _ _ (lt_of_heap h9)).trans h9) g9 ((old_blk wv _ _ (lt_of_heap h10)).trans h10) g10 (fun e => by have := lt_of_heap h7; omega) d59
  have st11100 : ∀ (bo bh bc : Nat) (wv : World), Below w.heap.size w wv → w.heap.size ≤ wv.heap.size → wv.heap[w.heap.size]? = some (boxM m s1 (.slice a2 m.msgs.length p2) s3) → wv.heap[bo]? = some (strO m.msgs.length (fun _ => none)) → w.heap.size ≤ bo → wv.heap[bh]? = some (booO m.msgs.length (fun _ => none)) → w.heap.size ≤ bh → wv.heap[bc]? = some (strO m.msgs.length (fun _ => none)) → w.heap.size ≤ bc → bo ≠ bc → K 5 #[true, true, true, true, true, true, true, true, true, false, false, false, false, false] ⟨#[.agg #[.int .i64 m.level, .int .i64 m.nodes, .int .i64 m.cycles, .int .i64 m.length, .int .i64 m.enable, .int .i64 m.unit, .int .i64 m.init, .int .u32 m.ref, s1, .slice a2 m.msgs.length p2, s3], .int .i64 who, .pointer (some ⟨w.heap.size, 0, none⟩), undef, .pointer none, .int .i64 (m.msgs.length : Int), .pointer (some ⟨w.heap.size, 9, none⟩), .slice a2 m.msgs.length p2, .int .i64 (m.msgs.length : Int), .agg #[.int .i64 m.level, .int .i64 m.nodes, .int .i64 m.cycles, .int .i64 m.length, .int .i64 m.enable, .int .i64 m.unit, .int .i64 m.init, .int .u32 m.ref, s1, .slice a2 m.msgs.length p2, s3], .int .i64 who, .int .i64 (m.msgs.length : Int), .slice (some ⟨bo, 0, none⟩) m.msgs.length m.msgs.length, .int .i64 (m.msgs.length : Int), .slice (some ⟨bh, 0, none⟩) m.msgs.length m.msgs.length, .int .i64 (m.msgs.length : Int), .slice (some ⟨bc, 0, none⟩) m.msgs.length m.msgs.length, .int .i64 (m.msgs.length : Int), undef, undef, undef, undef], []⟩ wv := by
    intro bo bh bc wv hB hz hx h3 g3 h5 g5 h7 g7 d37
    rw [← hK]
    refine wpAnyH_ready (rs := [9, 10]) (by kernel_rfl) (by simp) (AllReadyH.cons rfl (fun K' hK' => ?_) (AllReadyH.cons rfl (fun K' hK' => ?_) (AllReadyH.nil)))
    · rw [if_pos (by rfl)]
      go_simp
      refine hK'.out _ _ ((old_blk wv (booO m.msgs.length (fun _ => none)) w.heap.size (lt_of_heap hx)).trans hx) (fun _ => ?_)
      try simp only [Act.put, List.setIfInBounds_toArray, List.set_cons_zero, List.set_cons_succ]
      rw [hK]
      exact st11110 bo bh bc wv.heap.size (wv.alloc (booO m.msgs.length (fun _ => none))) (hB.alloc hz _) (by simp; omega) ((old_blk wv _ w.heap.size (lt_of_heap hx)).trans hx) ((old_blk wv _ _ (lt_of_heap h3)).trans h3) g3 ((old_blk wv _ _ (lt_of_heap h5)).trans h5) g5 ((old_blk wv _ _ (lt_of_heap h7)).trans h7) g7 (new_blk _ _) hz d37 (fun e => by have := lt_of_heap h5; omega)
    · rw [if_pos (by rfl)]
      go_simp
      refine (rque_new 4 _).mono ?_
      rintro e wa ⟨rfl, rfl⟩
      rw [show max (1 : Int) (min 4 4) = 4 by decide]
      refine hK'.out _ _ ((old_blk wv (rqO 4 (.slice none 0 0)) w.heap.size (lt_of_heap hx)).trans hx) (fun _ => ?_)
      try simp only [Act.put, List.setIfInBounds_toArray, List.set_cons_zero, List.set_cons_succ]
      rw [hK]
      exact st11101 bo bh bc wv.heap.size (wv.alloc (rqO 4 (.slice none 0 0))) (hB.alloc hz _) (by simp; omega) ((old_blk wv _ w.heap.size (lt_of_heap hx)).trans hx) ((old_blk wv _ _ (lt_of_heap h3)).trans h3) g3 ((old_blk wv _ _ (lt_of_heap h5)).trans h5) g5 ((old_blk wv _ _ (lt_of_heap h7)).trans h7) g7 (new_blk _ _) hz d37
  have st11010 : ∀ (bo bh bg : Nat) (wv : World), Below w.heap.size w wv → w.heap.size ≤ wv.heap.size → wv.heap[w.heap.size]? = some (boxM m s1 (.slice a2 m.msgs.length p2) s3) → wv.heap[bo]? = some (strO m.msgs.length (fun _ => none)) → w.heap.size ≤ bo → wv.heap[bh]? = some (booO m.msgs.length (fun _ => none)) → w.heap.size ≤ bh → wv.heap[bg]? = some (booO m.msgs.length (fun _ => none)) → w.heap.size ≤ bg → bh ≠ bg → K 5 #[true, true, true, true, true, true, true, false, true, true, false, false, false, false] ⟨#[.agg #[.int .i64 m.level, .int .i64 m.nodes, .int .i64 m.cycles, .int .i64 m.length, .int .i64 m.enable, .int .i64 m.unit, .int .i64 m.init, .int .u32 m.ref, s1, .slice a2 m.msgs.length p2, s3], .int .i64 who, .pointer (some ⟨w.heap.size, 0, none⟩), undef, .pointer none, .int .i64 (m.msgs.length : Int), .pointer (some ⟨w.heap.size, 9, none⟩), .slice a2 m.msgs.length p2, .int .i64 (m.msgs.length : Int), .agg #[.int .i64 m.level, .int .i64 m.nodes, .int .i64 m.cycles, .int .i64 m.length, .int .i64 m.enable, .int .i64 m.unit, .int .i64 m.init, .int .u32 m.ref, s1, .slice a2 m.msgs.length p2, s3], .int .i64 who, .int .i64 (m.msgs.length : Int), .slice (some ⟨bo, 0, none⟩) m.msgs.length m.msgs.length, .int .i64 (m.msgs.length : Int), .slice (some ⟨bh, 0, none⟩) m.msgs.length m.msgs.length, .int .i64 (m.msgs.length : Int), undef, .int .i64 (m.msgs.length : Int), .slice (some ⟨bg, 0, none⟩) m.msgs.length m.msgs.length, undef, undef, undef], []⟩ wv := by
    intro bo bh bg wv hB hz hx h3 g3 h5 g5 h9 g9 d59
    rw [← hK]
    refine wpAnyH_ready (rs := [7, 10]) (by kernel_rfl) (by simp) (AllReadyH.cons rfl (fun K' hK' => ?_) (AllReadyH.cons rfl (fun K' hK' => ?_) (AllReadyH.nil)))
    · rw [if_pos (by rfl)]
      go_simp
      refine hK'.out _ _ ((old_blk wv (strO m.msgs.length (fun _ => none)) w.heap.size (lt_of_heap hx)).trans hx) (fun _ => ?_)
      try simp only [Act.put, List.setIfInBounds_toArray, List.set_cons_zero, List.set_cons_succ]
      rw [hK]
      exact st11110 bo bh wv.heap.size bg (wv.alloc (strO m.msgs.length (fun _ => none))) (hB.alloc hz _) (by simp; omega) ((old_blk wv _ w.heap.size (lt_of_heap hx)).trans hx) ((old_blk wv _ _ (lt_of_heap h3)).trans h3) g3 ((old_blk wv _ _ (lt_of_heap h5)).trans h5) g5 (new_blk _ _) hz ((old_blk wv _ _ (lt_of_heap h9)).trans h9) g9 (fun e => by have := lt_of_heap h3; omega) d59
    · rw [if_pos (by rfl)]
      go_simp
      refine (rque_new 4 _).mono ?_
      rintro e wa ⟨rfl, rfl⟩
      rw [show max (1 : Int) (min 4 4) = 4 by decide]
      refine hK'.out _ _ ((old_blk wv (rqO 4 (.slice none 0 0)) w.heap.size (lt_of_heap hx)).trans hx) (fun _ => ?_)
      try simp only [Act.put, List.setIfInBounds_toArray, List.set_cons_zero, List.set_cons_succ]
      rw [hK]
      exact st11011 bo bh bg wv.heap.size (wv.alloc (rqO 4 (.slice none 0 0))) (hB.alloc hz _) (by simp; omega) ((old_blk wv _ w.heap.size (lt_of_heap hx)).trans hx) ((old_blk wv _ _ (lt_of_heap h3)).trans h3) g3 ((old_blk wv _ _ (lt_of_heap h5)).trans h5) g5 ((old_blk wv _ _ (lt_of_heap h9)).trans h9) g9 (new_blk _ _) hz d59
  have st11001 : ∀ (bo bh bq : Nat) (wv : World), Below w.heap.size w wv → w.heap.size ≤ wv.heap.size → wv.heap[w.heap.size]? = some (boxM m s1 (.slice a2 m.msgs.length p2) s3) → wv.heap[bo]? = some (strO m.msgs.length (fun _ => none)) → w.heap.size ≤ bo → wv.heap[bh]? = some (booO m.msgs.length (fun _ => none)) → w.heap.size ≤ bh → wv.heap[bq]? = some (rqO 4 (.slice none 0 0)) → w.heap.size ≤ bq → K 5 #[true, true, true, true, true, true, true, false, true, false, true, false, false, false] ⟨#[.agg #[.int .i64 m.level, .int .i64 m.nodes, .int .i64 m.cycles, .int .i64 m.length, .int .i64 m.enable, .int .i64 m.unit, .int .i64 m.init, .int .u32 m.ref, s1, .slice a2 m.msgs.length p2, s3], .int .i64 who, .pointer (some ⟨w.heap.size, 0, none⟩), undef, .pointer none, .int .i64 (m.msgs.length : Int), .pointer (some ⟨w.heap.size, 9, none⟩), .slice a2 m.msgs.length p2, .int .i64 (m.msgs.length : Int), .agg #[.int .i64 m.level, .int .i64 m.nodes, .int .i64 m.cycles, .int .i64 m.length, .int .i64 m.enable, .int .i64 m.unit, .int .i64 m.init, .int .u32 m.ref, s1, .slice a2 m.msgs.length p2, s3], .int .i64 who, .int .i64 (m.msgs.length : Int), .slice (some ⟨bo, 0, none⟩) m.msgs.length m.msgs.length, .int .i64 (m.msgs.length : Int), .slice (some ⟨bh, 0, none⟩) m.msgs.length m.msgs.length, .int .i64 (m.msgs.length : Int), undef, .int .i64 (m.msgs.length : Int), undef, .pointer (some ⟨bq, 0, none⟩), undef, undef], []⟩ wv := by
    intro bo bh bq wv hB hz hx h3 g3 h5 g5 h10 g10
    rw [← hK]
    refine wpAnyH_ready (rs := [7, 9]) (by kernel_rfl) (by simp) (AllReadyH.cons rfl (fun K' hK' => ?_) (AllReadyH.cons rfl (fun K' hK' => ?_) (AllReadyH.nil)))
    · rw [if_pos (by rfl)]
      go_simp
      refine hK'.out _ _ ((old_blk wv (strO m.msgs.length (fun _ => none)) w.heap.size (lt_of_heap hx)).trans hx) (fun _ => ?_)
      try simp only [Act.put, List.setIfInBounds_toArray, List.set_cons_zero, List.set_cons_succ]
      rw [hK]
      exact st11101 bo bh wv.heap.size bq (wv.alloc (strO m.msgs.length (fun _ => none))) (hB.alloc hz _) (by simp; omega) ((old_blk wv _ w.heap.size (lt_of_heap hx)).trans hx) ((old_blk wv _ _ (lt_of_heap h3)).trans h3) g3 ((old_blk wv _ _ (lt_of_heap h5)).trans h5) g5 (new_blk _ _) hz ((old_blk wv _ _ (lt_of_heap h10)).trans h10) g10 (fun e => by have := lt_of_heap h3; omega)
    · rw [if_pos (by rfl)]
      go_simp
      refine hK'.out _ _ ((old_blk wv (booO m.msgs.length (fun _ => none)) w.heap.size (lt_of_heap hx)).trans hx) (fun _ => ?_)
      try simp only [Act.put, List.setIfInBounds_toArray, List.set_cons_zero, List.set_cons_succ]
      rw [hK]
      exact st11011 bo bh wv.heap.size bq (wv.alloc (booO m.msgs.length (fun _ => none))) (hB.alloc hz _) (by simp; omega) ((old_blk wv _ w.heap.size (lt_of_heap hx)).trans hx) ((old_blk wv _ _ (lt_of_heap h3)).trans h3) g3 ((old_blk wv _ _ (lt_of_heap h5)).trans h5) g5 (new_blk _ _) hz ((old_blk wv _ _ (lt_of_heap h10)).trans h10) g10 (fun e => by have := lt_of_heap h5; omega)
  have st10110 : ∀ (bo bc bg : Nat) (wv : World), Below w.heap.size w wv → w.heap.size ≤ wv.heap.size → wv.heap[w.heap.size]? = some (boxM m s1 (.slice a2 m.msgs.length p2) s3) → wv.heap[bo]? = some (strO m.msgs.length (fun _ => none)) → w.heap.size ≤ bo → wv.heap[bc]? = some (strO m.msgs.length (fun _ => none)) → w.heap.size ≤ bc → wv.heap[bg]? = some (booO m.msgs.length (fun _ => none)) → w.heap.size ≤ bg → bo ≠ bc → K 5 #[true, true, true, true, true, false, true, true, true, true, false, false, false, false] ⟨#[.agg #[.int .i64 m.level, .int .i64 m.nodes, .int .i64 m.cycles, .int .i64 m.length, .int .i64 m.enable, .int .i64 m.unit, .int .i64 m.init, .int .u32 m.ref, s1, .slice a2 m.msgs.length p2, s3], .int .i64 who, .pointer (some ⟨w.heap.size, 0, none⟩), undef, .pointer none, .int .i64 (m.msgs.length : Int), .pointer (some ⟨w.heap.size, 9, none⟩), .slice a2 m.msgs.length p2, .int .i64 (m.msgs.length : Int), .agg #[.int .i64 m.level, .int .i64 m.nodes, .int .i64 m.cycles, .int .i64 m.length, .int .i64 m.enable, .int .i64 m.unit, .int .i64 m.init, .int .u32 m.ref, s1, .slice a2 m.msgs.length p2, s3], .int .i64 who, .int .i64 (m.msgs.length : Int), .slice (some ⟨bo, 0, none⟩) m.msgs.length m.msgs.length, .int .i64 (m.msgs.length : Int), undef, .int .i64 (m.msgs.length : Int), .slice (some ⟨bc, 0, none⟩) m.msgs.length m.msgs.length, .int .i64 (m.msgs.length : Int), .slice (some ⟨bg, 0, none⟩) m.msgs.length m.msgs.length, undef, undef, undef], []⟩ wv := by
    intro bo bc bg wv hB hz hx h3 g3 h7 g7 h9 g9 d37
    rw [← hK]
    refine wpAnyH_ready (rs := [5, 10]) (by kernel_rfl) (by simp) (AllReadyH.cons rfl (fun K' hK' => ?_) (AllReadyH.cons rfl (fun K' hK' => ?_) (AllReadyH.nil)))
    · rw [if_pos (by rfl)]
      go_simp
      refine hK'.out _ _ ((old_blk wv (booO m.msgs.length (fun _ => none)) w.heap.size (lt_of_heap hx)).trans hx) (fun _ => ?_)
      try simp only [Act.put, List.setIfInBounds_toArray, List.set_cons_zero, List.set_cons_succ]
      rw [hK]
      exact st11110 bo wv.heap.size bc bg (wv.alloc (booO m.msgs.length (fun _ => none))) (hB.alloc hz _) (by simp; omega) ((old_blk wv _ w.heap.size (lt_of_heap hx)).trans hx) ((old_blk wv _ _ (lt_of_heap h3)).trans h3) g3 (new_blk _ _) hz ((old_blk wv _ _ (lt_of_heap h7)).trans h7) g7 ((old_blk wv _ _ (lt_of_heap h9)).trans h9) g9 d37 (fun e => by have := lt_of_heap h9; omega)
    · rw [if_pos (by rfl)]
      go_simp
      refine (rque_new 4 _).mono ?_
      rintro e wa ⟨rfl, rfl⟩
      rw [show max (1 : Int) (min 4 4) = 4 by decide]
      refine hK'.out _ _ ((old_blk wv (rqO 4 (.slice none 0 0)) w.heap.size (lt_of_heap hx)).trans hx) (fun _ => ?_)
      try simp only [Act.put, List.setIfInBounds_toArray, List.set_cons_zero, List.set_cons_succ]
      rw [hK]
      exact st10111 bo bc bg wv.heap.size (wv.alloc (rqO 4 (.slice none 0 0))) (hB.alloc hz _) (by simp; omega) ((old_blk wv _ w.heap.size (lt_of_heap hx)).trans hx) ((old_blk wv _ _ (lt_of_heap h3)).trans h3) g3 ((old_blk wv _ _ (lt_of_heap h7)).trans h7) g7 ((old_blk wv _ _ (lt_of_heap h9)).trans h9) g9 (new_blk _ _) hz d37
  have st10101 : ∀ (bo bc bq : Nat) (wv : World), Below w.heap.size w wv → w.heap.size ≤ wv.heap.size → wv.heap[w.heap.size]? = some (boxM m s1 (.slice a2 m.msgs.length p2) s3) → wv.heap[bo]? = some (strO m.msgs.length (fun _ => none)) → w.heap.size ≤ bo → wv.heap[bc]? = some (strO m.msgs.length (fun _ => none)) → w.heap.size ≤ bc → wv.heap[bq]? = some (rqO 4 (.slice none 0 0)) → w.heap.size ≤ bq → bo ≠ bc → K 5 #[true, true, true, true, true, false, true, true, true, false, true, false, false, false] ⟨#[.agg #[.int .i64 m.level, .int .i64 m.nodes, .int .i64 m.cycles, .int .i64 m.length, .int .i64 m.enable, .int .i64 m.unit, .int .i64 m.init, .int .u32 m.ref, s1, .slice a2 m.msgs.length p2, s3], .int .i64 who, .pointer (some ⟨w.heap.size, 0, none⟩), undef, .pointer none, .int .i64 (m.msgs.length : Int), .pointer (some ⟨w.heap.size, 9, none⟩), .slice a2 m.msgs.length p2, .int .i64 (m.msgs.length : Int), .agg #[.int .i64 m.level, .int .i64 m.nodes, .int .i64 m.cycles, .int .i64 m.length, .int .i64 m.enable, .int .i64 m.unit, .int .i64 m.init, .int .u32 m.ref, s1, .slice a2 m.msgs.length p2, s3], .int .i64 who, .int .i64 (m.msgs.length : Int), .slice (some ⟨bo, 0, none⟩) m.msgs.length m.msgs.length, .int .i64 (m.msgs.length : Int), undef, .int .i64 (m.msgs.length : Int), .slice (some ⟨bc, 0, none⟩) m.msgs.length m.msgs.length, .int .i64 (m.msgs.length : Int), undef, .pointer (some ⟨bq, 0, none⟩), undef, undef], []⟩ wv := by
    intro bo bc bq wv hB hz hx h3 g3 h7 g7 h10 g10 d37
    rw [← hK]
    refine wpAnyH_ready (rs := [5, 9]) (by kernel_rfl) (by simp) (AllReadyH.cons rfl (fun K' hK' => ?_) (AllReadyH.cons rfl (fun K' hK' => ?_) (AllReadyH.nil)))
    · rw [if_pos (by rfl)]
      go_simp
      refine hK'.out _ _ ((old_blk wv (booO m.msgs.length (fun _ => none)) w.heap.size (lt_of_heap hx)).trans hx) (fun _ => ?_)
      try simp only [Act.put, List.setIfInBounds_toArray, List.set_cons_zero, List.set_cons_succ]
      rw [hK]
      exact st11101 bo wv.heap.size bc bq (wv.alloc (booO m.msgs.length (fun _ => none))) (hB.alloc hz _) (by simp; omega) ((old_blk wv _ w.heap.size (lt_of_heap hx)).trans hx) ((old_blk wv _ _ (lt_of_heap h3)).trans h3) g3 (new_blk _ _) hz ((old_blk wv _ _ (lt_of_heap h7)).trans h7) g7 ((old_blk wv _ _ (lt_of_heap h10)).trans h10) g10 d37
    · rw [if_pos (by rfl)]
      go_simp
      refine hK'.out _ _ ((old_blk wv (booO m.msgs.length (fun _ => none)) w.heap.size (lt_of_heap hx)).trans hx) (fun _ => ?_)
      try simp only [Act.put, List.setIfInBounds_toArray, List.set_cons_zero, List.set_cons_succ]
      rw [hK]
      exact st10111 bo bc wv.heap.size bq (wv.alloc (booO m.msgs.length (fun _ => none))) (hB.alloc hz _) (by simp; omega) ((old_blk wv _ w.heap.size (lt_of_heap hx)).trans hx) ((old_blk wv _ _ (lt_of_heap h3)).trans h3) g3 ((old_blk wv _ _ (lt_of_heap h7)).trans h7) g7 (new_blk _ _) hz ((old_blk wv _ _ (lt_of_heap h10)).trans h10) g10 d37
  have st10011 : ∀ (bo bg bq : Nat) (wv : World), Below w.heap.size w wv → w.heap.size ≤ wv.heap.size → wv.heap[w.heap.size]? = some (boxM m s1 (.slice a2 m.msgs.length p2) s3) → wv.heap[bo]? = some (strO m.msgs.length (fun _ => none)) → w.heap.size ≤ bo → wv.heap[bg]? = some (booO m.msgs.length (fun _ => none)) → w.heap.size ≤ bg → wv.heap[bq]? = some (rqO 4 (.slice none 0 0)) → w.heap.size ≤ bq → K 5 #[true, true, true, true, true, false, true, false, true, true, true, false, false, false] ⟨#[.agg #[.int .i64 m.level, .int .i64 m.nodes, .int .i64 m.cycles, .int .i64 m.length, .int .i64 m.enable, .int .i64 m.unit, .int .i64 m.init, .int .u32 m.ref, s1, .slice a2 m.msgs.length p2, s3], .int .i64 who, .pointer (some ⟨w.heap.size, 0, none⟩), undef, .pointer none, .int .i64 (m.msgs.length : Int), .pointer (some ⟨w.heap.size, 9, none⟩), .slice a2 m.msgs.length p2, .int .i64 (m.msgs.length : Int), .agg #[.int .i64 m.level, .int .i64 m.nodes, .int .i64 m.cycles, .int .i64 m.length, .int .i64 m.enable, .int .i64 m.unit, .int .i64 m.init, .int .u32 m.ref, s1, .slice a2 m.msgs.length p2, s3], .int .i64 who, .int .i64 (m.msgs.length : Int), .slice (some ⟨bo, 0, none⟩) m.msgs.length m.msgs.length, .int .i64 (m.msgs.length : Int), undef, .int .i64 (m.msgs.length : Int), undef, .int .i64 (m.msgs.length : Int), .slice (some ⟨bg, 0, none⟩) m.msgs.length m.msgs.length, .pointer (some ⟨bq, 0, none⟩), undef, undef], []⟩ wv := by
    intro bo bg bq wv hB hz hx h3 g3 h9 g9 h10 g10
    rw [← hK]
    refine wpAnyH_ready (rs := [5, 7]) (by kernel_rfl) (by simp) (AllReadyH.cons rfl (fun K' hK' => ?_) (AllReadyH.cons rfl (fun K' hK' => ?_) (AllReadyH.nil)))
    · rw [if_pos (by rfl)]
      go_simp
      refine hK'.out _ _ ((old_blk wv (booO m.msgs.length (fun _ => none)) w.heap.size (lt_of_heap hx)).trans hx) (fun _ => ?_)
      try simp only [Act.put, List.setIfInBounds_toArray, List.set_cons_zero, List.set_cons_succ]
      rw [hK]
      exact st11011 bo wv.heap.size bg bq (wv.alloc (booO m.msgs.length (fun _ => none))) (hB.alloc hz _) (by simp; omega) ((old_blk wv _ w.heap.size (lt_of_heap hx)).trans hx) ((old_blk wv _ _ (lt_of_heap h3)).trans h3) g3 (new_blk _ _) hz ((old_blk wv _ _ (lt_of_heap h9)).trans h9) g9 ((old_blk wv _ _ (lt_of_heap h10)).trans h10) g10 (fun e => by have := lt_of_heap h9; omega)
    · rw [if_pos (by rfl)]
      go_simp
      refine hK'.out _ _ ((old_blk wv (strO m.msgs.length (fun _ => none)) w.heap.size (lt_of_heap hx)).trans hx) (fun _ => ?_)
      try simp only [Act.put, List.setIfInBounds_toArray, List.set_cons_zero, List.set_cons_succ]
      rw [hK]
      exact st10111 bo wv.heap.size bg bq (wv.alloc (strO m.msgs.length (fun _ => none))) (hB.alloc hz _) (by simp; omega) ((old_blk wv _ w.heap.size (lt_of_heap hx)).trans hx) ((old_blk wv _ _ (lt_of_heap h3)).trans h3) g3 (new_blk _ _) hz ((old_blk wv _ _ (lt_of_heap h9)).trans h9) g9 ((old_blk wv _ _ (lt_of_heap h10)).trans h10) g10 (fun e => by have := lt_of_heap h3; omega)
  have st01110 : ∀ (bh bc bg : Nat) (wv : World), Below w.heap.size w wv → w.heap.size ≤ wv.heap.size → wv.heap[w.heap.size]? = some (boxM m s1 (.slice a2 m.msgs.length p2) s3) → wv.heap[bh]? = some (booO m.msgs.length (fun _ => none)) → w.heap.size ≤ bh → wv.heap[bc]? = some (strO m.msgs.length (fun _ => none)) → w.heap.size ≤ bc → wv.heap[bg]? = some (booO m.msgs.length (fun _ => none)) → w.heap.size ≤ bg → bh ≠ bg → K 5 #[true, true, true, false, true, true, true, true, true, true, false, false, false, false] ⟨#[.agg #[.int .i64 m.level, .int .i64 m.nodes, .int .i64 m.cycles, .int .i64 m.length, .int .i64 m.enable, .int .i64 m.unit, .int .i64 m.init, .int .u32 m.ref, s1, .slice a2 m.msgs.length p2, s3], .int .i64 who, .pointer (some ⟨w.heap.size, 0, none⟩), undef, .pointer none, .int .i64 (m.msgs.length : Int), .pointer (some ⟨w.heap.size, 9, none⟩), .slice a2 m.msgs.length p2, .int .i64 (m.msgs.length : Int), .agg #[.int .i64 m.level, .int .i64 m.nodes, .int .i64 m.cycles, .int .i64 m.length, .int .i64 m.enable, .int .i64 m.unit, .int .i64 m.init, .int .u32 m.ref, s1, .slice a2 m.msgs.length p2, s3], .int .i64 who, .int .i64 (m.msgs.length : Int), undef, .int .i64 (m.msgs.length : Int), .slice (some ⟨bh, 0, none⟩) m.msgs.length m.msgs.length, .int .i64 (m.msgs.length : Int), .slice (some ⟨bc, 0, none⟩) m.msgs.length m.msgs.length, .int .i64 (m.msgs.length : Int), .slice (some ⟨bg, 0, none⟩) m.msgs.length m.msgs.length, undef, undef, undef], []⟩ wv := by
    intro bh bc bg wv hB hz hx h5 g5 h7 g7 h9 g9 d59
    rw [← hK]
    refine wpAnyH_ready (rs := [3, 10]) (by kernel_rfl) (by simp) (AllReadyH.cons rfl (fun K' hK' => ?_) (AllReadyH.cons rfl (fun K' hK' => ?_) (AllReadyH.nil)))
    · rw [if_pos (by rfl)]
      go_simp
      refine hK'.out _ _ ((old_blk wv (strO m.msgs.length (fun _ => none)) w.heap.size (lt_of_heap hx)).trans hx) (fun _ => ?_)
      try simp only [Act.put, List.setIfInBounds_toArray, List.set_cons_zero, List.set_cons_succ]
      rw [hK]
      exact st11110 wv.heap.size bh bc bg (wv.alloc (strO m.msgs.length (fun _ => none))) (hB.alloc hz _) (by simp; omega) ((old_blk wv _ w.heap.size (lt_of_heap hx)).trans hx) (new_blk _ _) hz ((old_blk wv _ _ (lt_of_heap h5)).trans h5) g5 ((old_blk wv _ _ (lt_of_heap h7)).trans h7) g7 ((old_blk wv _ _ (lt_of_heap h9)).trans h9) g9 (fun e => by have := lt_of_heap h7; omega) d59
    · rw [if_pos (by rfl)]
      go_simp
      refine (rque_new 4 _).mono ?_
      rintro e wa ⟨rfl, rfl⟩
      rw [show max (1 : Int) (min 4 4) = 4 by decide]
      refine hK'.out _ _ ((old_blk wv (rqO 4 (.slice none 0 0)) w.heap.size (lt_of_heap hx)).trans hx) (fun _ => ?_)
      try simp only [Act.put, List.setIfInBounds_toArray, List.set_cons_zero, List.set_cons_succ]
      rw [hK]
      exact st01111 bh bc bg wv.heap.size (wv.alloc (rqO 4 (.slice none 0 0))) (hB.alloc hz _) (by simp; omega) ((old_blk wv _ w.heap.size (lt_of_heap hx)).trans hx) ((old_blk wv _ _ (lt_of_heap h5)).trans h5) g5 ((old_blk wv _ _ (lt_of_heap h7)).trans h7) g7 ((old_blk wv _ _ (lt_of_heap h9)).trans h9) g9 (new_blk _ _) hz d59
  have st01101 : ∀ (bh bc bq : Nat) (wv : World), Below w.heap.size w wv → w.heap.size ≤ wv.heap.size → wv.heap[w.heap.size]? = some (boxM m s1 (.slice a2 m.msgs.length p2) s3) → wv.heap[bh]? = some (booO m.msgs.length (fun _ => none)) → w.heap.size ≤ bh → wv.heap[bc]? = some (strO m.msgs.length (fun _ => none)) → w.heap.size ≤ bc → wv.heap[bq]? = some (rqO 4 (.slice none 0 0)) → w.heap.size ≤ bq → K 5 #[true, true, true, false, true, true, true, true, true, false, true, false, false, false] ⟨#[.agg #[.int .i64 m.level, .int .i64 m.nodes, .int .i64 m.cycles, .int .i64 m.length, .int .i64 m.enable, .int .i64 m.unit, .int .i64 m.init, .int .u32 m.ref, s1, .slice a2 m.msgs.length p2, s3], .int .i64 who, .pointer (some ⟨w.heap.size, 0, none⟩), undef, .pointer none, .int .i64 (m.msgs.length : Int), .pointer (some ⟨w.heap.size, 9, none⟩), .slice a2 m.msgs.length p2, .int .i64 (m.msgs.length : Int), .agg #[.int .i64 m.level, .int .i64 m.nodes, .int .i64 m.cycles, .int .i64 m.length, .int .i64 m.enable, .int .i64 m.unit, .int .i64 m.init, .int .u32 m.ref, s1, .slice a2 m.msgs.length p2, s3], .int .i64 who, .int .i64 (m.msgs.length : Int), undef, .int .i64 (m.msgs.length : Int), .slice (some ⟨bh, 0, none⟩) m.msgs.length m.msgs.length, .int .i64 (m.msgs.length : Int), .slice (some ⟨bc, 0, none⟩) m.msgs.length m.msgs.length, .int .i64 (m.msgs.length : Int), undef, .pointer (some ⟨bq, 0, none⟩), undef, undef], []⟩ wv := by
    intro bh bc bq wv hB hz hx h5 g5 h7 g7 h10 g10
    rw [← hK]
    refine wpAnyH_ready (rs := [3, 9]) (by kernel_rfl) (by simp) (AllReadyH.cons rfl (fun K' hK' => ?_) (AllReadyH.cons rfl (fun K' hK' => ?_) (AllReadyH.nil)))
    · rw [if_pos (by rfl)]
      go_simp
      refine hK'.out _ _ ((old_blk wv (strO m.msgs.length (fun _ => none)) w.heap.size (lt_of_heap hx)).trans hx) (fun _ => ?_)
      try simp only [Act.put, List.setIfInBounds_toArray, List.set_cons_zero, List.set_cons_succ]
      rw [hK]
      exact st11101 wv.heap.size bh bc bq (wv.alloc (strO m.msgs.length (fun _ => none))) (hB.alloc hz _) (by simp; omega) ((old_blk wv _ w.heap.size (lt_of_heap hx)).trans hx) (new_blk _ _) hz ((old_blk wv _ _ (lt_of_heap h5)).trans h5) g5 ((old_blk wv _ _ (lt_of_heap h7)).trans h7) g7 ((old_blk wv _ _ (lt_of_heap h10)).trans h10) g10 (fun e => by have := lt_of_heap h7; omega)
    · rw [if_pos (by rfl)]
      go_simp
      refine hK'.out _ _ ((old_blk wv (booO m.msgs.length (fun _ => none)) w.heap.size (lt_of_heap hx)).trans hx) (fun _ => ?_)
      try simp only [Act.put, List.setIfInBounds_toArray, List.set_cons_zero, List.set_cons_succ]
      rw [hK]
      exact st01111 bh bc wv.heap.size bq (wv.alloc (booO m.msgs.length (fun _ => none))) (hB.alloc hz _) (by simp; omega) ((old_blk wv _ w.heap.size (lt_of_heap hx)).trans hx) ((old_blk wv _ _ (lt_of_heap h5)).trans h5) g5 ((old_blk wv _ _ (lt_of_heap h7)).trans h7) g7 (new_blk _ _) hz ((old_blk wv _ _ (lt_of_heap h10)).trans h10) g10 (fun e => by have := lt_of_heap h5; omega)
  have st01011 : ∀ (bh bg bq : Nat) (wv : World), Below w.heap.size w wv → w.heap.size ≤ wv.heap.size → wv.heap[w.heap.size]? = some (boxM m s1 (.slice a2 m.msgs.length p2) s3) → wv.heap[bh]? = some (booO m.msgs.length (fun _ => none)) → w.heap.size ≤ bh → wv.heap[bg]? = some (booO m.msgs.length (fun _ => none)) → w.heap.size ≤ bg → wv.heap[bq]? = some (rqO 4 (.slice none 0 0)) → w.heap.size ≤ bq → bh ≠ bg → K 5 #[true, true, true, false, true, true, true, false, true, true, true, false, false, false] ⟨#[.agg #[.int .i64 m.level, .int .i64 m.nodes, .int .i64 m.cycles, .int .i64 m.length, .int .i64 m.enable, .int .i64 m.unit, .int .i64 m.init, .int .u32 m.ref, s1, .slice a2 m.msgs.length p2, s3], .int .i64 who, .pointer (some ⟨w.heap.size, 0, none⟩), undef, .pointer none, .int .i64 (m.msgs.length : Int), .pointer (some ⟨w.heap.size, 9, none⟩), .slice a2 m.msgs.length p2, .int .i64 (m.msgs.length : Int), .agg #[.int .i64 m.level, .int .i64 m.nodes, .int .i64 m.cycles, .int .i64 m.length, .int .i64 m.enable, .int .i64 m.unit, .int .i64 m.init, .int .u32 m.ref, s1, .slice a2 m.msgs.length p2, s3], .int .i64 who, .int .i64 (m.msgs.length : Int), undef, .int .i64 (m.msgs.length : Int), .slice (some ⟨bh, 0, none⟩) m.msgs.length m.msgs.length, .int .i64 (m.msgs.length : Int), undef, .int .i64 (m.msgs.length : Int), .slice (some ⟨bg, 0, none⟩) m.msgs.length m.msgs.length, .pointer (some ⟨bq, 0, none⟩), undef, undef], []⟩ wv := by
    intro bh bg bq wv hB hz hx h5 g5 h9 g9 h10 g10 d59
    rw [← hK]
    refine wpAnyH_ready (rs := [3, 7]) (by kernel_rfl) (by simp) (AllReadyH.cons rfl (fun K' hK' => ?_) (AllReadyH.cons rfl (fun K' hK' => ?_) (AllReadyH.nil)))
    · rw [if_pos (by rfl)]
      go_simp
      refine hK'.out _ _ ((old_blk wv (strO m.msgs.length (fun _ => none)) w.heap.size (lt_of_heap hx)).trans hx) (fun _ => ?_)
      try simp only [Act.put, List.setIfInBounds_toArray, List.set_cons_zero, List.set_cons_succ]
      rw [hK]
      exact st11011 wv.heap.size bh bg bq (wv.alloc (strO m.msgs.length (fun _ => none))) (hB.alloc hz _) (by simp; omega) ((old_blk wv _ w.heap.size (lt_of_heap hx)).trans hx) (new_blk _ _) hz ((old_blk wv _ _ (lt_of_heap h5)).trans h5) g5 ((old_blk wv _ _ (lt_of_heap h9)).trans h9) g9 ((old_blk wv _ _ (lt_of_heap h10)).trans h10) g10 d59
    · rw [if_pos (by rfl)]
      go_simp
      refine hK'.out _ _ ((old_blk wv (strO m.msgs.length (fun _ => none)) w.heap.size (lt_of_heap hx)).trans hx) (fun _ => ?_)
      try simp only [Act.put, List.setIfInBounds_toArray, List.set_cons_zero, List.set_cons_succ]
      rw [hK]
      exact st01111 bh wv.heap.size bg bq (wv.alloc (strO m.msgs.length (fun _ => none))) (hB.alloc hz _) (by simp; omega) ((old_blk wv _ w.heap.size (lt_of_heap hx)).trans hx) ((old_blk wv _ _ (lt_of_heap h5)).trans h5) g5 (new_blk _ _) hz ((old_blk wv _ _ (lt_of_heap h9)).trans h9) g9 ((old_blk wv _ _ (lt_of_heap h10)).trans h10) g10 d59
  have st00111 : ∀ (bc bg bq : Nat) (wv : World), Below w.heap.size w wv → w.heap.size ≤ wv.heap.size → wv.heap[w.heap.size]? = some (boxM m s1 (.slice a2 m.msgs.length p2) s3) → wv.heap[bc]? = some (strO m.msgs.length (fun _ => none)) → w.heap.size ≤ bc → wv.heap[bg]? = some (booO m.msgs.length (fun _ => none)) → w.heap.size ≤ bg → wv.heap[bq]? = some (rqO 4 (.slice none 0 0)) → w.heap.size ≤ bq → K 5 #[true, true, true, false, true, false, true, true, true, true, true, false, false, false] ⟨#[.agg #[.int .i64 m.level, .int .i64 m.nodes, .int .i64 m.cycles, .int .i64 m.length, .int .i64 m.enable, .int .i64 m.unit, .int .i64 m.init, .int .u32 m.ref, s1, .slice a2 m.msgs.length p2, s3], .int .i64 who, .pointer (some ⟨w.heap.size, 0, none⟩), undef, .pointer none, .int .i64 (m.msgs.length : Int), .pointer (some ⟨w.heap.size, 9, none⟩), .slice a2 m.msgs.length p2, .int .i64 (m.msgs.length : Int), .agg #[.int .i64 m.level, .int .i64 m.nodes, .int .i64 m.cycles, .int .i64 m.length, .int .i64 m.enable, .int .i64 m.unit, .int .i64 m.init, .int .u32 m.ref, s1, .slice a2 m.msgs.length p2, s3], .int .i64 who, .int .i64 (m.msgs.length : Int), undef, .int .i64 (m.msgs.length : Int), undef, .int .i64 (m.msgs.length : Int), .slice (some ⟨bc, 0, none⟩) m.msgs.length m.msgs.length, .int .i64 (m.msgs.length : Int), .slice (some ⟨bg, 0, none⟩) m.msgs.length m.msgs.length, .pointer (some ⟨bq, 0, none⟩), undef, undef], []⟩ wv := by
    intro bc bg bq wv hB hz hx h7 g7 h9 g9 h10 g10
    rw [← hK]
    refine wpAnyH_ready (rs := [3, 5]) (by kernel_rfl) (by simp) (AllReadyH.cons rfl (fun K' hK' => ?_) (AllReadyH.cons rfl (fun K' hK' => ?_) (AllReadyH.nil)))
    · rw [if_pos (by rfl)]
      go_simp
      refine hK'.out _ _ ((old_blk wv (strO m.msgs.length (fun _ => none)) w.heap.size (lt_of_heap hx)).trans hx) (fun _ => ?_)
      try simp only [Act.put, List.setIfInBounds_toArray, List.set_cons_zero, List.set_cons_succ]
      rw [hK]
      exact st10111 wv.heap.size bc bg bq (wv.alloc (strO m.msgs.length (fun _ => none))) (hB.alloc hz _) (by simp; omega) ((old_blk wv _ w.heap.size (lt_of_heap hx)).trans hx) (new_blk _ _) hz ((old_blk wv _ _ (lt_of_heap h7)).trans h7) g7 ((old_blk wv _ _ (lt_of_heap h9)).trans h9) g9 ((old_blk wv _ _ (lt_of_heap h10)).trans h10) g10 (fun e => by have := lt_of_heap h7; omega)
    · rw [if_pos (by rfl)]
      go_simp
      refine hK'.out _ _ ((old_blk wv (booO m.msgs.length (fun _ => none)) w.heap.size (lt_of_heap hx)).trans hx) (fun _ => ?_)
      try simp only [Act.put, List.setIfInBounds_toArray, List.set_cons_zero, List.set_cons_succ]
      rw [hK]
      exact st01111 wv.heap.size bc bg bq (wv.alloc (booO m.msgs.length (fun _ => none))) (hB.alloc hz _) (by simp; omega) ((old_blk wv _ w.heap.size (lt_of_heap hx)).trans hx) (new_blk _ _) hz ((old_blk wv _ _ (lt_of_heap h7)).trans h7) g7 ((old_blk wv _ _ (lt_of_heap h9)).trans h9) g9 ((old_blk wv _ _ (lt_of_heap h10)).trans h10) g10 (fun e => by have := lt_of_heap h9; omega)
  have st11000 : ∀ (bo bh : Nat) (wv : World), Below w.heap.size w wv → w.heap.size ≤ wv.heap.size → wv.heap[w.heap.size]? = some (boxM m s1 (.slice a2 m.msgs.length p2) s3) → wv.heap[bo]? = some (strO m.msgs.length (fun _ => none)) → w.heap.size ≤ bo → wv.heap[bh]? = some (booO m.msgs.length (fun _ => none)) → w.heap.size ≤ bh → K 6 #[true, true, true, true, true, true, true, false, true, false, false, false, false, false] ⟨#[.agg #[.int .i64 m.level, .int .i64 m.nodes, .int .i64 m.cycles, .int .i64 m.length, .int .i64 m.enable, .int .i64 m.unit, .int .i64 m.init, .int .u32 m.ref, s1, .slice a2 m.msgs.length p2, s3], .int .i64 who, .pointer (some ⟨w.heap.size, 0, none⟩), undef, .pointer none, .int .i64 (m.msgs.length : Int), .pointer (some ⟨w.heap.size, 9, none⟩), .slice a2 m.msgs.length p2, .int .i64 (m.msgs.length : Int), .agg #[.int .i64 m.level, .int .i64 m.nodes, .int .i64 m.cycles, .int .i64 m.length, .int .i64 m.enable, .int .i64 m.unit, .int .i64 m.init, .int .u32 m.ref, s1, .slice a2 m.msgs.length p2, s3], .int .i64 who, .int .i64 (m.msgs.length : Int), .slice (some ⟨bo, 0, none⟩) m.msgs.length m.msgs.length, .int .i64 (m.msgs.length : Int), .slice (some ⟨bh, 0, none⟩) m.msgs.length m.msgs.length, .int .i64 (m.msgs.length : Int), undef, .int .i64 (m.msgs.length : Int), undef, undef, undef, undef], []⟩ wv := by
    intro bo bh wv hB hz hx h3 g3 h5 g5
    rw [← hK]
    refine wpAnyH_ready (rs := [7, 9, 10]) (by kernel_rfl) (by simp) (AllReadyH.cons rfl (fun K' hK' => ?_) (AllReadyH.cons rfl (fun K' hK' => ?_) (AllReadyH.cons rfl (fun K' hK' => ?_) (AllReadyH.nil))))
    · rw [if_pos (by rfl)]
      go_simp
      refine hK'.out _ _ ((old_blk wv (strO m.msgs.length (fun _ => none)) w.heap.size (lt_of_heap hx)).trans hx) (fun _ => ?_)
      try simp only [Act.put, List.setIfInBounds_toArray, List.set_cons_zero, List.set_cons_succ]
      rw [hK]
      exact st11100 bo bh wv.heap.size (wv.alloc (strO m.msgs.length (fun _ => none))) (hB.alloc hz _) (by simp; omega) ((old_blk wv _ w.heap.size (lt_of_heap hx)).trans hx) ((old_blk wv _ _ (lt_of_heap h3)).trans h3) g3 ((old_blk wv _ _ (lt_of_heap h5)).trans h5) g5 (new_blk _ _) hz (fun e => by have := lt_of_heap h3; omega)
    · rw [if_pos (by rfl)]
      go_simp
      refine hK'.out _ _ ((old_blk wv (booO m.msgs.length (fun _ => none)) w.heap.size (lt_of_heap hx)).trans hx) (fun _ => ?_)
      try simp only [Act.put, List.setIfInBounds_toArray, List.set_cons_zero, List.set_cons_succ]
      rw [hK]
      exact st11010 bo bh wv.heap.size (wv.alloc (booO m.msgs.length (fun _ => none))) (hB.alloc hz _) (by simp; omega) ((old_blk wv _ w.heap.size (lt_of_heap hx)).trans hx) ((old_blk wv _ _ (lt_of_heap h3)).trans h3) g3 ((old_blk wv _ _ (lt_of_heap h5)).trans h5) g5 (new_blk _ _) hz (fun e => by have := lt_of_heap h5; omega)
    · rw [if_pos (by rfl)]
      go_simp
      refine (rque_new 4 _).mono ?_
      rintro e wa ⟨rfl, rfl⟩
      rw [show max (1 : Int) (min 4 4) = 4 by decide]
      refine hK'.out _ _ ((old_blk wv (rqO 4 (.slice none 0 0)) w.heap.size (lt_of_heap hx)).trans hx) (fun _ => ?_)
      try simp only [Act.put, List.setIfInBounds_toArray, List.set_cons_zero, List.set_cons_succ]
      rw [hK]
      exact st11001 bo bh wv.heap.size (wv.alloc (rqO 4 (.slice none 0 0))) (hB.alloc hz _) (by simp; omega) ((old_blk wv _ w.heap.size (lt_of_heap hx)).trans hx) ((old_blk wv _ _ (lt_of_heap h3)).trans h3) g3 ((old_blk wv _ _ (lt_of_heap h5)).trans h5) g5 (new_blk _ _) hz
  have st10100 : ∀ (bo bc : Nat) (wv : World), Below w.heap.size w wv → w.heap.size ≤ wv.heap.size → wv.heap[w.heap.size]? = some (boxM m s1 (.slice a2 m.msgs.length p2) s3) → wv.heap[bo]? = some (strO m.msgs.length (fun _ => none)) → w.heap.size ≤ bo → wv.heap[bc]? = some (strO m.msgs.length (fun _ => none)) → w.heap.size ≤ bc → bo ≠ bc → K 6 #[true, true, true, true, true, false, true, true, true, false, false, false, false, false] ⟨#[.agg #[.int .i64 m.level, .int .i64 m.nodes, .int .i64 m.cycles, .int .i64 m.length, .int .i64 m.enable, .int .i64 m.unit, .int .i64 m.init, .int .u32 m.ref, s1, .slice a2 m.msgs.length p2, s3], .int .i64 who, .pointer (some ⟨w.heap.size, 0, none⟩), undef, .pointer none, .int .i64 (m.msgs.length : Int), .pointer (some ⟨w.heap.size, 9, none⟩), .slice a2 m.msgs.length p2, .int .i64 (m.msgs.length : Int), .agg #[.int .i64 m.level, .int .i64 m.nodes, .int .i64 m.cycles, .int .i64 m.length, .int .i64 m.enable, .int .i64 m.unit, .int .i64 m.init, .int .u32 m.ref, s1, .slice a2 m.msgs.length p2, s3], .int .i64 who, .int .i64 (m.msgs.length : Int), .slice (some ⟨bo, 0, none⟩) m.msgs.length m.msgs.length, .int .i64 (m.msgs.length : Int), undef, .int .i64 (m.msgs.length : Int), .slice (some ⟨bc, 0, none⟩) m.msgs.length m.msgs.length, .int .i64 (m.msgs.length : Int), undef, undef, undef, undef], []⟩ wv := by
    intro bo bc wv hB hz hx h3 g3 h7 g7 d37
    rw [← hK]
    refine wpAnyH_ready (rs := [5, 9, 10]) (by kernel_rfl) (by simp) (AllReadyH.cons rfl (fun K' hK' => ?_) (AllReadyH.cons rfl (fun K' hK' => ?_) (AllReadyH.cons rfl (fun K' hK' => ?_) (AllReadyH.nil))))
    · rw [if_pos (by rfl)]
      go_simp
      refine hK'.out _ _ ((old_blk wv (booO m.msgs.length (fun _ => none)) w.heap.size (lt_of_heap hx)).trans hx) (fun _ => ?_)
      try simp only [Act.put, List.setIfInBounds_toArray, List.set_cons_zero, List.set_cons_succ]
      rw [hK]
      exact st11100 bo wv.heap.size bc (wv.alloc (booO m.msgs.length (fun _ => none))) (hB.alloc hz _) (by simp; omega) ((old_blk wv _ w.heap.size (lt_of_heap hx)).trans hx) ((old_blk wv _ _ (lt_of_heap h3)).trans h3) g3 (new_blk _ _) hz ((old_blk wv _ _ (lt_of_heap h7)).trans h7) g7 d37
    · rw [if_pos (by rfl)]
      go_simp
      refine hK'.out _ _ ((old_blk wv (booO m.msgs.length (fun _ => none)) w.heap.size (lt_of_heap hx)).trans hx) (fun _ => ?_)
      try simp only [Act.put, List.setIfInBounds_toArray, List.set_cons_zero, List.set_cons_succ]
      rw [hK]
      exact st10110 bo bc wv.heap.size (wv.alloc (booO m.msgs.length (fun _ => none))) (hB.alloc hz _) (by simp; omega) ((old_blk wv _ w.heap.size (lt_of_heap hx)).trans hx) ((old_blk wv _ _ (lt_of_heap h3)).trans h3) g3 ((old_blk wv _ _ (lt_of_heap h7)).trans h7) g7 (new_blk _ _) hz d37
    · rw [if_pos (by rfl)]
      go_simp
      refine (rque_new 4 _).mono ?_
      rintro e wa ⟨rfl, rfl⟩
      rw [show max (1 : Int) (min 4 4) = 4 by decide]
      refine hK'.out _ _ ((old_blk wv (rqO 4 (.slice none 0 0)) w.heap.size (lt_of_heap hx)).trans hx) (fun _ => ?_)
      try simp only [Act.put, List.setIfInBounds_toArray, List.set_cons_zero, List.set_cons_succ]
      rw [hK]
      exact st10101 bo bc wv.heap.size (wv.alloc (rqO 4 (.slice none 0 0))) (hB.alloc hz _) (by simp; omega) ((old_blk wv _ w.heap.size (lt_of_heap hx)).trans hx) ((old_blk wv _ _ (lt_of_heap h3)).trans h3) g3 ((old_blk wv _ _ (lt_of_heap h7)).trans h7) g7 (new_blk _ _) hz d37
  have st10010 : ∀ (bo bg : Nat) (wv : World), Below w.heap.size w wv → w.heap.size ≤ wv.heap.size → wv.heap[w.heap.size]? = some (boxM m s1 (.slice a2 m.msgs.length p2) s3) → wv.heap[bo]? = some (strO m.msgs.length (fun _ => none)) → w.heap.size ≤ bo → wv.heap[bg]? = some (booO m.msgs.length (fun _ => none)) → w.heap.size ≤ bg → K 6 #[true, true, true, true, true, false, true, false, true, true, false, false, false, false] ⟨#[.agg #[.int .i64 m.level, .int .i64 m.nodes, .int .i64 m.cycles, .int .i64 m.length, .int .i64 m.enable, .int .i64 m.unit, .int .i64 m.init, .int .u32 m.ref, s1, .slice a2 m.msgs.length p2, s3], .int .i64 who, .pointer (some ⟨w.heap.size, 0, none⟩), undef, .pointer none, .int .i64 (m.msgs.length : Int), .pointer (some ⟨w.heap.size, 9, none⟩), .slice a2 m.msgs.length p2, .int .i64 (m.msgs.length : Int), .agg #[.int .i64 m.level, .int .i64 m.nodes, .int .i64 m.cycles, .int .i64 m.length, .int .i64 m.enable, .int .i64 m.unit, .int .i64 m.init, .int .u32 m.ref, s1, .slice a2 m.msgs.length p2, s3], .int .i64 who, .int .i64 (m.msgs.length : Int), .slice (some ⟨bo, 0, none⟩) m.msgs.length m.msgs.length, .int .i64 (m.msgs.length : Int), undef, .int .i64 (m.msgs.length : Int), undef, .int .i64 (m.msgs.length : Int), .slice (some ⟨bg, 0, none⟩) m.msgs.length m.msgs.length, undef, undef, undef], []⟩ wv := by
    intro bo bg wv hB hz hx h3 g3 h9 g9
    rw [← hK]
    refine wpAnyH_ready (rs := [5, 7, 10]) (by kernel_rfl) (by simp) (AllReadyH.cons rfl (fun K' hK' => ?_) (AllReadyH.cons rfl (fun K' hK' => ?_) (AllReadyH.cons rfl (fun K' hK' => ?_) (AllReadyH.nil))))
    · rw [if_pos (by rfl)]
      go_simp
      refine hK'.out _ _ ((old_blk wv (booO m.msgs.length (fun _ => none)) w.heap.size (lt_of_heap hx)).trans hx) (fun _ => ?_)
      try simp only [Act.put, List.setIfInBounds_toArray, List.set_cons_zero, List.set_cons_succ]
      rw [hK]
      exact st11010 bo wv.heap.size bg (wv.alloc (booO m.msgs.length (fun _ => none))) (hB.alloc hz _) (by simp; omega) ((old_blk wv _ w.heap.size (lt_of_heap hx)).trans hx) ((old_blk wv _ _ (lt_of_heap h3)).trans h3) g3 (new_blk _ _) hz ((old_blk wv _ _ (lt_of_heap h9)).trans h9) g9 (fun e => by have := lt_of_heap h9; omega)
    · rw [if_pos (by rfl)]
      go_simp
      refine hK'.out _ _ ((old_blk wv (strO m.msgs.length (fun _ => none)) w.heap.size (lt_of_heap hx)).trans hx) (fun _ => ?_)
      try simp only [Act.put, List.setIfInBounds_toArray, List.set_cons_zero, List.set_cons_succ]
      rw [hK]
      exact st10110 bo wv.heap.size bg (wv.alloc (strO m.msgs.length (fun _ => none))) (hB.alloc hz _) (by simp; omega) ((old_blk wv _ w.heap.size (lt_of_heap hx)).trans hx) ((old_blk wv _ _ (lt_of_heap h3)).trans h3) g3 (new_blk _ _) hz ((old_blk wv _ _ (lt_of_heap h9)).trans h9) g9 (fun e => by have := lt_of_heap h3; omega)
    · rw [if_pos (by rfl)]
      go_simp
      refine (rque_new 4 _).mono ?_
      rintro e wa ⟨rfl, rfl⟩
      rw [show max (1 : Int) (min 4 4) = 4 by decide]
      refine hK'.out _ _ ((old_blk wv (rqO 4 (.slice none 0 0)) w.heap.size (lt_of_heap hx)).trans hx) (fun _ => ?_)
      try simp only [Act.put, List.setIfInBounds_toArray, List.set_cons_zero, List.set_cons_succ]
      rw [hK]
      exact st10011 bo bg wv.heap.size (wv.alloc (rqO 4 (.slice none 0 0))) (hB.alloc hz _) (by simp; omega) ((old_blk wv _ w.heap.size (lt_of_heap hx)).trans hx) ((old_blk wv _ _ (lt_of_heap h3)).trans h3) g3 ((old_blk wv _ _ (lt_of_heap h9)).trans h9) g9 (new_blk _ _) hz
  have st10001 : ∀ (bo bq : Nat) (wv : World), Below w.heap.size w wv → w.heap.size ≤ wv.heap.size → wv.heap[w.heap.size]? = some (boxM m s1 (.slice a2 m.msgs.length p2) s3) → wv.heap[bo]? = some (strO m.msgs.length (fun _ => none)) → w.heap.size ≤ bo → wv.heap[bq]? = some (rqO 4 (.slice none 0 0)) → w.heap.size ≤ bq → K 6 #[true, true, true, true, true, false, true, false, true, false, true, false, false, false] ⟨#[.agg #[.int .i64 m.level, .int .i64 m.nodes, .int .i64 m.cycles, .int .i64 m.length, .int .i64 m.enable, .int .i64 m.unit, .int .i64 m.init, .int .u32 m.ref, s1, .slice a2 m.msgs.length p2, s3], .int .i64 who, .pointer (some ⟨w.heap.size, 0, none⟩), undef, .pointer none, .int .i64 (m.msgs.length : Int), .pointer (some ⟨w.heap.size, 9, none⟩), .slice a2 m.msgs.length p2, .int .i64 (m.msgs.length : Int), .agg #[.int .i64 m.level, .int .i64 m.nodes, .int .i64 m.cycles, .int .i64 m.length, .int .i64 m.enable, .int .i64 m.unit, .int .i64 m.init, .int .u32 m.ref, s1, .slice a2 m.msgs.length p2, s3], .int .i64 who, .int .i64 (m.msgs.length : Int), .slice (some ⟨bo, 0, none⟩) m.msgs.length m.msgs.length, .int .i64 (m.msgs.length : Int), undef, .int .i64 (m.msgs.length : Int), undef, .int .i64 (m.msgs.length : Int), undef, .pointer (some ⟨bq, 0, none⟩), undef, undef], []⟩ wv := by
    intro bo bq wv hB hz hx h3 g3 h10 g10
    rw [← hK]
    refine wpAnyH_ready (rs := [5, 7, 9]) (by kernel_rfl) (by simp) (AllReadyH.cons rfl (fun K' hK' => ?_) (AllReadyH.cons rfl (fun K' hK' => ?_) (AllReadyH.cons rfl (fun K' hK' => ?_) (AllReadyH.nil))))
    · rw [if_pos (by rfl)]
      go_simp
      refine hK'.out _ _ ((old_blk wv (booO m.msgs.length (fun _ => none)) w.heap.size (lt_of_heap hx)).trans hx) (fun _ => ?_)
      try simp only [Act.put, List.setIfInBounds_toArray, List.set_cons_zero, List.set_cons_succ]
      rw [hK]
      exact st11001 bo wv.heap.size bq (wv.alloc (booO m.msgs.length (fun _ => none))) (hB.alloc hz _) (by simp; omega) ((old_blk wv _ w.heap.size (lt_of_heap hx)).trans hx) ((old_blk wv _ _ (lt_of_heap h3)).trans h3) g3 (new_blk _ _) hz ((old_blk wv _ _ (lt_of_heap h10)).trans h10) g10
    · rw [if_pos (by rfl)]
      go_simp
      refine hK'.out _ _ ((old_blk wv (strO m.msgs.length (fun _ => none)) w.heap.size (lt_of_heap hx)).trans hx) (fun _ => ?_)
      try simp only [Act.put, List.setIfInBounds_toArray, List.set_cons_zero, List.set_cons_succ]
      rw [hK]
      exact st10101 bo wv.heap.size bq (wv.alloc (strO m.msgs.length (fun _ => none))) (hB.alloc hz _) (by simp; omega) ((old_blk wv _ w.heap.size (lt_of_heap hx)).trans hx) ((old_blk wv _ _ (lt_of_heap h3)).trans h3) g3 (new_blk _ _) hz ((old_blk wv _ _ (lt_of_heap h10)).trans h10) g10 (fun e => by have := lt_of_heap h3; omega)
    · rw [if_pos (by rfl)]
      go_simp
      refine hK'.out _ _ ((old_blk wv (booO m.msgs.length (fun _ => none)) w.heap.size (lt_of_heap hx)).trans hx) (fun _ => ?_)
      try simp only [Act.put, List.setIfInBounds_toArray, List.set_cons_zero, List.set_cons_succ]
      rw [hK]
      exact st10011 bo wv.heap.size bq (wv.alloc (booO m.msgs.length (fun _ => none))) (hB.alloc hz _) (by simp; omega) ((old_blk wv _ w.heap.size (lt_of_heap hx)).trans hx) ((old_blk wv _ _ (lt_of_heap h3)).trans h3) g3 (new_blk _ _) hz ((old_blk wv _ _ (lt_of_heap h10)).trans h10) g10
  have st01100 : ∀ (bh bc : Nat) (wv : World), Below w.heap.size w wv → w.heap.size ≤ wv.heap.size → wv.heap[w.heap.size]? = some (boxM m s1 (.slice a2 m.msgs.length p2) s3) → wv.heap[bh]? = some (booO m.msgs.length (fun _ => none)) → w.heap.size ≤ bh → wv.heap[bc]? = some (strO m.msgs.length (fun _ => none)) → w.heap.size ≤ bc → K 6 #[true, true, true, false, true, true, true, true, true, false, false, false, false, false] ⟨#[.agg #[.int .i64 m.level, .int .i64 m.nodes, .int .i64 m.cycles, .int .i64 m.length, .int .i64 m.enable, .int .i64 m.unit, .int .i64 m.init, .int .u32 m.ref, s1, .slice a2 m.msgs.length p2, s3], .int .i64 who, .pointer (some ⟨w.heap.size, 0, none⟩), undef, .pointer none, .int .i64 (m.msgs.length : Int), .pointer (some ⟨w.heap.size, 9, none⟩), .slice a2 m.msgs.length p2, .int .i64 (m.msgs.length : Int), .agg #[.int .i64 m.level, .int .i64 m.nodes, .int .i64 m.cycles, .int .i64 m.length, .int .i64 m.enable, .int .i64 m.unit, .int .i64 m.init, .int .u32 m.ref, s1, .slice a2 m.msgs.length p2, s3], .int .i64 who, .int .i64 (m.msgs.length : Int), undef, .int .i64 (m.msgs.length : Int), .slice (some ⟨bh, 0, none⟩) m.msgs.length m.msgs.length, .int .i64 (m.msgs.length : Int), .slice (some ⟨bc, 0, none⟩) m.msgs.length m.msgs.length, .int .i64 (m.msgs.length : Int), undef, undef, undef, undef], []⟩ wv := by
    intro bh bc wv hB hz hx h5 g5 h7 g7
    rw [← hK]
    refine wpAnyH_ready (rs := [3, 9, 10]) (by kernel_rfl) (by simp) (AllReadyH.cons rfl (fun K' hK' => ?_) (AllReadyH.cons rfl (fun K' hK' => ?_) (AllReadyH.cons rfl (fun K' hK' => ?_) (AllReadyH.nil))))
    · rw [if_pos (by rfl)]
      go_simp
      refine hK'.out _ _ ((old_blk wv (strO m.msgs.length (fun _ => none)) w.heap.size (lt_of_heap hx)).trans hx) (fun _ => ?_)
      try simp only [Act.put, List.setIfInBounds_toArray, List.set_cons_zero, List.set_cons_succ]
      rw [hK]
      exact st11100 wv.heap.size bh bc (wv.alloc (strO m.msgs.length (fun _ => none))) (hB.alloc hz _) (by simp; omega) ((old_blk wv _ w.heap.size (lt_of_heap hx)).trans hx) (new_blk _ _) hz ((old_blk wv _ _ (lt_of_heap h5)).trans h5) g5 ((old_blk wv _ _ (lt_of_heap h7)).trans h7) g7 (fun e => by have := lt_of_heap h7; omega)
    · rw [if_pos (by rfl)]
      go_simp
      refine hK'.out _ _ ((old_blk wv (booO m.msgs.length (fun _ => none)) w.heap.size (lt_of_heap hx)).trans hx) (fun _ => ?_)
      try simp only [Act.put, List.setIfInBounds_toArray, List.set_cons_zero, List.set_cons_succ]
      rw [hK]
      exact st01110 bh bc wv.heap.size (wv.alloc (booO m.msgs.length (fun _ => none))) (hB.alloc hz _) (by simp; omega) ((old_blk wv _ w.heap.size (lt_of_heap hx)).trans hx) ((old_blk wv _ _ (lt_of_heap h5)).trans h5) g5 ((old_blk wv _ _ (lt_of_heap h7)).trans h7) g7 (new_blk _ _) hz (fun e => by have := lt_of_heap h5; omega)
    · rw [if_pos (by rfl)]
      go_simp
      refine (rque_new 4 _).mono ?_
      rintro e wa ⟨rfl, rfl⟩
      rw [show max (1 : Int) (min 4 4) = 4 by decide]
      refine hK'.out _ _ ((old_blk wv (rqO 4 (.slice none 0 0)) w.heap.size (lt_of_heap hx)).trans hx) (fun _ => ?_)
      try simp only [Act.put, List.setIfInBounds_toArray, List.set_cons_zero, List.set_cons_succ]
      rw [hK]
      exact st01101 bh bc wv.heap.size (wv.alloc (rqO 4 (.slice none 0 0))) (hB.alloc hz _) (by simp; omega) ((old_blk wv _ w.heap.size (lt_of_heap hx)).trans hx) ((old_blk wv _ _ (lt_of_heap h5)).trans h5) g5 ((old_blk wv _ _ (lt_of_heap h7)).trans h7) g7 (new_blk _ _) hz
  have st01010 : ∀ (bh bg : Nat) (wv : World), Below w.heap.size w wv → w.heap.size ≤ wv.heap.size → wv.heap[w.heap.size]? = some (boxM m s1 (.slice a2 m.msgs.length p2) s3) → wv.heap[bh]? = some (booO m.msgs.length (fun _ => none)) → w.heap.size ≤ bh → wv.heap[bg]? = some (booO m.msgs.length (fun _ => none)) → w.heap.size ≤ bg → bh ≠ bg → K 6 #[true, true, true, false, true, true, true, false, true, true, false, false, false, false] ⟨#[.agg #[.int .i64 m.level, .int .i64 m.nodes, .int .i64 m.cycles, .int .i64 m.length, .int .i64 m.enable, .int .i64 m.unit, .int .i64 m.init, .int .u32 m.ref, s1, .slice a2 m.msgs.length p2, s3], .int .i64 who, .pointer (some ⟨w.heap.size, 0, none⟩), undef, .pointer none, .int .i64 (m.msgs.length : Int), .pointer (some ⟨w.heap.size, 9, none⟩), .slice a2 m.msgs.length p2, .int .i64 (m.msgs.length : Int), .agg #[.int .i64 m.level, .int .i64 m.nodes, .int .i64 m.cycles, .int .i64 m.length, .int .i64 m.enable, .int .i64 m.unit, .int .i64 m.init, .int .u32 m.ref, s1, .slice a2 m.msgs.length p2, s3], .int .i64 who, .int .i64 (m.msgs.length : Int), undef, .int .i64 (m.msgs.length : Int), .slice (some ⟨bh, 0, none⟩) m.msgs.length m.msgs.length, .int .i64 (m.msgs.length : Int), undef, .int .i64 (m.msgs.length : Int), .slice (some ⟨bg, 0, none⟩) m.msgs.length m.msgs.length, undef, undef, undef], []⟩ wv := by
    intro bh bg wv hB hz hx h5 g5 h9 g9 d59
    rw [← hK]
    refine wpAnyH_ready (rs := [3, 7, 10]) (by kernel_rfl) (by simp) (AllReadyH.cons rfl (fun K' hK' => ?_) (AllReadyH.cons rfl (fun K' hK' => ?_) (AllReadyH.cons rfl (fun K' hK' => ?_) (AllReadyH.nil))))
    · rw [if_pos (by rfl)]
      go_simp
      refine hK'.out _ _ ((old_blk wv (strO m.msgs.length (fun _ => none)) w.heap.size (lt_of_heap hx)).trans hx) (fun _ => ?_)
      try simp only [Act.put, List.setIfInBounds_toArray, List.set_cons_zero, List.set_cons_succ]
      rw [hK]
      exact st11010 wv.heap.size bh bg (wv.alloc (strO m.msgs.length (fun _ => none))) (hB.alloc hz _) (by simp; omega) ((old_blk wv _ w.heap.size (lt_of_heap hx)).trans hx) (new_blk _ _) hz ((old_blk wv _ _ (lt_of_heap h5)).trans h5) g5 ((old_blk wv _ _ (lt_of_heap h9)).trans h9) g9 d59
    · rw [if_pos (by rfl)]
      go_simp
      refine hK'.out _ _ ((old_blk wv (strO m.msgs.length (fun _ => none)) w.heap.size (lt_of_heap hx)).trans hx) (fun _ => ?_)
      try simp only [Act.put, List.setIfInBounds_toArray, List.set_cons_zero, List.set_cons_succ]
      rw [hK]
      exact st01110 bh wv.heap.size bg (wv.alloc (strO m.msgs.length (fun _ => none))) (hB.alloc hz _) (by simp; omega) ((old_blk wv _ w.heap.size (lt_of_heap hx)).trans hx) ((old_blk wv _ _ (lt_of_heap h5)).trans h5) g5 (new_blk _ _) hz ((old_blk wv _ _ (lt_of_heap h9)).trans h9) g9 d59
    · rw [if_pos (by rfl)]
      go_simp
      refine (rque_new 4 _).mono ?_
      rintro e wa ⟨rfl, rfl⟩
      rw [show max (1 : Int) (min 4 4) = 4 by decide]
      refine hK'.out _ _ ((old_blk wv (rqO 4 (.slice none 0 0)) w.heap.size (lt_of_heap hx)).trans hx) (fun _ => ?_)
      try simp only [Act.put, List.setIfInBounds_toArray, List.set_cons_zero, List.set_cons_succ]
      rw [hK]
      exact st01011 bh bg wv.heap.size (wv.alloc (rqO 4 (.slice none 0 0))) (hB.alloc hz _) (by simp; omega) ((old_blk wv _ w.heap.size (lt_of_heap hx)).trans hx) ((old_blk wv _ _ (lt_of_heap h5)).trans h5) g5 ((old_blk wv _ _ (lt_of_heap h9)).trans h9) g9 (new_blk _ _) hz d59
  have st01001 : ∀ (bh bq : Nat) (wv : World), Below w.heap.size w wv → w.heap.size ≤ wv.heap.size → wv.heap[w.heap.size]? = some (boxM m s1 (.slice a2 m.msgs.length p2) s3) → wv.heap[bh]? = some (booO m.msgs.length (fun _ => none)) → w.heap.size ≤ bh → wv.heap[bq]? = some (rqO 4 (.slice none 0 0)) → w.heap.size ≤ bq → K 6 #[true, true, true, false, true, true, true, false, true, false, true, false, false, false] ⟨#[.agg #[.int .i64 m.level, .int .i64 m.nodes, .int .i64 m.cycles, .int .i64 m.length, .int .i64 m.enable, .int .i64 m.unit, .int .i64 m.init, .int .u32 m.ref, s1, .slice a2 m.msgs.length p2, s3], .int .i64 who, .pointer (some ⟨w.heap.size, 0, none⟩), undef, .pointer none, .int .i64 (m.msgs.length : Int), .pointer (some ⟨w.heap.size, 9, none⟩), .slice a2 m.msgs.length p2, .int .i64 (m.msgs.length : Int), .agg #[.int .i64 m.level, .int .i64 m.nodes, .int .i64 m.cycles, .int .i64 m.length, .int .i64 m.enable, .int .i64 m.unit, .int .i64 m.init, .int .u32 m.ref, s1, .slice a2 m.msgs.length p2, s3], .int .i64 who, .int .i64 (m.msgs.length : Int), undef, .int .i64 (m.msgs.length : Int), .slice (some ⟨bh, 0, none⟩) m.msgs.length m.msgs.length, .int .i64 (m.msgs.length : Int), undef, .int .i64 (m.msgs.length : Int), undef, .pointer (some ⟨bq, 0, none⟩), undef, undef], []⟩ wv := by
    intro bh bq wv hB hz hx h5 g5 h10 g10
    rw [← hK]
    refine wpAnyH_ready (rs := [3, 7, 9]) (by kernel_rfl) (by simp) (AllReadyH.cons rfl (fun K' hK' => ?_) (AllReadyH.cons rfl (fun K' hK' => ?_) (AllReadyH.cons rfl (fun K' hK' => ?_) (AllReadyH.nil))))
    · rw [if_pos (by rfl)]
      go_simp
      refine hK'.out _ _ ((old_blk wv (strO m.msgs.length (fun _ => none)) w.heap.size (lt_of_heap hx)).trans hx) (fun _ => ?_)
      try simp only [Act.put, List.setIfInBounds_toArray, List.set_cons_zero, List.set_cons_succ]
      rw [hK]
      exact st11001 wv.heap.size bh bq (wv.alloc (strO m.msgs.length (fun _ => none))) (hB.alloc hz _) (by simp; omega) ((old_blk wv _ w.heap.size (lt_of_heap hx)).trans hx) (new_blk _ _) hz ((old_blk wv _ _ (lt_of_heap h5)).trans h5) g5 ((old_blk wv _ _ (lt_of_heap h10)).trans h10) g10
    · rw [if_pos (by rfl)]
      go_simp
      refine hK'.out _ _ ((old_blk wv (strO m.msgs.length (fun _ => none)) w.heap.size (lt_of_heap hx)).trans hx) (fun _ => ?_)
      try simp only [Act.put, List.setIfInBounds_toArray, List.set_cons_zero, List.set_cons_succ]
      rw [hK]
      exact st01101 bh wv.heap.size bq (wv.alloc (strO m.msgs.length (fun _ => none))) (hB.alloc hz _) (by simp; omega) ((old_blk wv _ w.heap.size (lt_of_heap hx)).trans hx) ((old_blk wv _ _ (lt_of_heap h5)).trans h5) g5 (new_blk _ _) hz ((old_blk wv _ _ (lt_of_heap h10)).trans h10) g10
    · rw [if_pos (by rfl)]
      go_simp
      refine hK'.out _ _ ((old_blk wv (booO m.msgs.length (fun _ => none)) w.heap.size (lt_of_heap hx)).trans hx) (fun _ => ?_)
      try simp only [Act.put, List.setIfInBounds_toArray, List.set_cons_zero, List.set_cons_succ]
      rw [hK]
      exact st01011 bh wv.heap.size bq (wv.alloc (booO m.msgs.length (fun _ => none))) (hB.alloc hz _) (by simp; omega) ((old_blk wv _ w.heap.size (lt_of_heap hx)).trans hx) ((old_blk wv _ _ (lt_of_heap h5)).trans h5) g5 (new_blk _ _) hz ((old_blk wv _ _ (lt_of_heap h10)).trans h10) g10 (fun e => by have := lt_of_heap h5; omega)
  have st00110 : ∀ (bc bg : Nat) (wv : World), Below w.heap.size w wv → w.heap.size ≤ wv.heap.size → wv.heap[w.heap.size]? = some (boxM m s1 (.slice a2 m.msgs.length p2) s3) → wv.heap[bc]? = some (strO m.msgs.length (fun _ => none)) → w.heap.size ≤ bc → wv.heap[bg]? = some (booO m.msgs.length (fun _ => none)) → w.heap.size ≤ bg → K 6 #[true, true, true, false, true, false, true, true, true, true, false, false, false, false] ⟨#[.agg #[.int .i64 m.level, .int .i64 m.nodes, .int .i64 m.cycles, .int .i64 m.length, .int .i64 m.enable, .int .i64 m.unit, .int .i64 m.init, .int .u32 m.ref, s1, .slice a2 m.msgs.length p2, s3], .int .i64 who, .pointer (some ⟨w.heap.size, 0, none⟩), undef, .pointer none, .int .i64 (m.msgs.length : Int), .pointer (some ⟨w.heap.size, 9, none⟩), .slice a2 m.msgs.length p2, .int .i64 (m.msgs.length : Int), .agg #[.int .i64 m.level, .int .i64 m.nodes, .int .i64 m.cycles, .int .i64 m.length, .int .i64 m.enable, .int .i64 m.unit, .int .i64 m.init, .int .u32 m.ref, s1, .slice a2 m.msgs.length p2, s3], .int .i64 who, .int .i64 (m.msgs.length : Int), undef, .int .i64 (m.msgs.length : Int), undef, .int .i64 (m.msgs.length : Int), .slice (some ⟨bc, 0, none⟩) m.msgs.length m.msgs.length, .int .i64 (m.msgs.length : Int), .slice (some ⟨bg, 0, none⟩) m.msgs.length m.msgs.length, undef, undef, undef], []⟩ wv := by
    intro bc bg wv hB hz hx h7 g7 h9 g9
    rw [← hK]
    refine wpAnyH_ready (rs := [3, 5, 10]) (by kernel_rfl) (by simp) (AllReadyH.cons rfl (fun K' hK' => ?_) (AllReadyH.cons rfl (fun K' hK' => ?_) (AllReadyH.cons rfl (fun K' hK' => ?_) (AllReadyH.nil))))
    · rw [if_pos (by rfl)]
      go_simp
      refine hK'.out _ _ ((old_blk wv (strO m.msgs.length (fun _ => none)) w.heap.size (lt_of_heap hx)).trans hx) (fun _ => ?_)
      try simp only [Act.put, List.setIfInBounds_toArray, List.set_cons_zero, List.set_cons_succ]
      rw [hK]
      exact st10110 wv.heap.size bc bg (wv.alloc (strO m.msgs.length (fun _ => none))) (hB.alloc hz _) (by simp; omega) ((old_blk wv _ w.heap.size (lt_of_heap hx)).trans hx) (new_blk _ _) hz ((old_blk wv _ _ (lt_of_heap h7)).trans h7) g7 ((old_blk wv _ _ (lt_of_heap h9)).trans h9) g9 (fun e => by have := lt_of_heap h7; omega)
    · rw [if_pos (by rfl)]
      go_simp
      refine hK'.out _ _ ((old_blk wv (booO m.msgs.length (fun _ => none)) w.heap.size (lt_of_heap hx)).trans hx) (fun _ => ?_)
      try simp only [Act.put, List.setIfInBounds_toArray, List.set_cons_zero, List.set_cons_succ]
      rw [hK]
      exact st01110 wv.heap.size bc bg (wv.alloc (booO m.msgs.length (fun _ => none))) (hB.alloc hz _) (by simp; omega) ((old_blk wv _ w.heap.size (lt_of_heap hx)).trans hx) (new_blk _ _) hz ((old_blk wv _ _ (lt_of_heap h7)).trans h7) g7 ((old_blk wv _ _ (lt_of_heap h9)).trans h9) g9 (fun e => by have := lt_of_heap h9; omega)
    · rw [if_pos (by rfl)]
      go_simp
      refine (rque_new 4 _).mono ?_
      rintro e wa ⟨rfl, rfl⟩
      rw [show max (1 : Int) (min 4 4) = 4 by decide]
      refine hK'.out _ _ ((old_blk wv (rqO 4 (.slice none 0 0)) w.heap.size (lt_of_heap hx)).trans hx) (fun _ => ?_)
      try simp only [Act.put, List.setIfInBounds_toArray, List.set_cons_zero, List.set_cons_succ]
      rw [hK]
      exact st00111 bc bg wv.heap.size (wv.alloc (rqO 4 (.slice none 0 0))) (hB.alloc hz _) (by simp; omega) ((old_blk wv _ w.heap.size (lt_of_heap hx)).trans hx) ((old_blk wv _ _ (lt_of_heap h7)).trans h7) g7 ((old_blk wv _ _ (lt_of_heap h9)).trans h9) g9 (new_blk _ _) hz
  have st00101 : ∀ (bc bq : Nat) (wv : World), Below w.heap.size w wv → w.heap.size ≤ wv.heap.size → wv.heap[w.heap.size]? = some (boxM m s1 (.slice a2 m.msgs.length p2) s3) → wv.heap[bc]? = some (strO m.msgs.length (fun _ => none)) → w.heap.size ≤ bc → wv.heap[bq]? = some (rqO 4 (.slice none 0 0)) → w.heap.size ≤ bq → K 6 #[true, true, true, false, true, false, true, true, true, false, true, false, false, false] ⟨#[.agg #[.int .i64 m.level, .int .i64 m.nodes, .int .i64 m.cycles, .int .i64 m.length, .int .i64 m.enable, .int .i64 m.unit, .int .i64 m.init, .int .u32 m.ref, s1, .slice a2 m.msgs.length p2, s3], .int .i64 who, .pointer (some ⟨w.heap.size, 0, none⟩), undef, .pointer none, .int .i64 (m.msgs.length : Int), .pointer (some ⟨w.heap.size, 9, none⟩), .slice a2 m.msgs.length p2, .int .i64 (m.msgs.length : Int), .agg #[.int .i64 m.level, .int .i64 m.nodes, .int .i64 m.cycles, .int .i64 m.length, .int .i64 m.enable, .int .i64 m.unit, .int .i64 m.init, .int .u32 m.ref, s1, .slice a2 m.msgs.length p2, s3], .int .i64 who, .int .i64 (m.msgs.length : Int), undef, .int .i64 (m.msgs.length : Int), undef, .int .i64 (m.msgs.length : Int), .slice (some ⟨bc, 0, none⟩) m.msgs.length m.msgs.length, .int .i64 (m.msgs.length : Int), undef, .pointer (some ⟨bq, 0, none⟩), undef, undef], []⟩ wv := by
    intro bc bq wv hB hz hx h7 g7 h10 g10
    rw [← hK]
    refine wpAnyH_ready (rs := [3, 5, 9]) (by kernel_rfl) (by simp) (AllReadyH.cons rfl (fun K' hK' => ?_) (AllReadyH.cons rfl (fun K' hK' => ?_) (AllReadyH.cons rfl (fun K' hK' => ?_) (AllReadyH.nil))))
    · rw [if_pos (by rfl)]
      go_simp
      refine hK'.out _ _ ((old_blk wv (strO m.msgs.length (fun _ => none)) w.heap.size (lt_of_heap hx)).trans hx) (fun _ => ?_)
      try simp only [Act.put, List.setIfInBounds_toArray, List.set_cons_zero, List.set_cons_succ]
      rw [hK]
      exact st10101 wv.heap.size bc bq (wv.alloc (strO m.msgs.length (fun _ => none))) (hB.alloc hz _) (by simp; omega) ((old_blk wv _ w.heap.size (lt_of_heap hx)).trans hx) (new_blk _ _) hz ((old_blk wv _ _ (lt_of_heap h7)).trans h7) g7 ((old_blk wv _ _ (lt_of_heap h10)).trans h10) g10 (fun e => by have := lt_of_heap h7; omega)
    · rw [if_pos (by rfl)]
      go_simp
      refine hK'.out _ _ ((old_blk wv (booO m.msgs.length (fun _ => none)) w.heap.size (lt_of_heap hx)).trans hx) (fun _ => ?_)
      try simp only [Act.put, List.setIfInBounds_toArray, List.set_cons_zero, List.set_cons_succ]
      rw [hK]
      exact st01101 wv.heap.size bc bq (wv.alloc (booO m.msgs.length (fun _ => none))) (hB.alloc hz _) (by simp; omega) ((old_blk wv _ w.heap.size (lt_of_heap hx)).trans hx) (new_blk _ _) hz ((old_blk wv _ _ (lt_of_heap h7)).trans h7) g7 ((old_blk wv _ _ (lt_of_heap h10)).trans h10) g10
    · rw [if_pos (by rfl)]
      go_simp
      refine hK'.out _ _ ((old_blk wv (booO m.msgs.length (fun _ => none)) w.heap.size (lt_of_heap hx)).trans hx) (fun _ => ?_)
      try simp only [Act.put, List.setIfInBounds_toArray, List.set_cons_zero, List.set_cons_succ]
      rw [hK]
      exact st00111 bc wv.heap.size bq (wv.alloc (booO m.msgs.length (fun _ => none))) (hB.alloc hz _) (by simp; omega) ((old_blk wv _ w.heap.size (lt_of_heap hx)).trans hx) ((old_blk wv _ _ (lt_of_heap h7)).trans h7) g7 (new_blk _ _) hz ((old_blk wv _ _ (lt_of_heap h10)).trans h10) g10
  have st00011 : ∀ (bg bq : Nat) (wv : World), Below w.heap.size w wv → w.heap.size ≤ wv.heap.size → wv.heap[w.heap.size]? = some (boxM m s1 (.slice a2 m.msgs.length p2) s3) → wv.heap[bg]? = some (booO m.msgs.length (fun _ => none)) → w.heap.size ≤ bg → wv.heap[bq]? = some (rqO 4 (.slice none 0 0)) → w.heap.size ≤ bq → K 6 #[true, true, true, false, true, false, true, false, true, true, true, false, false, false] ⟨#[.agg #[.int .i64 m.level, .int .i64 m.nodes, .int .i64 m.cycles, .int .i64 m.length, .int .i64 m.enable, .int .i64 m.unit, .int .i64 m.init, .int .u32 m.ref, s1, .slice a2 m.msgs.length p2, s3], .int .i64 who, .pointer (some ⟨w.heap.size, 0, none⟩), undef, .pointer none, .int .i64 (m.msgs.length : Int), .pointer (some ⟨w.heap.size, 9, none⟩), .slice a2 m.msgs.length p2, .int .i64 (m.msgs.length : Int), .agg #[.int .i64 m.level, .int .i64 m.nodes, .int .i64 m.cycles, .int .i64 m.length, .int .i64 m.enable, .int .i64 m.unit, .int .i64 m.init, .int .u32 m.ref, s1, .slice a2 m.msgs.length p2, s3], .int .i64 who, .int .i64 (m.msgs.length : Int), undef, .int .i64 (m.msgs.length : Int), undef, .int .i64 (m.msgs.length : Int), undef, .int .i64 (m.msgs.length : Int), .slice (some ⟨bg, 0, none⟩) m.msgs.length m.msgs.length, .pointer (some ⟨bq, 0, none⟩), undef, undef], []⟩ wv := by
    intro bg bq wv hB hz hx h9 g9 h10 g10
    rw [← hK]
    refine wpAnyH_ready (rs := [3, 5, 7]) (by kernel_rfl) (by simp) (AllReadyH.cons rfl (fun K' hK' => ?_) (AllReadyH.cons rfl (fun K' hK' => ?_) (AllReadyH.cons rfl (fun K' hK' => ?_) (AllReadyH.nil))))
    · rw [if_pos (by rfl)]
      go_simp
      refine hK'.out _ _ ((old_blk wv (strO m.msgs.length (fun _ => none)) w.heap.size (lt_of_heap hx)).trans hx) (fun _ => ?_)
      try simp only [Act.put, List.setIfInBounds_toArray, List.set_cons_zero, List.set_cons_succ]
      rw [hK]
      exact st10011 wv.heap.size bg bq (wv.alloc (strO m.msgs.length (fun _ => none))) (hB.alloc hz _) (by simp; omega) ((old_blk wv _ w.heap.size (lt_of_heap hx)).trans hx) (new_blk _ _) hz ((old_blk wv _ _ (lt_of_heap h9)).trans h9) g9 ((old_blk wv _ _ (lt_of_heap h10)).trans h10) g10
    · rw [if_pos (by rfl)]
      go_simp
      refine hK'.out _ _ ((old_blk wv (booO m.msgs.length (fun _ => none)) w.heap.size (lt_of_heap hx)).trans hx) (fun _ => ?_)
      try simp only [Act.put, List.setIfInBounds_toArray, List.set_cons_zero, List.set_cons_succ]
      rw [hK]
      exact st01011 wv.heap.size bg bq (wv.alloc (booO m.msgs.length (fun _ => none))) (hB.alloc hz _) (by simp; omega) ((old_blk wv _ w.heap.size (lt_of_heap hx)).trans hx) (new_blk _ _) hz ((old_blk wv _ _ (lt_of_heap h9)).trans h9) g9 ((old_blk wv _ _ (lt_of_heap h10)).trans h10) g10 (fun e => by have := lt_of_heap h9; omega)
    · rw [if_pos (by rfl)]
      go_simp
      refine hK'.out _ _ ((old_blk wv (strO m.msgs.length (fun _ => none)) w.heap.size (lt_of_heap hx)).trans hx) (fun _ => ?_)
      try simp only [Act.put, List.setIfInBounds_toArray, List.set_cons_zero, List.set_cons_succ]
      rw [hK]
      exact st00111 wv.heap.size bg bq (wv.alloc (strO m.msgs.length (fun _ => none))) (hB.alloc hz _) (by simp; omega) ((old_blk wv _ w.heap.size (lt_of_heap hx)).trans hx) (new_blk _ _) hz ((old_blk wv _ _ (lt_of_heap h9)).trans h9) g9 ((old_blk wv _ _ (lt_of_heap h10)).trans h10) g10
  have st10000 : ∀ (bo : Nat) (wv : World), Below w.heap.size w wv → w.heap.size ≤ wv.heap.size → wv.heap[w.heap.size]? = some (boxM m s1 (.slice a2 m.msgs.length p2) s3) → wv.heap[bo]? = some (strO m.msgs.length (fun _ => none)) → w.heap.size ≤ bo → K 7 #[true, true, true, true, true, false, true, false, true, false, false, false, false, false] ⟨#[.agg #[.int .i64 m.level, .int .i64 m.nodes, .int .i64 m.cycles, .int .i64 m.length, .int .i64 m.enable, .int .i64 m.unit, .int .i64 m.init, .int .u32 m.ref, s1, .slice a2 m.msgs.length p2, s3], .int .i64 who, .pointer (some ⟨w.heap.size, 0, none⟩), undef, .pointer none, .int .i64 (m.msgs.length : Int), .pointer (some ⟨w.heap.size, 9, none⟩), .slice a2 m.msgs.length p2, .int .i64 (m.msgs.length : Int), .agg #[.int .i64 m.level, .int .i64 m.nodes, .int .i64 m.cycles, .int .i64 m.length, .int .i64 m.enable, .int .i64 m.unit, .int .i64 m.init, .int .u32 m.ref, s1, .slice a2 m.msgs.length p2, s3], .int .i64 who, .int .i64 (m.msgs.length : Int), .slice (some ⟨bo, 0, none⟩) m.msgs.length m.msgs.length, .int .i64 (m.msgs.length : Int), undef, .int .i64 (m.msgs.length : Int), undef, .int .i64 (m.msgs.length : Int), undef, undef, undef, undef], []⟩ wv := by
    intro bo wv hB hz hx h3 g3
    rw [← hK]
    refine wpAnyH_ready (rs := [5, 7, 9, 10]) (by kernel_rfl) (by simp) (AllReadyH.cons rfl (fun K' hK' => ?_) (AllReadyH.cons rfl (fun K' hK' => ?_) (AllReadyH.cons rfl (fun K' hK' => ?_) (AllReadyH.cons rfl (fun K' hK' => ?_) (AllReadyH.nil)))))
    · rw [if_pos (by rfl)]
      go_simp
      refine hK'.out _ _ ((old_blk wv (booO m.msgs.length (fun _ => none)) w.heap.size (lt_of_heap hx)).trans hx) (fun _ => ?_)
      try simp only [Act.put, List.setIfInBounds_toArray, List.set_cons_zero, List.set_cons_succ]
      rw [hK]
      exact st11000 bo wv.heap.size (wv.alloc (booO m.msgs.length (fun _ => none))) (hB.alloc hz _) (by simp; omega) ((old_blk wv _ w.heap.size (lt_of_heap hx)).trans hx) ((old_blk wv _ _ (lt_of_heap h3)).trans h3) g3 (new_blk _ _) hz
    · rw [if_pos (by rfl)]
      go_simp
      refine hK'.out _ _ ((old_blk wv (strO m.msgs.length (fun _ => none)) w.heap.size (lt_of_heap hx)).trans hx) (fun _ => ?_)
      try simp only [Act.put, List.setIfInBounds_toArray, List.set_cons_zero, List.set_cons_succ]
      rw [hK]
      exact st10100 bo wv.heap.size (wv.alloc (strO m.msgs.length (fun _ => none))) (hB.alloc hz _) (by simp; omega) ((old_blk wv _ w.heap.size (lt_of_heap hx)).trans hx) ((old_blk wv _ _ (lt_of_heap h3)).trans h3) g3 (new_blk _ _) hz (fun e => by have := lt_of_heap h3; omega)
    · rw [if_pos (by rfl)]
      go_simp
      refine hK'.out _ _ ((old_blk wv (booO m.msgs.length (fun _ => none)) w.heap.size (lt_of_heap hx)).trans hx) (fun _ => ?_)
      try simp only [Act.put, List.setIfInBounds_toArray, List.set_cons_zero, List.set_cons_succ]
      rw [hK]
      exact st10010 bo wv.heap.size (wv.alloc (booO m.msgs.length (fun _ => none))) (hB.alloc hz _) (by simp; omega) ((old_blk wv _ w.heap.size (lt_of_heap hx)).trans hx) ((old_blk wv _ _ (lt_of_heap h3)).trans h3) g3 (new_blk _ _) hz
    · rw [if_pos (by rfl)]
      go_simp
      refine (rque_new 4 _).mono ?_
      rintro e wa ⟨rfl, rfl⟩
      rw [show max (1 : Int) (min 4 4) = 4 by decide]
      refine hK'.out _ _ ((old_blk wv (rqO 4 (.slice none 0 0)) w.heap.size (lt_of_heap hx)).trans hx) (fun _ => ?_)
      try simp only [Act.put, List.setIfInBounds_toArray, List.set_cons_zero, List.set_cons_succ]
      rw [hK]
      exact st10001 bo wv.heap.size (wv.alloc (rqO 4 (.slice none 0 0))) (hB.alloc hz _) (by simp; omega) ((old_blk wv _ w.heap.size (lt_of_heap hx)).trans hx) ((old_blk wv _ _ (lt_of_heap h3)).trans h3) g3 (new_blk _ _) hz
  have st01000 : ∀ (bh : Nat) (wv : World), Below w.heap.size w wv → w.heap.size ≤ wv.heap.size → wv.heap[w.heap.size]? = some (boxM m s1 (.slice a2 m.msgs.length p2) s3) → wv.heap[bh]? = some (booO m.msgs.length (fun _ => none)) → w.heap.size ≤ bh → K 7 #[true, true, true, false, true, true, true, false, true, false, false, false, false, false] ⟨#[.agg #[.int .i64 m.level, .int .i64 m.nodes, .int .i64 m.cycles, .int .i64 m.length, .int .i64 m.enable, .int .i64 m.unit, .int .i64 m.init, .int .u32 m.ref, s1, .slice a2 m.msgs.length p2, s3], .int .i64 who, .pointer (some ⟨w.heap.size, 0, none⟩), undef, .pointer none, .int .i64 (m.msgs.length : Int), .pointer (some ⟨w.heap.size, 9, none⟩), .slice a2 m.msgs.length p2, .int .i64 (m.msgs.length : Int), .agg #[.int .i64 m.level, .int .i64 m.nodes, .int .i64 m.cycles, .int .i64 m.length, .int .i64 m.enable, .int .i64 m.unit, .int .i64 m.init, .int .u32 m.ref, s1, .slice a2 m.msgs.length p2, s3], .int .i64 who, .int .i64 (m.msgs.length : Int), undef, .int .i64 (m.msgs.length : Int), .slice (some ⟨bh, 0, none⟩) m.msgs.length m.msgs.length, .int .i64 (m.msgs.length : Int), undef, .int .i64 (m.msgs.length : Int), undef, undef, undef, undef], []⟩ wv := by
    intro bh wv hB hz hx h5 g5
    rw [← hK]
    refine wpAnyH_ready (rs := [3, 7, 9, 10]) (by kernel_rfl) (by simp) (AllReadyH.cons rfl (fun K' hK' => ?_) (AllReadyH.cons rfl (fun K' hK' => ?_) (AllReadyH.cons rfl (fun K' hK' => ?_) (AllReadyH.cons rfl (fun K' hK' => ?_) (AllReadyH.nil)))))
    · rw [if_pos (by rfl)]
      go_simp
      refine hK'.out _ _ ((old_blk wv (strO m.msgs.length (fun _ => none)) w.heap.size (lt_of_heap hx)).trans hx) (fun _ => ?_)
      try simp only [Act.put, List.setIfInBounds_toArray, List.set_cons_zero, List.set_cons_succ]
      rw [hK]
      exact st11000 wv.heap.size bh (wv.alloc (strO m.msgs.length (fun _ => none))) (hB.alloc hz _) (by simp; omega) ((old_blk wv _ w.heap.size (lt_of_heap hx)).trans hx) (new_blk _ _) hz ((old_blk wv _ _ (lt_of_heap h5)).trans h5) g5
    · rw [if_pos (by rfl)]
      go_simp
      refine hK'.out _ _ ((old_blk wv (strO m.msgs.length (fun _ => none)) w.heap.size (lt_of_heap hx)).trans hx) (fun _ => ?_)
      try simp only [Act.put, List.setIfInBounds_toArray, List.set_cons_zero, List.set_cons_succ]
      rw [hK]
      exact st01100 bh wv.heap.size (wv.alloc (strO m.msgs.length (fun _ => none))) (hB.alloc hz _) (by simp; omega) ((old_blk wv _ w.heap.size (lt_of_heap hx)).trans hx) ((old_blk wv _ _ (lt_of_heap h5)).trans h5) g5 (new_blk _ _) hz
    · rw [if_pos (by rfl)]
      go_simp
      refine hK'.out _ _ ((old_blk wv (booO m.msgs.length (fun _ => none)) w.heap.size (lt_of_heap hx)).trans hx) (fun _ => ?_)
      try simp only [Act.put, List.setIfInBounds_toArray, List.set_cons_zero, List.set_cons_succ]
      rw [hK]
      exact st01010 bh wv.heap.size (wv.alloc (booO m.msgs.length (fun _ => none))) (hB.alloc hz _) (by simp; omega) ((old_blk wv _ w.heap.size (lt_of_heap hx)).trans hx) ((old_blk wv _ _ (lt_of_heap h5)).trans h5) g5 (new_blk _ _) hz (fun e => by have := lt_of_heap h5; omega)
    · rw [if_pos (by rfl)]
      go_simp
      refine (rque_new 4 _).mono ?_
      rintro e wa ⟨rfl, rfl⟩
      rw [show max (1 : Int) (min 4 4) = 4 by decide]
      refine hK'.out _ _ ((old_blk wv (rqO 4 (.slice none 0 0)) w.heap.size (lt_of_heap hx)).trans hx) (fun _ => ?_)
      try simp only [Act.put, List.setIfInBounds_toArray, List.set_cons_zero, List.set_cons_succ]
      rw [hK]
      exact st01001 bh wv.heap.size (wv.alloc (rqO 4 (.slice none 0 0))) (hB.alloc hz _) (by simp; omega) ((old_blk wv _ w.heap.size (lt_of_heap hx)).trans hx) ((old_blk wv _ _ (lt_of_heap h5)).trans h5) g5 (new_blk _ _) hz
  have st00100 : ∀ (bc : Nat) (wv : World), Below w.heap.size w wv → w.heap.size ≤ wv.heap.size → wv.heap[w.heap.size]? = some (boxM m s1 (.slice a2 m.msgs.length p2) s3) → wv.heap[bc]? = some (strO m.msgs.length (fun _ => none)) → w.heap.size ≤ bc → K 7 #[true, true, true, false, true, false, true, true, true, false, false, false, false, false] ⟨#[.agg #[.int .i64 m.level, .int .i64 m.nodes, .int .i64 m.cycles, .int .i64 m.length, .int .i64 m.enable, .int .i64 m.unit, .int .i64 m.init, .int .u32 m.ref, s1, .slice a2 m.msgs.length p2, s3], .int .i64 who, .pointer (some ⟨w.heap.size, 0, none⟩), undef, .pointer none, .int .i64 (m.msgs.length : Int), .pointer (some ⟨w.heap.size, 9, none⟩), .slice a2 m.msgs.length p2, .int .i64 (m.msgs.length : Int), .agg #[.int .i64 m.level, .int .i64 m.nodes, .int .i64 m.cycles, .int .i64 m.length, .int .i64 m.enable, .int .i64 m.unit, .int .i64 m.init, .int .u32 m.ref, s1, .slice a2 m.msgs.length p2, s3], .int .i64 who, .int .i64 (m.msgs.length : Int), undef, .int .i64 (m.msgs.length : Int), undef, .int .i64 (m.msgs.length : Int), .slice (some ⟨bc, 0, none⟩) m.msgs.length m.msgs.length, .int .i64 (m.msgs.length : Int), undef, undef, undef, undef], []⟩ wv := by
    intro bc wv hB hz hx h7 g7
    rw [← hK]
    refine wpAnyH_ready (rs := [3, 5, 9, 10]) (by kernel_rfl) (by simp) (AllReadyH.cons rfl (fun K' hK' => ?_) (AllReadyH.cons rfl (fun K' hK' => ?_) (AllReadyH.cons rfl (fun K' hK' => ?_) (AllReadyH.cons rfl (fun K' hK' => ?_) (AllReadyH.nil)))))
    · rw [if_pos (by rfl)]
      go_simp
      refine hK'.out _ _ ((old_blk wv (strO m.msgs.length (fun _ => none)) w.heap.size (lt_of_heap hx)).trans hx) (fun _ => ?_)
      try simp only [Act.put, List.setIfInBounds_toArray, List.set_cons_zero, List.set_cons_succ]
      rw [hK]
      exact st10100 wv.heap.size bc (wv.alloc (strO m.msgs.length (fun _ => none))) (hB.alloc hz _) (by simp; omega) ((old_blk wv _ w.heap.size (lt_of_heap hx)).trans hx) (new_blk _ _) hz ((old_blk wv _ _ (lt_of_heap h7)).trans h7) g7 (fun e => by have := lt_of_heap h7; omega)
    · rw [if_pos (by rfl)]
      go_simp
      refine hK'.out _ _ ((old_blk wv (booO m.msgs.length (fun _ => none)) w.heap.size (lt_of_heap hx)).trans hx) (fun _ => ?_)
      try simp only [Act.put, List.setIfInBounds_toArray, List.set_cons_zero, List.set_cons_succ]
      rw [hK]
      exact st01100 wv.heap.size bc (wv.alloc (booO m.msgs.length (fun _ => none))) (hB.alloc hz _) (by simp; omega) ((old_blk wv _ w.heap.size (lt_of_heap hx)).trans hx) (new_blk _ _) hz ((old_blk wv _ _ (lt_of_heap h7)).trans h7) g7
    · rw [if_pos (by rfl)]
      go_simp
      refine hK'.out _ _ ((old_blk wv (booO m.msgs.length (fun _ => none)) w.heap.size (lt_of_heap hx)).trans hx) (fun _ => ?_)
      try simp only [Act.put, List.setIfInBounds_toArray, List.set_cons_zero, List.set_cons_succ]
      rw [hK]
      exact st00110 bc wv.heap.size (wv.alloc (booO m.msgs.length (fun _ => none))) (hB.alloc hz _) (by simp; omega) ((old_blk wv _ w.heap.size (lt_of_heap hx)).trans hx) ((old_blk wv _ _ (lt_of_heap h7)).trans h7) g7 (new_blk _ _) hz
    · rw [if_pos (by rfl)]
      go_simp
      refine (rque_new 4 _).mono ?_
      rintro e wa ⟨rfl, rfl⟩
      rw [show max (1 : Int) (min 4 4) = 4 by decide]
      refine hK'.out _ _ ((old_blk wv (rqO 4 (.slice none 0 0)) w.heap.size (lt_of_heap hx)).trans hx) (fun _ => ?_)
      try simp only [Act.put, List.setIfInBounds_toArray, List.set_cons_zero, List.set_cons_succ]
      rw [hK]
      exact st00101 bc wv.heap.size (wv.alloc (rqO 4 (.slice none 0 0))) (hB.alloc hz _) (by simp; omega) ((old_blk wv _ w.heap.size (lt_of_heap hx)).trans hx) ((old_blk wv _ _ (lt_of_heap h7)).trans h7) g7 (new_blk _ _) hz
  have st00010 : ∀ (bg : Nat) (wv : World), Below w.heap.size w wv → w.heap.size ≤ wv.heap.size → wv.heap[w.heap.size]? = some (boxM m s1 (.slice a2 m.msgs.length p2) s3) → wv.heap[bg]? = some (booO m.msgs.length (fun _ => none)) → w.heap.size ≤ bg → K 7 #[true, true, true, false, true, false, true, false, true, true, false, false, false, false] ⟨#[.agg #[.int .i64 m.level, .int .i64 m.nodes, .int .i64 m.cycles, .int .i64 m.length, .int .i64 m.enable, .int .i64 m.unit, .int .i64 m.init, .int .u32 m.ref, s1, .slice a2 m.msgs.length p2, s3], .int .i64 who, .pointer (some ⟨w.heap.size, 0, none⟩), undef, .pointer none, .int .i64 (m.msgs.length : Int), .pointer (some ⟨w.heap.size, 9, none⟩), .slice a2 m.msgs.length p2, .int .i64 (m.msgs.length : Int), .agg #[.int .i64 m.level, .int .i64 m.nodes, .int .i64 m.cycles, .int .i64 m.length, .int .i64 m.enable, .int .i64 m.unit, .int .i64 m.init, .int .u32 m.ref, s1, .slice a2 m.msgs.length p2, s3], .int .i64 who, .int .i64 (m.msgs.length : Int), undef, .int .i64 (m.msgs.length : Int), undef, .int .i64 (m.msgs.length : Int), undef, .int .i64 (m.msgs.length : Int), .slice (some ⟨bg, 0, none⟩) m.msgs.length m.msgs.length, undef, undef, undef], []⟩ wv := by
    intro bg wv hB hz hx h9 g9
    rw [← hK]
    refine wpAnyH_ready (rs := [3, 5, 7, 10]) (by kernel_rfl) (by simp) (AllReadyH.cons rfl (fun K' hK' => ?_) (AllReadyH.cons rfl (fun K' hK' => ?_) (AllReadyH.cons rfl (fun K' hK' => ?_) (AllReadyH.cons rfl (fun K' hK' => ?_) (AllReadyH.nil)))))
    · rw [if_pos (by rfl)]
      go_simp
      refine hK'.out _ _ ((old_blk wv (strO m.msgs.length (fun _ => none)) w.heap.size (lt_of_heap hx)).trans hx) (fun _ => ?_)
      try simp only [Act.put, List.setIfInBounds_toArray, List.set_cons_zero, List.set_cons_succ]
      rw [hK]
      exact st10010 wv.heap.size bg (wv.alloc (strO m.msgs.length (fun _ => none))) (hB.alloc hz _) (by simp; omega) ((old_blk wv _ w.heap.size (lt_of_heap hx)).trans hx) (new_blk _ _) hz ((old_blk wv _ _ (lt_of_heap h9)).trans h9) g9
    · rw [if_pos (by rfl)]
      go_simp
      refine hK'.out _ _ ((old_blk wv (booO m.msgs.length (fun _ => none)) w.heap.size (lt_of_heap hx)).trans hx) (fun _ => ?_)
      try simp only [Act.put, List.setIfInBounds_toArray, List.set_cons_zero, List.set_cons_succ]
      rw [hK]
      exact st01010 wv.heap.size bg (wv.alloc (booO m.msgs.length (fun _ => none))) (hB.alloc hz _) (by simp; omega) ((old_blk wv _ w.heap.size (lt_of_heap hx)).trans hx) (new_blk _ _) hz ((old_blk wv _ _ (lt_of_heap h9)).trans h9) g9 (fun e => by have := lt_of_heap h9; omega)
    · rw [if_pos (by rfl)]
      go_simp
      refine hK'.out _ _ ((old_blk wv (strO m.msgs.length (fun _ => none)) w.heap.size (lt_of_heap hx)).trans hx) (fun _ => ?_)
      try simp only [Act.put, List.setIfInBounds_toArray, List.set_cons_zero, List.set_cons_succ]
      rw [hK]
      exact st00110 wv.heap.size bg (wv.alloc (strO m.msgs.length (fun _ => none))) (hB.alloc hz _) (by simp; omega) ((old_blk wv _ w.heap.size (lt_of_heap hx)).trans hx) (new_blk _ _) hz ((old_blk wv _ _ (lt_of_heap h9)).trans h9) g9
    · rw [if_pos (by rfl)]
      go_simp
      refine (rque_new 4 _).mono ?_
      rintro e wa ⟨rfl, rfl⟩
      rw [show max (1 : Int) (min 4 4) = 4 by decide]
      refine hK'.out _ _ ((old_blk wv (rqO 4 (.slice none 0 0)) w.heap.size (lt_of_heap hx)).trans hx) (fun _ => ?_)
      try simp only [Act.put, List.setIfInBounds_toArray, List.set_cons_zero, List.set_cons_succ]
      rw [hK]
      exact st00011 bg wv.heap.size (wv.alloc (rqO 4 (.slice none 0 0))) (hB.alloc hz _) (by simp; omega) ((old_blk wv _ w.heap.size (lt_of_heap hx)).trans hx) ((old_blk wv _ _ (lt_of_heap h9)).trans h9) g9 (new_blk _ _) hz
  have st00001 : ∀ (bq : Nat) (wv : World), Below w.heap.size w wv → w.heap.size ≤ wv.heap.size → wv.heap[w.heap.size]? = some (boxM m s1 (.slice a2 m.msgs.length p2) s3) → wv.heap[bq]? = some (rqO 4 (.slice none 0 0)) → w.heap.size ≤ bq → K 7 #[true, true, true, false, true, false, true, false, true, false, true, false, false, false] ⟨#[.agg #[.int .i64 m.level, .int .i64 m.nodes, .int .i64 m.cycles, .int .i64 m.length, .int .i64 m.enable, .int .i64 m.unit, .int .i64 m.init, .int .u32 m.ref, s1, .slice a2 m.msgs.length p2, s3], .int .i64 who, .pointer (some ⟨w.heap.size, 0, none⟩), undef, .pointer none, .int .i64 (m.msgs.length : Int), .pointer (some ⟨w.heap.size, 9, none⟩), .slice a2 m.msgs.length p2, .int .i64 (m.msgs.length : Int), .agg #[.int .i64 m.level, .int .i64 m.nodes, .int .i64 m.cycles, .int .i64 m.length, .int .i64 m.enable, .int .i64 m.unit, .int .i64 m.init, .int .u32 m.ref, s1, .slice a2 m.msgs.length p2, s3], .int .i64 who, .int .i64 (m.msgs.length : Int), undef, .int .i64 (m.msgs.length : Int), undef, .int .i64 (m.msgs.length : Int), undef, .int .i64 (m.msgs.length : Int), undef, .pointer (some ⟨bq, 0, none⟩), undef, undef], []⟩ wv := by
    intro bq wv hB hz hx h10 g10
    rw [← hK]
    refine wpAnyH_ready (rs := [3, 5, 7, 9]) (by kernel_rfl) (by simp) (AllReadyH.cons rfl (fun K' hK' => ?_) (AllReadyH.cons rfl (fun K' hK' => ?_) (AllReadyH.cons rfl (fun K' hK' => ?_) (AllReadyH.cons rfl (fun K' hK' => ?_) (AllReadyH.nil)))))
    · rw [if_pos (by rfl)]
      go_simp
      refine hK'.out _ _ ((old_blk wv (strO m.msgs.length (fun _ => none)) w.heap.size (lt_of_heap hx)).trans hx) (fun _ => ?_)
      try simp only [Act.put, List.setIfInBounds_toArray, List.set_cons_zero, List.set_cons_succ]
      rw [hK]
      exact st10001 wv.heap.size bq (wv.alloc (strO m.msgs.length (fun _ => none))) (hB.alloc hz _) (by simp; omega) ((old_blk wv _ w.heap.size (lt_of_heap hx)).trans hx) (new_blk _ _) hz ((old_blk wv _ _ (lt_of_heap h10)).trans h10) g10
    · rw [if_pos (by rfl)]
      go_simp
      refine hK'.out _ _ ((old_blk wv (booO m.msgs.length (fun _ => none)) w.heap.size (lt_of_heap hx)).trans hx) (fun _ => ?_)
      try simp only [Act.put, List.setIfInBounds_toArray, List.set_cons_zero, List.set_cons_succ]
      rw [hK]
      exact st01001 wv.heap.size bq (wv.alloc (booO m.msgs.length (fun _ => none))) (hB.alloc hz _) (by simp; omega) ((old_blk wv _ w.heap.size (lt_of_heap hx)).trans hx) (new_blk _ _) hz ((old_blk wv _ _ (lt_of_heap h10)).trans h10) g10
    · rw [if_pos (by rfl)]
      go_simp
      refine hK'.out _ _ ((old_blk wv (strO m.msgs.length (fun _ => none)) w.heap.size (lt_of_heap hx)).trans hx) (fun _ => ?_)
      try simp only [Act.put, List.setIfInBounds_toArray, List.set_cons_zero, List.set_cons_succ]
      rw [hK]
      exact st00101 wv.heap.size bq (wv.alloc (strO m.msgs.length (fun _ => none))) (hB.alloc hz _) (by simp; omega) ((old_blk wv _ w.heap.size (lt_of_heap hx)).trans hx) (new_blk _ _) hz ((old_blk wv _ _ (lt_of_heap h10)).trans h10) g10
    · rw [if_pos (by rfl)]
      go_simp
      refine hK'.out _ _ ((old_blk wv (booO m.msgs.length (fun _ => none)) w.heap.size (lt_of_heap hx)).trans hx) (fun _ => ?_)
      try simp only [Act.put, List.setIfInBounds_toArray, List.set_cons_zero, List.set_cons_succ]
      rw [hK]
      exact st00011 wv.heap.size bq (wv.alloc (booO m.msgs.length (fun _ => none))) (hB.alloc hz _) (by simp; omega) ((old_blk wv _ w.heap.size (lt_of_heap hx)).trans hx) (new_blk _ _) hz ((old_blk wv _ _ (lt_of_heap h10)).trans h10) g10
  have st00000 : ∀ (wv : World), Below w.heap.size w wv → w.heap.size ≤ wv.heap.size → wv.heap[w.heap.size]? = some (boxM m s1 (.slice a2 m.msgs.length p2) s3) → K 8 #[true, true, true, false, true, false, true, false, true, false, false, false, false, false] ⟨#[.agg #[.int .i64 m.level, .int .i64 m.nodes, .int .i64 m.cycles, .int .i64 m.length, .int .i64 m.enable, .int .i64 m.unit, .int .i64 m.init, .int .u32 m.ref, s1, .slice a2 m.msgs.length p2, s3], .int .i64 who, .pointer (some ⟨w.heap.size, 0, none⟩), undef, .pointer none, .int .i64 (m.msgs.length : Int), .pointer (some ⟨w.heap.size, 9, none⟩), .slice a2 m.msgs.length p2, .int .i64 (m.msgs.length : Int), .agg #[.int .i64 m.level, .int .i64 m.nodes, .int .i64 m.cycles, .int .i64 m.length, .int .i64 m.enable, .int .i64 m.unit, .int .i64 m.init, .int .u32 m.ref, s1, .slice a2 m.msgs.length p2, s3], .int .i64 who, .int .i64 (m.msgs.length : Int), undef, .int .i64 (m.msgs.length : Int), undef, .int .i64 (m.msgs.length : Int), undef, .int .i64 (m.msgs.length : Int), undef, undef, undef, undef], []⟩ wv := by
    intro  wv hB hz hx
    rw [← hK]
    refine wpAnyH_ready (rs := [3, 5, 7, 9, 10]) (by kernel_rfl) (by simp) (AllReadyH.cons rfl (fun K' hK' => ?_) (AllReadyH.cons rfl (fun K' hK' => ?_) (AllReadyH.cons rfl (fun K' hK' => ?_) (AllReadyH.cons rfl (fun K' hK' => ?_) (AllReadyH.cons rfl (fun K' hK' => ?_) (AllReadyH.nil))))))
    · rw [if_pos (by rfl)]
      go_simp
      refine hK'.out _ _ ((old_blk wv (strO m.msgs.length (fun _ => none)) w.heap.size (lt_of_heap hx)).trans hx) (fun _ => ?_)
      try simp only [Act.put, List.setIfInBounds_toArray, List.set_cons_zero, List.set_cons_succ]
      rw [hK]
      exact st10000 wv.heap.size (wv.alloc (strO m.msgs.length (fun _ => none))) (hB.alloc hz _) (by simp; omega) ((old_blk wv _ w.heap.size (lt_of_heap hx)).trans hx) (new_blk _ _) hz
    · rw [if_pos (by rfl)]
      go_simp
      refine hK'.out _ _ ((old_blk wv (booO m.msgs.length (fun _ => none)) w.heap.size (lt_of_heap hx)).trans hx) (fun _ => ?_)
      try simp only [Act.put, List.setIfInBounds_toArray, List.set_cons_zero, List.set_cons_succ]
      rw [hK]
      exact st01000 wv.heap.size (wv.alloc (booO m.msgs.length (fun _ => none))) (hB.alloc hz _) (by simp; omega) ((old_blk wv _ w.heap.size (lt_of_heap hx)).trans hx) (new_blk _ _) hz
    · rw [if_pos (by rfl)]
      go_simp
      refine hK'.out _ _ ((old_blk wv (strO m.msgs.length (fun _ => none)) w.heap.size (lt_of_heap hx)).trans hx) (fun _ => ?_)
      try simp only [Act.put, List.setIfInBounds_toArray, List.set_cons_zero, List.set_cons_succ]
      rw [hK]
      exact st00100 wv.heap.size (wv.alloc (strO m.msgs.length (fun _ => none))) (hB.alloc hz _) (by simp; omega) ((old_blk wv _ w.heap.size (lt_of_heap hx)).trans hx) (new_blk _ _) hz
    · rw [if_pos (by rfl)]
      go_simp
      refine hK'.out _ _ ((old_blk wv (booO m.msgs.length (fun _ => none)) w.heap.size (lt_of_heap hx)).trans hx) (fun _ => ?_)
      try simp only [Act.put, List.setIfInBounds_toArray, List.set_cons_zero, List.set_cons_succ]
      rw [hK]
      exact st00010 wv.heap.size (wv.alloc (booO m.msgs.length (fun _ => none))) (hB.alloc hz _) (by simp; omega) ((old_blk wv _ w.heap.size (lt_of_heap hx)).trans hx) (new_blk _ _) hz
    · rw [if_pos (by rfl)]
      go_simp
      refine (rque_new 4 _).mono ?_
      rintro e wa ⟨rfl, rfl⟩
      rw [show max (1 : Int) (min 4 4) = 4 by decide]
      refine hK'.out _ _ ((old_blk wv (rqO 4 (.slice none 0 0)) w.heap.size (lt_of_heap hx)).trans hx) (fun _ => ?_)
      try simp only [Act.put, List.setIfInBounds_toArray, List.set_cons_zero, List.set_cons_succ]
      rw [hK]
      exact st00001 wv.heap.size (wv.alloc (rqO 4 (.slice none 0 0))) (hB.alloc hz _) (by simp; omega) ((old_blk wv _ w.heap.size (lt_of_heap hx)).trans hx) (new_blk _ _) hz
  exact st00000 _ HB0 (by simp) HX0
end Go.Proofs.Ytmbhgipoofllfaa
