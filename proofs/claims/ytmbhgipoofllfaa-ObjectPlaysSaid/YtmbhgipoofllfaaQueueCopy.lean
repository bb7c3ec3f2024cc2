/- Copy of a queue: a new one that holds what the elder holds. -/
import Derived.Test.YtmbhgipoofllfaaQueueLaws
namespace Go.Proofs.Ytmbhgipoofllfaa
set_option linter.unusedVariables false
set_option linter.unusedSimpArgs false
open Go.RowKit Go.Conc

theorem evCells_at : ∀ (l : List Ev) (k : Nat) (x : Ev), l[k]? = some x → (evCells l)[k * 2]? = some (.int .i64 x.msg) ∧ (evCells l)[k * 2 + 1]? = some (.string x.data) := by
  intro l
  induction l with
  | nil => intro k x h; simp at h
  | cons y l ih =>
    intro k x h
    have e : evCells (y :: l) = .int .i64 y.msg :: .string y.data :: evCells l := by simp [evCells]
    cases k with
    | zero => simp at h; subst h; simp [e]
    | succ k =>
      have := ih k x (by simpa using h)
      rw [e, show (k + 1) * 2 = k * 2 + 2 by omega]
      simpa using this
theorem Own.rebase {B c : Nat} {o : Obj} {w0 w1 w2 : World} {L : List (Nat × Obj)} (h : Own B w0 L w1) (u : Upd c o w1 w2) (hc : c < B) : Own B w2 L w2 :=
  ⟨Below.refl _ _, Nat.le_trans h.sz u.size, h.nd, fun b o' hm => ⟨(h.all b o' hm).1, (u.other b (lt_of_heap (h.all b o' hm).2) (by have := (h.all b o' hm).1; omega)).trans (h.all b o' hm).2⟩⟩

theorem Upd.below_after {c : Nat} {o : Obj} {w w2 wr : World} (h : Upd c o w w2) (hb : Below w.heap.size w2 wr) (hc : c < w.heap.size) : Upd c o w wr :=
  ⟨hb.os.trans h.os, hb.tape.trans h.tape, hb.output.trans h.output, Nat.le_trans h.size hb.size, (hb.block c hc).trans h.blk, fun k hk hn => (hb.block k hk).trans (h.other k hk hn)⟩

set_option maxRecDepth 100000 in
theorem que_copy {w : World} {q c cap s r : Nat} {l : List Ev} (hq : w.heap[q]? = some (queO c)) (hc : w.heap[c]? = some (chaO cap l s r)) (hl : l.length ≤ cap) (h1 : 1 ≤ cap) (h4 : cap ≤ 4) :
    Calls Try.prog 20 #[.pointer (some ⟨q, 0, none⟩)] w fun e w' => ∃ q' c' s' r' s2 r2, e = .returned (.pointer (some ⟨q', 0, none⟩)) ∧ Upd c (chaO cap l s' r') w w' ∧
      w'.heap[q']? = some (queO c') ∧ w'.heap[c']? = some (chaO cap l s2 r2) ∧ w.heap.size ≤ q' ∧ w.heap.size ≤ c' ∧ q' ≠ c' := by
  have c0 := cell_of hq 0
  simp at c0
  have hlt := lt_of_heap hc
  have hlq := lt_of_heap hq
  have hcp := fun ty => run_cap_chan (P := Try.prog) 84 ty Try.underlying84 hc
  have hcap : (min (max (cap : Int) 1) 4).toNat = cap := by omega
  refine calls_of_wpN Try.func20 rfl ?_
  simp only [Try.ntmps20, List.size_toArray, List.length_cons, List.length_nil, Nat.reduceAdd, Nat.reduceSub, Array.replicate_succ, Array.replicate_zero, List.push_toArray, List.append_toArray, List.nil_append, List.cons_append]
  refine WpN.seq (WpN.of ?_)
  go_wp2
  refine WpN.seq (WpN.of ?_)
  go_wp2_with fail
  refine (own_addq (cap : Int) (Own.nil_ (Below.refl w.heap.size w) (Nat.le_refl _))).mono ?_
  rintro e w1 ⟨q', c', rfl, hO⟩
  rw [hcap] at hO
  go_wp2_with fail
  refine WpN.seq (WpN.seq (WpN.of ?_))
  go_wp2_with fail
  have hq1 := (hO.bel.block q hlq).trans hq
  have hc1 := (hO.bel.block c hlt).trans hc
  refine (que_all0 hq1 hc1 hl h4).mono ?_
  rintro e w2 ⟨v, s', r', rfl, hU, hR⟩
  have hU2 : Upd c (chaO cap l s' r') w w2 := hU.after (hO.bel)
  have hO2 := hO.rebase hU hlt
  have HU := Lib.hid hU2
  clear hU2 hq1 hc1
  obtain ⟨hl2, ⟨rfl, h0⟩ | ⟨g, cp, cur, rfl, hg, hcur, hn, hcm, hcs, htk⟩⟩ := hR
  · have hln : l = [] := List.eq_nil_of_length_eq_zero h0
    subst hln
    clear hU hO
    go_wp2
    refine WpN.block (WpN.loop (fun a' w' => a' = _ ∧ w' = _) (fun _ _ => 0) ⟨rfl, rfl⟩ ?_)
    rintro a wr ⟨rfl, rfl⟩
    refine WpN.seq (WpN.of ?_)
    go_wp2
    refine WpN.seq (WpN.of ?_)
    go_wp2
    refine WpN.of ?_
    go_wp2
    go_ret
    exact ⟨q', c', s', r', 0, 0, rfl, HU.out, hO2.get1, hO2.get0, (hO2.all q' (queO c') (by simp)).1, (hO2.all c' (chaO cap [] 0 0) (by simp)).1, by have := hO2.nd; simp at this; omega⟩
  · have hO3 := hO2.more hcur (Nat.le_trans hO.sz hg) (fun b u hm => by have := lt_of_heap (hO.all b u hm).2; omega)
    have hcell : ∀ k x, l[k]? = some x → cur[k * 2]? = some (.int .i64 x.msg) ∧ cur[k * 2 + 1]? = some (.string x.data) := by
      intro k x hx
      have hk : k < l.length := (List.getElem?_eq_some_iff.1 hx).1
      obtain ⟨e1, e2⟩ := evCells_at l k x hx
      rw [← htk, List.getElem?_take_of_lt (by omega)] at e1 e2
      simpa using And.intro e1 e2
    clear hU hO hO2 hcur htk
    go_wp2
    refine WpN.block (WpN.loop (fun a wr => ∃ (k s2 r2 : Nat) (u4 u5 u16 u17 u18 u19 u20 u21 u22 u23 u24 u25 : Value), k ≤ l.length ∧ Own w.heap.size w2 [(g, .cells cur 29 (0, 0)), (c', chaO cap (l.take k) s2 r2), (q', queO c')] wr ∧
      a = { tmps := #[.pointer (some ⟨q, 0, none⟩), undef, .pointer none, .pointer (some ⟨q', 0, none⟩), u4, u5, .pointer (some ⟨q, 0, none⟩), .pointer (some ⟨q, 0, none⟩), .pointer (some ⟨q, 0, none⟩), .chan (some c), .int .i64 cap, .pointer (some ⟨q', 0, none⟩), .pointer (some ⟨q, 0, none⟩), .slice (some ⟨g, 0, none⟩) l.length cp, .int .i64 l.length, .int .i64 k, u16, u17, u18, u19, u20, u21, u22, u23, u24, u25], defers := [] })
      (fun a _ => l.length - (intOf (a.tmps.getD 15 undef)).toNat) ?_ ?_)
    · exact ⟨0, 0, 0, undef, undef, undef, undef, undef, undef, undef, undef, undef, undef, undef, undef, by omega, by simpa using hO3, by simp⟩
    · rintro a wr ⟨k, s2, r2, u4, u5, u16, u17, u18, u19, u20, u21, u22, u23, u24, u25, hk, hOr, rfl⟩
      clear hO3
      by_cases hlt' : k < l.length
      · obtain ⟨x, hx⟩ : ∃ x, l[k]? = some x := ⟨l[k], by simp [hlt']⟩
        have hxe : l[k] = x := by simpa [hlt'] using hx
        have htake : l.take (k + 1) = l.take k ++ [x] := by rw [List.take_succ_eq_append_getElem hlt', hxe]
        obtain ⟨y0, y1⟩ := hcell k x hx
        have g0 := (cell_of hOr.get0 (k * 2)).trans y0
        have g1 := (cell_of hOr.get0 (k * 2 + 1)).trans y1
        have HY := Lib.hid (And.intro hcell hxe)
        clear y0 y1 hcell hxe hx
        refine WpN.seq (WpN.of ?_)
        go_wp2
        refine WpN.seq (WpN.of ?_)
        go_wp2
        refine WpN.seq (WpN.block ?_)
        refine WpN.seq (WpN.of ?_)
        go_wp2
        obtain ⟨w4, hw4⟩ : ∃ y, y = wr.alloc (.cells #[.int .i64 x.msg, .string x.data] 29) := ⟨_, rfl⟩
        have hO4 := hOr.alloc (.cells #[.int .i64 x.msg, .string x.data] 29)
        rw [← hw4] at hO4 ⊢
        clear hw4 hOr g0 g1
        have hc4 := hO4.get2
        have q0 := cell_of hO4.get3 0
        have d0 := cell_of hO4.get0 0
        have d1 := cell_of hO4.get0 1
        simp at q0 d0 d1
        have hsz : ((l.take k).map evV).toArray.size < cap := by simp; omega
        refine WpN.region_draw (by kernel_rfl) (show AnyN _ _ _ 6 _ _ _ from ?_)
        repeat (any_goals (first
          | (refine AnyN.one 0 (by decide +kernel) ?_; refine OpN.value rfl rfl (by go_simp; first | rfl | exact ⟨rfl, rfl⟩) ?_)
          | (refine AnyN.two 0 4 (by decide +kernel) ?_ ?_ <;> refine OpN.value rfl rfl (by go_simp; first | rfl | exact ⟨rfl, rfl⟩) ?_)
          | (refine AnyN.two 1 4 (by decide +kernel) ?_ ?_ <;> refine OpN.value rfl rfl (by go_simp; first | rfl | exact ⟨rfl, rfl⟩) ?_)
          | (refine AnyN.two 2 4 (by decide +kernel) ?_ ?_ <;> refine OpN.value rfl rfl (by go_simp; first | rfl | exact ⟨rfl, rfl⟩) ?_)
          | (refine AnyN.two 3 4 (by decide +kernel) ?_ ?_ <;> refine OpN.value rfl rfl (by go_simp; first | rfl | exact ⟨rfl, rfl⟩) ?_)
          | (refine AnyN.one 1 (by decide +kernel) ?_; refine OpN.value rfl rfl (by go_simp; first | rfl | exact ⟨rfl, rfl⟩) ?_)
          | (refine AnyN.one 2 (by decide +kernel) ?_; refine OpN.value rfl rfl (by go_simp; first | rfl | exact ⟨rfl, rfl⟩) ?_)
          | (refine AnyN.one 3 (by decide +kernel) ?_; refine OpN.value rfl rfl (by go_simp; first | rfl | exact ⟨rfl, rfl⟩) ?_)
          | (refine AnyN.one 4 (by decide +kernel) ?_; refine OpN.value rfl rfl (by go_simp; first | rfl | exact ⟨rfl, rfl⟩) ?_)))
        all_goals
          refine AnyN.one 5 (by decide +kernel) ?_
          refine OpN.comm rfl (v := undef) (w1 := w4.drew.setChan c' cap (((l.take k).map evV).toArray.push (evV x)) false (s2 + 1) r2 false) (fun rest fb fk fcs hfk => ?_) ?_
          · exact step_lone_send_room (c := c') (cap := cap) (buf := ((l.take k).map evV).toArray) (s := s2) (r := r2) (tm := false) (v := evV x) (z' := .tuple #[]) (w₁ := w4.drew) (stepG_comm rfl rfl hfk (by go_simp; rfl)) hc4 hsz
        all_goals
          have hOf := (Own.upd2 hO4.drew (chaO_set (l' := l.take (k + 1)) (s' := s2 + 1) (r' := r2) hO4.drew.get2 (((l.take k).map evV).toArray.push (evV x)) (by rw [htake]; simp))).drop
          obtain ⟨wf, hwf⟩ : ∃ y, y = w4.drew.setChan c' cap (((l.take k).map evV).toArray.push (evV x)) false (s2 + 1) r2 false := ⟨_, rfl⟩
          rw [← hwf] at hOf ⊢
          clear hwf
          simp only [AnyN, Act.put, List.getElem_toArray, List.getElem_cons_zero, List.getElem_cons_succ, List.setIfInBounds_toArray, List.set_cons_succ, List.set_cons_zero, Exit.inBlock, Exit.then]
          refine WpN.of ?_
          go_wp2
          have e1 : ((k : Int) + 1) = ((k + 1 : Nat) : Int) := by omega
          rw [e1]
          refine ⟨⟨k + 1, s2 + 1, r2, _, _, _, _, _, _, _, _, _, _, _, _, by omega, hOf, rfl⟩, ?_⟩
          simp [intOf]
          omega
      · obtain rfl : k = l.length := by omega
        refine WpN.seq (WpN.of ?_)
        go_wp2
        refine WpN.seq (WpN.of ?_)
        go_wp2
        refine WpN.of ?_
        go_wp2
        go_ret
        rw [List.take_length] at hOr
        exact ⟨q', c', s', r', s2, r2, rfl, HU.out.below_after hOr.bel hlt, hOr.get2, hOr.get1, (hOr.all q' (queO c') (by simp)).1, (hOr.all c' (chaO cap l s2 r2) (by simp)).1, by have := hOr.nd; simp at this; omega⟩
end Go.Proofs.Ytmbhgipoofllfaa
