/- The package queue: each function's contract over the queue's block and its channel's. -/
import Derived.Test.YtmbhgipoofllfaaChecked
import Derived.Test.YtmbhgipoofllfaaBase
import Derived.Test.YtmbhgipoofllfaaLone
import Derived.Conc.LoneSelectN
import Derived.WalkKit
import Derived.BigQuiet
import Derived.Deep.QuietTactic
import Derived.Outline
import Derived.Laws.OwnMore
import Derived.KernelRfl
import Derived.Lib.Hide
namespace Go.Proofs.Ytmbhgipoofllfaa
set_option linter.unusedVariables false
set_option linter.unusedSimpArgs false
open Go.RowKit Go.Conc

structure Ev where
  msg : Int
  data : ByteArray
def evV (e : Ev) : Value := .agg #[.int .i64 e.msg, .string e.data]
def queO (c : Nat) : Obj := .cells #[.chan (some c)] 86 (0, 0)
def chaO (cap : Nat) (l : List Ev) (s r : Nat) : Obj := .chan cap (l.map evV).toArray false s r false

theorem Upd.setCell_else {w w' : World} {b : Nat} {o : Obj} (h : Upd b o w w') (a : Addr) (v : Value) (hb : b ≠ a.block) (ha : w.heap.size ≤ a.block) : Upd b o w (w'.setCell a v) :=
  ⟨h.os, h.tape, h.output, by simpa [World.setCell] using h.size, (Below.heap_setCell w' a v b hb).trans h.blk, fun k hk hn => (Below.heap_setCell w' a v k (by omega)).trans (h.other k hk hn)⟩
theorem heap_setChan_ne' (w : World) (c cap : Nat) (buf : Array Value) (cl : Bool) (s r : Nat) (tm : Bool) (k : Nat) (h : k ≠ c) : (w.setChan c cap buf cl s r tm).heap[k]? = w.heap[k]? := by
  simp only [World.setChan]
  rw [Array.getElem?_setIfInBounds_ne (Ne.symm h)]

theorem chaO_set {w : World} {c cap : Nat} {l l' : List Ev} {s r s' r' : Nat} (h : w.heap[c]? = some (chaO cap l s r)) (buf : Array Value) (hb : buf = (l'.map evV).toArray) :
    Upd c (chaO cap l' s' r') w (w.setChan c cap buf false s' r' false) :=
  ⟨rfl, rfl, rfl, by simp [World.setChan], by subst hb; exact heap_setChan w c cap _ false s' r' false (lt_of_heap h), fun k hk hn => by simp [World.setChan, Array.getElem?_setIfInBounds_ne (Ne.symm hn)]⟩

set_option maxRecDepth 100000 in
theorem que_put {w : World} {q c cap s r : Nat} {l : List Ev} (hq : w.heap[q]? = some (queO c)) (hc : w.heap[c]? = some (chaO cap l s r)) (msg : Int) (data : ByteArray) (hroom : l.length < cap) :
    Calls Try.prog 14 #[.pointer (some ⟨q, 0, none⟩), .int .i64 msg, .string data] w fun e w' => e = .returned (.int .i64 0) ∧ Upd c (chaO cap (l ++ [⟨msg, data⟩]) (s + 1) r) w w' := by
  have c0 := cell_of hq 0
  simp at c0
  refine calls_of_wpN Try.func14 rfl ?_
  simp only [Try.ntmps14, List.size_toArray, List.length_cons, List.length_nil, Nat.reduceAdd, Nat.reduceSub, Array.replicate_succ, Array.replicate_zero, List.push_toArray, List.append_toArray, List.nil_append, List.cons_append]
  refine WpN.seq (WpN.of ?_)
  go_wp2
  refine WpN.seq (WpN.of ?_)
  go_wp2
  refine WpN.seq (WpN.region ?_)
  refine RunsN.comm rfl (fun b k cs hk => step_lone_select_send_room (c := c) (cap := cap) (buf := (l.map evV).toArray) (s := s) (r := r) (tm := false) (v := evV ⟨msg, data⟩) (z' := .agg #[.int .i64 0, .string ByteArray.empty]) (w₁ := w)
    (stepG_comm rfl rfl hk (by go_simp; rfl)) hc (by simpa using hroom)) ?_
  refine RunsN.drop (k := 1) rfl ?_
  simp only [Act.put, List.drop_succ_cons, List.drop_zero, List.getElem_toArray, List.getElem_cons_zero, List.setIfInBounds_toArray, List.set_cons_succ, List.set_cons_zero]
  go_wp2
  refine WpN.of ?_
  go_wp2
  go_ret
  exact ⟨rfl, chaO_set hc _ (by simp)⟩

set_option maxRecDepth 100000 in
theorem que_full {w : World} {q c cap s r : Nat} {l : List Ev} (hq : w.heap[q]? = some (queO c)) (hc : w.heap[c]? = some (chaO cap l s r)) (msg : Int) (data : ByteArray) (hroom : cap ≤ l.length) :
    Calls Try.prog 14 #[.pointer (some ⟨q, 0, none⟩), .int .i64 msg, .string data] w fun e w' => e = .returned (.int .i64 170) ∧ w = w' := by
  have c0 := cell_of hq 0
  simp at c0
  refine calls_of_wpN Try.func14 rfl ?_
  simp only [Try.ntmps14, List.size_toArray, List.length_cons, List.length_nil, Nat.reduceAdd, Nat.reduceSub, Array.replicate_succ, Array.replicate_zero, List.push_toArray, List.append_toArray, List.nil_append, List.cons_append]
  refine WpN.seq (WpN.of ?_)
  go_wp2
  refine WpN.seq (WpN.of ?_)
  go_wp2
  refine WpN.seq (WpN.region ?_)
  refine RunsN.comm rfl (fun b k cs hk => step_lone_select_send_full (c := c) (cap := cap) (buf := (l.map evV).toArray) (s := s) (r := r) (tm := false) (v := evV ⟨msg, data⟩) (z' := .agg #[.int .i64 0, .string ByteArray.empty]) (w₁ := w)
    (stepG_comm rfl rfl hk (by go_simp; rfl)) hc (by simpa using hroom)) ?_
  refine RunsN.drop (k := 1) rfl ?_
  simp only [Act.put, List.drop_succ_cons, List.drop_zero, List.getElem_toArray, List.getElem_cons_zero, List.setIfInBounds_toArray, List.set_cons_succ, List.set_cons_zero]
  go_wp2
  refine WpN.of ?_
  go_wp2
  go_ret
  exact ⟨rfl, rfl⟩

theorem bytes_del : ∃ i, Try.prog.info? 29 = some i ∧ i.bytes = 24 := by
  have h : (Try.prog.info? 29).map (·.bytes) = some 24 := by kernel_rfl
  obtain ⟨i, hi, hb⟩ := Option.map_eq_some_iff.1 h
  exact ⟨i, hi, hb⟩
theorem mk_chan (n : Nat) (hn : n ≤ 4) (w : World) : (Instr.makeChan 84 (.int .i64 n)).run Try.prog w = .ok (.chan (some w.heap.size)) (w.alloc (.chan n #[] false 0 0 false)) := by
  obtain ⟨i, hi, hb⟩ := bytes_del
  simpa using run_makeChan (P := Try.prog) (w := w) Try.underlying84 hi .i64 n (by omega) (by rw [hb]; omega)

theorem mk_chan1 (w : World) : (Instr.makeChan 84 (.int .i64 1)).run Try.prog w = .ok (.chan (some w.heap.size)) (w.alloc (.chan 1 #[] false 0 0 false)) := mk_chan 1 (by omega) w
theorem mk_chan4 (w : World) : (Instr.makeChan 84 (.int .i64 4)).run Try.prog w = .ok (.chan (some w.heap.size)) (w.alloc (.chan 4 #[] false 0 0 false)) := mk_chan 4 (by omega) w
/-- What a new queue is. -/
def QNew (n : Int) (w : World) (e : Ending) (w' : World) : Prop :=
  ∃ q c, e = .returned (.pointer (some ⟨q, 0, none⟩)) ∧ w'.heap[q]? = some (queO c) ∧ w'.heap[c]? = some (chaO (min (max n 1) 4).toNat [] 0 0) ∧ Below w.heap.size w w' ∧ w.heap.size ≤ q ∧ w.heap.size ≤ c ∧ q ≠ c
theorem que_new (n : Int) (w : World) : Calls Try.prog 13 #[.int .i64 n] w (QNew n w) := by
  have core : ∀ (m : Nat), 1 ≤ m → m ≤ 4 → min (max n 1) 4 = (m : Int) → QNew n w (.returned (.pointer (some ⟨w.heap.size + 1, 0, none⟩))) ((w.alloc (.chan m #[] false 0 0 false)).alloc (.cells #[.chan (some w.heap.size)] 86)) := by
    intro m h1 h2 hm
    refine ⟨w.heap.size + 1, w.heap.size, rfl, new_blk2 _ _ _, ?_, ((Below.refl _ _).alloc (Nat.le_refl _) _).alloc (by simp) _, by omega, by omega, by omega⟩
    rw [old_blk _ _ _ (by simp), new_blk, hm]
    simp [chaO]
  by_cases c1 : n < 1
  · have HC := Lib.hid (core 1 (by omega) (by omega) (by omega))
    have hmk := mk_chan1 w
    clear core
    go_enter Try.func13, Try.ntmps13
    go_wp2
    go_ret
    exact HC.out
  · by_cases c2 : 4 < n
    · have HC := Lib.hid (core 4 (by omega) (by omega) (by omega))
      have hmk := mk_chan4 w
      clear core
      go_enter Try.func13, Try.ntmps13
      go_wp2
      go_ret
      exact HC.out
    · obtain ⟨m, rfl⟩ := Int.eq_ofNat_of_zero_le (show 0 ≤ n by omega)
      have hmk := mk_chan m (by omega) w
      have hmk1 := mk_chan1 w
      have hmk4 := mk_chan4 w
      have HC := Lib.hid (core m (by omega) (by omega) (by omega))
      have H1 := Lib.hid (fun h : (m : Int) = 1 => core 1 (by omega) (by omega) (by omega))
      have H4 := Lib.hid (fun h : (m : Int) = 4 => core 4 (by omega) (by omega) (by omega))
      clear core
      go_enter Try.func13, Try.ntmps13
      go_wp2
      all_goals
        go_ret
        first | exact HC.out | exact H1.out (by omega) | exact H4.out (by omega)

theorem que_len {w : World} {q c cap s r : Nat} {l : List Ev} (hq : w.heap[q]? = some (queO c)) (hc : w.heap[c]? = some (chaO cap l s r)) :
    Calls Try.prog 15 #[.pointer (some ⟨q, 0, none⟩)] w fun e w' => e = .returned (.int .i64 l.length) ∧ w = w' := by
  have c0 := cell_of hq 0
  simp at c0
  have hlen := fun ty => run_len_chan (P := Try.prog) 84 ty Try.underlying84 hc
  go_enter Try.func15, Try.ntmps15
  go_wp2
  go_ret
  exact ⟨by simp, rfl⟩

set_option maxRecDepth 100000 in
theorem que_take {w : World} {q c cap s r : Nat} {l : List Ev} {ev : Ev} (hq : w.heap[q]? = some (queO c)) (hc : w.heap[c]? = some (chaO cap (ev :: l) s r)) :
    Calls Try.prog 16 #[.pointer (some ⟨q, 0, none⟩)] w fun e w' => e = .returned (.tuple #[evV ev, .int .i64 0]) ∧ Upd c (chaO cap l s (r + 1)) w w' := by
  have c0 := cell_of hq 0
  simp at c0
  have hlt := lt_of_heap hc
  have hlq := lt_of_heap hq
  refine calls_of_wpN Try.func16 rfl ?_
  simp only [Try.ntmps16, List.size_toArray, List.length_cons, List.length_nil, Nat.reduceAdd, Nat.reduceSub, Array.replicate_succ, Array.replicate_zero, List.push_toArray, List.append_toArray, List.nil_append, List.cons_append]
  refine WpN.seq (WpN.of ?_)
  go_wp2
  refine WpN.seq (WpN.of ?_)
  go_wp2
  refine WpN.seq (WpN.region ?_)
  obtain ⟨w3, hw3⟩ : ∃ x, x = (w.alloc (.cells #[.int .i64 0, .string ⟨#[]⟩] 29)).setChan c cap (((ev :: l).map evV).toArray.extract 1 ((ev :: l).map evV).toArray.size) false s (r + 1) false := ⟨_, rfl⟩
  have hU : Upd c (chaO cap l s (r + 1)) w w3 := by
    rw [hw3]
    exact (Upd.alloc _ (Upd.refl hc)).to (chaO_set (l' := l) ((old_blk w _ c hlt).trans hc) _ (by simp [List.take_of_length_le]))
  have h2 : w3.heap[w.heap.size]? = some (.cells #[.int .i64 0, .string ⟨#[]⟩] 29 (0, 0)) := by
    rw [hw3]
    exact (heap_setChan_ne' _ _ _ _ _ _ _ _ _ (by omega)).trans (new_blk _ _)
  refine RunsN.comm rfl (v := .tuple #[goInt 0, .bool true, evV ev]) (w1 := w3) (fun b k cs hk => by
    rw [hw3]
    exact step_lone_select_recv_buf (c := c) (cap := cap) (buf := ((ev :: l).map evV).toArray) (closed := false) (s := s) (r := r) (tm := false) (z := .agg #[.int .i64 0, .string ⟨#[]⟩])
      (w₁ := w.alloc (.cells #[.int .i64 0, .string ⟨#[]⟩] 29)) (stepG_comm rfl rfl hk (by go_simp; rfl)) ((old_blk _ _ _ hlt).trans hc) (by simp)) ?_
  clear hw3
  have HU := Lib.hid hU
  clear hU
  have k0 := cell_of h2 0
  have k1 := cell_of h2 1
  have kf0 := free_of h2 0
  have kf1 := free_of h2 1
  have klt := lt_of_heap h2
  simp at k0 k1
  refine RunsN.drop (k := 1) rfl ?_
  simp only [Act.put, List.drop_succ_cons, List.drop_zero, List.getElem_toArray, List.getElem_cons_zero, List.setIfInBounds_toArray, List.set_cons_succ, List.set_cons_zero, evV]
  go_wp2
  refine WpN.of ?_
  go_wp2
  have hb : (((w3.setCell ⟨w.heap.size, 0, none⟩ (.int .i64 ev.msg)).setCell ⟨w.heap.size, 1, none⟩ (.string ev.data)).alloc (.cells #[.int .i64 ev.msg, .string ev.data] 29)).heap[w.heap.size]? = some (.cells #[.int .i64 ev.msg, .string ev.data] 29 (0, 0)) :=
    (old_blk _ _ _ (by simpa using klt)).trans (setCell_blk (setCell_blk h2 0 _) 1 _)
  have r0 := (cell_of hb 0).trans (show _ = some (.int .i64 ev.msg) from rfl)
  have r1 := (cell_of hb 1).trans (show _ = some (.string ev.data) from rfl)
  exact bodyPost_ret (v := .tuple #[.agg #[.int .i64 ev.msg, .string ev.data], .int .i64 0]) (by simp [results, Try.results16, go_sem, r0, r1]) rfl ⟨rfl, ((HU.out.setCell_else _ _ (by simp; omega) (by simp)).setCell_else _ _ (by simp; omega) (by simp)).alloc _⟩

theorem que_takeNone {w : World} {q c cap s r : Nat} (hq : w.heap[q]? = some (queO c)) (hc : w.heap[c]? = some (chaO cap [] s r)) :
    Calls Try.prog 16 #[.pointer (some ⟨q, 0, none⟩)] w fun e w' => e = .returned (.tuple #[evV ⟨0, ⟨#[]⟩⟩, .int .i64 171]) ∧ Upd c (chaO cap [] s r) w w' := by
  have c0 := cell_of hq 0
  simp at c0
  have hlt := lt_of_heap hc
  have hlq := lt_of_heap hq
  refine calls_of_wpN Try.func16 rfl ?_
  simp only [Try.ntmps16, List.size_toArray, List.length_cons, List.length_nil, Nat.reduceAdd, Nat.reduceSub, Array.replicate_succ, Array.replicate_zero, List.push_toArray, List.append_toArray, List.nil_append, List.cons_append]
  refine WpN.seq (WpN.of ?_)
  go_wp2
  refine WpN.seq (WpN.of ?_)
  go_wp2
  refine WpN.seq (WpN.region ?_)
  have h2 : (w.alloc (.cells #[.int .i64 0, .string ⟨#[]⟩] 29)).heap[w.heap.size]? = some (.cells #[.int .i64 0, .string ⟨#[]⟩] 29 (0, 0)) := new_blk _ _
  obtain ⟨w3, hw3⟩ : ∃ x, x = w.alloc (.cells #[.int .i64 0, .string ⟨#[]⟩] 29) := ⟨_, rfl⟩
  have hU : Upd c (chaO cap [] s r) w w3 := by rw [hw3]; exact Upd.alloc _ (Upd.refl hc)
  rw [← hw3] at h2
  refine RunsN.comm rfl (v := .tuple #[goInt (-1), .bool false, .agg #[.int .i64 0, .string ⟨#[]⟩]]) (w1 := w3) (fun b k cs hk => by
    rw [hw3]
    exact step_lone_select_default (c := c) (cap := cap) (s := s) (r := r) (tm := false) (z := .agg #[.int .i64 0, .string ⟨#[]⟩])
      (w₁ := w.alloc (.cells #[.int .i64 0, .string ⟨#[]⟩] 29)) (stepG_comm rfl rfl hk (by go_simp; rfl)) ((old_blk _ _ _ hlt).trans hc)) ?_
  clear hw3
  have HU := Lib.hid hU
  clear hU
  have k0 := cell_of h2 0
  have k1 := cell_of h2 1
  have kf0 := free_of h2 0
  have kf1 := free_of h2 1
  have klt := lt_of_heap h2
  simp at k0 k1
  refine RunsN.drop (k := 1) rfl ?_
  simp only [Act.put, List.drop_succ_cons, List.drop_zero, List.getElem_toArray, List.getElem_cons_zero, List.setIfInBounds_toArray, List.set_cons_succ, List.set_cons_zero, evV]
  go_wp2
  refine WpN.of ?_
  go_wp2
  have hb : ((w3.setCell ⟨w.heap.size, 0, none⟩ (.int .i64 0)).setCell ⟨w.heap.size, 1, none⟩ (.string ⟨#[]⟩)).heap[w.heap.size]? = some (.cells #[.int .i64 0, .string ⟨#[]⟩] 29 (0, 0)) :=
    setCell_blk (setCell_blk h2 0 _) 1 _
  have r0 := (cell_of hb 0).trans (show _ = some (.int .i64 0) from rfl)
  have r1 := (cell_of hb 1).trans (show _ = some (.string ⟨#[]⟩) from rfl)
  exact bodyPost_ret (v := .tuple #[.agg #[.int .i64 0, .string ⟨#[]⟩], .int .i64 171]) (by simp [results, Try.results16, go_sem, r0, r1]) rfl ⟨rfl, ((HU.out.setCell_else _ _ (by simp; omega) (by simp)).setCell_else _ _ (by simp; omega) (by simp))⟩

/-! ### all of them: each is taken and put back -/
theorem AnyN.step {P : Program} {ops : Array Oper} {Q : Exit → Act → World → Prop} {fuel : Nat} {listed : Array Bool} {a : Act} {w : World} (rs : List Nat) (h : Region.ready .any ops listed = rs) (hne : rs ≠ [])
    (hall : ∀ i ∈ rs, OpN P ops Q i (AnyN P ops Q fuel (listed.setIfInBounds i true)) a w) : AnyN P ops Q (fuel + 1) listed a w :=
  ⟨fun e => absurd (h ▸ e) hne, fun i hi => hall i (h ▸ hi)⟩
theorem AnyN.one {P : Program} {ops : Array Oper} {Q : Exit → Act → World → Prop} {fuel : Nat} {listed : Array Bool} {a : Act} {w : World} (i : Nat) (h : Region.ready .any ops listed = [i])
    (h1 : OpN P ops Q i (AnyN P ops Q fuel (listed.setIfInBounds i true)) a w) : AnyN P ops Q (fuel + 1) listed a w :=
  AnyN.step [i] h (by simp) (by intro j hj; simp at hj; subst hj; exact h1)
theorem AnyN.two {P : Program} {ops : Array Oper} {Q : Exit → Act → World → Prop} {fuel : Nat} {listed : Array Bool} {a : Act} {w : World} (i j : Nat) (h : Region.ready .any ops listed = [i, j])
    (h1 : OpN P ops Q i (AnyN P ops Q fuel (listed.setIfInBounds i true)) a w) (h2 : OpN P ops Q j (AnyN P ops Q fuel (listed.setIfInBounds j true)) a w) : AnyN P ops Q (fuel + 1) listed a w :=
  AnyN.step [i, j] h (by simp) (by
    intro k hk
    simp at hk
    rcases hk with rfl | rfl
    · exact h1
    · exact h2)
theorem Upd.grown {w w1 w2 : World} {b : Nat} {o : Obj} {row : Option Nat} (h : Upd b o w w1) (hg : w1.grownBy w2 row) (hb : b < w.heap.size) (hr : ∀ k, row = some k → w.heap.size ≤ k) : Upd b o w w2 :=
  ⟨hg.os.trans h.os, hg.tape.trans h.tape, hg.output.trans h.output, Nat.le_trans h.size hg.size, (hg.block b (lt_of_heap h.blk) (fun e => by have := hr b e.symm; omega)).trans h.blk,
    fun k hk hn => (hg.block k (Nat.lt_of_lt_of_le hk h.size) (fun e => by have := hr k e.symm; omega)).trans (h.other k hk hn)⟩
theorem ownsRow_of {w w' : World} {base : Nat} {e : TypeId} {size : Nat} {v : Value} {n : Nat} {xs : List Value} (h : w.ownsRow base e size v n xs) (hb : ∀ g, base ≤ g → g < w.heap.size → w'.heap[g]? = w.heap[g]?) : w'.ownsRow base e size v n xs := by
  obtain ⟨hl, h | ⟨g, cap, cur, hv, hg, hc, r⟩⟩ := h
  · exact ⟨hl, .inl h⟩
  · exact ⟨hl, .inr ⟨g, cap, cur, hv, hg, (hb g hg (lt_of_heap hc)).trans hc, r⟩⟩
theorem info_del : ∃ i, Try.prog.info? 29 = some i ∧ i.bytes = 24 ∧ i.size = 2 ∧ i.zero = some (.agg #[.int .i64 0, .string ⟨#[]⟩]) := by
  have h : (Try.prog.info? 29).map (fun i => (i.bytes, i.size, i.zero)) = some (24, 2, some (.agg #[.int .i64 0, .string ⟨#[]⟩])) := by kernel_rfl
  obtain ⟨i, hi, hb⟩ := Option.map_eq_some_iff.1 h
  simp only [Prod.mk.injEq] at hb
  exact ⟨i, hi, hb.1, hb.2.1, hb.2.2⟩
def evCells (l : List Ev) : List Value := l.flatMap fun e => [.int .i64 e.msg, .string e.data]

theorem que_all0 {w : World} {q c cap s r : Nat} {l : List Ev} (hq : w.heap[q]? = some (queO c)) (hc : w.heap[c]? = some (chaO cap l s r)) (hl : l.length ≤ cap) (h4 : cap ≤ 4) :
    Calls Try.prog 18 #[.pointer (some ⟨q, 0, none⟩)] w fun e w' => ∃ v s' r', e = .returned v ∧ Upd c (chaO cap l s' r') w w' ∧ w'.ownsRow w.heap.size 29 2 v l.length (evCells l) := by
  have c0 := cell_of hq 0
  simp at c0
  have hlt := lt_of_heap hc
  have hlq := lt_of_heap hq
  have hlen := fun ty => run_len_chan (P := Try.prog) 84 ty Try.underlying84 hc
  obtain ⟨i0, hi0, hi1, hi2, hi3⟩ := info_del
  refine calls_of_wpN Try.func18 rfl ?_
  simp only [Try.ntmps18, List.size_toArray, List.length_cons, List.length_nil, Nat.reduceAdd, Nat.reduceSub, Array.replicate_succ, Array.replicate_zero, List.push_toArray, List.append_toArray, List.nil_append, List.cons_append]
  refine WpN.seq (WpN.of ?_)
  go_wp2
  refine WpN.seq (WpN.of ?_)
  go_wp2
  refine WpN.seq (WpN.seq (WpN.of ?_))
  go_wp2
  refine WpN.block (WpN.loop (fun a wr => ∃ (k : Nat) (v : Value) (s' r' : Nat) (u4 u11 u12 u13 u14 u15 u16 u17 u18 u19 u20 u21 u22 u23 u24 u25 u26 u27 : Value), k ≤ l.length ∧
      Upd c (chaO cap (l.drop k ++ l.take k) s' r') w wr ∧ wr.ownsRow w.heap.size 29 2 v k (evCells (l.take k)) ∧
      a = { tmps := #[.pointer (some ⟨q, 0, none⟩), undef, .slice none 0 0, v, u4, .pointer (some ⟨q, 0, none⟩), .pointer (some ⟨q, 0, none⟩), .pointer (some ⟨q, 0, none⟩), .chan (some c), .int .i64 l.length, .int .i64 k, u11, u12, u13, u14, u15, u16, u17, u18, u19, u20, u21, u22, u23, u24, u25, u26, u27], defers := [] })
    (fun a _ => l.length - (intOf (a.tmps.getD 10 undef)).toNat) ?_ ?_)
  · exact ⟨0, _, s, r, undef, undef, undef, undef, undef, undef, undef, undef, undef, undef, undef, undef, undef, undef, undef, undef, undef, undef, by omega, by simpa using Upd.refl hc, World.ownsRow_nil _ _ _ _, by simp⟩
  · rintro a wr ⟨k, v, s', r', u4, u11, u12, u13, u14, u15, u16, u17, u18, u19, u20, u21, u22, u23, u24, u25, u26, u27, hk, hU, hR, rfl⟩
    have hqc : q ≠ c := by
      rintro rfl
      rw [hq] at hc
      simp [queO, chaO] at hc
    have hqr : wr.heap[q]? = some (queO c) := (hU.other q hlq hqc).trans hq
    by_cases hlt' : k < l.length
    · obtain ⟨x, hx⟩ : ∃ x, l[k]? = some x := ⟨l[k], by simp [hlt']⟩
      have hxe : l[k] = x := by simpa [hlt'] using hx
      have hdrop : l.drop k = x :: l.drop (k + 1) := by rw [List.drop_eq_getElem_cons hlt', hxe]
      have htake : l.take (k + 1) = l.take k ++ [x] := by rw [List.take_succ_eq_append_getElem hlt', hxe]
      refine WpN.seq (WpN.of ?_)
      go_wp2
      refine WpN.seq (WpN.of ?_)
      go_wp2
      have k0 := cell_of hqr 0
      simp at k0
      have hcr := hU.blk
      rw [hdrop] at hcr
      rw [List.cons_append] at hcr
      have hlen' : (l.drop (k + 1) ++ l.take k).length < cap := by simp; omega
      have hlast : l.drop (k + 1) ++ l.take k ++ [x] = l.drop (k + 1) ++ l.take (k + 1) := by rw [htake, List.append_assoc]
      obtain ⟨L', hL'⟩ : ∃ y, y = l.drop (k + 1) ++ l.take k := ⟨_, rfl⟩
      rw [← hL'] at hcr hlen' hlast
      obtain ⟨w3, hw3⟩ : ∃ y, y = wr.setChan c cap (((x :: L').map evV).toArray.extract 1 ((x :: L').map evV).toArray.size) false s' (r' + 1) false := ⟨_, rfl⟩
      have hU3 : Upd c (chaO cap L' s' (r' + 1)) w w3 := by
        rw [hw3]
        exact hU.to (chaO_set (l' := L') hcr _ (by simp [List.take_of_length_le]))
      have hR3 : w3.ownsRow w.heap.size 29 2 v k (evCells (l.take k)) := ownsRow_of hR (fun g hg _ => by
        rw [hw3]
        exact heap_setChan_ne' _ _ _ _ _ _ _ _ _ (by omega))
      refine WpN.seq (WpN.block ?_)
      refine WpN.seq (WpN.region ?_)
      refine RunsN.value rfl rfl (by go_simp; first | rfl | exact ⟨rfl, rfl⟩) ?_
      refine RunsN.value rfl rfl (by go_simp; first | rfl | exact ⟨rfl, rfl⟩) ?_
      refine RunsN.value rfl rfl (by go_simp; first | rfl | exact ⟨rfl, rfl⟩) ?_
      refine RunsN.value rfl rfl (by go_simp; first | rfl | exact ⟨rfl, rfl⟩) ?_
      refine RunsN.comm rfl (v := evV x) (w1 := w3) (fun fb fk fcs hfk => by
        rw [hw3]
        exact step_lone_recv_buf (c := c) (cap := cap) (buf := ((x :: L').map evV).toArray) (closed := false) (s := s') (r := r') (tm := false) (z := .agg #[.int .i64 0, .string ⟨#[]⟩]) false
          (w₁ := wr) (stepG_comm rfl rfl hfk (by go_simp; first | rfl | exact ⟨rfl, rfl⟩)) hcr (by simp)) ?_
      clear hw3
      have HU := Lib.hid hU3
      have HL := Lib.hid hlast
      clear hU3 hU hR hcr hqr k0 hL' hlast
      refine RunsN.drop (k := 5) rfl ?_
      simp only [Act.put, List.drop_succ_cons, List.drop_zero, List.getElem_toArray, List.getElem_cons_zero, List.setIfInBounds_toArray, List.set_cons_succ, List.set_cons_zero, evV]
      go_wp2
      refine WpN.seq (WpN.of ?_)
      have hlt3 := HU.out.size
      go_wp2_with (at_builtin; refine wpList_append_own _ rfl _ _ 36 rfl w.heap.size 29 i0 (.agg #[.int .i64 0, .string ⟨#[]⟩]) 2 24 Try.underlying36 hi0 hi3 hi2 hi1 rfl (by decide) v k _ rfl ((hR3.alloc _).alloc _) ⟨w3.heap.size + 1, 0, none⟩ 1 1 [.int .i64 x.msg, .string x.data] rfl rfl ?c1 ?c2 ?c3 ?c4 ?c5 ?_)
      case c1 =>
        intro j u hj
        match j, hj with
        | 0, hj => simp at hj; subst hj; simp [Addr.add]
        | 1, hj => simp at hj; subst hj; simp [Addr.add]
      case c2 => intro u hu; simp at hu; rcases hu with rfl | rfl <;> rfl
      case c3 => unfold maxLen; omega
      case c4 => omega
      case c5 => simp; omega
      intro v' w4 hR4 hG4 _
      have hlt4 := hG4.size
      simp at hlt4
      have hU4 : Upd c (chaO cap L' s' (r' + 1)) w w4 := ((HU.out.alloc _).alloc _).grown hG4 hlt (fun k hk => (hR3.lt k hk).1)
      have hd4 : w4.heap[w3.heap.size]? = some (.cells #[.int .i64 x.msg, .string x.data] 29 (0, 0)) :=
        (hG4.block w3.heap.size (by simp; omega) (fun e => by have := hR3.lt _ e.symm; omega)).trans ((old_blk _ _ _ (by simp)).trans (new_blk _ _))
      have hq4 : w4.heap[q]? = some (queO c) := (hU4.other q hlq hqc).trans hq
      have hc4 := hU4.blk
      have q0 := cell_of hq4 0
      have d0 := cell_of hd4 0
      have d1 := cell_of hd4 1
      simp at q0 d0 d1
      have hsz : (L'.map evV).toArray.size < cap := by simpa using hlen'
      go_wp2
      refine WpN.region_draw (by kernel_rfl) (show AnyN _ _ _ 6 _ _ _ from ?_)
      repeat (any_goals (first
        | (refine AnyN.one 0 (by decide +kernel) ?_; refine OpN.value rfl rfl (by go_simp; first | rfl | exact ⟨rfl, rfl⟩) ?_)
        | (refine AnyN.two 0 4 (by decide +kernel) ?_ ?_ <;> refine OpN.value rfl rfl (by go_simp; first | rfl | exact ⟨rfl, rfl⟩) ?_)
        | (refine AnyN.two 1 4 (by decide +kernel) ?_ ?_ <;> refine OpN.value rfl rfl (by go_simp; first | rfl | exact ⟨rfl, rfl⟩) ?_)
        | (refine AnyN.two 2 4 (by decide +kernel) ?_ ?_ <;> refine OpN.value rfl rfl (by go_simp; first | rfl | exact ⟨rfl, rfl⟩) ?_)
        | (refine AnyN.two 3 4 (by decide +kernel) ?_ ?_ <;> refine OpN.value rfl rfl (by go_simp; first | rfl | exact ⟨rfl, rfl⟩) ?_)
        | (refine AnyN.one 1 (by decide +kernel) ?_; refine OpN.value rfl rfl (by go_simp; first | rfl | exact ⟨rfl, rfl⟩) ?_)
        | (refine AnyN.one 2 (by decide +kernel) ?_; refine OpN.value rfl rfl (by go_simp; first | rfl | exact ⟨rfl, rfl⟩) ?_)
        | (refine AnyN.one 3 (by decide +kernel) ?_; refine OpN.value rfl rfl (by go_simp; first | rfl | exact ⟨rfl, rfl⟩) ?_)
        | (refine AnyN.one 4 (by decide +kernel) ?_; refine OpN.value rfl rfl (by go_simp; first | rfl | exact ⟨rfl, rfl⟩) ?_)))
      all_goals
        refine AnyN.one 5 (by decide +kernel) ?_
        refine OpN.comm rfl (v := undef) (w1 := w4.drew.setChan c cap ((L'.map evV).toArray.push (evV x)) false (s' + 1) (r' + 1) false) (fun rest fb fk fcs hfk => ?_) ?_
        · exact step_lone_send_room (c := c) (cap := cap) (buf := (L'.map evV).toArray) (s := s') (r := r' + 1) (tm := false) (v := evV x) (z' := .tuple #[]) (w₁ := w4.drew) (stepG_comm rfl rfl hfk (by go_simp; rfl)) hc4 hsz
      all_goals
        have hUf : Upd c (chaO cap (l.drop (k + 1) ++ l.take (k + 1)) (s' + 1) (r' + 1)) w (w4.drew.setChan c cap ((L'.map evV).toArray.push (evV x)) false (s' + 1) (r' + 1) false) := by
          rw [← HL.out]
          exact hU4.drew.to (chaO_set (l' := L' ++ [x]) hU4.drew.blk _ (by simp))
        have hRf : (w4.drew.setChan c cap ((L'.map evV).toArray.push (evV x)) false (s' + 1) (r' + 1) false).ownsRow w.heap.size 29 2 v' (k + 1) (evCells (l.take (k + 1))) := by
          have e : evCells (l.take (k + 1)) = evCells (l.take k) ++ [.int .i64 x.msg, .string x.data] := by rw [htake]; simp [evCells]
          rw [e]
          exact ownsRow_of hR4 (fun g hg _ => heap_setChan_ne' _ _ _ _ _ _ _ _ _ (by omega))
        obtain ⟨wf, hwf⟩ : ∃ y, y = w4.drew.setChan c cap ((L'.map evV).toArray.push (evV x)) false (s' + 1) (r' + 1) false := ⟨_, rfl⟩
        rw [← hwf] at hUf hRf ⊢
        clear hwf
        simp only [AnyN, Act.put, List.getElem_toArray, List.getElem_cons_zero, List.getElem_cons_succ, List.setIfInBounds_toArray, List.set_cons_succ, List.set_cons_zero, Exit.inBlock, Exit.then]
        refine WpN.of ?_
        go_wp2
        have e1 : ((k : Int) + 1) = ((k + 1 : Nat) : Int) := by omega
        rw [e1]
        refine ⟨⟨k + 1, v', s' + 1, r' + 1, _, _, _, _, _, _, _, _, _, _, _, _, _, _, _, _, _, _, by omega, hUf, hRf, rfl⟩, ?_⟩
        simp [intOf]
        omega
    · obtain rfl : k = l.length := by omega
      refine WpN.seq (WpN.of ?_)
      go_wp2
      refine WpN.seq (WpN.of ?_)
      go_wp2
      refine WpN.of ?_
      go_wp2
      go_ret
      exact ⟨_, _, _, rfl, by simpa using hU, by simpa using hR⟩

theorem ownsRow_cases {w : World} {base : Nat} {e : TypeId} {size : Nat} {v : Value} {n : Nat} {xs : List Value} (h : w.ownsRow base e size v n xs) :
    (v = .slice none 0 0 ∧ n = 0) ∨ ∃ g cap, v = .slice (some ⟨g, 0, none⟩) n cap ∧ base ≤ g ∧ g < w.heap.size ∧ ∀ j, j < n * size → w.cell? ⟨g, j, none⟩ = xs[j]? := by
  obtain ⟨hl, ⟨h1, h2⟩ | ⟨g, cap, cur, hv, hg, hc, r⟩⟩ := id h
  · exact .inl ⟨h1, h2⟩
  · subst hv
    exact .inr ⟨g, cap, rfl, hg, lt_of_heap hc, fun j hj => h.cellAt j hj⟩
/-- Head and Take hand a delivery back that lies in a cell of their own. -/
theorem del_cells {w3 : World} {d : Nat} (h2 : w3.heap[d]? = some (.cells #[.int .i64 0, .string ⟨#[]⟩] 29 (0, 0))) (x : Ev) :
    ((w3.setCell ⟨d, 0, none⟩ (.int .i64 x.msg)).setCell ⟨d, 1, none⟩ (.string x.data)).cell? ⟨d, 0, none⟩ = some (.int .i64 x.msg) ∧
    ((w3.setCell ⟨d, 0, none⟩ (.int .i64 x.msg)).setCell ⟨d, 1, none⟩ (.string x.data)).cell? ⟨d, 1, none⟩ = some (.string x.data) :=
  have hb := setCell_blk (setCell_blk h2 0 (.int .i64 x.msg)) 1 (.string x.data)
  ⟨(cell_of hb 0).trans rfl, (cell_of hb 1).trans rfl⟩
/-- What a head is. -/
def headOf : List Ev → Ev × Bool
  | [] => (⟨0, ⟨#[]⟩⟩, false)
  | e :: _ => (e, true)
theorem que_head {w : World} {q c cap s r : Nat} {l : List Ev} (hq : w.heap[q]? = some (queO c)) (hc : w.heap[c]? = some (chaO cap l s r)) (hl : l.length ≤ cap) (h4 : cap ≤ 4) :
    Calls Try.prog 17 #[.pointer (some ⟨q, 0, none⟩)] w fun e w' => ∃ s' r', e = .returned (.tuple #[evV (headOf l).1, .bool (headOf l).2]) ∧ Upd c (chaO cap l s' r') w w' := by
  have hlt := lt_of_heap hc
  have hlq := lt_of_heap hq
  go_enter Try.func17, Try.ntmps17
  go_wp2_with fail
  have hlt2 : w.heap.size < (w.alloc (.cells #[.int .i64 0, .string ⟨#[]⟩] 29)).heap.size := by simp
  have hD := new_blk w (.cells #[.int .i64 0, .string ⟨#[]⟩] 29)
  have hq1 := (old_blk w (.cells #[.int .i64 0, .string ⟨#[]⟩] 29) q hlq).trans hq
  have hc1 := (old_blk w (.cells #[.int .i64 0, .string ⟨#[]⟩] 29) c hlt).trans hc
  have hU1 : Upd c (chaO cap l s r) w (w.alloc (.cells #[.int .i64 0, .string ⟨#[]⟩] 29)) := Upd.alloc _ (Upd.refl hc)
  refine (que_all0 hq1 hc1 hl h4).mono ?_
  rintro e w2 ⟨v, s', r', rfl, hU, hR⟩
  have hU2 : Upd c (chaO cap l s' r') w w2 := hU1.to hU
  have hD2 : w2.heap[w.heap.size]? = some (.cells #[.int .i64 0, .string ⟨#[]⟩] 29 (0, 0)) := (hU.other _ hlt2 (by omega)).trans hD
  have HU := Lib.hid hU2
  clear hU2 hU1 hU hD hq1 hc1
  have k0 := cell_of hD2 0
  have k1 := cell_of hD2 1
  have kf0 := free_of hD2 0
  have kf1 := free_of hD2 1
  have klt := lt_of_heap hD2
  simp at k0 k1
  rcases ownsRow_cases hR with ⟨rfl, h0⟩ | ⟨g, cp, rfl, hg, hg2, hcell⟩
  · have hln : l = [] := List.eq_nil_of_length_eq_zero h0
    subst hln
    clear hR
    go_wp2
    obtain ⟨r0, r1⟩ := del_cells hD2 ⟨0, ⟨#[]⟩⟩
    exact bodyPost_ret (v := .tuple #[.agg #[.int .i64 0, .string ⟨#[]⟩], .bool false]) (by (try simp at r0 r1); simp [results, Try.results17, go_sem, r0, r1]) rfl ⟨_, _, rfl, ((HU.out.setCell_else _ _ (by simp; omega) (by simp)).setCell_else _ _ (by simp; omega) (by simp))⟩
  rcases l with _ | ⟨x, l⟩
  · clear hR hcell
    go_wp2
    obtain ⟨r0, r1⟩ := del_cells hD2 ⟨0, ⟨#[]⟩⟩
    exact bodyPost_ret (v := .tuple #[.agg #[.int .i64 0, .string ⟨#[]⟩], .bool false]) (by (try simp at r0 r1); simp [results, Try.results17, go_sem, r0, r1]) rfl ⟨_, _, rfl, ((HU.out.setCell_else _ _ (by simp; omega) (by simp)).setCell_else _ _ (by simp; omega) (by simp))⟩
  · have g0 := hcell 0 (by simp)
    have g1 := hcell 1 (by simp; omega)
    simp [evCells] at g0 g1
    have hgd : g ≠ w.heap.size := by simp at hg; omega
    clear hR hcell hg
    go_wp2
    obtain ⟨r0, r1⟩ := del_cells hD2 x
    exact bodyPost_ret (v := .tuple #[.agg #[.int .i64 x.msg, .string (x.data)], .bool true]) (by (try simp at r0 r1); simp [results, Try.results17, go_sem, r0, r1]) rfl ⟨_, _, rfl, ((HU.out.setCell_else _ _ (by simp; omega) (by simp)).setCell_else _ _ (by simp; omega) (by simp))⟩
end Go.Proofs.Ytmbhgipoofllfaa
