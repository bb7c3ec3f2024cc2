/- The package object: Event, Sent. -/
import Derived.Test.YtmbhgipoofllfaaObjSend
namespace Go.Proofs.Ytmbhgipoofllfaa
set_option linter.unusedVariables false
set_option linter.unusedSimpArgs false
open Go.ChangeShapes Go.WideShapes Go.ChangeAt Go.RowKit Go.Deep
section
variable {w : World} {o : Nat} {m : Mat} {s1 s2 s3 : Value} {who : Int} {b1 b2 q : Nat} {T : TypeId}
def HeadP (c cap : Nat) (l : List Ev) (x : Ev) (z : Bool) (w : World) (e : Ending) (w' : World) : Prop := ∃ s' r', e = .returned (.tuple #[evV x, .bool z]) ∧ Upd c (chaO cap l s' r') w w'
def SentP (c cap : Nat) (l : List Ev) (w : World) (e : Ending) (w' : World) : Prop := ∃ v s' r', e = .returned v ∧ Upd c (chaO cap l s' r') w w'
theorem obj_sent_none (h : w.heap[o]? = some (objO m s1 s2 s3 who b1 b2 q T)) (hr : RdL 3 msgC w s2 m.msgs) (k : Int) (hk : I64 k) (hz : (thereE m k).2 = false) :
    Calls Try.prog 29 #[.pointer (some ⟨o, 0, none⟩), .int .i64 k] w fun e w' => (∃ v, e = .returned v) ∧ Below w.heap.size w w' := by
  have hlo := lt_of_heap h
  have HZ := Lib.hid hz
  clear hz
  go_enter Try.func29, Try.ntmps29
  go_wp2_with fail
  refine (obj_there h hr k hk).mono ?_
  rintro e w1 ⟨rfl, hB⟩
  obtain ⟨y, hy⟩ : ∃ y, (thereE m k).1 = y := ⟨_, rfl⟩
  rw [HZ.out, hy]
  clear hy h
  simp only [msgV]
  have HB := Lib.hid (hB.alloc hB.size (msgO y))
  clear hB
  go_wp2_with fail
  try go_quiet (fail)
  go_wp2
  first | go_end0 | (refine bodyPost_ret (results_none rfl _ _ _) rfl ?_)
  first | exact ⟨⟨_, rfl⟩, HB.out⟩ | exact ⟨⟨_, rfl⟩, below_drewN HB.out _⟩
theorem obj_sent_state {y : Msg} (h : w.heap[o]? = some (objO m s1 s2 s3 who b1 b2 q T)) (hr : RdL 3 msgC w s2 m.msgs) (k : Int) (hk : I64 k) (hz : thereE m k = (y, true)) (he : y.ev = false) :
    Calls Try.prog 29 #[.pointer (some ⟨o, 0, none⟩), .int .i64 k] w fun e w' => (∃ v, e = .returned v) ∧ Below w.heap.size w w' := by
  have hlo := lt_of_heap h
  obtain ⟨yi, yo, ye⟩ := y
  simp only at he
  subst he
  have HZ := Lib.hid hz
  clear hz
  go_enter Try.func29, Try.ntmps29
  go_wp2_with fail
  refine (obj_there h hr k hk).mono ?_
  rintro e w1 ⟨rfl, hB⟩
  rw [HZ.out]
  clear h
  simp only [msgV]
  obtain ⟨r0, r1, r2⟩ := msgO_c (new_blk w1 (msgO ⟨yi, yo, false⟩))
  have hlm := lt_of_heap (new_blk w1 (msgO ⟨yi, yo, false⟩))
  have HB := Lib.hid (hB.alloc hB.size (msgO ⟨yi, yo, false⟩))
  clear hB
  simp only [msgO] at r0 r1 r2 hlm
  go_wp2_with fail
  try go_quiet (fail)
  go_wp2
  first | go_end0 | (refine bodyPost_ret (results_none rfl _ _ _) rfl ?_)
  first | exact ⟨⟨_, rfl⟩, HB.out⟩ | exact ⟨⟨_, rfl⟩, below_drewN HB.out _⟩
set_option maxRecDepth 100000 in
theorem obj_sent_empty {yi yo : Int} {c cap s r : Nat} {x : Ev} {l : List Ev} (h : w.heap[o]? = some (objO m s1 s2 s3 who b1 b2 q T)) (hr : RdL 3 msgC w s2 m.msgs) (k : Int) (hk : I64 k) (hz : thereE m k = (⟨yi, yo, true⟩, true)) (hq : w.heap[q]? = some (queO c)) (hc : w.heap[c]? = some (chaO cap [] s r)) (hl : ([] : List Ev).length ≤ cap) (h4 : cap ≤ 4) :
    Calls Try.prog 29 #[.pointer (some ⟨o, 0, none⟩), .int .i64 k] w (SentP c cap [] w) := by
  have hlo := lt_of_heap h
  have HT := Lib.hid h
  have HZ := Lib.hid hz
  have HQ := Lib.hid hq
  have HC := Lib.hid hc
  have hlq := lt_of_heap hq
  have hlc := lt_of_heap hc
  have HL := Lib.hid hl
  clear hz hq hc hl
  go_enter Try.func29, Try.ntmps29
  go_wp2_with fail
  refine (obj_there h hr k hk).mono ?_
  rintro e w1 ⟨rfl, hB⟩
  rw [HZ.out]
  clear h
  simp only [msgV]
  have h1 := (old_blk w1 (msgO ⟨yi, yo, true⟩) o (Nat.lt_of_lt_of_le hlo hB.size)).trans ((hB.block o hlo).trans HT.out)
  obtain ⟨c9, c11, c12, c13, c14⟩ := obj_c h1
  obtain ⟨r0, r1, r2⟩ := msgO_c (new_blk w1 (msgO ⟨yi, yo, true⟩))
  have hlm := lt_of_heap (new_blk w1 (msgO ⟨yi, yo, true⟩))
  have hlo1 := lt_of_heap h1
  have HB := Lib.hid (hB.alloc hB.size (msgO ⟨yi, yo, true⟩))
  have HT1 := Lib.hid h1
  clear hB h1
  simp only [msgO] at c9 c11 c12 c13 c14 r0 r1 r2 hlm hlo1
  go_wp2_with fail
  have HD := Lib.hid HB.out
  refine (que_head ((HD.out.block q hlq).trans HQ.out) ((HD.out.block c hlc).trans HC.out) HL.out h4).mono ?_
  rintro e w2 ⟨s', r', rfl, hU⟩
  have HU := Lib.hid (Upd.after HD.out hU)
  have hsz := HU.out.size
  simp only [headOf, evV]
  clear hU hsz
  clear c9 c11 c12 c13 c14 r0 r1 r2 hlm hlo1
  go_wp2
  refine bodyPost_end (results_none rfl _ _ _) rfl ?_
  exact ⟨_, s', r', rfl, HU.out.alloc _⟩
set_option maxRecDepth 100000 in
theorem obj_sent_miss {yi yo : Int} {c cap s r : Nat} {x : Ev} {l : List Ev} (h : w.heap[o]? = some (objO m s1 s2 s3 who b1 b2 q T)) (hr : RdL 3 msgC w s2 m.msgs) (k : Int) (hk : I64 k) (hz : thereE m k = (⟨yi, yo, true⟩, true)) (hq : w.heap[q]? = some (queO c)) (hc : w.heap[c]? = some (chaO cap (x :: l) s r)) (hl : ((x :: l) : List Ev).length ≤ cap) (h4 : cap ≤ 4) (hm : (x.msg == k) = false) :
    Calls Try.prog 29 #[.pointer (some ⟨o, 0, none⟩), .int .i64 k] w (SentP c cap (x :: l) w) := by
  have hlo := lt_of_heap h
  have HT := Lib.hid h
  have HZ := Lib.hid hz
  have HQ := Lib.hid hq
  have HC := Lib.hid hc
  have hlq := lt_of_heap hq
  have hlc := lt_of_heap hc
  have HL := Lib.hid hl
  clear hz hq hc hl
  go_enter Try.func29, Try.ntmps29
  go_wp2_with fail
  refine (obj_there h hr k hk).mono ?_
  rintro e w1 ⟨rfl, hB⟩
  rw [HZ.out]
  clear h
  simp only [msgV]
  have h1 := (old_blk w1 (msgO ⟨yi, yo, true⟩) o (Nat.lt_of_lt_of_le hlo hB.size)).trans ((hB.block o hlo).trans HT.out)
  obtain ⟨c9, c11, c12, c13, c14⟩ := obj_c h1
  obtain ⟨r0, r1, r2⟩ := msgO_c (new_blk w1 (msgO ⟨yi, yo, true⟩))
  have hlm := lt_of_heap (new_blk w1 (msgO ⟨yi, yo, true⟩))
  have hlo1 := lt_of_heap h1
  have HB := Lib.hid (hB.alloc hB.size (msgO ⟨yi, yo, true⟩))
  have HT1 := Lib.hid h1
  clear hB h1
  simp only [msgO] at c9 c11 c12 c13 c14 r0 r1 r2 hlm hlo1
  go_wp2_with fail
  have HD := Lib.hid HB.out
  refine (que_head ((HD.out.block q hlq).trans HQ.out) ((HD.out.block c hlc).trans HC.out) HL.out h4).mono ?_
  rintro e w2 ⟨s', r', rfl, hU⟩
  have HU := Lib.hid (Upd.after HD.out hU)
  have hsz := HU.out.size
  simp only [headOf, evV]
  clear hU hsz
  clear c9 c11 c12 c13 c14 r0 r1 r2 hlm hlo1
  have hd := new_blk w2 (.cells #[.int .i64 x.msg, .string x.data] 29)
  have g0 := cell_of hd 0
  have g1 := cell_of hd 1
  have hld := lt_of_heap hd
  simp at g0 g1
  clear hd
  go_wp2_with fail
  try go_quiet (fail)
  go_wp2
  refine bodyPost_end (results_none rfl _ _ _) rfl ?_
  first | exact ⟨_, s', r', rfl, HU.out.alloc _⟩ | exact ⟨_, s', r', rfl, (HU.out.alloc _).drewN _⟩
set_option maxRecDepth 100000 in
theorem obj_sent_hit {yi yo : Int} {c cap s r : Nat} {x : Ev} {d : ByteArray} {l : List Ev} (h : w.heap[o]? = some (objO m s1 s2 s3 who b1 b2 q T)) (hr : RdL 3 msgC w s2 m.msgs) (k : Int) (hk : I64 k) (hz : thereE m k = (⟨yi, yo, true⟩, true)) (hq : w.heap[q]? = some (queO c)) (hc : w.heap[c]? = some (chaO cap (⟨k, d⟩ :: l) s r)) (hl : ((⟨k, d⟩ :: l) : List Ev).length ≤ cap) (h4 : cap ≤ 4) :
    Calls Try.prog 29 #[.pointer (some ⟨o, 0, none⟩), .int .i64 k] w (SentP c cap l w) := by
  have hlo := lt_of_heap h
  have HT := Lib.hid h
  have HZ := Lib.hid hz
  have HQ := Lib.hid hq
  have HC := Lib.hid hc
  have hlq := lt_of_heap hq
  have hlc := lt_of_heap hc
  have HL := Lib.hid hl
  clear hz hq hc hl
  have hne : o ≠ c ∧ q ≠ c := by
    refine ⟨?_, ?_⟩
    · rintro rfl
      have := HT.out.symm.trans HC.out
      simp [objO, chaO] at this
    · rintro rfl
      have := HQ.out.symm.trans HC.out
      simp [queO, chaO] at this
  have HNE := Lib.hid hne
  clear hne
  go_enter Try.func29, Try.ntmps29
  go_wp2_with fail
  refine (obj_there h hr k hk).mono ?_
  rintro e w1 ⟨rfl, hB⟩
  rw [HZ.out]
  clear h
  simp only [msgV]
  have h1 := (old_blk w1 (msgO ⟨yi, yo, true⟩) o (Nat.lt_of_lt_of_le hlo hB.size)).trans ((hB.block o hlo).trans HT.out)
  obtain ⟨c9, c11, c12, c13, c14⟩ := obj_c h1
  obtain ⟨r0, r1, r2⟩ := msgO_c (new_blk w1 (msgO ⟨yi, yo, true⟩))
  have hlm := lt_of_heap (new_blk w1 (msgO ⟨yi, yo, true⟩))
  have hlo1 := lt_of_heap h1
  have HB := Lib.hid (hB.alloc hB.size (msgO ⟨yi, yo, true⟩))
  have HT1 := Lib.hid h1
  clear hB h1
  simp only [msgO] at c9 c11 c12 c13 c14 r0 r1 r2 hlm hlo1
  go_wp2_with fail
  have HD := Lib.hid HB.out
  refine (que_head ((HD.out.block q hlq).trans HQ.out) ((HD.out.block c hlc).trans HC.out) HL.out h4).mono ?_
  rintro e w2 ⟨s', r', rfl, hU⟩
  have HU := Lib.hid (Upd.after HD.out hU)
  have hsz := HU.out.size
  simp only [headOf, evV]
  clear hsz
  clear c9 c11 c12 c13 c14 r0 r1 r2 hlm hlo1
  have hU3 := hU.alloc (.cells #[.int .i64 k, .string d] 29)
  have h3 := (hU3.other o (lt_of_heap HT1.out) HNE.out.1).trans HT1.out
  have hq3 := (hU3.other q (lt_of_heap ((HD.out.block q hlq).trans HQ.out)) HNE.out.2).trans ((HD.out.block q hlq).trans HQ.out)
  have HQ3 := Lib.hid hq3
  have HC3 := Lib.hid hU3.blk
  obtain ⟨c9, c11, c12, c13, c14⟩ := obj_c h3
  have hlo3 := lt_of_heap h3
  have HU3 := Lib.hid (HU.out.alloc (.cells #[.int .i64 k, .string d] 29))
  have hd := new_blk w2 (.cells #[.int .i64 k, .string d] 29)
  have g0 := cell_of hd 0
  have g1 := cell_of hd 1
  have hld := lt_of_heap hd
  simp at g0 g1
  clear hd h3 hq3 hU hU3
  go_wp2_with fail
  try go_quiet (fail)
  go_wp2_with fail
  first
    | refine (que_take' HQ3.out HC3.out).mono ?_
    | refine (que_take' (q := q) (c := c) (by simpa using HQ3.out) (by simpa using HC3.out)).mono ?_
  rintro e w4 ⟨s4, r4, rfl, hU4⟩
  have HU4 := Lib.hid (HU3.out.to (by simpa using hU4))
  clear hU4
  go_wp2
  refine bodyPost_end (results_none rfl _ _ _) rfl ?_
  exact ⟨_, s4, r4, rfl, HU4.out⟩
end
end Go.Proofs.Ytmbhgipoofllfaa
