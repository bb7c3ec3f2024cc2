/- The package object: Send. -/
import Derived.Test.YtmbhgipoofllfaaObj
import Derived.Test.YtmbhgipoofllfaaQueuePair
import Derived.BigRegion
namespace Go.Proofs.Ytmbhgipoofllfaa
set_option linter.unusedVariables false
set_option linter.unusedSimpArgs false
open Go.ChangeShapes Go.WideShapes Go.ChangeAt Go.RowKit Go.Deep
section
variable {w : World} {o : Nat} {m : Mat} {s1 s2 s3 : Value} {who : Int} {b1 b2 q : Nat} {T : TypeId}
set_option maxRecDepth 100000 in
theorem obj_send_none (h : w.heap[o]? = some (objO m s1 s2 s3 who b1 b2 q T)) (hr : RdL 3 msgC w s2 m.msgs) (k : Int) (hk : I64 k) (data : ByteArray) (hz : (thereE m k).2 = false) :
    Calls Try.prog 27 #[.pointer (some ⟨o, 0, none⟩), .int .i64 k, .string data] w fun e w' => e = .returned (.int .i64 145) ∧ Below w.heap.size w w' := by
  have hlo := lt_of_heap h
  have HZ := Lib.hid hz
  have HT := Lib.hid h
  clear hz
  go_enter Try.func27, Try.ntmps27
  go_wp2_with fail
  refine (obj_there h hr k hk).mono ?_
  rintro e w1 ⟨rfl, hB⟩
  obtain ⟨y, hy⟩ : ∃ y, (thereE m k).1 = y := ⟨_, rfl⟩
  rw [HZ.out, hy]
  clear hy h
  simp only [msgV]
  go_wp2_with fail
  go_quiet (fail)
  go_wp2
  go_ret
  exact ⟨rfl, below_drewN (hB.alloc hB.size _) _⟩
set_option maxRecDepth 100000 in
theorem obj_send_alien {y : Msg} (h : w.heap[o]? = some (objO m s1 s2 s3 who b1 b2 q T)) (hr : RdL 3 msgC w s2 m.msgs) (k : Int) (hk : I64 k) (data : ByteArray) (hz : thereE m k = (y, true)) (hw : (y.owner == who) = false) :
    Calls Try.prog 27 #[.pointer (some ⟨o, 0, none⟩), .int .i64 k, .string data] w fun e w' => e = .returned (.int .i64 145) ∧ Below w.heap.size w w' := by
  have hlo := lt_of_heap h
  have HZ := Lib.hid hz
  have HT := Lib.hid h
  clear hz
  have hw2 : (y.owner != who) = true := by simp [bne, hw]
  go_enter Try.func27, Try.ntmps27
  go_wp2_with fail
  refine (obj_there h hr k hk).mono ?_
  rintro e w1 ⟨rfl, hB⟩
  rw [HZ.out]
  clear h
  simp only [msgV]
  have h1 := (old_blk w1 (msgO y) o (Nat.lt_of_lt_of_le hlo hB.size)).trans ((hB.block o hlo).trans HT.out)
  obtain ⟨c9, c11, c12, c13, c14⟩ := obj_c h1
  obtain ⟨r0, r1, r2⟩ := msgO_c (new_blk w1 (msgO y))
  have hlo1 := lt_of_heap h1
  have hlm := lt_of_heap (new_blk w1 (msgO y))
  have HB := Lib.hid (hB.alloc hB.size (msgO y))
  clear h1 hB
  simp only [msgO] at c9 c11 c12 c13 c14 r0 r1 r2 hlo1 hlm
  go_wp2_with fail
  go_quiet (fail)
  go_wp2
  go_ret
  exact ⟨rfl, below_drewN HB.out _⟩
set_option maxRecDepth 100000 in
theorem obj_send_form {y : Msg} (h : w.heap[o]? = some (objO m s1 s2 s3 who b1 b2 q T)) (hr : RdL 3 msgC w s2 m.msgs) (k : Int) (hk : I64 k) (data : ByteArray) (hz : thereE m k = (y, true)) (hw : (y.owner == who) = true) (hd : 8 < data.size) :
    Calls Try.prog 27 #[.pointer (some ⟨o, 0, none⟩), .int .i64 k, .string data] w fun e w' => e = .returned (.int .i64 12) ∧ Below w.heap.size w w' := by
  have hlo := lt_of_heap h
  have HZ := Lib.hid hz
  have HT := Lib.hid h
  clear hz
  have hw2 : (y.owner != who) = false := by simp [bne, hw]
  go_enter Try.func27, Try.ntmps27
  go_wp2_with fail
  refine (obj_there h hr k hk).mono ?_
  rintro e w1 ⟨rfl, hB⟩
  rw [HZ.out]
  clear h
  simp only [msgV]
  have h1 := (old_blk w1 (msgO y) o (Nat.lt_of_lt_of_le hlo hB.size)).trans ((hB.block o hlo).trans HT.out)
  obtain ⟨c9, c11, c12, c13, c14⟩ := obj_c h1
  obtain ⟨r0, r1, r2⟩ := msgO_c (new_blk w1 (msgO y))
  have hlo1 := lt_of_heap h1
  have hlm := lt_of_heap (new_blk w1 (msgO y))
  have HB := Lib.hid (hB.alloc hB.size (msgO y))
  clear h1 hB
  simp only [msgO] at c9 c11 c12 c13 c14 r0 r1 r2 hlo1 hlm
  go_wp2_with fail
  go_quiet (fail)
  go_wp2
  all_goals first | (exfalso; omega) | (go_ret; exact ⟨rfl, below_drewN HB.out _⟩)
def PutP (c cap : Nat) (l : List Ev) (z : Int) (w : World) (e : Ending) (w' : World) : Prop := ∃ s' r', e = .returned (.int .i64 z) ∧ Upd c (chaO cap l s' r') w w'
set_option maxRecDepth 100000 in
theorem obj_send_event {y : Msg} (h : w.heap[o]? = some (objO m s1 s2 s3 who b1 b2 q T)) (hr : RdL 3 msgC w s2 m.msgs) (k : Int) (hk : I64 k) (data : ByteArray) (hz : thereE m k = (y, true)) (hw : (y.owner == who) = true) (hd : data.size ≤ 8) (he : y.ev = true) {c cap s r : Nat} {l l2 : List Ev} {z : Int} (hq : w.heap[q]? = some (queO c)) (hc : w.heap[c]? = some (chaO cap l s r)) (hl : l.length ≤ cap) (hzz : (if l.length < cap then 0 else 170) = z) (hl2 : putL cap l ⟨k, data⟩ = l2) :
    Calls Try.prog 27 #[.pointer (some ⟨o, 0, none⟩), .int .i64 k, .string data] w (PutP c cap l2 z w) := by
  have hlo := lt_of_heap h
  have HZ := Lib.hid hz
  have HT := Lib.hid h
  clear hz
  have hw2 : (y.owner != who) = false := by simp [bne, hw]
  obtain ⟨yi, yo, ye⟩ := y
  simp only at he hw hw2
  subst he
  have HQ := Lib.hid hq
  have HC := Lib.hid hc
  have hlq := lt_of_heap hq
  have hlc := lt_of_heap hc
  have HE := Lib.hid (And.intro hzz hl2)
  clear hq hc hzz hl2
  go_enter Try.func27, Try.ntmps27
  go_wp2_with fail
  refine (obj_there h hr k hk).mono ?_
  rintro e w1 ⟨rfl, hB⟩
  rw [HZ.out]
  clear h
  simp only [msgV]
  have h1 := (old_blk w1 (msgO ⟨yi, yo, true⟩) o (Nat.lt_of_lt_of_le hlo hB.size)).trans ((hB.block o hlo).trans HT.out)
  obtain ⟨c9, c11, c12, c13, c14⟩ := obj_c h1
  obtain ⟨r0, r1, r2⟩ := msgO_c (new_blk w1 (msgO ⟨yi, yo, true⟩))
  have hlo1 := lt_of_heap h1
  have hlm := lt_of_heap (new_blk w1 (msgO ⟨yi, yo, true⟩))
  have HB := Lib.hid (hB.alloc hB.size (msgO ⟨yi, yo, true⟩))
  clear h1 hB
  simp only [msgO] at c9 c11 c12 c13 c14 r0 r1 r2 hlo1 hlm
  go_wp2_with fail
  go_quiet (fail)
  go_wp2_with fail
  all_goals try (exfalso; omega)
  have HD := Lib.hid (below_drewN HB.out nq)
  refine (que_putZ ((HD.out.block q hlq).trans HQ.out) ((HD.out.block c hlc).trans HC.out) k data hl HE.out.1 HE.out.2).mono ?_
  rintro e w2 ⟨s', r', rfl, hU⟩
  have HU := Lib.hid (Upd.after HD.out hU)
  clear hU
  go_wp2
  go_ret
  exact ⟨s', r', rfl, HU.out⟩
def StateP (b1 : Nat) (w : World) (n : Nat) (g : Int → Option ByteArray) (e : Ending) (w' : World) : Prop := ∃ o', e = .returned (.int .i64 0) ∧ Upd b1 o' w w' ∧ MapO o' n g
set_option maxRecDepth 100000 in
theorem obj_send_state {y : Msg} (h : w.heap[o]? = some (objO m s1 s2 s3 who b1 b2 q T)) (hr : RdL 3 msgC w s2 m.msgs) (k : Int) (hk : I64 k) (data : ByteArray) (hz : thereE m k = (y, true)) (hw : (y.owner == who) = true) (hd : data.size ≤ 8) (he : y.ev = false) {n : Nat} {f : Int → Option ByteArray} {o1 : Obj} (hb : w.heap[b1]? = some o1) (hM : MapO o1 n f) (hn : n < maxLen) :
    Calls Try.prog 27 #[.pointer (some ⟨o, 0, none⟩), .int .i64 k, .string data] w (StateP b1 w (n + 1) (setF f k data)) := by
  have hlo := lt_of_heap h
  have HZ := Lib.hid hz
  have HT := Lib.hid h
  clear hz
  have hw2 : (y.owner != who) = false := by simp [bne, hw]
  obtain ⟨yi, yo, ye⟩ := y
  simp only at he hw hw2
  subst he
  have HBB := Lib.hid hb
  have hlb := lt_of_heap hb
  have HM := Lib.hid hM
  have HNN := Lib.hid hn
  clear hb hM hn
  go_enter Try.func27, Try.ntmps27
  go_wp2_with fail
  refine (obj_there h hr k hk).mono ?_
  rintro e w1 ⟨rfl, hB⟩
  rw [HZ.out]
  clear h
  simp only [msgV]
  have h1 := (old_blk w1 (msgO ⟨yi, yo, false⟩) o (Nat.lt_of_lt_of_le hlo hB.size)).trans ((hB.block o hlo).trans HT.out)
  obtain ⟨c9, c11, c12, c13, c14⟩ := obj_c h1
  obtain ⟨r0, r1, r2⟩ := msgO_c (new_blk w1 (msgO ⟨yi, yo, false⟩))
  have hlo1 := lt_of_heap h1
  have hlm := lt_of_heap (new_blk w1 (msgO ⟨yi, yo, false⟩))
  have HB := Lib.hid (hB.alloc hB.size (msgO ⟨yi, yo, false⟩))
  clear h1 hB
  simp only [msgO] at c9 c11 c12 c13 c14 r0 r1 r2 hlo1 hlm
  go_wp2_with fail
  go_quiet (fail)
  have HU1 := Lib.hid ((Upd.refl HBB.out).quiet hlb (below_drewN HB.out nq))
  obtain ⟨w2, o', hrun, hU, hM'⟩ := map_put HM.out HU1.out.blk HNN.out hk (s := data) (by unfold maxLen; omega)
  have HU := Lib.hid (HU1.out.to hU)
  have HM' := Lib.hid hM'
  clear hU hM'
  simp only [msgO] at hrun
  go_wp2
  all_goals first | (exfalso; omega) | (go_ret; exact ⟨o', rfl, HU.out, HM'.out⟩)
end
end Go.Proofs.Ytmbhgipoofllfaa
