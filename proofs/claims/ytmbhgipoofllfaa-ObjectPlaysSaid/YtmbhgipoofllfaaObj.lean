/- The package object: each function's contract over the node's block, its queue, its two maps. -/
import Derived.Test.YtmbhgipoofllfaaMapW
import Derived.Test.YtmbhgipoofllfaaQueueCopies
namespace Go.Proofs.Ytmbhgipoofllfaa
set_option linter.unusedVariables false
set_option linter.unusedSimpArgs false
open Go.ChangeShapes Go.WideShapes Go.ChangeAt Go.RowKit Go.Deep

/-- A node's places: the block itself. -/
def objO (m : Mat) (s1 s2 s3 : Value) (who : Int) (b1 b2 q : Nat) (T : TypeId) : Obj :=
  .cells #[.int .i64 m.level, .int .i64 m.nodes, .int .i64 m.cycles, .int .i64 m.length, .int .i64 m.enable, .int .i64 m.unit, .int .i64 m.init, .int .u32 m.ref, s1, s2, s3, .int .i64 who, .map (some b1), .map (some b2), .pointer (some ⟨q, 0, none⟩)] T (0, 0)
def msgO (x : Msg) : Obj := .cells #[.int .u32 x.id, .int .i64 x.owner, .bool x.ev] 69 (0, 0)
def msgV (x : Msg) : Value := .agg #[.int .u32 x.id, .int .i64 x.owner, .bool x.ev]
def noMsg : Msg := ⟨0, 0, false⟩
def thereE (m : Mat) (k : Int) : Msg × Bool := if k < 0 ∨ (m.msgs.length : Int) ≤ k then (noMsg, false) else ((m.msgs[k.toNat]?.getD noMsg), true)
theorem obj_c {w : World} {o : Nat} {m : Mat} {s1 s2 s3 : Value} {who : Int} {b1 b2 q : Nat} {T : TypeId} (h : w.heap[o]? = some (objO m s1 s2 s3 who b1 b2 q T)) :
    w.cell? ⟨o, 9, none⟩ = some s2 ∧ w.cell? ⟨o, 11, none⟩ = some (.int .i64 who) ∧ w.cell? ⟨o, 12, none⟩ = some (.map (some b1)) ∧ w.cell? ⟨o, 13, none⟩ = some (.map (some b2)) ∧ w.cell? ⟨o, 14, none⟩ = some (.pointer (some ⟨q, 0, none⟩)) :=
  ⟨cell_of h 9, cell_of h 11, cell_of h 12, cell_of h 13, cell_of h 14⟩
theorem msgO_c {w : World} {b : Nat} {x : Msg} (h : w.heap[b]? = some (msgO x)) : w.cell? ⟨b, 0, none⟩ = some (.int .u32 x.id) ∧ w.cell? ⟨b, 1, none⟩ = some (.int .i64 x.owner) ∧ w.cell? ⟨b, 2, none⟩ = some (.bool x.ev) :=
  ⟨cell_of h 0, cell_of h 1, cell_of h 2⟩

section
variable {w : World} {o : Nat} {m : Mat} {s1 s2 s3 : Value} {who : Int} {b1 b2 q : Nat} {T : TypeId}
theorem obj_there (h : w.heap[o]? = some (objO m s1 s2 s3 who b1 b2 q T)) (hr : RdL 3 msgC w s2 m.msgs) (k : Int) (hk : I64 k) :
    Calls Try.prog 42 #[.pointer (some ⟨o, 0, none⟩), .int .i64 k] w fun e w' => e = .returned (.tuple #[msgV (thereE m k).1, .bool (thereE m k).2]) ∧ Below w.heap.size w w' := by
  obtain ⟨c9, _, _, _, _⟩ := obj_c h
  have hlo := lt_of_heap h
  have hb := hk.bounds
  obtain ⟨a2, p2, e2, r2⟩ := hr.shape
  subst e2
  have l2 := r2.len.2
  unfold maxLen at l2
  have R2 := Lib.hid r2
  clear r2 hr
  by_cases h1 : k < 0 ∨ (m.msgs.length : Int) ≤ k
  · have HF := Lib.hid (show thereE m k = (noMsg, false) by unfold thereE; rw [if_pos h1])
    have nk := new_blk w (msgO noMsg)
    obtain ⟨r0, r1, r2⟩ := msgO_c nk
    clear nk
    rcases h1 with h1 | h1
    all_goals
      go_enter Try.func42, Try.ntmps42
      go_wp2
      all_goals first
        | (exfalso; omega)
        | (rw [HF.out]; refine bodyPost_ret (v := .tuple #[msgV noMsg, .bool false]) ?_ rfl ⟨rfl, (Below.refl _ _).alloc (Nat.le_refl _) _⟩; simp only [results, Try.results42]; simp [go_sem, msgV, noMsg])
  · have h2 : 0 ≤ k ∧ k < m.msgs.length := by omega
    obtain ⟨j, rfl⟩ := Int.eq_ofNat_of_zero_le h2.1
    obtain ⟨y, b, off, hy, hm, rfl, hbb, hc⟩ := R2.out.at_ j (by omega)
    have e0 := hc 0 _ rfl
    have e1 := hc 1 _ rfl
    have e2 := hc 2 _ rfl
    simp only [Nat.add_zero, ← Nat.add_assoc] at e0 e1 e2
    have HF := Lib.hid (show thereE m (j : Int) = (y, true) by unfold thereE; rw [if_neg h1]; simp [hy])
    clear hc hy h1
    have k1 : (j : Int) < m.msgs.length := h2.2
    go_enter Try.func42, Try.ntmps42
    go_wp2
    all_goals first
      | (exfalso; omega)
      | (rw [HF.out]; refine bodyPost_ret (v := .tuple #[.agg #[.int .u32 y.id, .int .i64 y.owner, .bool y.ev], .bool true]) ?_ rfl ⟨rfl, ?_⟩; (simp only [results, Try.results42]; simp [go_sem]); exact (Below.refl _ _).alloc (Nat.le_refl _) _)
theorem obj_state {n : Nat} {f : Int → Option ByteArray} {o1 : Obj} (h : w.heap[o]? = some (objO m s1 s2 s3 who b1 b2 q T)) (hb : w.heap[b1]? = some o1) (hM : MapO o1 n f) (k : Int) (hk : I64 k) :
    Calls Try.prog 28 #[.pointer (some ⟨o, 0, none⟩), .int .i64 k] w fun e w' => e = .returned (.tuple #[.string ((f k).getD ⟨#[]⟩), .bool (f k).isSome]) ∧ w = w' := by
  obtain ⟨c9, c11, c12, c13, c14⟩ := obj_c h
  have hl := map_look hM hb hk
  go_enter Try.func28, Try.ntmps28
  go_wp2
  go_ret2
  exact ⟨rfl, rfl⟩
theorem obj_read {n : Nat} {f : Int → Option ByteArray} {o2 : Obj} (h : w.heap[o]? = some (objO m s1 s2 s3 who b1 b2 q T)) (hb : w.heap[b2]? = some o2) (hM : MapO o2 n f) (k : Int) (hk : I64 k) :
    Calls Try.prog 32 #[.pointer (some ⟨o, 0, none⟩), .int .i64 k] w fun e w' => e = .returned (.tuple #[.string ((f k).getD ⟨#[]⟩), .bool (f k).isSome]) ∧ w = w' := by
  obtain ⟨c9, c11, c12, c13, c14⟩ := obj_c h
  have hl := map_look hM hb hk
  go_enter Try.func32, Try.ntmps32
  go_wp2
  go_ret2
  exact ⟨rfl, rfl⟩
theorem obj_waiting {c cap s r : Nat} {l : List Ev} (h : w.heap[o]? = some (objO m s1 s2 s3 who b1 b2 q T)) (hq : w.heap[q]? = some (queO c)) (hc : w.heap[c]? = some (chaO cap l s r)) :
    Calls Try.prog 30 #[.pointer (some ⟨o, 0, none⟩)] w fun e w' => e = .returned (.int .i64 l.length) ∧ w = w' := by
  obtain ⟨c9, c11, c12, c13, c14⟩ := obj_c h
  go_enter Try.func30, Try.ntmps30
  go_wp2_with fail
  refine (que_len hq hc).mono ?_
  rintro e w' ⟨rfl, rfl⟩
  go_wp2
  go_ret
  exact ⟨rfl, rfl⟩
/-- What a note of what came does to the map. -/
def setF (f : Int → Option ByteArray) (k : Int) (s : ByteArray) : Int → Option ByteArray := fun j => if j = k then some s else f j
def GotP (b2 : Nat) (w : World) (n : Nat) (g : Int → Option ByteArray) (e : Ending) (w' : World) : Prop := ∃ v o', e = .returned v ∧ Upd b2 o' w w' ∧ MapO o' n g
theorem obj_got_no {n : Nat} {f : Int → Option ByteArray} {o2 : Obj} (h : w.heap[o]? = some (objO m s1 s2 s3 who b1 b2 q T)) (hr : RdL 3 msgC w s2 m.msgs) (hb : w.heap[b2]? = some o2) (hM : MapO o2 n f) (k : Int) (hk : I64 k) (data : ByteArray) (hz : (thereE m k).2 = false) :
    Calls Try.prog 31 #[.pointer (some ⟨o, 0, none⟩), .int .i64 k, .string data] w (GotP b2 w n f) := by
  have hlo := lt_of_heap h
  have HB := Lib.hid hb
  have hlb := lt_of_heap hb
  have HM := Lib.hid hM
  have HZ := Lib.hid hz
  clear hb hM hz
  go_enter Try.func31, Try.ntmps31
  go_wp2_with fail
  refine (obj_there h hr k hk).mono ?_
  rintro e w1 ⟨rfl, hB⟩
  obtain ⟨y, hy⟩ : ∃ y, (thereE m k).1 = y := ⟨_, rfl⟩
  rw [HZ.out, hy]
  clear hy
  simp only [msgV]
  go_wp2
  go_end0
  exact ⟨_, o2, rfl, ((Upd.refl HB.out).quiet hlb hB).alloc _, HM.out⟩
theorem obj_got_yes {n : Nat} {f : Int → Option ByteArray} {o2 : Obj} (h : w.heap[o]? = some (objO m s1 s2 s3 who b1 b2 q T)) (hr : RdL 3 msgC w s2 m.msgs) (hb : w.heap[b2]? = some o2) (hM : MapO o2 n f) (hn : n < maxLen) (k : Int) (hk : I64 k) (data : ByteArray) (hd : data.size ≤ maxLen) (hz : (thereE m k).2 = true) :
    Calls Try.prog 31 #[.pointer (some ⟨o, 0, none⟩), .int .i64 k, .string data] w (GotP b2 w (n + 1) (setF f k data)) := by
  have hlo := lt_of_heap h
  have HB := Lib.hid hb
  have hlb := lt_of_heap hb
  have HM := Lib.hid hM
  have HZ := Lib.hid hz
  have HT := Lib.hid h
  have HNN := Lib.hid hn
  have HDD := Lib.hid hd
  clear hb hM hz hn hd
  go_enter Try.func31, Try.ntmps31
  go_wp2_with fail
  refine (obj_there h hr k hk).mono ?_
  rintro e w1 ⟨rfl, hB⟩
  obtain ⟨y, hy⟩ : ∃ y, (thereE m k).1 = y := ⟨_, rfl⟩
  rw [HZ.out, hy]
  clear hy
  simp only [msgV]
  have hU1 := ((Upd.refl HB.out).quiet hlb hB).alloc (msgO y)
  have h1 := (old_blk w1 (msgO y) o (Nat.lt_of_lt_of_le hlo hB.size)).trans ((hB.block o hlo).trans HT.out)
  obtain ⟨w2, o', hrun, hU, hM'⟩ := map_put HM.out hU1.blk HNN.out hk HDD.out
  have HU := Lib.hid (hU1.to hU)
  have HM' := Lib.hid hM'
  obtain ⟨c9, c11, c12, c13, c14⟩ := obj_c h1
  have hlo1 := lt_of_heap h1
  clear h hU1 h1 hU hM'
  simp only [msgO] at c9 c11 c12 c13 c14 hrun hlo1
  go_wp2
  go_end0
  exact ⟨_, o', rfl, HU.out, HM'.out⟩
end
end Go.Proofs.Ytmbhgipoofllfaa
