/- Small laws over any program, used by the walks of this seat: a copy of one cell; the relation 'Upd' (one block turned, new blocks laid). -/
import Derived.WalkKit
import Derived.WalkSpells
import Derived.Laws.CopyRow
import Derived.BigQuiet
import Derived.Deep.QuietTactic
import Derived.Laws.StructEq
namespace Go.Proofs.Ythkhlcigegbpfaa
set_option linter.unusedVariables false
set_option linter.unusedSimpArgs false
open Go.RowKit

/-- copy of one cell out of a one-element slice. -/
theorem copy_one {P : Program} {dT sT E : TypeId} (hu : P.underlying dT = some (.slice E)) (hz : (P.info? E).map (·.size) = some 1)
    (w : World) (ty : TypeId) (b off b' off' dl dc : Nat) (v old : Value) (hl : 1 ≤ dl) (hs : w.cell? ⟨b', off', none⟩ = some v) (hd : w.cell? ⟨b, off, none⟩ = some old)
    (hf : w.frozen? ⟨b, off, none⟩ = false) (h1 : v.oneCell' = true) :
    (Builtin.copy_ #[dT, sT] ty #[.slice (some ⟨b, off, none⟩) dl dc, .slice (some ⟨b', off', none⟩) 1 1]).run P w = .ok (goInt 1) (w.setCell ⟨b, off, none⟩ v) := by
  have hl1 := run_loadCells_list (P := P) w ⟨b', off', none⟩ [v] (fun j u hj => by
    rcases j with _ | j
    · simp at hj; subst hj; simpa [Addr.add] using hs
    · simp at hj)
  cases hq : P.info? E with
  | none => simp [hq] at hz
  | some i =>
    have hi : i.size = 1 := by simpa [hq] using hz
    have hm : Nat.min 1 dl = 1 := Nat.min_eq_left hl
    have hst := run_store P w ⟨b, off, none⟩ v .plain h1
    simp [hd, hf] at hst
    have ha : (⟨b, off, none⟩ : Addr).add 0 = ⟨b, off, none⟩ := by simp [Addr.add]
    simp at hl1
    simp [Builtin.copy_, run_underlying hu, Builtin.lenOf, Builtin.firstCells, sizeOf, typeInfo, hq, hi, hm, hl1, storeCells, ha, hst]

/-- The same, in a form whose premises the walk's simp can pay. -/
theorem copy_one' {P : Program} {dT sT E : TypeId} (hu : P.underlying dT = some (.slice E)) (hz : (P.info? E).map (·.size) = some 1)
    (w : World) (ty : TypeId) (b off b' off' dl dc : Nat) (hl : 1 ≤ dl) (hs : (w.cell? ⟨b', off', none⟩).isSome = true) (hd : (w.cell? ⟨b, off, none⟩).isSome = true)
    (hf : w.frozen? ⟨b, off, none⟩ = false) (h1 : ((w.cell? ⟨b', off', none⟩).getD undef).oneCell' = true) :
    (Builtin.copy_ #[dT, sT] ty #[.slice (some ⟨b, off, none⟩) dl dc, .slice (some ⟨b', off', none⟩) 1 1]).run P w = .ok (goInt 1) (w.setCell ⟨b, off, none⟩ ((w.cell? ⟨b', off', none⟩).getD undef)) := by
  obtain ⟨v, hv⟩ := Option.isSome_iff_exists.1 hs
  obtain ⟨old, ho⟩ := Option.isSome_iff_exists.1 hd
  rw [hv] at h1 ⊢
  exact copy_one hu hz w ty b off b' off' dl dc v old hl hv ho hf h1

/-- Block b holds o now; new blocks may have been laid; nothing else has turned. -/
structure Upd (b : Nat) (o : Obj) (w w' : World) : Prop where
  os : w'.os = w.os
  tape : w'.tape = w.tape
  output : w'.output = w.output
  size : w.heap.size ≤ w'.heap.size
  blk : w'.heap[b]? = some o
  other : ∀ k, k < w.heap.size → k ≠ b → w'.heap[k]? = w.heap[k]?

theorem Upd.below {B b : Nat} {o : Obj} {w0 w w' : World} (h : Upd b o w w') (hw : Below B w0 w) (hB : B ≤ b) (hs : B ≤ w.heap.size) : Below B w0 w' :=
  hw.trans ⟨h.os, h.tape, h.output, h.size, fun k hk => h.other k (by omega) (by omega)⟩
theorem Upd.to {b : Nat} {o o' : Obj} {w w1 w2 : World} (h : Upd b o w w1) (h' : Upd b o' w1 w2) : Upd b o' w w2 :=
  ⟨h'.os.trans h.os, h'.tape.trans h.tape, h'.output.trans h.output, Nat.le_trans h.size h'.size, h'.blk, fun k hk hn => (h'.other k (Nat.lt_of_lt_of_le hk h.size) hn).trans (h.other k hk hn)⟩
theorem Upd.quiet {b : Nat} {o : Obj} {w w1 w2 : World} (h : Upd b o w w1) (hb : b < w.heap.size) (h' : Below w1.heap.size w1 w2) : Upd b o w w2 :=
  ⟨h'.os.trans h.os, h'.tape.trans h.tape, h'.output.trans h.output, Nat.le_trans h.size h'.size, (h'.block b (Nat.lt_of_lt_of_le hb h.size)).trans h.blk, fun k hk hn => (h'.block k (Nat.lt_of_lt_of_le hk h.size)).trans (h.other k hk hn)⟩
theorem Upd.after {b : Nat} {o : Obj} {w w1 w2 : World} (h : Below w.heap.size w w1) (h' : Upd b o w1 w2) : Upd b o w w2 :=
  ⟨h'.os.trans h.os, h'.tape.trans h.tape, h'.output.trans h.output, Nat.le_trans h.size h'.size, h'.blk, fun k hk hn => (h'.other k (Nat.lt_of_lt_of_le hk h.size) hn).trans (h.block k hk)⟩

theorem lt_of_heap {w : World} {b : Nat} {o : Obj} (h : w.heap[b]? = some o) : b < w.heap.size := (Array.getElem?_eq_some_iff.1 h).1
theorem cell_of {w : World} {b : Nat} {xs : Array Value} {t : TypeId} {fr : Nat × Nat} (h : w.heap[b]? = some (.cells xs t fr)) (i : Nat) : w.cell? ⟨b, i, none⟩ = xs[i]? := by
  simp [World.cell?, h]
theorem free_of {w : World} {b : Nat} {xs : Array Value} {t : TypeId} (h : w.heap[b]? = some (.cells xs t (0, 0))) (i : Nat) : w.frozen? ⟨b, i, none⟩ = false := by
  simp [World.frozen?, h]
theorem setCell_blk {w : World} {b : Nat} {xs : Array Value} {t : TypeId} {fr : Nat × Nat} (h : w.heap[b]? = some (.cells xs t fr)) (i : Nat) (v : Value) :
    (w.setCell ⟨b, i, none⟩ v).heap[b]? = some (.cells (xs.setIfInBounds i v) t fr) := by
  simp [World.setCell, Array.getElem?_modify, h]
theorem Upd.refl {w : World} {b : Nat} {o : Obj} (h : w.heap[b]? = some o) : Upd b o w w := ⟨rfl, rfl, rfl, Nat.le_refl _, h, fun _ _ _ => rfl⟩
theorem Upd.of_eq {w w' : World} {b : Nat} {o o' : Obj} (h : Upd b o w w') (e : o = o') : Upd b o' w w' := e ▸ h
theorem Upd.drew {w w' : World} {b : Nat} {o : Obj} (h : Upd b o w w') : Upd b o w w'.drew := ⟨h.os, h.tape, h.output, h.size, h.blk, h.other⟩
theorem Upd.drewN {w w' : World} {b : Nat} {o : Obj} (n : Nat) (h : Upd b o w w') : Upd b o w (w'.drewN n) := ⟨h.os, h.tape, h.output, h.size, h.blk, h.other⟩
theorem Upd.alloc {w w' : World} {b : Nat} {o : Obj} (o' : Obj) (h : Upd b o w w') : Upd b o w (w'.alloc o') :=
  ⟨h.os, h.tape, h.output, Nat.le_trans h.size (by simp), (Below.heap_alloc w' o' b (lt_of_heap h.blk)).trans h.blk,
    fun k hk hn => (Below.heap_alloc w' o' k (Nat.lt_of_lt_of_le hk h.size)).trans (h.other k hk hn)⟩
theorem Upd.setCell {w w' : World} {b : Nat} {xs : Array Value} {t : TypeId} {fr : Nat × Nat} (i : Nat) (v : Value) (h : Upd b (.cells xs t fr) w w') :
    Upd b (.cells (xs.setIfInBounds i v) t fr) w (w'.setCell ⟨b, i, none⟩ v) :=
  ⟨h.os, h.tape, h.output, by simpa [World.setCell] using h.size, setCell_blk h.blk i v, fun k hk hn => (Below.heap_setCell w' ⟨b, i, none⟩ v k hn).trans (h.other k hk hn)⟩
theorem wu16 (n : Int) : IntKind.u16.wrap n = n % 65536 := by simp [IntKind.wrap, IntKind.signed, IntKind.bits]
theorem wu8 (n : Int) : IntKind.u8.wrap n = n % 256 := by simp [IntKind.wrap, IntKind.signed, IntKind.bits]
theorem wu32 (n : Int) : IntKind.u32.wrap n = n % 4294967296 := by simp [IntKind.wrap, IntKind.signed, IntKind.bits]
theorem new_blk (w : World) (o : Obj) : (w.alloc o).heap[w.heap.size]? = some o := (MapKept.heap_alloc w o).1
theorem old_blk (w : World) (o : Obj) (b : Nat) (h : b < w.heap.size) : (w.alloc o).heap[b]? = w.heap[b]? := Below.heap_alloc w o b h
/-- A flag that the Go text keeps as a number. -/
def b2i (b : Bool) : Int := if b then 1 else 0
theorem b2i_true : b2i true = 1 := rfl
theorem b2i_false : b2i false = 0 := rfl
/-- A call's own block b, laid behind the B blocks that were there, holds o. -/
structure On (B : Nat) (w0 : World) (b : Nat) (o : Obj) (w : World) : Prop where
  bel : Below B w0 w
  le : B ≤ b
  sz : B ≤ w.heap.size
  blk : w.heap[b]? = some o
theorem On.upd {B b : Nat} {w0 w w' : World} {o o' : Obj} (h : On B w0 b o w) (u : Upd b o' w w') : On B w0 b o' w' :=
  ⟨u.below h.bel h.le h.sz, h.le, Nat.le_trans h.sz u.size, u.blk⟩
theorem On.other {B b b' : Nat} {w0 w w' : World} {o o' : Obj} (h : On B w0 b o w) (u : Upd b' o' w w') (hn : b ≠ b') (hb : B ≤ b') : On B w0 b o w' :=
  ⟨u.below h.bel hb h.sz, h.le, Nat.le_trans h.sz u.size, (u.other b (lt_of_heap h.blk) hn).trans h.blk⟩
theorem On.keep {B b : Nat} {w0 w w' : World} {o : Obj} (h : On B w0 b o w) (u : Below w.heap.size w w') : On B w0 b o w' :=
  ⟨h.bel.trans (u.mono h.sz), h.le, Nat.le_trans h.sz u.size, (u.block b (lt_of_heap h.blk)).trans h.blk⟩
theorem On.drewN {B b : Nat} {w0 w : World} {o : Obj} (h : On B w0 b o w) (n : Nat) : On B w0 b o (w.drewN n) :=
  ⟨⟨h.bel.os, h.bel.tape, h.bel.output, h.bel.size, h.bel.block⟩, h.le, h.sz, h.blk⟩
theorem drewN_below {B : Nat} {w : World} (n : Nat) : Below B w (w.drewN n) := ⟨rfl, rfl, rfl, Nat.le_refl _, fun _ _ => rfl⟩
theorem below_drewN {B : Nat} {a w : World} (h : Below B a w) (n : Nat) : Below B a (w.drewN n) := ⟨h.os, h.tape, h.output, h.size, h.block⟩
theorem new_blk2 (w : World) (o o' : Obj) : ((w.alloc o).alloc o').heap[w.heap.size + 1]? = some o' := by
  have := new_blk (w.alloc o) o'
  simpa using this
theorem quiet_left {P : Program} {f : FuncId} {args : Array Value} {w : World} {n : Nat} {v : Value}
    (h : Calls P f args (w.drewN n) fun e w' => e = .returned v ∧ w.drewN n = w') : Calls P f args (w.drewN n) fun e w'' => e = .returned v ∧ ∃ m, w'' = w.drewN m :=
  h.mono fun _ _ ⟨he, hm⟩ => ⟨he, n, hm.symm⟩
theorem quiet_add_left {P : Program} {f : FuncId} {args : Array Value} {w : World} {a n : Nat} {v : Value}
    (h : Calls P f args (w.drewN (a + n)) fun e w' => e = .returned v ∧ w.drewN (a + n) = w') :
    Calls P f args (w.drewN (a + n)) fun e w'' => e = .returned v ∧ ∃ m, w'' = w.drewN (a + m) :=
  h.mono fun _ _ ⟨he, hm⟩ => ⟨he, n, hm.symm⟩
/-- Two blocks of the call's own. -/
structure On2 (B : Nat) (w0 : World) (b1 : Nat) (o1 : Obj) (b2 : Nat) (o2 : Obj) (w : World) : Prop where
  bel : Below B w0 w
  sz : B ≤ w.heap.size
  le1 : B ≤ b1
  le2 : B ≤ b2
  ne : b1 ≠ b2
  blk1 : w.heap[b1]? = some o1
  blk2 : w.heap[b2]? = some o2
section
variable {B b1 b2 : Nat} {w0 w w' : World} {o1 o2 o' : Obj}
theorem On2.upd1 (h : On2 B w0 b1 o1 b2 o2 w) (u : Upd b1 o' w w') : On2 B w0 b1 o' b2 o2 w' :=
  ⟨u.below h.bel h.le1 h.sz, Nat.le_trans h.sz u.size, h.le1, h.le2, h.ne, u.blk, (u.other b2 (lt_of_heap h.blk2) h.ne.symm).trans h.blk2⟩
theorem On2.upd2 (h : On2 B w0 b1 o1 b2 o2 w) (u : Upd b2 o' w w') : On2 B w0 b1 o1 b2 o' w' :=
  ⟨u.below h.bel h.le2 h.sz, Nat.le_trans h.sz u.size, h.le1, h.le2, h.ne, (u.other b1 (lt_of_heap h.blk1) h.ne).trans h.blk1, u.blk⟩
theorem On2.keep (h : On2 B w0 b1 o1 b2 o2 w) (u : Below w.heap.size w w') : On2 B w0 b1 o1 b2 o2 w' :=
  ⟨h.bel.trans (u.mono h.sz), Nat.le_trans h.sz u.size, h.le1, h.le2, h.ne, (u.block b1 (lt_of_heap h.blk1)).trans h.blk1, (u.block b2 (lt_of_heap h.blk2)).trans h.blk2⟩
theorem On2.far (h : On2 B w0 b1 o1 b2 o2 w) {b : Nat} (u : Upd b o' w w') (hb : B ≤ b) (h1 : b1 ≠ b) (h2 : b2 ≠ b) : On2 B w0 b1 o1 b2 o2 w' :=
  ⟨u.below h.bel hb h.sz, Nat.le_trans h.sz u.size, h.le1, h.le2, h.ne, (u.other b1 (lt_of_heap h.blk1) h1).trans h.blk1, (u.other b2 (lt_of_heap h.blk2) h2).trans h.blk2⟩
theorem On2.drewN (h : On2 B w0 b1 o1 b2 o2 w) (n : Nat) : On2 B w0 b1 o1 b2 o2 (w.drewN n) := h.keep (drewN_below n)
theorem On.two (h : On B w0 b1 o1 w) {w' : World} (hb : Below w.heap.size w w') (hl : w.heap.size ≤ b2) (h2 : w'.heap[b2]? = some o2) : On2 B w0 b1 o1 b2 o2 w' :=
  have k := h.keep hb
  ⟨k.bel, k.sz, h.le, Nat.le_trans h.sz hl, by have := lt_of_heap h.blk; omega, k.blk, h2⟩
end
end Go.Proofs.Ythkhlcigegbpfaa
