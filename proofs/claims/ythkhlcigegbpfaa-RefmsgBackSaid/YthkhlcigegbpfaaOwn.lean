/- A call's own blocks, as a list; slices of structs that came in. -/
import Derived.Test.YthkhlcigegbpfaaBase
import Derived.Deep.Slices
import Derived.Deep.Fields
import Derived.ChangeSame
import Derived.WalkKit
namespace Go.Proofs.Ythkhlcigegbpfaa
set_option linter.unusedVariables false
set_option linter.unusedSimpArgs false
open Go.RowKit Go.ChangeShapes Go.WideShapes Go.Deep

/-- The call's own blocks: each lies behind the B blocks that were there, and holds what the list says. -/
structure Own (B : Nat) (w0 : World) (L : List (Nat × Obj)) (w : World) : Prop where
  bel : Below B w0 w
  sz : B ≤ w.heap.size
  nd : (L.map (·.1)).Nodup
  all : ∀ b o, (b, o) ∈ L → B ≤ b ∧ w.heap[b]? = some o
section
variable {B b : Nat} {w0 w w' : World} {o o' : Obj} {L L1 L2 : List (Nat × Obj)} {x y z : Nat × Obj}
theorem Own.nil_ (hb : Below B w0 w) (hs : B ≤ w.heap.size) : Own B w0 [] w := ⟨hb, hs, by simp, by simp⟩
theorem Own.keep (h : Own B w0 L w) (u : Below w.heap.size w w') : Own B w0 L w' :=
  ⟨h.bel.trans (u.mono h.sz), Nat.le_trans h.sz u.size, h.nd, fun b o hm => ⟨(h.all b o hm).1, (u.block b (lt_of_heap (h.all b o hm).2)).trans (h.all b o hm).2⟩⟩
theorem Own.drewN (h : Own B w0 L w) (n : Nat) : Own B w0 L (w.drewN n) := h.keep (drewN_below n)
theorem Own.drew (h : Own B w0 L w) : Own B w0 L w.drew := ⟨h.bel.drew, h.sz, h.nd, h.all⟩
theorem Own.add (h : Own B w0 L w) (hb : Below w.heap.size w w') (hl : w.heap.size ≤ b) (hk : w'.heap[b]? = some o) : Own B w0 ((b, o) :: L) w' := by
  have k := h.keep hb
  refine ⟨k.bel, k.sz, ?_, ?_⟩
  · simp only [List.map_cons, List.nodup_cons]
    refine ⟨fun hm => ?_, h.nd⟩
    obtain ⟨⟨b', o'⟩, hm', e⟩ := List.mem_map.1 hm
    have := lt_of_heap (h.all b' o' hm').2
    simp at e
    omega
  · intro b' o' hm
    rcases List.mem_cons.1 hm with e | hm
    · simp only [Prod.mk.injEq] at e
      obtain ⟨rfl, rfl⟩ := e
      exact ⟨Nat.le_trans h.sz hl, hk⟩
    · exact k.all b' o' hm
theorem Own.alloc (h : Own B w0 L w) (o : Obj) : Own B w0 ((w.heap.size, o) :: L) (w.alloc o) :=
  h.add ((Below.refl _ _).alloc (Nat.le_refl _) _) (Nat.le_refl _) (new_blk _ _)   -- own_alloc
theorem Own.alloc_ (h : Own B w0 L w) (o : Obj) : Own B w0 L (w.alloc o) := h.keep ((Below.refl _ _).alloc (Nat.le_refl _) _)
theorem Own.drop (h : Own B w0 (x :: L) w) : Own B w0 L w := ⟨h.bel, h.sz, (List.nodup_cons.1 h.nd).2, fun b o hm => h.all b o (List.mem_cons_of_mem _ hm)⟩
theorem Own.upd (h : Own B w0 (L1 ++ (b, o) :: L2) w) (u : Upd b o' w w') : Own B w0 (L1 ++ (b, o') :: L2) w' := by
  have hb := (h.all b o (by simp)).1
  refine ⟨u.below h.bel hb h.sz, Nat.le_trans h.sz u.size, by simpa using h.nd, fun b' o'' hm => ?_⟩
  have hnd := h.nd
  simp only [List.map_append, List.map_cons, List.nodup_append, List.nodup_cons] at hnd
  have key : ∀ b' o'', (b', o'') ∈ L1 ∨ (b', o'') ∈ L2 → B ≤ b' ∧ w'.heap[b']? = some o'' := by
    intro b' o'' hm'
    have ha := h.all b' o'' (by rcases hm' with h' | h' <;> simp [h'])
    refine ⟨ha.1, (u.other b' (lt_of_heap ha.2) ?_).trans ha.2⟩
    rintro rfl
    rcases hm' with h' | h'
    · exact hnd.2.2 b' (List.mem_map.2 ⟨_, h', rfl⟩) b' (by simp) rfl
    · exact hnd.2.1.1 (List.mem_map.2 ⟨_, h', rfl⟩)
  simp only [List.mem_append, List.mem_cons, Prod.mk.injEq] at hm
  rcases hm with h' | ⟨rfl, rfl⟩ | h'
  · exact key b' o'' (.inl h')
  · exact ⟨hb, u.blk⟩
  · exact key b' o'' (.inr h')
theorem Own.upd0 (h : Own B w0 ((b, o) :: L) w) (u : Upd b o' w w') : Own B w0 ((b, o') :: L) w' := Own.upd (L1 := []) h u
theorem Own.upd1 (h : Own B w0 (x :: (b, o) :: L) w) (u : Upd b o' w w') : Own B w0 (x :: (b, o') :: L) w' := Own.upd (L1 := [x]) h u
theorem Own.upd2 (h : Own B w0 (x :: y :: (b, o) :: L) w) (u : Upd b o' w w') : Own B w0 (x :: y :: (b, o') :: L) w' := Own.upd (L1 := [x, y]) h u
theorem Own.upd3 (h : Own B w0 (x :: y :: z :: (b, o) :: L) w) (u : Upd b o' w w') : Own B w0 (x :: y :: z :: (b, o') :: L) w' := Own.upd (L1 := [x, y, z]) h u
theorem Own.drop1 (h : Own B w0 (x :: y :: L) w) : Own B w0 (x :: L) w :=
  ⟨h.bel, h.sz, by have := h.nd; simp only [List.map_cons, List.nodup_cons, List.mem_cons] at this ⊢; exact ⟨fun hm => this.1 (.inr hm), this.2.2⟩, fun b o hm => h.all b o (by rcases List.mem_cons.1 hm with e | e <;> simp [e])⟩
theorem Own.swap (h : Own B w0 (x :: y :: L) w) : Own B w0 (y :: x :: L) w :=
  ⟨h.bel, h.sz, by have := h.nd; simp only [List.map_cons, List.nodup_cons, List.mem_cons, not_or] at this ⊢; exact ⟨⟨fun e => this.1.1 e.symm, this.2.1⟩, this.1.2, this.2.2⟩, fun b o hm => h.all b o (by simp only [List.mem_cons] at hm ⊢; rcases hm with e | e | e <;> simp [e])⟩
theorem Own.get0 (h : Own B w0 ((b, o) :: L) w) : w.heap[b]? = some o := (h.all b o (by simp)).2
theorem Own.get1 (h : Own B w0 (x :: (b, o) :: L) w) : w.heap[b]? = some o := (h.all b o (by simp)).2
theorem Own.get2 (h : Own B w0 (x :: y :: (b, o) :: L) w) : w.heap[b]? = some o := (h.all b o (by simp)).2
theorem Own.get3 (h : Own B w0 (x :: y :: z :: (b, o) :: L) w) : w.heap[b]? = some o := (h.all b o (by simp)).2
end

section
variable {P : Program} {f : FuncId} {args : Array Value} {B b : Nat} {w0 w : World} {o o' : Obj} {L : List (Nat × Obj)} {x y : Nat × Obj} {v : Value}
theorem own_quiet (h : Own B w0 L w) (c : Calls P f args w fun e w' => e = .returned v ∧ ∃ n, w' = w.drewN n) : Calls P f args w fun e w' => e = .returned v ∧ Own B w0 L w' :=
  c.mono fun _ _ ⟨he, n, hn⟩ => ⟨he, hn ▸ h.drewN n⟩
theorem own_below (h : Own B w0 L w) (c : Calls P f args w fun e w' => e = .returned v ∧ Below w.heap.size w w') : Calls P f args w fun e w' => e = .returned v ∧ Own B w0 L w' :=
  c.mono fun _ _ ⟨he, hb⟩ => ⟨he, h.keep hb⟩
theorem own_same (h : Own B w0 L w) (c : Calls P f args w fun e w' => e = .returned v ∧ w = w') : Calls P f args w fun e w' => e = .returned v ∧ Own B w0 L w' :=
  c.mono fun _ _ ⟨he, hb⟩ => ⟨he, hb ▸ h⟩
theorem own_upd0 (h : Own B w0 ((b, o) :: L) w) (c : Calls P f args w fun e w' => e = .returned v ∧ Upd b o' w w') : Calls P f args w fun e w' => e = .returned v ∧ Own B w0 ((b, o') :: L) w' :=
  c.mono fun _ _ ⟨he, u⟩ => ⟨he, h.upd0 u⟩
theorem own_upd1 (h : Own B w0 (x :: (b, o) :: L) w) (c : Calls P f args w fun e w' => e = .returned v ∧ Upd b o' w w') : Calls P f args w fun e w' => e = .returned v ∧ Own B w0 (x :: (b, o') :: L) w' :=
  c.mono fun _ _ ⟨he, u⟩ => ⟨he, h.upd1 u⟩
theorem own_upd2 (h : Own B w0 (x :: y :: (b, o) :: L) w) (c : Calls P f args w fun e w' => e = .returned v ∧ Upd b o' w w') : Calls P f args w fun e w' => e = .returned v ∧ Own B w0 (x :: y :: (b, o') :: L) w' :=
  c.mono fun _ _ ⟨he, u⟩ => ⟨he, h.upd2 u⟩
theorem own_add (h : Own B w0 L w) (c : Calls P f args w fun e w' => ∃ b, e = .returned (.pointer (some ⟨b, 0, none⟩)) ∧ w'.heap[b]? = some o ∧ Below w.heap.size w w' ∧ w.heap.size ≤ b) :
    Calls P f args w fun e w' => ∃ b, e = .returned (.pointer (some ⟨b, 0, none⟩)) ∧ Own B w0 ((b, o) :: L) w' :=
  c.mono fun _ _ ⟨b, he, hk, hb, hl⟩ => ⟨b, he, h.add hb hl hk⟩
end

/-! ### slices of structs that came in -/
section
variable {H : Type} {enc : TypeId × Value → H} {P : Program} {w : World} {base : Nat} {spare : Nat → Bool} {held : Bool}
theorem open_slice_fields {t e : TypeId} {fs : Array Field} {fuel : Nat} {cs : List Value} {x : DataW H × List MemPlace} (ht : P.underlying t = some (.slice e)) (he : P.underlying e = some (.struct fs))
    (hone : oneCellFields P fs = true) (hC : P.cellsOf e = fs.size) (h : DataW.trod enc P w base spare held fuel t cs = some x) :
    (cs = [.slice none 0 0] ∧ x = (.nil, [])) ∨
    ∃ (a : Addr) (len cap m : Nat) (D : Nat → DataW H) (Pl : Nat → List MemPlace), cs = [.slice (some a) len cap] ∧ base ≤ a.block ∧ len ≤ cap ∧ cap ≤ maxLen ∧ m = (if spare a.block then cap else len) ∧
      x = (.slice ((List.range len).map D) ((List.range (m - len)).map fun j => D (len + j)), MemPlace.row a (m * fs.size) ++ (List.range m).flatMap Pl) ∧
      ∀ i, i < m → ∃ (ys : List (DataW H × List MemPlace)) (n : Nat), D i = .agg (ys.map (·.1)) ∧ Pl i = ys.flatMap (·.2) ∧ ys.length = fs.size ∧
        ∀ (j : Nat) (f : Field), fs[j]? = some f → ∃ (v : Value) (y : DataW H × List MemPlace), w.cell? (a.add (i * fs.size + j)) = some v ∧ ys[j]? = some y ∧ DataW.trod enc P w base spare held n f.type [v] = some y := by
  rcases open_slice ht h with h0 | ⟨a, len, cap, m, n, D, Pl, hcs, hb, hl, hm, hmm, hx, hi⟩
  · exact .inl h0
  · refine .inr ⟨a, len, cap, m, D, Pl, hcs, hb, hl, hm, hmm, by rw [hC] at hx; exact hx, fun i him => ?_⟩
    obtain ⟨cs', hc, ht'⟩ := hi i him
    rw [hC] at hc
    obtain ⟨ys, n', hn', hy, hlen, hyl, hf⟩ := DataW.trod_struct he ht'
    obtain ⟨_, hcl, hat⟩ := World.cells?_some hc
    simp only [Prod.mk.injEq] at hy
    refine ⟨ys, n', hy.1, hy.2, hyl, fun j f hj => ?_⟩
    obtain ⟨ho, hk⟩ := hone_of hone j f hj
    have hjl : j < fs.size := (Array.getElem?_eq_some_iff.1 hj).1
    have hcell := hat j hjl
    have hv : cs'[j]? = some (cs'[j]'(by omega)) := List.getElem?_eq_getElem (by omega)
    have h1 := hf j f hj
    rw [ho, hk] at h1
    have hone' : (cs'.drop j).take 1 = [cs'[j]'(by omega)] := by
      rw [List.drop_eq_getElem_cons (by omega)]
      rfl
    rw [hone'] at h1
    have hys : ys[j]? = some (ys[j]'(by omega)) := List.getElem?_eq_getElem (by omega)
    refine ⟨_, _, ?_, hys, h1.trans hys⟩
    rw [← Go.Deep.add_add, hcell, hv]

/-- What a field of one cell holds. -/
inductive FK where
  | int (k : IntKind)
  | bool
  | str
def FK.under (P : Program) (t : TypeId) : FK → Prop
  | .int k => P.underlying t = some (.int k)
  | .bool => P.underlying t = some .bool
  | .str => P.underlying t = some .string
def FK.fits (v : Value) : FK → Prop
  | .int k => ∃ x, v = .int k x ∧ (Lit.int k x).wf = true
  | .bool => ∃ b, v = .bool b
  | .str => ∃ s : ByteArray, v = .string s ∧ s.size ≤ maxLen
theorem FK.of {κ : FK} {t : TypeId} {n : Nat} {v : Value} {y : DataW H × List MemPlace} (hu : κ.under P t) (h : DataW.trod enc P w base spare held n t [v] = some y) : κ.fits v := by
  cases κ with
  | int k =>
    obtain ⟨a, e0, _, wa⟩ := DataW.trod_int hu h
    simp at e0
    exact ⟨a, e0, wa⟩
  | bool =>
    obtain ⟨a, e0, _⟩ := DataW.trod_bool hu h
    simp at e0
    exact ⟨a, e0⟩
  | str =>
    obtain ⟨a, e0, _, hs⟩ := DataW.trod_string hu h
    simp at e0
    exact ⟨a, e0, hs⟩

/-- A slice of structs of one-cell fields that came in. -/
def IsStructs (ks : List FK) (w : World) (a : Option Addr) (len cap : Nat) : Prop :=
  len ≤ maxLen ∧ ∀ i, i < len → ∃ b off, a = some ⟨b, off, none⟩ ∧ b < w.heap.size ∧
    ∀ j κ, ks[j]? = some κ → ∃ v, w.cell? ⟨b, off + (i * ks.length + j), none⟩ = some v ∧ κ.fits v

theorem isStructs_of {t e : TypeId} {fs : Array Field} {ks : List FK} (ht : P.underlying t = some (.slice e)) (he : P.underlying e = some (.struct fs))
    (hone : oneCellFields P fs = true) (hC : P.cellsOf e = fs.size) (hl : ks.length = fs.size) (h0 : 0 < fs.size) (hk : ∀ (j : Nat) (κ : FK) (f : Field), ks[j]? = some κ → fs[j]? = some f → κ.under P f.type)
    {a : Option Addr} {len cap : Nat} {d : DataW H} {p : List MemPlace} (h : DataW.Trod enc P w 0 (fun _ => true) true t (.slice a len cap) d p) : IsStructs ks w a len cap := by
  obtain ⟨fuel, hf⟩ := h
  rcases open_slice_fields ht he hone hC hf with ⟨hcs, _⟩ | ⟨x, l, c, m, D, Pl, hcs, _, hlc, hcm, hm, _, hi⟩
  · simp [Value.cells] at hcs
    obtain ⟨rfl, rfl, rfl⟩ := hcs
    exact ⟨Nat.zero_le _, fun i hi => by omega⟩
  · simp [Value.cells] at hcs
    obtain ⟨rfl, rfl, rfl⟩ := hcs
    refine ⟨by omega, fun i hil => ?_⟩
    simp only [if_true] at hm
    obtain ⟨b, off, spot⟩ := x
    have hsp : spot = none := by
      obtain ⟨ys, n, _, _, _, hf0⟩ := hi 0 (by omega)
      obtain ⟨v, y, hc0, _, _⟩ := hf0 0 fs[0] (by simp [h0])
      simpa [Addr.add] using World.cell?_spot hc0
    subst hsp
    have hadd : ∀ k, (⟨b, off, none⟩ : Addr).add k = ⟨b, off + k, none⟩ := fun k => by unfold Addr.add; split <;> simp_all
    obtain ⟨ys, n, _, _, _, hf0⟩ := hi i (by omega)
    refine ⟨b, off, rfl, ?_, fun j κ hj => ?_⟩
    · obtain ⟨v, y, hc0, _, _⟩ := hf0 0 fs[0] (by simp [h0])
      rw [hadd] at hc0
      rcases Nat.lt_or_ge b w.heap.size with h | h
      · exact h
      · simp [World.cell?, Array.getElem?_eq_none h] at hc0
    · have hjl : j < fs.size := by have := (List.getElem?_eq_some_iff.1 hj).1; omega
      obtain ⟨v, y, hc0, _, hty⟩ := hf0 j fs[j] (by simp [hjl])
      rw [hadd, ← hl] at hc0
      exact ⟨v, hc0, FK.of (hk j κ fs[j] hj (by simp [hjl])) hty⟩
end
end Go.Proofs.Ythkhlcigegbpfaa
