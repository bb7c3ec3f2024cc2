/- Matrices: plain words; how a matrix, a frame lie in memory; a matrix, a frame that came in. -/
import Derived.Test.YthkhlcigegbpfaaOwn
import Derived.Test.YthkhlcigegbpfaaFrame
namespace Go.Proofs.Ythkhlcigegbpfaa
set_option linter.unusedVariables false
set_option linter.unusedSimpArgs false
open Go.ChangeShapes Go.WideShapes Go.ChangeAt Go.RowKit Go.Deep

structure Msg where
  id : Int
  owner : Int
  ev : Bool
structure Win where
  kind : Int
  start : Int
  stop : Int
  cyc : Int
  rep : Int
  msg : Int
structure Mat where
  level : Int
  nodes : Int
  cycles : Int
  length : Int
  enable : Int
  unit : Int
  init : Int
  ref : Int
  masters : List Int
  msgs : List Msg
  wins : List Win
def intC (n : Int) : List Value := [.int .i64 n]
def msgC (x : Msg) : List Value := [.int .u32 x.id, .int .i64 x.owner, .bool x.ev]
def winC (x : Win) : List Value := [.int .i64 x.kind, .int .i64 x.start, .int .i64 x.stop, .int .i64 x.cyc, .int .i64 x.rep, .int .i64 x.msg]
abbrev I64 (n : Int) : Prop := (Lit.int .i64 n).wf = true
abbrev U32 (n : Int) : Prop := (Lit.int .u32 n).wf = true
def Msg.Ok (x : Msg) : Prop := U32 x.id ∧ I64 x.owner
def Win.Ok (x : Win) : Prop := I64 x.kind ∧ I64 x.start ∧ I64 x.stop ∧ I64 x.cyc ∧ I64 x.rep ∧ I64 x.msg
structure Mat.Ok (m : Mat) : Prop where
  level : I64 m.level
  nodes : I64 m.nodes
  cycles : I64 m.cycles
  length : I64 m.length
  enable : I64 m.enable
  unit : I64 m.unit
  init : I64 m.init
  ref : U32 m.ref
  masters : ∀ x ∈ m.masters, I64 x
  msgs : ∀ x ∈ m.msgs, x.Ok
  wins : ∀ x ∈ m.wins, x.Ok

/-- The slice v reads the list l: elements of k cells each. -/
def RdL {α : Type} (k : Nat) (C : α → List Value) (w : World) (v : Value) (l : List α) : Prop :=
  ∃ a cap, v = .slice a l.length cap ∧ l.length ≤ cap ∧ cap ≤ maxLen ∧
    ∀ i x, l[i]? = some x → ∃ b off, a = some ⟨b, off, none⟩ ∧ b < w.heap.size ∧ ∀ j u, (C x)[j]? = some u → w.cell? ⟨b, off + (i * k + j), none⟩ = some u
theorem RdL.keep {α : Type} {k : Nat} {C : α → List Value} {w w' : World} {v : Value} {l : List α} (h : RdL k C w v l) (hb : Below w.heap.size w w') : RdL k C w' v l := by
  obtain ⟨a, cap, h1, h2, h2', h3⟩ := h
  refine ⟨a, cap, h1, h2, h2', fun i x hi => ?_⟩
  obtain ⟨b, off, e, hlt, hc⟩ := h3 i x hi
  exact ⟨b, off, e, Nat.lt_of_lt_of_le hlt hb.size, fun j u hj => (hb.cell (p := ⟨b, off + (i * k + j), none⟩) hlt).trans (hc j u hj)⟩

/-- The value of a matrix, its three slices given. -/
def matV (m : Mat) (s1 s2 s3 : Value) : Value :=
  .agg #[.int .i64 m.level, .int .i64 m.nodes, .int .i64 m.cycles, .int .i64 m.length, .int .i64 m.enable, .int .i64 m.unit, .int .i64 m.init, .int .u32 m.ref, s1, s2, s3]
def matO (m : Mat) (s1 s2 s3 : Value) : Obj :=
  .cells #[.int .i64 m.level, .int .i64 m.nodes, .int .i64 m.cycles, .int .i64 m.length, .int .i64 m.enable, .int .i64 m.unit, .int .i64 m.init, .int .u32 m.ref, s1, s2, s3] 27 (0, 0)
structure RdM (w : World) (m : Mat) (s1 s2 s3 : Value) : Prop where
  ok : m.Ok
  r1 : RdL 1 intC w s1 m.masters
  r2 : RdL 3 msgC w s2 m.msgs
  r3 : RdL 6 winC w s3 m.wins
theorem RdM.keep {w w' : World} {m : Mat} {s1 s2 s3 : Value} (h : RdM w m s1 s2 s3) (hb : Below w.heap.size w w') : RdM w' m s1 s2 s3 :=
  ⟨h.ok, h.r1.keep hb, h.r2.keep hb, h.r3.keep hb⟩

theorem choose_list {α : Type} {p : Nat → α → Prop} : ∀ (n : Nat), (∀ i, i < n → ∃ z, p i z) → ∃ l : List α, l.length = n ∧ ∀ i z, l[i]? = some z → p i z := by
  intro n
  induction n with
  | zero => exact fun _ => ⟨[], rfl, fun i z h => by simp at h⟩
  | succ n ih =>
    intro h
    obtain ⟨l, hl, hp⟩ := ih (fun i hi => h i (by omega))
    obtain ⟨z, hz⟩ := h n (by omega)
    refine ⟨l ++ [z], by simp [hl], fun i y hi => ?_⟩
    by_cases hil : i < l.length
    · exact hp i y (by rwa [List.getElem?_append_left hil] at hi)
    · have hlt := (List.getElem?_eq_some_iff.1 hi).1
      simp at hlt
      obtain rfl : i = n := by omega
      rw [List.getElem?_append_right (by omega)] at hi
      simp [hl] at hi
      exact hi ▸ hz

/-! ### what came in -/
section
variable {H : Type} {enc : TypeId × Value → H} {P : Program} {w : World} {base : Nat} {spare : Nat → Bool} {held : Bool}
theorem open_agg {r : Reach} {b0 : Nat} {t : TypeId} {fs : Array Field} {v : Value} {d : DataW H} {p : List MemPlace} (hs : P.underlying t = some (.struct fs)) (hone : oneCellFields P fs = true) (hC : P.cellsOf t = fs.size)
    (hv : Value.okWide P w r b0 t v) (h : DataW.Trod enc P w base spare held t v d p) :
    ∃ l : List Value, v = .agg l.toArray ∧ l.length = fs.size ∧ ∀ (j : Nat) (f : Field), fs[j]? = some f → ∃ u n y, l[j]? = some u ∧ DataW.trod enc P w base spare held n f.type [u] = some y := by
  obtain ⟨cs, rfl, hsz⟩ := okWide_struct hs hv
  obtain ⟨l⟩ := cs
  obtain ⟨fuel, hf⟩ := h
  obtain ⟨xs, n, _, hx, _, hlen, hg⟩ := DataW.trod_struct hs hf
  refine ⟨l, rfl, by simpa [hC] using hsz, fun j f hj => ?_⟩
  obtain ⟨o0, k0⟩ := hone_of hone j f hj
  have hjl : j < l.length := by have := (Array.getElem?_eq_some_iff.1 hj).1; have := hsz.trans hC; simp at this; omega
  have h1 := hg j f hj
  rw [o0, k0] at h1
  have hone' : (List.drop j l).take 1 = [l[j]] := by rw [List.drop_eq_getElem_cons hjl]; rfl
  have hxl : j < xs.length := by have := (Array.getElem?_eq_some_iff.1 hj).1; omega
  refine ⟨l[j], n, xs[j], by simp [hjl], ?_⟩
  simp only [Value.cells] at h1
  rw [hone'] at h1
  rw [h1]
  simp [hxl]

/-- A slice whose elements are structs of one-cell fields: what each holds. -/
theorem rdL_of {α : Type} {t e : TypeId} {fs : Array Field} {fuel : Nat} {v : Value} {x : DataW H × List MemPlace} {C : α → List Value} (ht : P.underlying t = some (.slice e)) (he : P.underlying e = some (.struct fs))
    (hone : oneCellFields P fs = true) (hC : P.cellsOf e = fs.size) (h0 : 0 < fs.size)
    (hread : ∀ (cs : List Value), cs.length = fs.size → (∀ (j : Nat) (f : Field), fs[j]? = some f → ∃ u n y, cs[j]? = some u ∧ DataW.trod enc P w 0 (fun _ => true) true n f.type [u] = some y) → ∃ z : α, C z = cs)
    (h : DataW.trod enc P w 0 (fun _ => true) true fuel t [v] = some x) : ∃ l : List α, RdL fs.size C w v l ∧ ∀ z ∈ l, ∀ (j : Nat) (f : Field), fs[j]? = some f → ∃ u n y, (C z)[j]? = some u ∧ DataW.trod enc P w 0 (fun _ => true) true n f.type [u] = some y := by
  rcases open_slice_fields ht he hone hC h with ⟨hcs, _⟩ | ⟨a, len, cap, m, D, Pl, hcs, _, hlc, hcm, hm, _, hi⟩
  · simp at hcs
    exact ⟨[], ⟨none, 0, hcs, by simp, by simp [maxLen], fun i x hi => by simp at hi⟩, by simp⟩
  · simp at hcs
    simp only [if_true] at hm
    have hz : ∀ i, i < len → ∃ z : α, (∃ b off, a = ⟨b, off, none⟩ ∧ b < w.heap.size ∧ ∀ j u, (C z)[j]? = some u → w.cell? ⟨b, off + (i * fs.size + j), none⟩ = some u) ∧
        ∀ (j : Nat) (f : Field), fs[j]? = some f → ∃ u n y, (C z)[j]? = some u ∧ DataW.trod enc P w 0 (fun _ => true) true n f.type [u] = some y := by
      intro i hil
      obtain ⟨ys, n, _, _, _, hf0⟩ := hi i (by omega)
      obtain ⟨b, off, spot⟩ := a
      have hsp : spot = none := by
        obtain ⟨ys, n, _, _, _, hf0⟩ := hi 0 (by omega)
        obtain ⟨v0, y, hc0, _, _⟩ := hf0 0 fs[0] (by simp [h0])
        simpa [Addr.add] using World.cell?_spot hc0
      subst hsp
      have hadd : ∀ k, (⟨b, off, none⟩ : Addr).add k = ⟨b, off + k, none⟩ := fun k => by unfold Addr.add; split <;> simp_all
      have hcl : ∀ j, j < fs.size → ∃ u, w.cell? ⟨b, off + (i * fs.size + j), none⟩ = some u ∧ ∃ n y, DataW.trod enc P w 0 (fun _ => true) true n (fs[j]?.getD default).type [u] = some y := by
        intro j hj
        obtain ⟨v0, y, hc0, _, hty⟩ := hf0 j fs[j] (by simp [hj])
        rw [hadd] at hc0
        exact ⟨v0, hc0, _, y, by simpa [hj] using hty⟩
      let cs : List Value := (List.range fs.size).map fun j => (w.cell? ⟨b, off + (i * fs.size + j), none⟩).getD undef
      have hcsj : ∀ j, j < fs.size → cs[j]? = w.cell? ⟨b, off + (i * fs.size + j), none⟩ := by
        intro j hj
        obtain ⟨u, hu, _⟩ := hcl j hj
        simp [cs, hj, hu]
      have hfld : ∀ (j : Nat) (f : Field), fs[j]? = some f → ∃ u n y, cs[j]? = some u ∧ DataW.trod enc P w 0 (fun _ => true) true n f.type [u] = some y := by
        intro j f hj
        have hjl := (Array.getElem?_eq_some_iff.1 hj).1
        obtain ⟨u, hu, n, y, hty⟩ := hcl j hjl
        rw [hj] at hty
        exact ⟨u, n, y, (hcsj j hjl).trans hu, hty⟩
      obtain ⟨z, hz⟩ := hread cs (by simp [cs]) hfld
      refine ⟨z, ⟨b, off, rfl, ?_, fun j u hj => ?_⟩, by rw [hz]; exact hfld⟩
      · obtain ⟨u, hu, _⟩ := hcl 0 h0
        rcases Nat.lt_or_ge b w.heap.size with h | h
        · exact h
        · simp [World.cell?, Array.getElem?_eq_none h] at hu
      · rw [hz] at hj
        have hjl : j < fs.size := by have := (List.getElem?_eq_some_iff.1 hj).1; simpa [cs] using this
        rw [← hcsj j hjl, hj]
    obtain ⟨l, hl, hall⟩ : ∃ l : List α, l.length = len ∧ ∀ i z, l[i]? = some z → (∃ b off, a = ⟨b, off, none⟩ ∧ b < w.heap.size ∧ ∀ j u, (C z)[j]? = some u → w.cell? ⟨b, off + (i * fs.size + j), none⟩ = some u) ∧
        ∀ (j : Nat) (f : Field), fs[j]? = some f → ∃ u n y, (C z)[j]? = some u ∧ DataW.trod enc P w 0 (fun _ => true) true n f.type [u] = some y := by
      exact choose_list len hz
    refine ⟨l, ⟨some a, cap, by rw [hl]; exact hcs, by omega, hcm, fun i z hi => ?_⟩, fun z hz => ?_⟩
    · obtain ⟨⟨b, off, e, hlt, hc⟩, _⟩ := hall i z hi
      exact ⟨b, off, by rw [e], hlt, hc⟩
    · obtain ⟨i, hi⟩ := List.getElem?_of_mem hz
      exact (hall i z hi).2
theorem rdI_of {t e : TypeId} {fuel : Nat} {v : Value} {x : DataW H × List MemPlace} (ht : P.underlying t = some (.slice e)) (he : P.underlying e = some (.int .i64)) (hc : P.cellsOf e = 1)
    (h : DataW.trod enc P w 0 (fun _ => true) true fuel t [v] = some x) : ∃ l : List Int, RdL 1 intC w v l ∧ ∀ z ∈ l, I64 z := by
  rcases open_ints ht he hc h with ⟨hcs, _⟩ | ⟨a, len, cap, zs, hcs, _, hl, hm, hz, _, hcell, hwz⟩
  · simp at hcs
    exact ⟨[], ⟨none, 0, hcs, by simp, by simp [maxLen], fun i x hi => by simp at hi⟩, by simp⟩
  · simp at hcs
    have hz' : zs.length = cap := by simpa using hz
    refine ⟨zs.take len, ⟨some a, cap, by rw [hcs]; simp; omega, by simp; omega, hm, fun i z hi => ?_⟩, fun z hzm => hwz z (List.mem_of_mem_take hzm)⟩
    have hil : i < len := by have := (List.getElem?_eq_some_iff.1 hi).1; simp at this; omega
    obtain ⟨b, off, spot⟩ := a
    have hsp : spot = none := by simpa [Addr.add] using World.cell?_spot (hcell 0 (by omega))
    subst hsp
    have h0 := hcell i (by omega)
    have hadd : (⟨b, off, none⟩ : Addr).add i = ⟨b, off + i, none⟩ := by unfold Addr.add; split <;> simp_all
    rw [hadd] at h0
    have hzi : zs.getD i 0 = z := by
      rw [List.getElem?_take_of_lt hil] at hi
      simp [List.getD_eq_getElem?_getD, hi]
    rw [hzi] at h0
    refine ⟨b, off, rfl, ?_, fun j u hj => ?_⟩
    · rcases Nat.lt_or_ge b w.heap.size with h | h
      · exact h
      · simp [World.cell?, Array.getElem?_eq_none h] at h0
    · match j, hj with
      | 0, hj => simp [intC] at hj; subst hj; simpa using h0
end

theorem rdMsgs_of {H : Type} {enc : TypeId × Value → H} {w : World} {fuel : Nat} {v : Value} {x : DataW H × List MemPlace}
    (h : DataW.trod enc Try.prog w 0 (fun _ => true) true fuel 24 [v] = some x) : ∃ l : List Msg, RdL 3 msgC w v l ∧ ∀ z ∈ l, z.Ok := by
  obtain ⟨l, hl, hz⟩ := rdL_of (C := msgC) Try.underlying24 Try.underlying53 (by kernel_rfl) (by kernel_rfl) (by decide) (fun cs hcs hf => by
    match cs, hcs with
    | [c0, c1, c2], _ =>
      obtain ⟨u0, n0, y0, e0, t0⟩ := hf 0 _ rfl
      obtain ⟨u1, n1, y1, e1, t1⟩ := hf 1 _ rfl
      obtain ⟨u2, n2, y2, e2, t2⟩ := hf 2 _ rfl
      simp at e0 e1 e2
      subst e0; subst e1; subst e2
      obtain ⟨a0, k0, _, w0⟩ := DataW.trod_int Try.underlying22 t0
      obtain ⟨a1, k1, _, w1⟩ := DataW.trod_int Try.underlying3 t1
      obtain ⟨a2, k2, _⟩ := DataW.trod_bool Try.underlying4 t2
      simp at k0 k1 k2
      exact ⟨⟨a0, a1, a2⟩, by simp [msgC, k0, k1, k2]⟩) h
  refine ⟨l, hl, fun z hzm => ?_⟩
  obtain ⟨u0, n0, y0, e0, t0⟩ := hz z hzm 0 _ rfl
  obtain ⟨u1, n1, y1, e1, t1⟩ := hz z hzm 1 _ rfl
  simp [msgC] at e0 e1
  subst e0; subst e1
  obtain ⟨a0, k0, _, w0⟩ := DataW.trod_int Try.underlying22 t0
  obtain ⟨a1, k1, _, w1⟩ := DataW.trod_int Try.underlying3 t1
  simp at k0 k1
  subst k0; subst k1
  exact ⟨w0, w1⟩
theorem rdWins_of {H : Type} {enc : TypeId × Value → H} {w : World} {fuel : Nat} {v : Value} {x : DataW H × List MemPlace}
    (h : DataW.trod enc Try.prog w 0 (fun _ => true) true fuel 25 [v] = some x) : ∃ l : List Win, RdL 6 winC w v l ∧ ∀ z ∈ l, z.Ok := by
  have one : ∀ {n : Nat} {u : Value} {y : DataW H × List MemPlace}, DataW.trod enc Try.prog w 0 (fun _ => true) true n 3 [u] = some y → ∃ a, u = .int .i64 a ∧ I64 a := by
    intro n u y h
    obtain ⟨a0, k0, _, w0⟩ := DataW.trod_int Try.underlying3 h
    simp at k0
    exact ⟨a0, k0, w0⟩
  obtain ⟨l, hl, hz⟩ := rdL_of (C := winC) Try.underlying25 Try.underlying56 (by kernel_rfl) (by kernel_rfl) (by decide) (fun cs hcs hf => by
    match cs, hcs with
    | [c0, c1, c2, c3, c4, c5], _ =>
      obtain ⟨u0, n0, y0, e0, t0⟩ := hf 0 _ rfl
      obtain ⟨u1, n1, y1, e1, t1⟩ := hf 1 _ rfl
      obtain ⟨u2, n2, y2, e2, t2⟩ := hf 2 _ rfl
      obtain ⟨u3, n3, y3, e3, t3⟩ := hf 3 _ rfl
      obtain ⟨u4, n4, y4, e4, t4⟩ := hf 4 _ rfl
      obtain ⟨u5, n5, y5, e5, t5⟩ := hf 5 _ rfl
      simp at e0 e1 e2 e3 e4 e5
      subst e0; subst e1; subst e2; subst e3; subst e4; subst e5
      obtain ⟨a0, k0, _⟩ := one t0
      obtain ⟨a1, k1, _⟩ := one t1
      obtain ⟨a2, k2, _⟩ := one t2
      obtain ⟨a3, k3, _⟩ := one t3
      obtain ⟨a4, k4, _⟩ := one t4
      obtain ⟨a5, k5, _⟩ := one t5
      exact ⟨⟨a0, a1, a2, a3, a4, a5⟩, by simp [winC, k0, k1, k2, k3, k4, k5]⟩) h
  refine ⟨l, hl, fun z hzm => ?_⟩
  have get : ∀ (j : Nat) (f : Field) (a : Int), (winC z)[j]? = some (.int .i64 a) → (∃ u n y, (winC z)[j]? = some u ∧ DataW.trod enc Try.prog w 0 (fun _ => true) true n 3 [u] = some y) → I64 a := by
    rintro j f a hj ⟨u, n, y, e, t⟩
    rw [hj] at e
    cases e
    obtain ⟨a0, k0, w0⟩ := one t
    cases k0
    exact w0
  have f0 := hz z hzm 0 _ rfl
  have f1 := hz z hzm 1 _ rfl
  have f2 := hz z hzm 2 _ rfl
  have f3 := hz z hzm 3 _ rfl
  have f4 := hz z hzm 4 _ rfl
  have f5 := hz z hzm 5 _ rfl
  exact ⟨get 0 default _ rfl f0, get 1 default _ rfl f1, get 2 default _ rfl f2, get 3 default _ rfl f3, get 4 default _ rfl f4, get 5 default _ rfl f5⟩

set_option maxRecDepth 100000 in
/-- A matrix that came in. -/
theorem open_mat {H : Type} {enc : TypeId × Value → H} {w : World} {base : Nat} {v : Value} {d : DataW H} {p : List MemPlace} (hv : Value.okWide Try.prog w .any base 27 v)
    (h : DataW.Trod enc Try.prog w 0 (fun _ => true) true 27 v d p) : ∃ m s1 s2 s3, v = matV m s1 s2 s3 ∧ RdM w m s1 s2 s3 := by
  obtain ⟨l, rfl, hl, hf⟩ := open_agg Try.underlying27 (by kernel_rfl) (by kernel_rfl) hv h
  have one : ∀ {n : Nat} {u : Value} {y : DataW H × List MemPlace}, DataW.trod enc Try.prog w 0 (fun _ => true) true n 3 [u] = some y → ∃ a, u = .int .i64 a ∧ I64 a := by
    intro n u y h
    obtain ⟨a0, k0, _, w0⟩ := DataW.trod_int Try.underlying3 h
    simp at k0
    exact ⟨a0, k0, w0⟩
  match l, hl with
  | [c0, c1, c2, c3, c4, c5, c6, c7, c8, c9, c10], _ =>
    obtain ⟨u0, n0, y0, e0, t0⟩ := hf 0 _ rfl
    obtain ⟨u1, n1, y1, e1, t1⟩ := hf 1 _ rfl
    obtain ⟨u2, n2, y2, e2, t2⟩ := hf 2 _ rfl
    obtain ⟨u3, n3, y3, e3, t3⟩ := hf 3 _ rfl
    obtain ⟨u4, n4, y4, e4, t4⟩ := hf 4 _ rfl
    obtain ⟨u5, n5, y5, e5, t5⟩ := hf 5 _ rfl
    obtain ⟨u6, n6, y6, e6, t6⟩ := hf 6 _ rfl
    obtain ⟨u7, n7, y7, e7, t7⟩ := hf 7 _ rfl
    obtain ⟨u8, n8, y8, e8, t8⟩ := hf 8 _ rfl
    obtain ⟨u9, n9, y9, e9, t9⟩ := hf 9 _ rfl
    obtain ⟨u10, n10, y10, e10, t10⟩ := hf 10 _ rfl
    simp at e0 e1 e2 e3 e4 e5 e6 e7 e8 e9 e10
    subst e0 e1 e2 e3 e4 e5 e6 e7 e8 e9 e10
    obtain ⟨a0, rfl, w0⟩ := one t0
    obtain ⟨a1, rfl, w1⟩ := one t1
    obtain ⟨a2, rfl, w2⟩ := one t2
    obtain ⟨a3, rfl, w3⟩ := one t3
    obtain ⟨a4, rfl, w4⟩ := one t4
    obtain ⟨a5, rfl, w5⟩ := one t5
    obtain ⟨a6, rfl, w6⟩ := one t6
    obtain ⟨a7, k7, _, w7⟩ := DataW.trod_int Try.underlying22 t7
    simp at k7
    subst k7
    obtain ⟨l1, r1, o1⟩ := rdI_of Try.underlying23 Try.underlying3 (by kernel_rfl) t8
    obtain ⟨l2, r2, o2⟩ := rdMsgs_of t9
    obtain ⟨l3, r3, o3⟩ := rdWins_of t10
    exact ⟨⟨a0, a1, a2, a3, a4, a5, a6, a7, l1, l2, l3⟩, _, _, _, rfl, ⟨w0, w1, w2, w3, w4, w5, w6, w7, o1, o2, o3⟩, r1, r2, r3⟩

/-- Frames. -/
structure Fr where
  ext : Bool
  id : Int
  rtr : Bool
  data : ByteArray
def frC (f : Fr) : Array Value := #[.bool f.ext, .int .u32 f.id, .bool f.rtr, .string f.data]
def frV (f : Fr) : Value := .agg #[.bool f.ext, .int .u32 f.id, .bool f.rtr, .string f.data]
set_option maxRecDepth 100000 in
theorem open_frame {H : Type} {enc : TypeId × Value → H} {w : World} {base : Nat} {v : Value} {d : DataW H} {p : List MemPlace} (hv : Value.okWide Try.prog w .any base 30 v)
    (h : DataW.Trod enc Try.prog w 0 (fun _ => true) true 30 v d p) : ∃ f, v = frV f ∧ U32 f.id ∧ f.data.size ≤ maxLen := by
  obtain ⟨l, rfl, hl, hf⟩ := open_agg Try.underlying30 (by kernel_rfl) (by kernel_rfl) hv h
  match l, hl with
  | [c0, c1, c2, c3], _ =>
    obtain ⟨u0, n0, y0, e0, t0⟩ := hf 0 _ rfl
    obtain ⟨u1, n1, y1, e1, t1⟩ := hf 1 _ rfl
    obtain ⟨u2, n2, y2, e2, t2⟩ := hf 2 _ rfl
    obtain ⟨u3, n3, y3, e3, t3⟩ := hf 3 _ rfl
    simp at e0 e1 e2 e3
    subst e0 e1 e2 e3
    obtain ⟨a0, k0, _⟩ := DataW.trod_bool Try.underlying4 t0
    obtain ⟨a1, k1, _, w1⟩ := DataW.trod_int Try.underlying22 t1
    obtain ⟨a2, k2, _⟩ := DataW.trod_bool Try.underlying4 t2
    obtain ⟨a3, k3, _, w3⟩ := DataW.trod_string Try.underlying9 t3
    simp at k0 k1 k2 k3
    subst k0 k1 k2 k3
    exact ⟨⟨a0, a1, a2, a3⟩, rfl, w1, w3⟩
end Go.Proofs.Ythkhlcigegbpfaa
