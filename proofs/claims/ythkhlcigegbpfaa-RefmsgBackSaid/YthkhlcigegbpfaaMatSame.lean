/- Same, of both texts. -/
import Derived.Test.YthkhlcigegbpfaaRefIs
import Derived.Laws.StructEq
import Derived.Test.YthkhlcigegbpfaaHeld
namespace Go.Proofs.Ythkhlcigegbpfaa
set_option linter.unusedVariables false
set_option linter.unusedSimpArgs false
open Go.ChangeShapes Go.WideShapes Go.ChangeAt Go.RowKit Go.Deep

def msgEq (x y : Msg) : Bool := x.id == y.id && x.owner == y.owner && x.ev == y.ev
def winEq (x y : Win) : Bool := x.kind == y.kind && x.start == y.start && x.stop == y.stop && x.cyc == y.cyc && x.rep == y.rep && x.msg == y.msg
def eqL {α : Type} (p : α → α → Bool) (l1 l2 : List α) : Bool := decide (l1.length = l2.length) && (l1.zip l2).all (fun z => p z.1 z.2)
def headEq (a b : Mat) : Bool := a.level == b.level && a.nodes == b.nodes && a.cycles == b.cycles && a.length == b.length && a.enable == b.enable && a.unit == b.unit && a.init == b.init && a.ref == b.ref
def sameB (a b : Mat) : Bool := headEq a b && eqL (· == ·) a.masters b.masters && eqL msgEq a.msgs b.msgs && eqL winEq a.wins b.wins

/-- What a loop over two lists has seen so far. -/
def Alike2 {α : Type} (p : α → α → Bool) (l1 l2 : List α) (k : Nat) : Prop := ∀ (j : Nat) (x y : α), j < k → l1[j]? = some x → l2[j]? = some y → p x y = true
theorem Alike2.zero {α : Type} (p : α → α → Bool) (l1 l2 : List α) : Alike2 p l1 l2 0 := fun j x y h => by omega
theorem Alike2.succ {α : Type} {p : α → α → Bool} {l1 l2 : List α} {k : Nat} (h : Alike2 p l1 l2 k) {x y : α} (hx : l1[k]? = some x) (hy : l2[k]? = some y) (hp : p x y = true) : Alike2 p l1 l2 (k + 1) := by
  intro j u v hj hu hv
  by_cases e : j = k
  · subst e; rw [hx] at hu; rw [hy] at hv; cases hu; cases hv; exact hp
  · exact h j u v (by omega) hu hv
theorem Alike2.eqL {α : Type} {p : α → α → Bool} {l1 l2 : List α} {k : Nat} (h : Alike2 p l1 l2 k) (hl : l1.length = l2.length) (hk : l1.length ≤ k) : eqL p l1 l2 = true := by
  unfold Go.Proofs.Ythkhlcigegbpfaa.eqL
  simp only [hl, decide_true, Bool.true_and, List.all_eq_true]
  intro z hz
  obtain ⟨i, hi⟩ := List.getElem?_of_mem hz
  rw [List.getElem?_zip_eq_some] at hi
  exact h i z.1 z.2 (by have := (List.getElem?_eq_some_iff.1 hi.1).1; omega) hi.1 hi.2
theorem eqL_false {α : Type} {p : α → α → Bool} {l1 l2 : List α} {k : Nat} {x y : α} (hx : l1[k]? = some x) (hy : l2[k]? = some y) (hp : p x y = false) : eqL p l1 l2 = false := by
  unfold eqL
  rw [Bool.and_eq_false_iff]
  right
  rw [Bool.eq_false_iff]
  intro h
  rw [List.all_eq_true] at h
  have := h (x, y) (List.mem_of_getElem? (List.getElem?_zip_eq_some.2 ⟨hx, hy⟩))
  simp [hp] at this
theorem eqL_len {α : Type} {p : α → α → Bool} {l1 l2 : List α} (h : l1.length ≠ l2.length) : eqL p l1 l2 = false := by simp [eqL, h]

theorem held53 : Try.prog.stoodInHeld 53 = false := by kernel_rfl
theorem guard53 : Try.prog.eqGuardType Try.prog.depth 53 = false := by kernel_rfl
theorem held56 : Try.prog.stoodInHeld 56 = false := by kernel_rfl
theorem guard56 : Try.prog.eqGuardType Try.prog.depth 56 = false := by kernel_rfl
theorem held88 : Try.prog.stoodInHeld 88 = false := by kernel_rfl
theorem guard88 : Try.prog.eqGuardType Try.prog.depth 88 = false := by kernel_rfl

theorem neq_msg (x y : Msg) (w : World) : (binOp .neq 53 (.agg #[.int .u32 x.id, .int .i64 x.owner, .bool x.ev]) (.agg #[.int .u32 y.id, .int .i64 y.owner, .bool y.ev])).run Try.prog w = .ok (.bool (!msgEq x y)) w := by
  have hp := held53
  have hg := guard53
  by_cases h1 : x.id = y.id <;> by_cases h2 : x.owner = y.owner <;> by_cases h3 : x.ev = y.ev <;> go_simp <;> simp [msgEq, h1, h2, h3]
theorem neq_win (x y : Win) (w : World) : (binOp .neq 56 (.agg #[.int .i64 x.kind, .int .i64 x.start, .int .i64 x.stop, .int .i64 x.cyc, .int .i64 x.rep, .int .i64 x.msg]) (.agg #[.int .i64 y.kind, .int .i64 y.start, .int .i64 y.stop, .int .i64 y.cyc, .int .i64 y.rep, .int .i64 y.msg])).run Try.prog w = .ok (.bool (!winEq x y)) w := by
  have hp := held56
  have hg := guard56
  by_cases h1 : x.kind = y.kind
  · by_cases h2 : x.start = y.start
    · by_cases h3 : x.stop = y.stop
      · by_cases h4 : x.cyc = y.cyc
        · by_cases h5 : x.rep = y.rep
          · by_cases h6 : x.msg = y.msg <;> go_simp <;> simp [winEq, *]
          · go_simp; simp [winEq, *]
        · go_simp; simp [winEq, *]
      · go_simp; simp [winEq, *]
    · go_simp; simp [winEq, *]
  · go_simp; simp [winEq, *]
section
variable {w : World} {a1 a2 : Option Addr} {n1 n2 c1 c2 : Nat}
theorem eq_ints {l1 l2 : List Int} (h1 : RdL 1 intC w (.slice a1 n1 c1) l1) (h2 : RdL 1 intC w (.slice a2 n2 c2) l2) :
    Calls Try.prog 72 #[.slice a1 n1 c1, .slice a2 n2 c2] w fun e w' => e = .returned (.bool (eqL (· == ·) l1 l2)) ∧ ∃ n, w' = w.drewN n := by
  obtain ⟨hn1, k1, k2⟩ := h1.len
  obtain ⟨hn2, k3, k4⟩ := h2.len
  unfold maxLen at k2 k4
  have H1 := Lib.hid h1
  have H2 := Lib.hid h2
  have HN := Lib.hid (show n1 = l1.length ∧ n2 = l2.length from ⟨hn1, hn2⟩)
  clear h1 h2 hn1 hn2
  by_cases hne : n1 = n2
  · subst hne
    go_enter Try.func72, Try.ntmps72
    go_wp2
    go_loopw [13] (fun i wr => ∃ k n : Nat, i = .int .i64 k ∧ k ≤ n1 ∧ wr = w.drewN n ∧ Hid (Alike2 (· == ·) l1 l2 k)) (fun i _ => n1 - (intOf i).toNat)
    case atStart => exact ⟨0, 0, rfl, by omega, rfl, Lib.hid (Alike2.zero _ _ _)⟩
    case round =>
      obtain ⟨k, n, rfl, hk, rfl, hcl⟩ := hrel
      by_cases hlt : k < n1
      · obtain ⟨x, b, off, hx, _, rfl, hb, hc⟩ := H1.out.at_ k hlt
        obtain ⟨y, b', off', hy, _, rfl, hb', hc'⟩ := H2.out.at_ k hlt
        have e0 := hc 0 _ rfl
        have e1 := hc' 0 _ rfl
        simp only [Nat.mul_one, Nat.add_zero] at e0 e1
        have HX := Lib.hid hx
        have HY := Lib.hid hy
        clear hc hc' hx hy
        by_cases hxy : x = y
        · subst hxy
          have HC := Lib.hid (hcl.out.succ HX.out HY.out (by simp))
          clear hcl
          go_wp2
          go_quiet (fail)
          go_wp2
          go_roundw
          case rel => exact ⟨k + 1, n + nq, by go_num, by omega, rfl, HC⟩
          case measure => simp [intOf]; omega
        · have HF := Lib.hid (eqL_false (p := (· == ·)) HX.out HY.out (by simp [hxy]))
          clear hcl
          go_wp2
          go_quiet (fail)
          go_wp2
          go_ret
          exact ⟨ret_bool HF.out.symm, n + nq, World.drewN_drewN ..⟩
      · have HF := Lib.hid (hcl.out.eqL (by have := HN.out; omega) (by have := HN.out; omega))
        clear hcl
        go_wp2
        go_ret
        exact ⟨ret_bool HF.out.symm, _, rfl⟩
  · have HF := Lib.hid (eqL_len (p := fun (x y : Int) => x == y) (l1 := l1) (l2 := l2) (by have := HN.out; omega))
    go_enter Try.func72, Try.ntmps72
    go_wp2
    all_goals (go_ret; exact ⟨ret_bool HF.out.symm, 0, rfl⟩)
set_option maxRecDepth 100000 in
theorem eq_msgs {l1 l2 : List Msg} (h1 : RdL 3 msgC w (.slice a1 n1 c1) l1) (h2 : RdL 3 msgC w (.slice a2 n2 c2) l2) :
    Calls Try.prog 73 #[.slice a1 n1 c1, .slice a2 n2 c2] w fun e w' => e = .returned (.bool (eqL msgEq l1 l2)) ∧ ∃ n, w' = w.drewN n := by
  obtain ⟨hn1, k1, k2⟩ := h1.len
  obtain ⟨hn2, k3, k4⟩ := h2.len
  unfold maxLen at k2 k4
  have H1 := Lib.hid h1
  have H2 := Lib.hid h2
  have HN := Lib.hid (show n1 = l1.length ∧ n2 = l2.length from ⟨hn1, hn2⟩)
  clear h1 h2 hn1 hn2
  have hp := held53
  have hg := guard53
  by_cases hne : n1 = n2
  · subst hne
    go_enter Try.func73, Try.ntmps73
    go_wp2
    go_loopw [13] (fun i wr => ∃ k n : Nat, i = .int .i64 k ∧ k ≤ n1 ∧ wr = w.drewN n ∧ Hid (Alike2 msgEq l1 l2 k)) (fun i _ => n1 - (intOf i).toNat)
    case atStart => exact ⟨0, 0, rfl, by omega, rfl, Lib.hid (Alike2.zero _ _ _)⟩
    case round =>
      obtain ⟨k, n, rfl, hk, rfl, hcl⟩ := hrel
      by_cases hlt : k < n1
      · obtain ⟨x, b, off, hx, _, rfl, hb, hc⟩ := H1.out.at_ k hlt
        obtain ⟨y, b', off', hy, _, rfl, hb', hc'⟩ := H2.out.at_ k hlt
        have e0 := hc 0 _ rfl
        have e1 := hc 1 _ rfl
        have e2 := hc 2 _ rfl
        have d0 := hc' 0 _ rfl
        have d1 := hc' 1 _ rfl
        have d2 := hc' 2 _ rfl
        simp only [Nat.add_zero, ← Nat.add_assoc] at e0 e1 e2 d0 d1 d2
        have HX := Lib.hid hx
        have HY := Lib.hid hy
        clear hc hc' hx hy
        have hnq := neq_msg x y
        by_cases hxy : msgEq x y = true
        · have HC := Lib.hid (hcl.out.succ HX.out HY.out hxy)
          clear hcl
          rw [hxy] at hnq
          go_wp2
          go_quiet (fail)
          go_wp2
          go_roundw
          case rel => exact ⟨k + 1, n + nq, by go_num, by omega, rfl, HC⟩
          case measure => simp [intOf]; omega
        · replace hxy : msgEq x y = false := by simpa using hxy
          have HF := Lib.hid (eqL_false (p := msgEq) HX.out HY.out hxy)
          clear hcl
          rw [hxy] at hnq
          go_wp2
          go_quiet (fail)
          go_wp2
          go_ret
          exact ⟨ret_bool HF.out.symm, n + nq, World.drewN_drewN ..⟩
      · have HF := Lib.hid (hcl.out.eqL (by have := HN.out; omega) (by have := HN.out; omega))
        clear hcl
        go_wp2
        go_ret
        exact ⟨ret_bool HF.out.symm, _, rfl⟩
  · have HF := Lib.hid (eqL_len (p := msgEq) (l1 := l1) (l2 := l2) (by have := HN.out; omega))
    go_enter Try.func73, Try.ntmps73
    go_wp2
    all_goals (go_ret; exact ⟨ret_bool HF.out.symm, 0, rfl⟩)
set_option maxRecDepth 100000 in
theorem eq_wins {l1 l2 : List Win} (h1 : RdL 6 winC w (.slice a1 n1 c1) l1) (h2 : RdL 6 winC w (.slice a2 n2 c2) l2) :
    Calls Try.prog 74 #[.slice a1 n1 c1, .slice a2 n2 c2] w fun e w' => e = .returned (.bool (eqL winEq l1 l2)) ∧ ∃ n, w' = w.drewN n := by
  obtain ⟨hn1, k1, k2⟩ := h1.len
  obtain ⟨hn2, k3, k4⟩ := h2.len
  unfold maxLen at k2 k4
  have H1 := Lib.hid h1
  have H2 := Lib.hid h2
  have HN := Lib.hid (show n1 = l1.length ∧ n2 = l2.length from ⟨hn1, hn2⟩)
  clear h1 h2 hn1 hn2
  have hp := held56
  have hg := guard56
  by_cases hne : n1 = n2
  · subst hne
    go_enter Try.func74, Try.ntmps74
    go_wp2
    go_loopw [13] (fun i wr => ∃ k n : Nat, i = .int .i64 k ∧ k ≤ n1 ∧ wr = w.drewN n ∧ Hid (Alike2 winEq l1 l2 k)) (fun i _ => n1 - (intOf i).toNat)
    case atStart => exact ⟨0, 0, rfl, by omega, rfl, Lib.hid (Alike2.zero _ _ _)⟩
    case round =>
      obtain ⟨k, n, rfl, hk, rfl, hcl⟩ := hrel
      by_cases hlt : k < n1
      · obtain ⟨x, b, off, hx, _, rfl, hb, hc⟩ := H1.out.at_ k hlt
        obtain ⟨y, b', off', hy, _, rfl, hb', hc'⟩ := H2.out.at_ k hlt
        have e0 := hc 0 _ rfl
        have e1 := hc 1 _ rfl
        have e2 := hc 2 _ rfl
        have e3 := hc 3 _ rfl
        have e4 := hc 4 _ rfl
        have e5 := hc 5 _ rfl
        have d0 := hc' 0 _ rfl
        have d1 := hc' 1 _ rfl
        have d2 := hc' 2 _ rfl
        have d3 := hc' 3 _ rfl
        have d4 := hc' 4 _ rfl
        have d5 := hc' 5 _ rfl
        simp only [Nat.add_zero, ← Nat.add_assoc] at e0 e1 e2 e3 e4 e5 d0 d1 d2 d3 d4 d5
        have HX := Lib.hid hx
        have HY := Lib.hid hy
        clear hc hc' hx hy
        have hnq := neq_win x y
        by_cases hxy : winEq x y = true
        · have HC := Lib.hid (hcl.out.succ HX.out HY.out hxy)
          clear hcl
          rw [hxy] at hnq
          go_wp2
          go_quiet (fail)
          go_wp2
          go_roundw
          case rel => exact ⟨k + 1, n + nq, by go_num, by omega, rfl, HC⟩
          case measure => simp [intOf]; omega
        · replace hxy : winEq x y = false := by simpa using hxy
          have HF := Lib.hid (eqL_false (p := winEq) HX.out HY.out hxy)
          clear hcl
          rw [hxy] at hnq
          go_wp2
          go_quiet (fail)
          go_wp2
          go_ret
          exact ⟨ret_bool HF.out.symm, n + nq, World.drewN_drewN ..⟩
      · have HF := Lib.hid (hcl.out.eqL (by have := HN.out; omega) (by have := HN.out; omega))
        clear hcl
        go_wp2
        go_ret
        exact ⟨ret_bool HF.out.symm, _, rfl⟩
  · have HF := Lib.hid (eqL_len (p := winEq) (l1 := l1) (l2 := l2) (by have := HN.out; omega))
    go_enter Try.func74, Try.ntmps74
    go_wp2
    all_goals (go_ret; exact ⟨ret_bool HF.out.symm, 0, rfl⟩)
/-- The numbers of a matrix. -/
def numV (m : Mat) : Value := .agg #[.int .i64 m.level, .int .i64 m.nodes, .int .i64 m.cycles, .int .i64 m.length, .int .i64 m.enable, .int .i64 m.unit, .int .i64 m.init, .int .u32 m.ref]
theorem mat_of (m : Mat) (s1 s2 s3 : Value) (w : World) : Calls Try.prog 71 #[matV m s1 s2 s3] w fun e w' => e = .returned (numV m) ∧ Below w.heap.size w w' := by
  have hO := (Own.nil_ (Below.refl w.heap.size w) (Nat.le_refl _)).alloc (boxM m s1 s2 s3)
  have c0 := cell_of hO.get0 0
  have c1 := cell_of hO.get0 1
  have c2 := cell_of hO.get0 2
  have c3 := cell_of hO.get0 3
  have c4 := cell_of hO.get0 4
  have c5 := cell_of hO.get0 5
  have c6 := cell_of hO.get0 6
  have c7 := cell_of hO.get0 7
  have c8 := cell_of hO.get0 8
  have c9 := cell_of hO.get0 9
  have c10 := cell_of hO.get0 10
  have cf0 := free_of hO.get0 0
  have cf1 := free_of hO.get0 1
  have cf2 := free_of hO.get0 2
  have cf3 := free_of hO.get0 3
  have cf4 := free_of hO.get0 4
  have cf5 := free_of hO.get0 5
  have cf6 := free_of hO.get0 6
  have cf7 := free_of hO.get0 7
  have cf8 := free_of hO.get0 8
  have cf9 := free_of hO.get0 9
  have cf10 := free_of hO.get0 10
  have clt := lt_of_heap hO.get0
  simp at c0 c1 c2 c3 c4 c5 c6 c7 c8 c9 c10
  unfold matV
  go_enter Try.func71, Try.ntmps71
  go_wp2
  exact bodyPost_ret (v := numV m) (by simp [results, Try.results71, go_sem, numV]) rfl ⟨rfl, ((Below.refl _ _).alloc (Nat.le_refl _) _).alloc (by simp) _⟩
theorem eql_num (x y : Mat) (w : World) : (binOp .eql 88 (.agg #[.int .i64 x.level, .int .i64 x.nodes, .int .i64 x.cycles, .int .i64 x.length, .int .i64 x.enable, .int .i64 x.unit, .int .i64 x.init, .int .u32 x.ref]) (.agg #[.int .i64 y.level, .int .i64 y.nodes, .int .i64 y.cycles, .int .i64 y.length, .int .i64 y.enable, .int .i64 y.unit, .int .i64 y.init, .int .u32 y.ref])).run Try.prog w = .ok (.bool (headEq x y)) w := by
  have hp := held88
  have hg := guard88
  by_cases h1 : x.level = y.level
  · by_cases h2 : x.nodes = y.nodes
    · by_cases h3 : x.cycles = y.cycles
      · by_cases h4 : x.length = y.length
        · by_cases h5 : x.enable = y.enable
          · by_cases h6 : x.unit = y.unit
            · by_cases h7 : x.init = y.init
              · by_cases h8 : x.ref = y.ref <;> go_simp <;> simp [headEq, *]
              · go_simp; simp [headEq, *]
            · go_simp; simp [headEq, *]
          · go_simp; simp [headEq, *]
        · go_simp; simp [headEq, *]
      · go_simp; simp [headEq, *]
    · go_simp; simp [headEq, *]
  · go_simp; simp [headEq, *]
theorem boxM_c {w : World} {b : Nat} {m : Mat} {s1 s2 s3 : Value} (h : w.heap[b]? = some (boxM m s1 s2 s3)) :
    w.cell? ⟨b, 0, none⟩ = some (.int .i64 m.level) ∧ w.cell? ⟨b, 1, none⟩ = some (.int .i64 m.nodes) ∧ w.cell? ⟨b, 2, none⟩ = some (.int .i64 m.cycles) ∧ w.cell? ⟨b, 3, none⟩ = some (.int .i64 m.length) ∧
    w.cell? ⟨b, 4, none⟩ = some (.int .i64 m.enable) ∧ w.cell? ⟨b, 5, none⟩ = some (.int .i64 m.unit) ∧ w.cell? ⟨b, 6, none⟩ = some (.int .i64 m.init) ∧ w.cell? ⟨b, 7, none⟩ = some (.int .u32 m.ref) ∧
    w.cell? ⟨b, 8, none⟩ = some s1 ∧ w.cell? ⟨b, 9, none⟩ = some s2 ∧ w.cell? ⟨b, 10, none⟩ = some s3 :=
  ⟨cell_of h 0, cell_of h 1, cell_of h 2, cell_of h 3, cell_of h 4, cell_of h 5, cell_of h 6, cell_of h 7, cell_of h 8, cell_of h 9, cell_of h 10⟩
end

set_option maxRecDepth 100000 in
set_option maxHeartbeats 2000000 in
theorem mat_same {w : World} {a b : Mat} {s1 s2 s3 t1 t2 t3 : Value} (ha : RdM w a s1 s2 s3) (hb : RdM w b t1 t2 t3) :
    Calls Try.prog 34 #[matV a s1 s2 s3, matV b t1 t2 t3] w fun e w' => e = .returned (.bool (sameB a b)) ∧ Below w.heap.size w w' := by
  have hO := ((Own.nil_ (Below.refl w.heap.size w) (Nat.le_refl _)).alloc (boxM a s1 s2 s3)).alloc (boxM b t1 t2 t3)
  obtain ⟨a1, p1, e1, r1⟩ := ha.r1.shape
  obtain ⟨a2, p2, e2, r2⟩ := ha.r2.shape
  obtain ⟨a3, p3, e3, r3⟩ := ha.r3.shape
  obtain ⟨b1, q1, f1, u1⟩ := hb.r1.shape
  obtain ⟨b2, q2, f2, u2⟩ := hb.r2.shape
  obtain ⟨b3, q3, f3, u3⟩ := hb.r3.shape
  subst e1 e2 e3 f1 f2 f3
  have hsz : ∀ o : Obj, (w.alloc o).heap.size = w.heap.size + 1 := fun o => by simp
  rw [hsz] at hO
  clear hsz
  clear ha hb
  have R1 := Lib.hid r1
  have R2 := Lib.hid r2
  have R3 := Lib.hid r3
  have U1 := Lib.hid u1
  have U2 := Lib.hid u2
  have U3 := Lib.hid u3
  clear r1 r2 r3 u1 u2 u3
  have hq := eql_num a b
  have key : ∀ z, sameB a b = z → Hid (sameB a b = z) := fun z h => h
  obtain ⟨z, hz⟩ : ∃ z, headEq a b = z := ⟨_, rfl⟩
  rw [hz] at hq
  have HZ := Lib.hid hz
  clear hz key
  have oA := fun W => mat_of a (.slice a1 a.masters.length p1) (.slice a2 a.msgs.length p2) (.slice a3 a.wins.length p3) W
  have oB := fun W => mat_of b (.slice b1 b.masters.length q1) (.slice b2 b.msgs.length q2) (.slice b3 b.wins.length q3) W
  unfold matV numV at oA oB
  have OA := Lib.hid oA
  have OB := Lib.hid oB
  clear oA oB
  unfold matV
  go_enter Try.func34, Try.ntmps34
  go_wp2_with fail
  refine wp_region_held_drew (S := fun w' => Own w.heap.size w [(w.heap.size + 1, boxM b (.slice b1 b.masters.length q1) (.slice b2 b.msgs.length q2) (.slice b3 b.wins.length q3)), (w.heap.size, boxM a (.slice a1 a.masters.length p1) (.slice a2 a.msgs.length p2) (.slice a3 a.wins.length p3))] w') (by kernel_rfl) hO.drew (fun hHeld => ?_)
  clear hO
  refine take_op 0 rfl (by kernel_rfl) (by kernel_rfl) (by kernel_rfl) (fun _ _ _ h => h) (by rfl) (by (intro wz hSw; (obtain ⟨c0, c1, c2, c3, c4, c5, c6, c7, c8, c9, c10⟩ := boxM_c hSw.get1); go_simp; (try with_reducible rfl))) (by assumption) ?_
  simp only [Act.put, List.setIfInBounds_toArray, List.set_cons_zero, List.set_cons_succ]
  refine take_op 2 rfl (by kernel_rfl) (by kernel_rfl) (by kernel_rfl) (fun _ _ _ h => h) (by rfl) (by (intro wz hSw; (obtain ⟨c0, c1, c2, c3, c4, c5, c6, c7, c8, c9, c10⟩ := boxM_c hSw.get0); go_simp; (try with_reducible rfl))) (by assumption) ?_
  simp only [Act.put, List.setIfInBounds_toArray, List.set_cons_zero, List.set_cons_succ]
  refine at_op 1 rfl (by kernel_rfl) (by rfl) (fun K hK => ?_)
  go_simp
  refine (own_below hHeld (OA.out _)).mono ?_
  rintro e w1 ⟨rfl, hO1⟩
  refine hK.out _ _ ?_ (fun hHeld => ?_)
  · exact hO1
  clear hK K
  try simp only [Act.put, List.setIfInBounds_toArray, List.set_cons_zero, List.set_cons_succ]
  refine at_op 3 rfl (by kernel_rfl) (by rfl) (fun K hK => ?_)
  go_simp
  refine (own_below hHeld (OB.out _)).mono ?_
  rintro e w2 ⟨rfl, hO2⟩
  refine hK.out _ _ ?_ (fun hHeld => ?_)
  · exact hO2
  clear hK K
  try simp only [Act.put, List.setIfInBounds_toArray, List.set_cons_zero, List.set_cons_succ]
  refine take_op 4 rfl (by kernel_rfl) (by kernel_rfl) (by kernel_rfl) (fun _ _ _ h => h) (by rfl) (by (intro w hSw; (try dsimp only at hSw); go_simp; (try with_reducible rfl))) (by assumption) ?_
  simp only [Act.put, List.setIfInBounds_toArray, List.set_cons_zero, List.set_cons_succ]
  refine take_op 5 rfl (by kernel_rfl) (by kernel_rfl) (by kernel_rfl) (fun _ _ _ h => h) (by rfl) (by (intro w hSw; (try dsimp only at hSw); go_simp; (try with_reducible rfl))) (by assumption) ?_
  simp only [Act.put, List.setIfInBounds_toArray, List.set_cons_zero, List.set_cons_succ]
  cases z
  · have HF := Lib.hid (show sameB a b = false by simp [sameB, HZ.out])
    refine skip_op 6 rfl (by kernel_rfl) (by kernel_rfl) (by kernel_rfl) (fun _ _ _ h => h) (by rfl) (by assumption) ?_
    simp only [Act.put, List.setIfInBounds_toArray, List.set_cons_zero, List.set_cons_succ]
    refine skip_op 7 rfl (by kernel_rfl) (by kernel_rfl) (by kernel_rfl) (fun _ _ _ h => h) (by rfl) (by assumption) ?_
    simp only [Act.put, List.setIfInBounds_toArray, List.set_cons_zero, List.set_cons_succ]
    refine skip_op 8 rfl (by kernel_rfl) (by kernel_rfl) (by kernel_rfl) (fun _ _ _ h => h) (by rfl) (by assumption) ?_
    simp only [Act.put, List.setIfInBounds_toArray, List.set_cons_zero, List.set_cons_succ]
    refine skip_op 9 rfl (by kernel_rfl) (by kernel_rfl) (by kernel_rfl) (fun _ _ _ h => h) (by rfl) (by assumption) ?_
    simp only [Act.put, List.setIfInBounds_toArray, List.set_cons_zero, List.set_cons_succ]
    refine skip_op 10 rfl (by kernel_rfl) (by kernel_rfl) (by kernel_rfl) (fun _ _ _ h => h) (by rfl) (by assumption) ?_
    simp only [Act.put, List.setIfInBounds_toArray, List.set_cons_zero, List.set_cons_succ]
    refine take_op 11 rfl (by kernel_rfl) (by kernel_rfl) (by kernel_rfl) (fun _ _ _ h => h) (by rfl) (by (intro w hSw; (try dsimp only at hSw); go_simp; (try with_reducible rfl))) (by assumption) ?_
    simp only [Act.put, List.setIfInBounds_toArray, List.set_cons_zero, List.set_cons_succ]
    refine take_op 12 rfl (by kernel_rfl) (by kernel_rfl) (by kernel_rfl) (fun _ _ _ h => h) (by rfl) (by (intro w hSw; (try dsimp only at hSw); go_simp; (try with_reducible rfl))) (by assumption) ?_
    simp only [Act.put, List.setIfInBounds_toArray, List.set_cons_zero, List.set_cons_succ]
    refine skip_op 13 rfl (by kernel_rfl) (by kernel_rfl) (by kernel_rfl) (fun _ _ _ h => h) (by rfl) (by assumption) ?_
    simp only [Act.put, List.setIfInBounds_toArray, List.set_cons_zero, List.set_cons_succ]
    refine skip_op 14 rfl (by kernel_rfl) (by kernel_rfl) (by kernel_rfl) (fun _ _ _ h => h) (by rfl) (by assumption) ?_
    simp only [Act.put, List.setIfInBounds_toArray, List.set_cons_zero, List.set_cons_succ]
    refine skip_op 15 rfl (by kernel_rfl) (by kernel_rfl) (by kernel_rfl) (fun _ _ _ h => h) (by rfl) (by assumption) ?_
    simp only [Act.put, List.setIfInBounds_toArray, List.set_cons_zero, List.set_cons_succ]
    refine skip_op 16 rfl (by kernel_rfl) (by kernel_rfl) (by kernel_rfl) (fun _ _ _ h => h) (by rfl) (by assumption) ?_
    simp only [Act.put, List.setIfInBounds_toArray, List.set_cons_zero, List.set_cons_succ]
    refine skip_op 17 rfl (by kernel_rfl) (by kernel_rfl) (by kernel_rfl) (fun _ _ _ h => h) (by rfl) (by assumption) ?_
    simp only [Act.put, List.setIfInBounds_toArray, List.set_cons_zero, List.set_cons_succ]
    refine take_op 18 rfl (by kernel_rfl) (by kernel_rfl) (by kernel_rfl) (fun _ _ _ h => h) (by rfl) (by (intro w hSw; (try dsimp only at hSw); go_simp; (try with_reducible rfl))) (by assumption) ?_
    simp only [Act.put, List.setIfInBounds_toArray, List.set_cons_zero, List.set_cons_succ]
    refine take_op 19 rfl (by kernel_rfl) (by kernel_rfl) (by kernel_rfl) (fun _ _ _ h => h) (by rfl) (by (intro w hSw; (try dsimp only at hSw); go_simp; (try with_reducible rfl))) (by assumption) ?_
    simp only [Act.put, List.setIfInBounds_toArray, List.set_cons_zero, List.set_cons_succ]
    refine skip_op 20 rfl (by kernel_rfl) (by kernel_rfl) (by kernel_rfl) (fun _ _ _ h => h) (by rfl) (by assumption) ?_
    simp only [Act.put, List.setIfInBounds_toArray, List.set_cons_zero, List.set_cons_succ]
    refine skip_op 21 rfl (by kernel_rfl) (by kernel_rfl) (by kernel_rfl) (fun _ _ _ h => h) (by rfl) (by assumption) ?_
    simp only [Act.put, List.setIfInBounds_toArray, List.set_cons_zero, List.set_cons_succ]
    refine skip_op 22 rfl (by kernel_rfl) (by kernel_rfl) (by kernel_rfl) (fun _ _ _ h => h) (by rfl) (by assumption) ?_
    simp only [Act.put, List.setIfInBounds_toArray, List.set_cons_zero, List.set_cons_succ]
    refine skip_op 23 rfl (by kernel_rfl) (by kernel_rfl) (by kernel_rfl) (fun _ _ _ h => h) (by rfl) (by assumption) ?_
    simp only [Act.put, List.setIfInBounds_toArray, List.set_cons_zero, List.set_cons_succ]
    refine skip_op 24 rfl (by kernel_rfl) (by kernel_rfl) (by kernel_rfl) (fun _ _ _ h => h) (by rfl) (by assumption) ?_
    simp only [Act.put, List.setIfInBounds_toArray, List.set_cons_zero, List.set_cons_succ]
    refine take_op 25 rfl (by kernel_rfl) (by kernel_rfl) (by kernel_rfl) (fun _ _ _ h => h) (by rfl) (by (intro w hSw; (try dsimp only at hSw); go_simp; (try with_reducible rfl))) (by assumption) ?_
    simp only [Act.put, List.setIfInBounds_toArray, List.set_cons_zero, List.set_cons_succ]
    refine take_op 26 rfl (by kernel_rfl) (by kernel_rfl) (by kernel_rfl) (fun _ _ _ h => h) (by rfl) (by (intro w hSw; (try dsimp only at hSw); go_simp; (try with_reducible rfl))) (by assumption) ?_
    simp only [Act.put, List.setIfInBounds_toArray, List.set_cons_zero, List.set_cons_succ]
    refine wpAnyH_done (by kernel_rfl) ?_ _
    go_wp2
    go_ret
    exact ⟨ret_bool (HF.out).symm, hHeld.bel⟩
  · skip
    refine take_op 6 rfl (by kernel_rfl) (by kernel_rfl) (by kernel_rfl) (fun _ _ _ h => h) (by rfl) (by (intro w hSw; (try dsimp only at hSw); go_simp; (try with_reducible rfl))) (by assumption) ?_
    simp only [Act.put, List.setIfInBounds_toArray, List.set_cons_zero, List.set_cons_succ]
    refine take_op 7 rfl (by kernel_rfl) (by kernel_rfl) (by kernel_rfl) (fun _ _ _ h => h) (by rfl) (by (intro wz hSw; (obtain ⟨c0, c1, c2, c3, c4, c5, c6, c7, c8, c9, c10⟩ := boxM_c hSw.get1); go_simp; (try with_reducible rfl))) (by assumption) ?_
    simp only [Act.put, List.setIfInBounds_toArray, List.set_cons_zero, List.set_cons_succ]
    refine take_op 8 rfl (by kernel_rfl) (by kernel_rfl) (by kernel_rfl) (fun _ _ _ h => h) (by rfl) (by (intro w hSw; (try dsimp only at hSw); go_simp; (try with_reducible rfl))) (by assumption) ?_
    simp only [Act.put, List.setIfInBounds_toArray, List.set_cons_zero, List.set_cons_succ]
    refine take_op 9 rfl (by kernel_rfl) (by kernel_rfl) (by kernel_rfl) (fun _ _ _ h => h) (by rfl) (by (intro wz hSw; (obtain ⟨c0, c1, c2, c3, c4, c5, c6, c7, c8, c9, c10⟩ := boxM_c hSw.get0); go_simp; (try with_reducible rfl))) (by assumption) ?_
    simp only [Act.put, List.setIfInBounds_toArray, List.set_cons_zero, List.set_cons_succ]
    refine at_op 10 rfl (by kernel_rfl) (by rfl) (fun K hK => ?_)
    go_simp
    refine (own_quiet hHeld (eq_ints (R1.out.keep hHeld.bel) (U1.out.keep hHeld.bel))).mono ?_
    obtain ⟨z1, hz1⟩ : ∃ z, eqL (· == ·) a.masters b.masters = z := ⟨_, rfl⟩
    rw [hz1]
    have HZ1 := Lib.hid hz1
    clear hz1
    rintro e w3 ⟨rfl, hO3⟩
    refine hK.out _ _ ?_ (fun hHeld => ?_)
    · exact hO3
    clear hK K
    try simp only [Act.put, List.setIfInBounds_toArray, List.set_cons_zero, List.set_cons_succ]
    refine take_op 11 rfl (by kernel_rfl) (by kernel_rfl) (by kernel_rfl) (fun _ _ _ h => h) (by rfl) (by (intro w hSw; (try dsimp only at hSw); go_simp; (try with_reducible rfl))) (by assumption) ?_
    simp only [Act.put, List.setIfInBounds_toArray, List.set_cons_zero, List.set_cons_succ]
    refine take_op 12 rfl (by kernel_rfl) (by kernel_rfl) (by kernel_rfl) (fun _ _ _ h => h) (by rfl) (by (intro w hSw; (try dsimp only at hSw); go_simp; (try with_reducible rfl))) (by assumption) ?_
    simp only [Act.put, List.setIfInBounds_toArray, List.set_cons_zero, List.set_cons_succ]
    cases z1
    · have HF := Lib.hid (show sameB a b = false by simp [sameB, HZ.out, HZ1.out])
      refine skip_op 13 rfl (by kernel_rfl) (by kernel_rfl) (by kernel_rfl) (fun _ _ _ h => h) (by rfl) (by assumption) ?_
      simp only [Act.put, List.setIfInBounds_toArray, List.set_cons_zero, List.set_cons_succ]
      refine skip_op 14 rfl (by kernel_rfl) (by kernel_rfl) (by kernel_rfl) (fun _ _ _ h => h) (by rfl) (by assumption) ?_
      simp only [Act.put, List.setIfInBounds_toArray, List.set_cons_zero, List.set_cons_succ]
      refine skip_op 15 rfl (by kernel_rfl) (by kernel_rfl) (by kernel_rfl) (fun _ _ _ h => h) (by rfl) (by assumption) ?_
      simp only [Act.put, List.setIfInBounds_toArray, List.set_cons_zero, List.set_cons_succ]
      refine skip_op 16 rfl (by kernel_rfl) (by kernel_rfl) (by kernel_rfl) (fun _ _ _ h => h) (by rfl) (by assumption) ?_
      simp only [Act.put, List.setIfInBounds_toArray, List.set_cons_zero, List.set_cons_succ]
      refine skip_op 17 rfl (by kernel_rfl) (by kernel_rfl) (by kernel_rfl) (fun _ _ _ h => h) (by rfl) (by assumption) ?_
      simp only [Act.put, List.setIfInBounds_toArray, List.set_cons_zero, List.set_cons_succ]
      refine take_op 18 rfl (by kernel_rfl) (by kernel_rfl) (by kernel_rfl) (fun _ _ _ h => h) (by rfl) (by (intro w hSw; (try dsimp only at hSw); go_simp; (try with_reducible rfl))) (by assumption) ?_
      simp only [Act.put, List.setIfInBounds_toArray, List.set_cons_zero, List.set_cons_succ]
      refine take_op 19 rfl (by kernel_rfl) (by kernel_rfl) (by kernel_rfl) (fun _ _ _ h => h) (by rfl) (by (intro w hSw; (try dsimp only at hSw); go_simp; (try with_reducible rfl))) (by assumption) ?_
      simp only [Act.put, List.setIfInBounds_toArray, List.set_cons_zero, List.set_cons_succ]
      refine skip_op 20 rfl (by kernel_rfl) (by kernel_rfl) (by kernel_rfl) (fun _ _ _ h => h) (by rfl) (by assumption) ?_
      simp only [Act.put, List.setIfInBounds_toArray, List.set_cons_zero, List.set_cons_succ]
      refine skip_op 21 rfl (by kernel_rfl) (by kernel_rfl) (by kernel_rfl) (fun _ _ _ h => h) (by rfl) (by assumption) ?_
      simp only [Act.put, List.setIfInBounds_toArray, List.set_cons_zero, List.set_cons_succ]
      refine skip_op 22 rfl (by kernel_rfl) (by kernel_rfl) (by kernel_rfl) (fun _ _ _ h => h) (by rfl) (by assumption) ?_
      simp only [Act.put, List.setIfInBounds_toArray, List.set_cons_zero, List.set_cons_succ]
      refine skip_op 23 rfl (by kernel_rfl) (by kernel_rfl) (by kernel_rfl) (fun _ _ _ h => h) (by rfl) (by assumption) ?_
      simp only [Act.put, List.setIfInBounds_toArray, List.set_cons_zero, List.set_cons_succ]
      refine skip_op 24 rfl (by kernel_rfl) (by kernel_rfl) (by kernel_rfl) (fun _ _ _ h => h) (by rfl) (by assumption) ?_
      simp only [Act.put, List.setIfInBounds_toArray, List.set_cons_zero, List.set_cons_succ]
      refine take_op 25 rfl (by kernel_rfl) (by kernel_rfl) (by kernel_rfl) (fun _ _ _ h => h) (by rfl) (by (intro w hSw; (try dsimp only at hSw); go_simp; (try with_reducible rfl))) (by assumption) ?_
      simp only [Act.put, List.setIfInBounds_toArray, List.set_cons_zero, List.set_cons_succ]
      refine take_op 26 rfl (by kernel_rfl) (by kernel_rfl) (by kernel_rfl) (fun _ _ _ h => h) (by rfl) (by (intro w hSw; (try dsimp only at hSw); go_simp; (try with_reducible rfl))) (by assumption) ?_
      simp only [Act.put, List.setIfInBounds_toArray, List.set_cons_zero, List.set_cons_succ]
      refine wpAnyH_done (by kernel_rfl) ?_ _
      go_wp2
      go_ret
      exact ⟨ret_bool (HF.out).symm, hHeld.bel⟩
    · skip
      refine take_op 13 rfl (by kernel_rfl) (by kernel_rfl) (by kernel_rfl) (fun _ _ _ h => h) (by rfl) (by (intro w hSw; (try dsimp only at hSw); go_simp; (try with_reducible rfl))) (by assumption) ?_
      simp only [Act.put, List.setIfInBounds_toArray, List.set_cons_zero, List.set_cons_succ]
      refine take_op 14 rfl (by kernel_rfl) (by kernel_rfl) (by kernel_rfl) (fun _ _ _ h => h) (by rfl) (by (intro wz hSw; (obtain ⟨c0, c1, c2, c3, c4, c5, c6, c7, c8, c9, c10⟩ := boxM_c hSw.get1); go_simp; (try with_reducible rfl))) (by assumption) ?_
      simp only [Act.put, List.setIfInBounds_toArray, List.set_cons_zero, List.set_cons_succ]
      refine take_op 15 rfl (by kernel_rfl) (by kernel_rfl) (by kernel_rfl) (fun _ _ _ h => h) (by rfl) (by (intro w hSw; (try dsimp only at hSw); go_simp; (try with_reducible rfl))) (by assumption) ?_
      simp only [Act.put, List.setIfInBounds_toArray, List.set_cons_zero, List.set_cons_succ]
      refine take_op 16 rfl (by kernel_rfl) (by kernel_rfl) (by kernel_rfl) (fun _ _ _ h => h) (by rfl) (by (intro wz hSw; (obtain ⟨c0, c1, c2, c3, c4, c5, c6, c7, c8, c9, c10⟩ := boxM_c hSw.get0); go_simp; (try with_reducible rfl))) (by assumption) ?_
      simp only [Act.put, List.setIfInBounds_toArray, List.set_cons_zero, List.set_cons_succ]
      refine at_op 17 rfl (by kernel_rfl) (by rfl) (fun K hK => ?_)
      go_simp
      refine (own_quiet hHeld (eq_msgs (R2.out.keep hHeld.bel) (U2.out.keep hHeld.bel))).mono ?_
      obtain ⟨z2, hz2⟩ : ∃ z, eqL msgEq a.msgs b.msgs = z := ⟨_, rfl⟩
      rw [hz2]
      have HZ2 := Lib.hid hz2
      clear hz2
      rintro e w4 ⟨rfl, hO4⟩
      refine hK.out _ _ ?_ (fun hHeld => ?_)
      · exact hO4
      clear hK K
      try simp only [Act.put, List.setIfInBounds_toArray, List.set_cons_zero, List.set_cons_succ]
      refine take_op 18 rfl (by kernel_rfl) (by kernel_rfl) (by kernel_rfl) (fun _ _ _ h => h) (by rfl) (by (intro w hSw; (try dsimp only at hSw); go_simp; (try with_reducible rfl))) (by assumption) ?_
      simp only [Act.put, List.setIfInBounds_toArray, List.set_cons_zero, List.set_cons_succ]
      refine take_op 19 rfl (by kernel_rfl) (by kernel_rfl) (by kernel_rfl) (fun _ _ _ h => h) (by rfl) (by (intro w hSw; (try dsimp only at hSw); go_simp; (try with_reducible rfl))) (by assumption) ?_
      simp only [Act.put, List.setIfInBounds_toArray, List.set_cons_zero, List.set_cons_succ]
      cases z2
      · have HF := Lib.hid (show sameB a b = false by simp [sameB, HZ.out, HZ1.out, HZ2.out])
        refine skip_op 20 rfl (by kernel_rfl) (by kernel_rfl) (by kernel_rfl) (fun _ _ _ h => h) (by rfl) (by assumption) ?_
        simp only [Act.put, List.setIfInBounds_toArray, List.set_cons_zero, List.set_cons_succ]
        refine skip_op 21 rfl (by kernel_rfl) (by kernel_rfl) (by kernel_rfl) (fun _ _ _ h => h) (by rfl) (by assumption) ?_
        simp only [Act.put, List.setIfInBounds_toArray, List.set_cons_zero, List.set_cons_succ]
        refine skip_op 22 rfl (by kernel_rfl) (by kernel_rfl) (by kernel_rfl) (fun _ _ _ h => h) (by rfl) (by assumption) ?_
        simp only [Act.put, List.setIfInBounds_toArray, List.set_cons_zero, List.set_cons_succ]
        refine skip_op 23 rfl (by kernel_rfl) (by kernel_rfl) (by kernel_rfl) (fun _ _ _ h => h) (by rfl) (by assumption) ?_
        simp only [Act.put, List.setIfInBounds_toArray, List.set_cons_zero, List.set_cons_succ]
        refine skip_op 24 rfl (by kernel_rfl) (by kernel_rfl) (by kernel_rfl) (fun _ _ _ h => h) (by rfl) (by assumption) ?_
        simp only [Act.put, List.setIfInBounds_toArray, List.set_cons_zero, List.set_cons_succ]
        refine take_op 25 rfl (by kernel_rfl) (by kernel_rfl) (by kernel_rfl) (fun _ _ _ h => h) (by rfl) (by (intro w hSw; (try dsimp only at hSw); go_simp; (try with_reducible rfl))) (by assumption) ?_
        simp only [Act.put, List.setIfInBounds_toArray, List.set_cons_zero, List.set_cons_succ]
        refine take_op 26 rfl (by kernel_rfl) (by kernel_rfl) (by kernel_rfl) (fun _ _ _ h => h) (by rfl) (by (intro w hSw; (try dsimp only at hSw); go_simp; (try with_reducible rfl))) (by assumption) ?_
        simp only [Act.put, List.setIfInBounds_toArray, List.set_cons_zero, List.set_cons_succ]
        refine wpAnyH_done (by kernel_rfl) ?_ _
        go_wp2
        go_ret
        exact ⟨ret_bool (HF.out).symm, hHeld.bel⟩
      · skip
        refine take_op 20 rfl (by kernel_rfl) (by kernel_rfl) (by kernel_rfl) (fun _ _ _ h => h) (by rfl) (by (intro w hSw; (try dsimp only at hSw); go_simp; (try with_reducible rfl))) (by assumption) ?_
        simp only [Act.put, List.setIfInBounds_toArray, List.set_cons_zero, List.set_cons_succ]
        refine take_op 21 rfl (by kernel_rfl) (by kernel_rfl) (by kernel_rfl) (fun _ _ _ h => h) (by rfl) (by (intro wz hSw; (obtain ⟨c0, c1, c2, c3, c4, c5, c6, c7, c8, c9, c10⟩ := boxM_c hSw.get1); go_simp; (try with_reducible rfl))) (by assumption) ?_
        simp only [Act.put, List.setIfInBounds_toArray, List.set_cons_zero, List.set_cons_succ]
        refine take_op 22 rfl (by kernel_rfl) (by kernel_rfl) (by kernel_rfl) (fun _ _ _ h => h) (by rfl) (by (intro w hSw; (try dsimp only at hSw); go_simp; (try with_reducible rfl))) (by assumption) ?_
        simp only [Act.put, List.setIfInBounds_toArray, List.set_cons_zero, List.set_cons_succ]
        refine take_op 23 rfl (by kernel_rfl) (by kernel_rfl) (by kernel_rfl) (fun _ _ _ h => h) (by rfl) (by (intro wz hSw; (obtain ⟨c0, c1, c2, c3, c4, c5, c6, c7, c8, c9, c10⟩ := boxM_c hSw.get0); go_simp; (try with_reducible rfl))) (by assumption) ?_
        simp only [Act.put, List.setIfInBounds_toArray, List.set_cons_zero, List.set_cons_succ]
        refine at_op 24 rfl (by kernel_rfl) (by rfl) (fun K hK => ?_)
        go_simp
        refine (own_quiet hHeld (eq_wins (R3.out.keep hHeld.bel) (U3.out.keep hHeld.bel))).mono ?_
        obtain ⟨z3, hz3⟩ : ∃ z, eqL winEq a.wins b.wins = z := ⟨_, rfl⟩
        rw [hz3]
        have HF := Lib.hid (show sameB a b = z3 by rw [← hz3]; simp [sameB, HZ.out, HZ1.out, HZ2.out])
        clear hz3
        rintro e w5 ⟨rfl, hO5⟩
        refine hK.out _ _ ?_ (fun hHeld => ?_)
        · exact hO5
        clear hK K
        try simp only [Act.put, List.setIfInBounds_toArray, List.set_cons_zero, List.set_cons_succ]
        refine take_op 25 rfl (by kernel_rfl) (by kernel_rfl) (by kernel_rfl) (fun _ _ _ h => h) (by rfl) (by (intro w hSw; (try dsimp only at hSw); go_simp; (try with_reducible rfl))) (by assumption) ?_
        simp only [Act.put, List.setIfInBounds_toArray, List.set_cons_zero, List.set_cons_succ]
        refine take_op 26 rfl (by kernel_rfl) (by kernel_rfl) (by kernel_rfl) (fun _ _ _ h => h) (by rfl) (by (intro w hSw; (try dsimp only at hSw); go_simp; (try with_reducible rfl))) (by assumption) ?_
        simp only [Act.put, List.setIfInBounds_toArray, List.set_cons_zero, List.set_cons_succ]
        refine wpAnyH_done (by kernel_rfl) ?_ _
        go_wp2
        go_ret
        exact ⟨ret_bool (HF.out).symm, hHeld.bel⟩
end Go.Proofs.Ythkhlcigegbpfaa
