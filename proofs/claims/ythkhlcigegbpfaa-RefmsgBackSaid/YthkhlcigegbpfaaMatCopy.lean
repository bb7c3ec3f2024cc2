/- matrix.Copy: the lists are made anew. -/
import Derived.Test.YthkhlcigegbpfaaMatSame
import Derived.Laws.MakeOwn
import Derived.Laws.CopyOwn
import Derived.Lib.SliceRun
namespace Go.Proofs.Ythkhlcigegbpfaa
set_option linter.unusedVariables false
set_option linter.unusedSimpArgs false
open Go.ChangeShapes Go.WideShapes Go.ChangeAt Go.RowKit Go.Deep

/-- copy of whole rows: elements of k cells. -/
theorem run_copy_rowK {P : Program} (w : World) (dT sT ty elem : TypeId) (k g n dCap : Nat) (a : Addr) (sCap : Nat) (cur : Array Value) (t : TypeId) (cs : List Value)
    (hu : P.underlying dT = some (.slice elem)) (hs : (P.info? elem).map (·.size) = some k)
    (hg : w.heap[g]? = some (.cells cur t (0, 0))) (hn : cs.length = n * k) (hsrc : ∀ j v, cs[j]? = some v → w.cell? (a.add j) = some v) (hfit : cs.length = cur.size) (h1 : ∀ v ∈ cs, v.oneCell' = true) :
    (Builtin.copy_ #[dT, sT] ty #[.slice (some ⟨g, 0, none⟩) n dCap, .slice (some a) n sCap]).run P w = .ok (goInt n) (w.setRow g cs.toArray) := by
  have hl := run_loadCells_list (P := P) w a cs hsrc
  have hst := run_storeCells_at P g 0 t cs 0 cur w hg (by omega) h1
  have hd : cur.toList.drop cs.length = [] := by simp [hfit]
  cases hq : P.info? elem with
  | none => simp [hq] at hs
  | some i =>
    have hi : i.size = k := by simpa [hq] using hs
    have hst' : (storeCells ⟨g, 0, none⟩ cs).run P w = .ok () (w.setRow g cs.toArray) := by
      simp only [Nat.zero_add, hd, List.append_nil, List.take_zero, List.nil_append] at hst
      exact hst
    clear hfit hd hst
    simp [Builtin.copy_, run_underlying hu, Builtin.lenOf, Builtin.firstCells, sizeOf, typeInfo, hq, hi, ← hn, hl, hst']
theorem wpList_copyK {P : Program} {w : World} {ops : Array Oper} {rest : List Oper} {o : Oper} {a : Act} {Q : Exit → Act → World → Prop} (hgd : o.guard = none) (d s : Operand) (dT sT : TypeId)
    (ho : o.op = .call { callee := .builtin .copy, args := #[d, s], argTypes := #[dT, sT] }) (elem : TypeId) (k : Nat) (hu : P.underlying dT = some (.slice elem)) (hsz : (P.info? elem).map (·.size) = some k)
    (g n dCap : Nat) (ad : Addr) (sCap : Nat) (hd : a.eval d = .slice (some ⟨g, 0, none⟩) n dCap) (hs : a.eval s = .slice (some ad) n sCap)
    (cur : Array Value) (t : TypeId) (hg : w.heap[g]? = some (.cells cur t (0, 0))) (cs : List Value) (hn : cs.length = n * k)
    (hsrc : ∀ j v, cs[j]? = some v → w.cell? (ad.add j) = some v) (hfit : cs.length = cur.size) (h1 : ∀ v ∈ cs, v.oneCell' = true) (B : Nat) (w0 : World) (hb : Below B w0 w) (hBg : B ≤ g)
    (h : ∀ w', Hid (w'.heap[g]? = some (.cells cs.toArray t (0, 0))) → Below B w0 w' → wpList P ops Q rest (a.put o.dst (goInt n)) w') : wpList P ops Q (o :: rest) a w := by
  refine wpList_plain hgd fun K hK => ?_
  have hrun := run_copy_rowK (P := P) w dT sT o.type elem k g n dCap ad sCap cur t cs hu hsz hg hn hsrc hfit h1
  unfold Oper.wp
  simp [execOp, ho, resolve, invoke, builtin, hd, hs, hrun, Result.andThen]
  exact hK _ _ (h _ (setRow_heap w g cur _ t _ hg) (below_setRow hb hBg _))
theorem run_make_rowN {P : Program} (t e : TypeId) (i : TypeInfo) (z : Value) (ht : P.underlying t = some (.slice e)) (hi : P.info? e = some i) (hz : i.zero = some z)
    (kl kc : IntKind) (n c : Nat) (hnc : n ≤ c) (hbytes : i.bytes * c ≤ 281474976710656) (h63 : c ≤ 9223372036854775807) (w : World) :
    (Instr.makeSlice t (.int kl (n : Int)) (.int kc (c : Int))).run P w = .ok (.slice (some ⟨w.heap.size, 0, none⟩) n c) (w.alloc (.cells (madeCells z.cells (c * i.size)) e)) := by
  have hb : (i.bytes : Int) * (c : Int) ≤ 281474976710656 := by
    have h : ((i.bytes * c : Nat) : Int) ≤ 281474976710656 := by omega
    rwa [Int.natCast_mul] at h
  have hr := run_make (P := P) w t e i z ht hi hz kl kc n c (by omega) (by omega) hb (by omega)
  simp only [Int.toNat_natCast] at hr
  exact hr

/-- A list made anew: nil, or a block of its own. -/
def NewL {α : Type} (C : α → List Value) (t : TypeId) (base : Nat) (w : World) (v : Value) (l : List α) : Prop :=
  (v = .slice none 0 0 ∧ l = []) ∨ ∃ g, v = .slice (some ⟨g, 0, none⟩) l.length l.length ∧ base ≤ g ∧ w.heap[g]? = some (.cells (l.flatMap C).toArray t (0, 0))
theorem flatMap_len {α : Type} {C : α → List Value} {k : Nat} (hk : ∀ x, (C x).length = k) : ∀ l : List α, (l.flatMap C).length = l.length * k := by
  intro l
  induction l with
  | nil => simp
  | cons x l ih => simp [hk, ih, Nat.add_mul]; omega
theorem flatMap_at {α : Type} {C : α → List Value} {k : Nat} (hk : ∀ x, (C x).length = k) : ∀ (l : List α) (i : Nat) (x : α) (j : Nat) (u : Value), l[i]? = some x → (C x)[j]? = some u → (l.flatMap C)[i * k + j]? = some u := by
  intro l
  induction l with
  | nil => intro i x j u h; simp at h
  | cons y l ih =>
    intro i x j u hi hj
    have hjk : j < k := by have := (List.getElem?_eq_some_iff.1 hj).1; rw [hk] at this; exact this
    cases i with
    | zero =>
      simp at hi
      subst hi
      simp only [List.flatMap_cons, Nat.zero_mul, Nat.zero_add]
      rw [List.getElem?_append_left (by rw [hk]; exact hjk)]
      exact hj
    | succ i =>
      have := ih i x j u (by simpa using hi) hj
      simp only [List.flatMap_cons]
      rw [List.getElem?_append_right (by rw [hk, Nat.add_mul]; omega), hk, show (i + 1) * k + j - k = i * k + j by rw [Nat.add_mul]; omega]
      exact this
theorem flatMap_inv {α : Type} {C : α → List Value} {k : Nat} (hk : ∀ x, (C x).length = k) (h0 : 0 < k) (l : List α) (j : Nat) (u : Value) (h : (l.flatMap C)[j]? = some u) : ∃ x, l[j / k]? = some x ∧ (C x)[j % k]? = some u := by
  have hlt := (List.getElem?_eq_some_iff.1 h).1
  rw [flatMap_len hk] at hlt
  have hjl : j / k < l.length := by rw [Nat.div_lt_iff_lt_mul h0]; exact hlt
  have hm : j % k < (C l[j / k]).length := by rw [hk]; exact Nat.mod_lt _ h0
  refine ⟨l[j / k], by simp [hjl], ?_⟩
  have := flatMap_at hk l (j / k) l[j / k] (j % k) ((C l[j / k])[j % k]) (by simp [hjl]) (by simp [hm])
  rw [Nat.mul_comm, Nat.div_add_mod] at this
  rw [h] at this
  cases this
  simp [hm]
theorem NewL.rd {α : Type} {C : α → List Value} {k base : Nat} {t : TypeId} {w : World} {v : Value} {l : List α} (hk : ∀ x, (C x).length = k) (hl : l.length ≤ maxLen) (h : NewL C t base w v l) : RdL k C w v l := by
  rcases h with ⟨rfl, rfl⟩ | ⟨g, rfl, _, hg⟩
  · exact ⟨none, 0, rfl, by simp, by simp [maxLen], fun i x hi => by simp at hi⟩
  · refine ⟨_, _, rfl, Nat.le_refl _, hl, fun i x hi => ⟨g, 0, rfl, lt_of_heap hg, fun j u hj => ?_⟩⟩
    rw [cell_of hg]
    have := flatMap_at hk l i x j u hi hj
    simpa using this
theorem NewL.keep {α : Type} {C : α → List Value} {base : Nat} {t : TypeId} {w w' : World} {v : Value} {l : List α} (h : NewL C t base w v l) (hb : Below w.heap.size w w') : NewL C t base w' v l := by
  rcases h with h | ⟨g, e, hl, hg⟩
  · exact .inl h
  · exact .inr ⟨g, e, hl, (hb.block g (lt_of_heap hg)).trans hg⟩
theorem intC_len (x : Int) : (intC x).length = 1 := rfl
theorem msgC_len (x : Msg) : (msgC x).length = 3 := rfl
theorem winC_len (x : Win) : (winC x).length = 6 := rfl
theorem intC_one (l : List Int) : ∀ u ∈ l.flatMap intC, u.oneCell' = true := by intro u hu; simp [intC] at hu; obtain ⟨x, _, rfl⟩ := hu; rfl
theorem msgC_one (l : List Msg) : ∀ u ∈ l.flatMap msgC, u.oneCell' = true := by intro u hu; simp [msgC] at hu; obtain ⟨x, _, rfl | rfl | rfl⟩ := hu <;> rfl
theorem winC_one (l : List Win) : ∀ u ∈ l.flatMap winC, u.oneCell' = true := by intro u hu; simp [winC] at hu; obtain ⟨x, _, h⟩ := hu; rcases h with rfl | rfl | rfl | rfl | rfl | rfl <;> rfl
/-- The cells of a row, as one list. -/
theorem RdL.flat {α : Type} {k : Nat} {C : α → List Value} {w : World} {b off n cap : Nat} {l : List α} (hk : ∀ x, (C x).length = k) (h0 : 0 < k) (h : RdL k C w (.slice (some ⟨b, off, none⟩) n cap) l) (j : Nat) (u : Value) (hj : (l.flatMap C)[j]? = some u) : w.cell? ⟨b, off + j, none⟩ = some u := by
  obtain ⟨x, hx, hu⟩ := flatMap_inv hk h0 l j u hj
  obtain ⟨a', cap', e, _, _, h3⟩ := h
  simp only [Value.slice.injEq] at e
  obtain ⟨rfl, rfl, rfl⟩ := e
  obtain ⟨b', off', e, _, hc⟩ := h3 _ x hx
  simp only [Option.some.injEq, Addr.mk.injEq] at e
  obtain ⟨rfl, rfl, _⟩ := e
  have := hc _ u hu
  rwa [show j / k * k + j % k = j by rw [Nat.mul_comm]; exact Nat.div_add_mod j k] at this

theorem info_int : ∃ i, Try.prog.info? 3 = some i ∧ i.bytes = 8 ∧ i.size = 1 ∧ i.zero = some (.int .i64 0) := by
  have h : (Try.prog.info? 3).map (fun i => (i.bytes, i.size, i.zero)) = some (8, 1, some (.int .i64 0)) := by kernel_rfl
  obtain ⟨i, hi, hb⟩ := Option.map_eq_some_iff.1 h
  simp only [Prod.mk.injEq] at hb
  exact ⟨i, hi, hb.1, hb.2.1, hb.2.2⟩
set_option maxRecDepth 100000 in
theorem copied_ints {w : World} {a : Option Addr} {n cap : Nat} {l : List Int} (h : RdL 1 intC w (.slice a n cap) l) (hn : n ≤ 100000) :
    Calls Try.prog 57 #[.slice a n cap] w fun e w' => ∃ v', e = .returned v' ∧ Below w.heap.size w w' ∧ NewL intC 3 w.heap.size w' v' l := by
  obtain ⟨hl, hc1, hc2⟩ := h.len
  obtain ⟨i0, hi0, hi1, hi2, hi3⟩ := info_int
  unfold maxLen at hc2
  cases a with
  | none =>
    obtain rfl : l = [] := by
      cases l with
      | nil => rfl
      | cons x l =>
        obtain ⟨_, _, e, _, _, h3⟩ := h
        obtain ⟨_, _, e', _⟩ := h3 0 x rfl
        simp only [Value.slice.injEq] at e
        rw [e'] at e
        cases e.1
    have heq : (binOp .eql 23 (.slice none n cap) (.slice none 0 0)).run Try.prog w = .ok (.bool true) w := by
      simpa using Lib.run_eql_slice_nil (P := Try.prog) w 23 3 none n cap 0 0 Try.underlying23
    clear h hi0 hi1 hi2 hi3 hc1 hc2 hl hn
    go_enter Try.func57, Try.ntmps57
    go_wp2
    go_ret
    exact ⟨_, rfl, Below.refl _ _, .inl ⟨rfl, rfl⟩⟩
  | some ad =>
    have hmk := run_make_rowN (P := Try.prog) 23 3 i0 _ Try.underlying23 hi0 hi3 .i64 .i64 n n (Nat.le_refl _) (by rw [hi1]; omega) (by omega) w
    have heq : (binOp .eql 23 (.slice (some ad) n cap) (.slice none 0 0)).run Try.prog w = .ok (.bool false) w := by
      simpa using Lib.run_eql_slice_nil (P := Try.prog) w 23 3 (some ad) n cap 0 0 Try.underlying23
    have hsp : 0 < n → ad.spot = none := by
      intro h0
      obtain ⟨x, b, off, _, _, e, _⟩ := h.at_ 0 h0
      cases e
      rfl
    have hadd : ∀ j u, (l.flatMap intC)[j]? = some u → w.cell? (ad.add j) = some u := by
      intro j u hj
      have h0 : 0 < n := by
        cases l with
        | nil => simp at hj
        | cons x l => simp at hl; omega
      obtain ⟨b, off, spot⟩ := ad
      have := hsp h0
      simp only at this
      subst this
      rw [show (⟨b, off, none⟩ : Addr).add j = ⟨b, off + j, none⟩ by simp [Addr.add]]
      exact h.flat intC_len (by decide) j u hj
    have hlen := flatMap_len intC_len l
    have HL := Lib.hid hl
    have HADD := Lib.hid hadd
    have HLEN := Lib.hid hlen
    have HI := Lib.hid hi2
    clear hl hadd hsp h hlen hi1 hi3 hi2
    go_enter Try.func57, Try.ntmps57
    go_wp2_with (with_reducible refine wpList_copyK rfl _ _ 23 23 rfl 3 1 Try.underlying23 (by kernel_rfl) w.heap.size n n ad cap rfl rfl _ 3 (new_blk _ _) (l.flatMap intC) ?c0 ?c1 ?c2 ?c3 w.heap.size w ?c4 (Nat.le_refl _) ?_)
    case c0 => rw [HLEN.out, HL.out]
    case c1 =>
      intro j u hj
      have h1 := HADD.out j u hj
      exact (World.cell?_alloc_some w _ _ (by rw [h1]; rfl)).trans h1
    case c2 => rw [HLEN.out, HI.out, ← HL.out]; simp [madeCells]
    case c3 => exact intC_one l
    case c4 => exact (Below.refl _ _).alloc (Nat.le_refl _) _
    intro w1 H1 hB
    go_wp2
    go_ret
    refine ⟨_, rfl, hB, .inr ⟨w.heap.size, ?_, Nat.le_refl _, H1.out⟩⟩
    rw [← HL.out]
    rfl
theorem info_msg : ∃ i, Try.prog.info? 53 = some i ∧ i.bytes = 24 ∧ i.size = 3 ∧ i.zero = some (.agg #[.int .u32 0, .int .i64 0, .bool false]) := by
  have h : (Try.prog.info? 53).map (fun i => (i.bytes, i.size, i.zero)) = some (24, 3, some (.agg #[.int .u32 0, .int .i64 0, .bool false])) := by kernel_rfl
  obtain ⟨i, hi, hb⟩ := Option.map_eq_some_iff.1 h
  simp only [Prod.mk.injEq] at hb
  exact ⟨i, hi, hb.1, hb.2.1, hb.2.2⟩
set_option maxRecDepth 100000 in
theorem copied_msgs {w : World} {a : Option Addr} {n cap : Nat} {l : List Msg} (h : RdL 3 msgC w (.slice a n cap) l) (hn : n ≤ 100000) :
    Calls Try.prog 58 #[.slice a n cap] w fun e w' => ∃ v', e = .returned v' ∧ Below w.heap.size w w' ∧ NewL msgC 53 w.heap.size w' v' l := by
  obtain ⟨hl, hc1, hc2⟩ := h.len
  obtain ⟨i0, hi0, hi1, hi2, hi3⟩ := info_msg
  unfold maxLen at hc2
  cases a with
  | none =>
    obtain rfl : l = [] := by
      cases l with
      | nil => rfl
      | cons x l =>
        obtain ⟨_, _, e, _, _, h3⟩ := h
        obtain ⟨_, _, e', _⟩ := h3 0 x rfl
        simp only [Value.slice.injEq] at e
        rw [e'] at e
        cases e.1
    have heq : (binOp .eql 24 (.slice none n cap) (.slice none 0 0)).run Try.prog w = .ok (.bool true) w := by
      simpa using Lib.run_eql_slice_nil (P := Try.prog) w 24 53 none n cap 0 0 Try.underlying24
    clear h hi0 hi1 hi2 hi3 hc1 hc2 hl hn
    go_enter Try.func58, Try.ntmps58
    go_wp2
    go_ret
    exact ⟨_, rfl, Below.refl _ _, .inl ⟨rfl, rfl⟩⟩
  | some ad =>
    have hmk := run_make_rowN (P := Try.prog) 24 53 i0 _ Try.underlying24 hi0 hi3 .i64 .i64 n n (Nat.le_refl _) (by rw [hi1]; omega) (by omega) w
    have heq : (binOp .eql 24 (.slice (some ad) n cap) (.slice none 0 0)).run Try.prog w = .ok (.bool false) w := by
      simpa using Lib.run_eql_slice_nil (P := Try.prog) w 24 53 (some ad) n cap 0 0 Try.underlying24
    have hsp : 0 < n → ad.spot = none := by
      intro h0
      obtain ⟨x, b, off, _, _, e, _⟩ := h.at_ 0 h0
      cases e
      rfl
    have hadd : ∀ j u, (l.flatMap msgC)[j]? = some u → w.cell? (ad.add j) = some u := by
      intro j u hj
      have h0 : 0 < n := by
        cases l with
        | nil => simp at hj
        | cons x l => simp at hl; omega
      obtain ⟨b, off, spot⟩ := ad
      have := hsp h0
      simp only at this
      subst this
      rw [show (⟨b, off, none⟩ : Addr).add j = ⟨b, off + j, none⟩ by simp [Addr.add]]
      exact h.flat msgC_len (by decide) j u hj
    have hlen := flatMap_len msgC_len l
    have HL := Lib.hid hl
    have HADD := Lib.hid hadd
    have HLEN := Lib.hid hlen
    have HI := Lib.hid hi2
    clear hl hadd hsp h hlen hi1 hi3 hi2
    go_enter Try.func58, Try.ntmps58
    go_wp2_with (with_reducible refine wpList_copyK rfl _ _ 24 24 rfl 53 3 Try.underlying24 (by kernel_rfl) w.heap.size n n ad cap rfl rfl _ 53 (new_blk _ _) (l.flatMap msgC) ?c0 ?c1 ?c2 ?c3 w.heap.size w ?c4 (Nat.le_refl _) ?_)
    case c0 => rw [HLEN.out, HL.out]
    case c1 =>
      intro j u hj
      have h1 := HADD.out j u hj
      exact (World.cell?_alloc_some w _ _ (by rw [h1]; rfl)).trans h1
    case c2 => rw [HLEN.out, HI.out, ← HL.out]; simp [madeCells]
    case c3 => exact msgC_one l
    case c4 => exact (Below.refl _ _).alloc (Nat.le_refl _) _
    intro w1 H1 hB
    go_wp2
    go_ret
    refine ⟨_, rfl, hB, .inr ⟨w.heap.size, ?_, Nat.le_refl _, H1.out⟩⟩
    rw [← HL.out]
    rfl
theorem info_win : ∃ i, Try.prog.info? 56 = some i ∧ i.bytes = 48 ∧ i.size = 6 ∧ i.zero = some (.agg #[.int .i64 0, .int .i64 0, .int .i64 0, .int .i64 0, .int .i64 0, .int .i64 0]) := by
  have h : (Try.prog.info? 56).map (fun i => (i.bytes, i.size, i.zero)) = some (48, 6, some (.agg #[.int .i64 0, .int .i64 0, .int .i64 0, .int .i64 0, .int .i64 0, .int .i64 0])) := by kernel_rfl
  obtain ⟨i, hi, hb⟩ := Option.map_eq_some_iff.1 h
  simp only [Prod.mk.injEq] at hb
  exact ⟨i, hi, hb.1, hb.2.1, hb.2.2⟩
set_option maxRecDepth 100000 in
theorem copied_wins {w : World} {a : Option Addr} {n cap : Nat} {l : List Win} (h : RdL 6 winC w (.slice a n cap) l) (hn : n ≤ 100000) :
    Calls Try.prog 59 #[.slice a n cap] w fun e w' => ∃ v', e = .returned v' ∧ Below w.heap.size w w' ∧ NewL winC 56 w.heap.size w' v' l := by
  obtain ⟨hl, hc1, hc2⟩ := h.len
  obtain ⟨i0, hi0, hi1, hi2, hi3⟩ := info_win
  unfold maxLen at hc2
  cases a with
  | none =>
    obtain rfl : l = [] := by
      cases l with
      | nil => rfl
      | cons x l =>
        obtain ⟨_, _, e, _, _, h3⟩ := h
        obtain ⟨_, _, e', _⟩ := h3 0 x rfl
        simp only [Value.slice.injEq] at e
        rw [e'] at e
        cases e.1
    have heq : (binOp .eql 25 (.slice none n cap) (.slice none 0 0)).run Try.prog w = .ok (.bool true) w := by
      simpa using Lib.run_eql_slice_nil (P := Try.prog) w 25 56 none n cap 0 0 Try.underlying25
    clear h hi0 hi1 hi2 hi3 hc1 hc2 hl hn
    go_enter Try.func59, Try.ntmps59
    go_wp2
    go_ret
    exact ⟨_, rfl, Below.refl _ _, .inl ⟨rfl, rfl⟩⟩
  | some ad =>
    have hmk := run_make_rowN (P := Try.prog) 25 56 i0 _ Try.underlying25 hi0 hi3 .i64 .i64 n n (Nat.le_refl _) (by rw [hi1]; omega) (by omega) w
    have heq : (binOp .eql 25 (.slice (some ad) n cap) (.slice none 0 0)).run Try.prog w = .ok (.bool false) w := by
      simpa using Lib.run_eql_slice_nil (P := Try.prog) w 25 56 (some ad) n cap 0 0 Try.underlying25
    have hsp : 0 < n → ad.spot = none := by
      intro h0
      obtain ⟨x, b, off, _, _, e, _⟩ := h.at_ 0 h0
      cases e
      rfl
    have hadd : ∀ j u, (l.flatMap winC)[j]? = some u → w.cell? (ad.add j) = some u := by
      intro j u hj
      have h0 : 0 < n := by
        cases l with
        | nil => simp at hj
        | cons x l => simp at hl; omega
      obtain ⟨b, off, spot⟩ := ad
      have := hsp h0
      simp only at this
      subst this
      rw [show (⟨b, off, none⟩ : Addr).add j = ⟨b, off + j, none⟩ by simp [Addr.add]]
      exact h.flat winC_len (by decide) j u hj
    have hlen := flatMap_len winC_len l
    have HL := Lib.hid hl
    have HADD := Lib.hid hadd
    have HLEN := Lib.hid hlen
    have HI := Lib.hid hi2
    clear hl hadd hsp h hlen hi1 hi3 hi2
    go_enter Try.func59, Try.ntmps59
    go_wp2_with (with_reducible refine wpList_copyK rfl _ _ 25 25 rfl 56 6 Try.underlying25 (by kernel_rfl) w.heap.size n n ad cap rfl rfl _ 56 (new_blk _ _) (l.flatMap winC) ?c0 ?c1 ?c2 ?c3 w.heap.size w ?c4 (Nat.le_refl _) ?_)
    case c0 => rw [HLEN.out, HL.out]
    case c1 =>
      intro j u hj
      have h1 := HADD.out j u hj
      exact (World.cell?_alloc_some w _ _ (by rw [h1]; rfl)).trans h1
    case c2 => rw [HLEN.out, HI.out, ← HL.out]; simp [madeCells]
    case c3 => exact winC_one l
    case c4 => exact (Below.refl _ _).alloc (Nat.le_refl _) _
    intro w1 H1 hB
    go_wp2
    go_ret
    refine ⟨_, rfl, hB, .inr ⟨w.heap.size, ?_, Nat.le_refl _, H1.out⟩⟩
    rw [← HL.out]
    rfl
end Go.Proofs.Ythkhlcigegbpfaa
