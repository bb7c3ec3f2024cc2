/- config.text: bytes that are made. -/
import Derived.Test.YthkhlcigegbpfaaRow
import Derived.Test.YthkhlcigegbpfaaCfPure
namespace Go.Proofs.Ythkhlcigegbpfaa
set_option linter.unusedVariables false
set_option linter.unusedSimpArgs false
open Go.ChangeShapes Go.WideShapes Go.ChangeAt Go.RowKit Go.Deep

theorem byte_infoC : (Try.prog.info? 5).map (fun i => (i.zero, i.size, i.bytes)) = some (some (.int .u8 0), 1, 1) := by kernel_rfl
def txO (v : Value) : Obj := .cells #[v] 96 (0, 0)
/-- Block bt holds a text of the bytes xs. -/
def TextS (B : Nat) (w0 : World) (bt : Nat) (xs : List Int) (L : List (Nat × Obj)) (w : World) : Prop :=
  ∃ v L1, RowL 5 1 v xs.length (xs.map (Value.int .u8)) L1 ∧ Own B w0 (L1 ++ ((bt, txO v) :: L)) w
section
variable {B bt : Nat} {w0 w w' : World} {xs : List Int} {L : List (Nat × Obj)}
theorem TextS.keep (h : TextS B w0 bt xs L w) (u : Below w.heap.size w w') : TextS B w0 bt xs L w' := by
  obtain ⟨v, L1, hR, hO⟩ := h
  exact ⟨v, L1, hR, hO.keep u⟩
theorem TextS.add (h : TextS B w0 bt xs L w) {b : Nat} {o : Obj} (hb : Below w.heap.size w w') (hl : w.heap.size ≤ b) (hk : w'.heap[b]? = some o) : TextS B w0 bt xs ((b, o) :: L) w' := by
  obtain ⟨v, L1, hR, hO⟩ := h
  refine ⟨v, L1, hR, (hO.add hb hl hk).perm' ?_⟩
  have := (List.perm_middle (a := (b, o)) (l₁ := L1 ++ [(bt, txO v)]) (l₂ := L)).symm
  simpa using this
theorem TextS.drop {x : Nat × Obj} (h : TextS B w0 bt xs (x :: L) w) : TextS B w0 bt xs L w := by
  obtain ⟨v, L1, hR, hO⟩ := h
  exact ⟨v, L1, hR, hO.sub (List.Sublist.append_left (List.Sublist.cons_cons _ (List.sublist_cons_self _ _)) _)⟩
theorem TextS.get {x : Nat × Obj} (h : TextS B w0 bt xs L w) (hx : x ∈ L) : w.heap[x.1]? = some x.2 := by
  obtain ⟨v, L1, hR, hO⟩ := h
  exact (hO.all x.1 x.2 (by simp [hx])).2
theorem TextS.bel (h : TextS B w0 bt xs L w) : Below B w0 w := by
  obtain ⟨v, L1, hR, hO⟩ := h
  exact hO.bel
theorem TextS.sz (h : TextS B w0 bt xs L w) : B ≤ w.heap.size := by
  obtain ⟨v, L1, hR, hO⟩ := h
  exact hO.sz
set_option maxRecDepth 100000 in
theorem t_one (h : TextS B w0 bt xs L w) (n : Int) (hn : 0 ≤ n ∧ n ≤ 255) (hl : xs.length ≤ 10000) :
    Calls Try.prog 78 #[.pointer (some ⟨bt, 0, none⟩), .int .i64 n] w fun e w' => e = .returned (.tuple #[]) ∧ TextS B w0 bt (xs ++ [n]) L w' := by
  obtain ⟨v, L1, hR, hO⟩ := h
  obtain ⟨i0, hi0, hi1, hi2, hi3⟩ := info_parts byte_infoC
  have hb := (hO.all bt (txO v) (by simp)).2
  have c0 := cell_of hb 0
  have f0 := free_of hb 0
  have hlt := lt_of_heap hb
  simp at c0
  have hsz := hO.sz
  have HA := Lib.hid (hR.owns (hO.alloc_ (.cells #[.int .u8 (n)] 5)))
  have HN := Lib.hid (World.news_of_block (new_blk w (.cells #[.int .u8 (n)] 5)))
  have HB := Lib.hid hb
  have HR := Lib.hid hR
  have HO := Lib.hid (hO.alloc_ (.cells #[.int .u8 (n)] 5))
  clear hR hO hb
  go_enter Try.func78, Try.ntmps78
  go_wp2_with (at_builtin; refine wpList_append_lies _ rfl _ _ 96 rfl B 5 i0 (.int .u8 0) 1 1 Try.underlying96 hi0 hi1 hi2 hi3 rfl (by decide) v xs.length (xs.map (Value.int .u8)) rfl HA.out ⟨w.heap.size, 0, none⟩ 1 1 [.int .u8 (n)] rfl rfl HN.out (by simp [Value.oneCell']) (by decide) (by unfold maxLen; omega) (by omega) (by simp; omega) (w.heap.size + 1) (by simp) ?_)
  intro g cap w1 hown hgrow hat hg1
  obtain ⟨L1', hR', hO'⟩ := HR.out.grown HO.out hown hgrow (by simpa using hat)
  have hb1 := (hO'.all bt (txO v) (by simp)).2
  have c1 := cell_of hb1 0
  have f1 := free_of hb1 0
  have hlt1 := lt_of_heap hb1
  simp at c1
  have HR' := Lib.hid hR'
  have HO' := Lib.hid hO'
  have HB1 := Lib.hid hb1
  clear hR' hO' hown hgrow hat hb1 c0 f0
  go_wp2
  go_end0
  refine ⟨rfl, .slice (some ⟨g, 0, none⟩) (xs.length + 1) cap, L1', ?_, ?_⟩
  · have := HR'.out
    simpa using this
  · exact HO'.out.upd ((Upd.setCell 0 (.slice (some ⟨g, 0, none⟩) (xs.length + 1) cap) (Upd.refl HB1.out)).of_eq (by simp [txO]))
set_option maxRecDepth 100000 in
theorem t_two (h : TextS B w0 bt xs L w) (n : Int) (hn : 0 ≤ n ∧ n ≤ 65535) (hl : xs.length ≤ 10000) :
    Calls Try.prog 79 #[.pointer (some ⟨bt, 0, none⟩), .int .i64 n] w fun e w' => e = .returned (.tuple #[]) ∧ TextS B w0 bt (xs ++ [n / 256, n % 256]) L w' := by
  obtain ⟨v, L1, hR, hO⟩ := h
  obtain ⟨i0, hi0, hi1, hi2, hi3⟩ := info_parts byte_infoC
  have hb := (hO.all bt (txO v) (by simp)).2
  have c0 := cell_of hb 0
  have f0 := free_of hb 0
  have hlt := lt_of_heap hb
  simp at c0
  have hsz := hO.sz
  have HA := Lib.hid (hR.owns (hO.alloc_ (.cells #[.int .u8 (n / 256), .int .u8 (n % 256)] 5)))
  have HN := Lib.hid (World.news_of_block (new_blk w (.cells #[.int .u8 (n / 256), .int .u8 (n % 256)] 5)))
  have HB := Lib.hid hb
  have HR := Lib.hid hR
  have HO := Lib.hid (hO.alloc_ (.cells #[.int .u8 (n / 256), .int .u8 (n % 256)] 5))
  clear hR hO hb
  go_enter Try.func79, Try.ntmps79
  go_wp2_with (at_builtin; refine wpList_append_lies _ rfl _ _ 96 rfl B 5 i0 (.int .u8 0) 1 1 Try.underlying96 hi0 hi1 hi2 hi3 rfl (by decide) v xs.length (xs.map (Value.int .u8)) rfl HA.out ⟨w.heap.size, 0, none⟩ 2 2 [.int .u8 (n / 256), .int .u8 (n % 256)] rfl rfl HN.out (by simp [Value.oneCell']) (by decide) (by unfold maxLen; omega) (by omega) (by simp; omega) (w.heap.size + 1) (by simp) ?_)
  intro g cap w1 hown hgrow hat hg1
  obtain ⟨L1', hR', hO'⟩ := HR.out.grown HO.out hown hgrow (by simpa using hat)
  have hb1 := (hO'.all bt (txO v) (by simp)).2
  have c1 := cell_of hb1 0
  have f1 := free_of hb1 0
  have hlt1 := lt_of_heap hb1
  simp at c1
  have HR' := Lib.hid hR'
  have HO' := Lib.hid hO'
  have HB1 := Lib.hid hb1
  clear hR' hO' hown hgrow hat hb1 c0 f0
  go_wp2
  go_end0
  refine ⟨rfl, .slice (some ⟨g, 0, none⟩) (xs.length + 2) cap, L1', ?_, ?_⟩
  · simpa using HR'.out
  · exact HO'.out.upd ((Upd.setCell 0 (.slice (some ⟨g, 0, none⟩) (xs.length + 2) cap) (Upd.refl HB1.out)).of_eq (by simp [txO]))
end
end Go.Proofs.Ythkhlcigegbpfaa
