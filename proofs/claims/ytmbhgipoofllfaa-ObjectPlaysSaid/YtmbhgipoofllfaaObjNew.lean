/- The package object: Event; New. -/
import Derived.Test.YtmbhgipoofllfaaObjSent
import Derived.Test.YtmbhgipoofllfaaMatCopy2W
namespace Go.Proofs.Ytmbhgipoofllfaa
set_option linter.unusedVariables false
set_option linter.unusedSimpArgs false
open Go.ChangeShapes Go.WideShapes Go.ChangeAt Go.RowKit Go.Deep
section
variable {w : World} {o : Nat} {m : Mat} {s1 s2 s3 : Value} {who : Int} {b1 b2 q : Nat} {T : TypeId}
theorem obj_event {c cap s r : Nat} {l : List Ev} (h : w.heap[o]? = some (objO m s1 s2 s3 who b1 b2 q T)) (hq : w.heap[q]? = some (queO c)) (hc : w.heap[c]? = some (chaO cap l s r)) (hl : l.length ≤ cap) (h4 : cap ≤ 4) :
    Calls Try.prog 38 #[.pointer (some ⟨o, 0, none⟩)] w (HeadP c cap l (headOf l).1 (headOf l).2 w) := by
  obtain ⟨⟨ms, dt⟩, hx⟩ : ∃ x, (headOf l).1 = x := ⟨_, rfl⟩
  obtain ⟨z, hz⟩ : ∃ z, (headOf l).2 = z := ⟨_, rfl⟩
  rw [hx, hz]
  have HX := Lib.hid (And.intro hx hz)
  have hlo := lt_of_heap h
  have hlq := lt_of_heap hq
  have hlc := lt_of_heap hc
  have HQ := Lib.hid ((old_blk w (.cells #[.int .i64 0, .string ⟨#[]⟩] 29) q hlq).trans hq)
  have HC := Lib.hid ((old_blk w (.cells #[.int .i64 0, .string ⟨#[]⟩] 29) c hlc).trans hc)
  have h1 := (old_blk w (.cells #[.int .i64 0, .string ⟨#[]⟩] 29) o hlo).trans h
  obtain ⟨c9, c11, c12, c13, c14⟩ := obj_c h1
  have hlo1 := lt_of_heap h1
  have HL := Lib.hid hl
  have HN := Lib.hid (new_blk w (.cells #[.int .i64 0, .string ⟨#[]⟩] 29))
  have HCC := Lib.hid hc
  clear hx hz hq hc h1 hl h
  go_enter Try.func38, Try.ntmps38
  go_wp2_with fail
  refine (que_head HQ.out HC.out HL.out h4).mono ?_
  rintro e w2 ⟨s', r', rfl, hU⟩
  rw [HX.out.1, HX.out.2]
  have hd := (hU.other w.heap.size (by simp) (by omega)).trans HN.out
  have HU := Lib.hid (Upd.after ((Below.refl w.heap.size w).alloc (Nat.le_refl _) _) hU)
  have d0 := cell_of hd 0
  have d1 := cell_of hd 1
  have f0 := free_of hd 0
  have f1 := free_of hd 1
  have hld := lt_of_heap hd
  have HD := Lib.hid hd
  clear hU hd c9 c11 c12 c13 c14 hlo1
  simp at d0 d1
  simp only [evV]
  go_wp2
  obtain ⟨r0, r1⟩ := del_cells HD.out ⟨ms, dt⟩
  exact bodyPost_ret (v := .tuple #[.agg #[.int .i64 ms, .string dt], .bool z]) (by (try simp at r0 r1); simp [results, Try.results38, go_sem, r0, r1]) rfl ⟨_, _, rfl, (HU.out.setCell_else _ _ (by simp; omega) (by simp)).setCell_else _ _ (by simp; omega) (by simp)⟩
end
def NewP (m : Mat) (who : Int) (w : World) (e : Ending) (w' : World) : Prop := ∃ (o q c b1 b2 : Nat) (s1 s2 s3 : Value) (w0 : World), e = .returned (.pointer (some ⟨o, 0, none⟩)) ∧ Below w.heap.size w w0 ∧ RdL 3 msgC w0 s2 m.msgs ∧
  Own w0.heap.size w0 [(o, objO m s1 s2 s3 who b1 b2 q 90), (q, queO c), (c, chaO 4 [] 0 0), (b2, .map #[] 0), (b1, .map #[] 0)] w'
set_option maxRecDepth 100000 in
theorem obj_new {w : World} {m : Mat} {s1 s2 s3 : Value} (h : RdM w m s1 s2 s3) (hf : FewM m) (who : Int) :
    Calls Try.prog 25 #[matV m s1 s2 s3, .int .i64 who] w (NewP m who w) := by
  obtain ⟨a1, p1, e1, _⟩ := h.r1.shape
  obtain ⟨a2, p2, e2, _⟩ := h.r2.shape
  obtain ⟨a3, p3, e3, _⟩ := h.r3.shape
  subst e1 e2 e3
  have hO := (Own.nil_ (Below.refl w.heap.size w) (Nat.le_refl _)).alloc (boxM m (.slice a1 m.masters.length p1) (.slice a2 m.msgs.length p2) (.slice a3 m.wins.length p3))
  have RM := Lib.hid h
  clear h
  obtain ⟨c0, c1, c2, c3, c4, c5, c6, c7, c8, c9, c10⟩ := boxM_c hO.get0
  have hml := lt_of_heap hO.get0
  unfold boxM at c0 c1 c2 c3 c4 c5 c6 c7 c8 c9 c10 hml
  have hmm := @run_makeMap Try.prog
  go_enter Try.func25, Try.ntmps25
  unfold matV
  go_wp2_with fail
  refine (mat_copy (RM.out.keep hO.bel) hf).mono ?_
  rintro e w1 ⟨v1, v2, v3, rfl, hB, hN⟩
  have HB := Lib.hid (hO.bel.trans (hB.mono hO.bel.size))
  have HR := Lib.hid (hN.rd hf RM.out.ok)
  clear hB hN c0 c1 c2 c3 c4 c5 c6 c7 c8 c9 c10 hml hO
  simp only [matV]
  go_wp2_with fail
  have hO1 := ((Own.nil_ (Below.refl w1.heap.size w1) (Nat.le_refl _)).alloc (.map #[] 0)).alloc (.map #[] 0)
  have hs1 : (w1.alloc (.map #[] 0)).heap.size = w1.heap.size + 1 := by simp
  rw [hs1] at hO1
  clear hs1
  refine (que_new 4 _).mono ?_
  rintro e w2 ⟨q, c, rfl, hq, hc, hBq, hlq, hlc, hqc⟩
  rw [show ((min (max (4 : Int) 1) 4).toNat) = 4 by decide] at hc
  have hO2 := (hO1.add hBq hlc hc)
  have hfr : w1.heap.size ≤ q ∧ ∀ b u, (b, u) ∈ [(c, chaO 4 [] 0 0), (w1.heap.size + 1, Obj.map #[] 0), (w1.heap.size, Obj.map #[] 0)] → b ≠ q := by
    simp at hlq hlc
    refine ⟨by omega, ?_⟩
    intro b u hm
    simp only [List.mem_cons, Prod.mk.injEq, List.not_mem_nil, or_false] at hm
    rcases hm with ⟨rfl, _⟩ | ⟨rfl, _⟩ | ⟨rfl, _⟩
    · exact fun e => hqc e.symm
    · omega
    · omega
  have hO3 := Lib.hid ((hO2.more hq hfr.1 hfr.2).alloc (objO m v1 v2 v3 who w1.heap.size (w1.heap.size + 1) q 90))
  clear hO1 hO2 hfr hq hc hBq hlq hlc hqc
  go_wp2
  go_ret
  exact ⟨_, q, c, w1.heap.size, w1.heap.size + 1, v1, v2, v3, w1, rfl, HB.out, HR.out.r2, hO3.out⟩
end Go.Proofs.Ytmbhgipoofllfaa
