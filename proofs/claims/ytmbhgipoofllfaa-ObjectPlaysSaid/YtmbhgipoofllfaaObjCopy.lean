/- maps.Clone; Copy of a node: the copy's blocks beside the elder's. -/
import Derived.Test.YtmbhgipoofllfaaObjectComes
import Derived.Test.YtmbhgipoofllfaaQueuePair
import Derived.Shelf.SlMaps.Clone
import Derived.Test.YtmbhgipoofllfaaHeld
namespace Go.Proofs.Ytmbhgipoofllfaa
set_option linter.unusedVariables false
set_option linter.unusedSimpArgs false
open Go.ChangeShapes Go.WideShapes Go.ChangeAt Go.RowKit Go.Deep

set_option maxRecDepth 100000 in
set_option maxHeartbeats 2000000 in
theorem map_clone {w : World} {b : Nat} {es : Array MapEntry} {clock : Nat} (hb : w.heap[b]? = some (.map es clock)) :
    Calls Try.prog 43 #[.map (some b)] w fun e w' => e = .returned (.map (some w.heap.size)) ∧ w' = w.alloc (.map es clock) := by
  have hq := fun w => run_eql_map_nil_sl (P := Try.prog) w 88 _ _ (some b) Try.underlying88
  go_enter Try.func43, Try.ntmps43
  go_wp2
  rw [run_callFunc_extern Try.func48 (by kernel_rfl) (by kernel_rfl) (by kernel_rfl) (e := Extern.MapsClone.clone) (by kernel_rfl), run_maps_clone_sl w 88 hb]
  simp only [Result.andThen]
  rw [Oper.upon_value]
  go_wp2
  rw [run_typeAssert_map_sl _ 88 20 _ _ _ Try.underlying88]
  simp only [Result.andThen]
  rw [Oper.upon_value]
  go_wp2
  go_ret
  exact ⟨rfl, rfl⟩
/-- A node's blocks. -/
def dB (d : OD) (l : List Ev) (s r : Nat) (o1 o2 : Obj) : List (Nat × Obj) := [(d.o, objO d.m d.s1 d.s2 d.s3 d.who d.b1 d.b2 d.q 90), (d.q, queO d.c), (d.c, chaO 4 l s r), (d.b2, o2), (d.b1, o1)]
theorem objO_all {w : World} {o : Nat} {m : Mat} {s1 s2 s3 : Value} {who : Int} {b1 b2 q : Nat} {T : TypeId} (h : w.heap[o]? = some (objO m s1 s2 s3 who b1 b2 q T)) :
    (w.cell? ⟨o, 0, none⟩ = some (.int .i64 m.level) ∧ w.cell? ⟨o, 1, none⟩ = some (.int .i64 m.nodes) ∧ w.cell? ⟨o, 2, none⟩ = some (.int .i64 m.cycles) ∧ w.cell? ⟨o, 3, none⟩ = some (.int .i64 m.length) ∧ w.cell? ⟨o, 4, none⟩ = some (.int .i64 m.enable) ∧ w.cell? ⟨o, 5, none⟩ = some (.int .i64 m.unit) ∧ w.cell? ⟨o, 6, none⟩ = some (.int .i64 m.init) ∧ w.cell? ⟨o, 7, none⟩ = some (.int .u32 m.ref)) ∧
    (w.cell? ⟨o, 8, none⟩ = some s1 ∧ w.cell? ⟨o, 9, none⟩ = some s2 ∧ w.cell? ⟨o, 10, none⟩ = some s3 ∧ w.cell? ⟨o, 11, none⟩ = some (.int .i64 who) ∧ w.cell? ⟨o, 12, none⟩ = some (.map (some b1)) ∧ w.cell? ⟨o, 13, none⟩ = some (.map (some b2)) ∧ w.cell? ⟨o, 14, none⟩ = some (.pointer (some ⟨q, 0, none⟩))) :=
  ⟨⟨cell_of h 0, cell_of h 1, cell_of h 2, cell_of h 3, cell_of h 4, cell_of h 5, cell_of h 6, cell_of h 7⟩, cell_of h 8, cell_of h 9, cell_of h 10, cell_of h 11, cell_of h 12, cell_of h 13, cell_of h 14⟩
theorem MapO.obj {o : Obj} {n : Nat} {f : Int → Option ByteArray} (h : MapO o n f) : ∃ es clock, o = .map es clock := by
  obtain ⟨es, clock, D, e, _⟩ := h
  exact ⟨es, clock, e⟩
theorem own_dB {d : OD} {E : List (Nat × Obj)} {w0 w : World} {l : List Ev} {s r B : Nat} {o1 o2 : Obj} (h : Own B w0 (dB d l s r o1 o2 ++ E) w) :
    w.heap[d.o]? = some (objO d.m d.s1 d.s2 d.s3 d.who d.b1 d.b2 d.q 90) ∧ w.heap[d.q]? = some (queO d.c) ∧ w.heap[d.c]? = some (chaO 4 l s r) ∧ w.heap[d.b2]? = some o2 ∧ w.heap[d.b1]? = some o1 :=
  ⟨(h.all _ _ (by simp [dB])).2, (h.all _ _ (by simp [dB])).2, (h.all _ _ (by simp [dB])).2, (h.all _ _ (by simp [dB])).2, (h.all _ _ (by simp [dB])).2⟩
section
variable {d dc : OD} {E : List (Nat × Obj)} {w0 w w' : World} {l l' : List Ev} {n1 n2 m1 m2 : Nat} {f g f' g' : Int → Option ByteArray}
theorem ObjS.back {s r : Nat} {o1 o2 : Obj} (h : ObjS dc (dB d l s r o1 o2 ++ E) w0 w l' m1 f' m2 g') (h1 : MapO o1 n1 f) (h2 : MapO o2 n2 g) (hr : RdL 3 msgC w0 d.s2 d.m.msgs) (h4 : l.length ≤ 4) : ObjS d E w0 w l n1 f n2 g := by
  obtain ⟨s', r', p1, p2, hO, _⟩ := h
  refine ⟨s, r, o1, o2, hO.sub ?_, h1, h2, hr, h4⟩
  exact List.sublist_append_right [_, _, _, _, _] _
/-- What stands behind a copy. -/
def CopyP (d : OD) (E : List (Nat × Obj)) (w0 : World) (l : List Ev) (n1 : Nat) (f : Int → Option ByteArray) (n2 : Nat) (g : Int → Option ByteArray) (e : Ending) (w' : World) : Prop :=
  ∃ (dc : OD) (s r : Nat) (o1 o2 : Obj), e = .returned (.pointer (some ⟨dc.o, 0, none⟩)) ∧ dc.m = d.m ∧ dc.who = d.who ∧ MapO o1 n1 f ∧ MapO o2 n2 g ∧ RdL 3 msgC w0 d.s2 d.m.msgs ∧ l.length ≤ 4 ∧ ObjS dc (dB d l s r o1 o2 ++ E) w0 w' l n1 f n2 g
set_option maxRecDepth 100000 in
set_option maxHeartbeats 2000000 in
theorem s_copy (h : ObjS d E w0 w l n1 f n2 g) :
    Calls Try.prog 34 #[.pointer (some ⟨d.o, 0, none⟩)] w (CopyP d E w0 l n1 f n2 g) := by
  obtain ⟨s, r, o1, o2, hO, h1, h2, h3, h4⟩ := h
  obtain ⟨es1, ck1, e1⟩ := h1.obj
  obtain ⟨es2, ck2, e2⟩ := h2.obj
  subst e1 e2
  have H1 := Lib.hid h1
  have H2 := Lib.hid h2
  have H3 := Lib.hid h3
  have H4 := Lib.hid h4
  clear h1 h2 h3 h4
  go_enter Try.func34, Try.ntmps34
  go_wp2_with fail
  refine wp_region_held_drew (S := fun w' => ∃ s r, Own w0.heap.size w0 (dB d l s r (.map es1 ck1) (.map es2 ck2) ++ E) w') (by kernel_rfl) ⟨s, r, hO.drew⟩ (fun hHeld => ?_)
  have hO1 : Own w0.heap.size w0 (dB d l s r (.map es1 ck1) (.map es2 ck2) ++ E) w.drew := hO.drew
  clear hO
  refine take_op 0 rfl (by kernel_rfl) (by kernel_rfl) (by kernel_rfl) (fun _ _ _ h => h) (by rfl) (by (intro w hSw; (try dsimp only at hSw); go_simp; (try with_reducible rfl))) (by assumption) ?_
  simp only [Act.put, List.setIfInBounds_toArray, List.set_cons_zero, List.set_cons_succ]
  refine take_op 1 rfl (by kernel_rfl) (by kernel_rfl) (by kernel_rfl) (fun _ _ _ h => h) (by rfl) (by (intro w hSw; (try dsimp only at hSw); go_simp; (try with_reducible rfl))) (by assumption) ?_
  simp only [Act.put, List.setIfInBounds_toArray, List.set_cons_zero, List.set_cons_succ]
  refine take_op 2 rfl (by kernel_rfl) (by kernel_rfl) (by kernel_rfl) (fun _ _ _ h => h) (by rfl) (by (intro w hSw; (try dsimp only at hSw); go_simp; (try with_reducible rfl))) (by assumption) ?_
  simp only [Act.put, List.setIfInBounds_toArray, List.set_cons_zero, List.set_cons_succ]
  refine take_op 3 rfl (by kernel_rfl) (by kernel_rfl) (by kernel_rfl) (fun _ _ _ h => h) (by rfl) (by (intro wz hSw; (obtain ⟨s', r', hOw⟩ := hSw; obtain ⟨⟨c0, c1, c2, c3, c4, c5, c6, c7⟩, c8, c9, c10, c11, c12, c13, c14⟩ := objO_all (own_dB hOw).1; have hl := lt_of_heap (own_dB hOw).1); go_simp; (try with_reducible rfl))) (by assumption) ?_
  simp only [Act.put, List.setIfInBounds_toArray, List.set_cons_zero, List.set_cons_succ]
  refine take_op 4 rfl (by kernel_rfl) (by kernel_rfl) (by kernel_rfl) (fun _ _ _ h => h) (by rfl) (by (intro w hSw; (try dsimp only at hSw); go_simp; (try with_reducible rfl))) (by assumption) ?_
  simp only [Act.put, List.setIfInBounds_toArray, List.set_cons_zero, List.set_cons_succ]
  refine take_op 5 rfl (by kernel_rfl) (by kernel_rfl) (by kernel_rfl) (fun _ _ _ h => h) (by rfl) (by (intro w hSw; (try dsimp only at hSw); go_simp; (try with_reducible rfl))) (by assumption) ?_
  simp only [Act.put, List.setIfInBounds_toArray, List.set_cons_zero, List.set_cons_succ]
  refine take_op 6 rfl (by kernel_rfl) (by kernel_rfl) (by kernel_rfl) (fun _ _ _ h => h) (by rfl) (by (intro w hSw; (try dsimp only at hSw); go_simp; (try with_reducible rfl))) (by assumption) ?_
  simp only [Act.put, List.setIfInBounds_toArray, List.set_cons_zero, List.set_cons_succ]
  refine take_op 7 rfl (by kernel_rfl) (by kernel_rfl) (by kernel_rfl) (fun _ _ _ h => h) (by rfl) (by (intro wz hSw; (obtain ⟨s', r', hOw⟩ := hSw; obtain ⟨⟨c0, c1, c2, c3, c4, c5, c6, c7⟩, c8, c9, c10, c11, c12, c13, c14⟩ := objO_all (own_dB hOw).1; have hl := lt_of_heap (own_dB hOw).1); go_simp; (try with_reducible rfl))) (by assumption) ?_
  simp only [Act.put, List.setIfInBounds_toArray, List.set_cons_zero, List.set_cons_succ]
  refine take_op 8 rfl (by kernel_rfl) (by kernel_rfl) (by kernel_rfl) (fun _ _ _ h => h) (by rfl) (by (intro w hSw; (try dsimp only at hSw); go_simp; (try with_reducible rfl))) (by assumption) ?_
  simp only [Act.put, List.setIfInBounds_toArray, List.set_cons_zero, List.set_cons_succ]
  refine take_op 9 rfl (by kernel_rfl) (by kernel_rfl) (by kernel_rfl) (fun _ _ _ h => h) (by rfl) (by (intro w hSw; (try dsimp only at hSw); go_simp; (try with_reducible rfl))) (by assumption) ?_
  simp only [Act.put, List.setIfInBounds_toArray, List.set_cons_zero, List.set_cons_succ]
  refine take_op 10 rfl (by kernel_rfl) (by kernel_rfl) (by kernel_rfl) (fun _ _ _ h => h) (by rfl) (by (intro w hSw; (try dsimp only at hSw); go_simp; (try with_reducible rfl))) (by assumption) ?_
  simp only [Act.put, List.setIfInBounds_toArray, List.set_cons_zero, List.set_cons_succ]
  refine take_op 11 rfl (by kernel_rfl) (by kernel_rfl) (by kernel_rfl) (fun _ _ _ h => h) (by rfl) (by (intro wz hSw; (obtain ⟨s', r', hOw⟩ := hSw; obtain ⟨⟨c0, c1, c2, c3, c4, c5, c6, c7⟩, c8, c9, c10, c11, c12, c13, c14⟩ := objO_all (own_dB hOw).1; have hl := lt_of_heap (own_dB hOw).1); go_simp; (try with_reducible rfl))) (by assumption) ?_
  simp only [Act.put, List.setIfInBounds_toArray, List.set_cons_zero, List.set_cons_succ]
  refine take_op 13 rfl (by kernel_rfl) (by kernel_rfl) (by kernel_rfl) (fun _ _ _ h => h) (by rfl) (by (intro w hSw; (try dsimp only at hSw); go_simp; (try with_reducible rfl))) (by assumption) ?_
  simp only [Act.put, List.setIfInBounds_toArray, List.set_cons_zero, List.set_cons_succ]
  refine take_op 14 rfl (by kernel_rfl) (by kernel_rfl) (by kernel_rfl) (fun _ _ _ h => h) (by rfl) (by (intro w hSw; (try dsimp only at hSw); go_simp; (try with_reducible rfl))) (by assumption) ?_
  simp only [Act.put, List.setIfInBounds_toArray, List.set_cons_zero, List.set_cons_succ]
  refine take_op 15 rfl (by kernel_rfl) (by kernel_rfl) (by kernel_rfl) (fun _ _ _ h => h) (by rfl) (by (intro w hSw; (try dsimp only at hSw); go_simp; (try with_reducible rfl))) (by assumption) ?_
  simp only [Act.put, List.setIfInBounds_toArray, List.set_cons_zero, List.set_cons_succ]
  refine take_op 16 rfl (by kernel_rfl) (by kernel_rfl) (by kernel_rfl) (fun _ _ _ h => h) (by rfl) (by (intro wz hSw; (obtain ⟨s', r', hOw⟩ := hSw; obtain ⟨⟨c0, c1, c2, c3, c4, c5, c6, c7⟩, c8, c9, c10, c11, c12, c13, c14⟩ := objO_all (own_dB hOw).1; have hl := lt_of_heap (own_dB hOw).1); go_simp; (try with_reducible rfl))) (by assumption) ?_
  simp only [Act.put, List.setIfInBounds_toArray, List.set_cons_zero, List.set_cons_succ]
  refine take_op 18 rfl (by kernel_rfl) (by kernel_rfl) (by kernel_rfl) (fun _ _ _ h => h) (by rfl) (by (intro w hSw; (try dsimp only at hSw); go_simp; (try with_reducible rfl))) (by assumption) ?_
  simp only [Act.put, List.setIfInBounds_toArray, List.set_cons_zero, List.set_cons_succ]
  refine take_op 19 rfl (by kernel_rfl) (by kernel_rfl) (by kernel_rfl) (fun _ _ _ h => h) (by rfl) (by (intro w hSw; (try dsimp only at hSw); go_simp; (try with_reducible rfl))) (by assumption) ?_
  simp only [Act.put, List.setIfInBounds_toArray, List.set_cons_zero, List.set_cons_succ]
  refine take_op 20 rfl (by kernel_rfl) (by kernel_rfl) (by kernel_rfl) (fun _ _ _ h => h) (by rfl) (by (intro w hSw; (try dsimp only at hSw); go_simp; (try with_reducible rfl))) (by assumption) ?_
  simp only [Act.put, List.setIfInBounds_toArray, List.set_cons_zero, List.set_cons_succ]
  refine take_op 21 rfl (by kernel_rfl) (by kernel_rfl) (by kernel_rfl) (fun _ _ _ h => h) (by rfl) (by (intro wz hSw; (obtain ⟨s', r', hOw⟩ := hSw; obtain ⟨⟨c0, c1, c2, c3, c4, c5, c6, c7⟩, c8, c9, c10, c11, c12, c13, c14⟩ := objO_all (own_dB hOw).1; have hl := lt_of_heap (own_dB hOw).1); go_simp; (try with_reducible rfl))) (by assumption) ?_
  simp only [Act.put, List.setIfInBounds_toArray, List.set_cons_zero, List.set_cons_succ]
  clear hHeld
  refine at_op 12 rfl (by kernel_rfl) (by rfl) (fun K hK => ?_)
  go_simp
  refine (map_clone (own_dB hO1).2.2.2.2).mono ?_
  rintro e wa ⟨rfl, rfl⟩
  have hO2 := hO1.alloc (.map es1 ck1)
  refine hK.out _ _ ?_ (fun hHeld => ?_)
  · exact ⟨s, r, hO2.drop⟩
  clear hK K
  try simp only [Act.put, List.setIfInBounds_toArray, List.set_cons_zero, List.set_cons_succ]
  clear hHeld
  refine at_op 17 rfl (by kernel_rfl) (by rfl) (fun K hK => ?_)
  go_simp
  refine (map_clone (own_dB hO2.drop).2.2.2.1).mono ?_
  rintro e wa ⟨rfl, rfl⟩
  have hO3 := hO2.alloc (.map es2 ck2)
  refine hK.out _ _ ?_ (fun hHeld => ?_)
  · exact ⟨s, r, hO3.drop.drop⟩
  clear hK K
  try simp only [Act.put, List.setIfInBounds_toArray, List.set_cons_zero, List.set_cons_succ]
  clear hHeld
  refine at_op 22 rfl (by kernel_rfl) (by rfl) (fun K hK => ?_)
  go_simp
  refine (que_copy (own_dB hO3.drop.drop).2.1 (own_dB hO3.drop.drop).2.2.1 H4.out (by decide) (by decide)).mono ?_
  rintro e wa ⟨q', c', s', r', s2, r2, rfl, hU, hq', hc', hl1, hl2, hqc⟩
  have hO4 : Own w0.heap.size w0 (((w.drew.alloc (.map es1 ck1)).heap.size, .map es2 ck2) :: (w.drew.heap.size, .map es1 ck1) :: (dB d l s' r' (.map es1 ck1) (.map es2 ck2) ++ E)) wa := Own.upd (L1 := [_, _, _, _]) hO3 hU
  have hlt : ∀ b u, (b, u) ∈ (((w.drew.alloc (.map es1 ck1)).heap.size, Obj.map es2 ck2) :: (w.drew.heap.size, .map es1 ck1) :: (dB d l s' r' (.map es1 ck1) (.map es2 ck2) ++ E)) → b < ((w.drew.alloc (.map es1 ck1)).alloc (.map es2 ck2)).heap.size := by
    intro b u hm
    have h1 : b ∈ ((((w.drew.alloc (.map es1 ck1)).heap.size, Obj.map es2 ck2) :: (w.drew.heap.size, .map es1 ck1) :: (dB d l s r (.map es1 ck1) (.map es2 ck2) ++ E)).map (·.1)) := List.mem_map_of_mem (f := (·.1)) hm
    obtain ⟨⟨b', u'⟩, hm', rfl⟩ := List.mem_map.1 h1
    exact lt_of_heap (hO3.all b' u' hm').2
  have hO5 := hO4.more hc' (by have := hO3.sz; omega) (fun b u hm => by have := hlt b u hm; omega)
  have hO6 := hO5.more hq' (by have := hO3.sz; omega) (fun b u hm => by
    rcases List.mem_cons.1 hm with e | hm
    · simp only [Prod.mk.injEq] at e
      rw [e.1]
      exact fun e => hqc e.symm
    · have := hlt b u hm
      omega)
  have hO7 := hO6.alloc (objO d.m d.s1 d.s2 d.s3 d.who w.heap.size (w.heap.size + 1) q' 90)
  have HO7 := Lib.hid hO7
  have hS4 : Own w0.heap.size w0 (dB d l s' r' (.map es1 ck1) (.map es2 ck2) ++ E) wa := hO4.drop.drop
  have hS7 : Own w0.heap.size w0 (dB d l s' r' (.map es1 ck1) (.map es2 ck2) ++ E) (wa.alloc (objO d.m d.s1 d.s2 d.s3 d.who w.heap.size (w.heap.size + 1) q' 90)) := hO7.drop.drop.drop.drop.drop
  clear hO1 hO2 hO3 hO4 hO5 hO6 hO7 hlt hU hq' hc' hl1 hl2 hqc
  refine hK.out _ _ ?_ (fun hHeld => ?_)
  · exact ⟨s', r', hS4⟩
  clear hK K
  try simp only [Act.put, List.setIfInBounds_toArray, List.set_cons_zero, List.set_cons_succ]
  refine take_op 23 rfl (by kernel_rfl) (by kernel_rfl) (by kernel_rfl) (fun _ _ _ h => h) (by rfl) (by (intro w hSw; (try dsimp only at hSw); go_simp; (try with_reducible rfl))) (by assumption) ?_
  simp only [Act.put, List.setIfInBounds_toArray, List.set_cons_zero, List.set_cons_succ]
  clear hHeld
  refine at_op 24 rfl (by kernel_rfl) (by rfl) (fun K hK => ?_)
  go_simp
  refine hK.out _ _ ?_ (fun hHeld => ?_)
  · exact ⟨s', r', hS7⟩
  clear hK K
  try simp only [Act.put, List.setIfInBounds_toArray, List.set_cons_zero, List.set_cons_succ]
  refine take_op 25 rfl (by kernel_rfl) (by kernel_rfl) (by kernel_rfl) (fun _ _ _ h => h) (by rfl) (by (intro w hSw; (try dsimp only at hSw); go_simp; (try with_reducible rfl))) (by assumption) ?_
  simp only [Act.put, List.setIfInBounds_toArray, List.set_cons_zero, List.set_cons_succ]
  refine wpAnyH_done (by kernel_rfl) ?_ _
  go_wp2
  go_ret
  refine ⟨⟨wa.heap.size, q', c', w.heap.size, w.heap.size + 1, d.m, d.s1, d.s2, d.s3, d.who⟩, s', r', _, _, rfl, rfl, rfl, H1.out, H2.out, H3.out, H4.out, s2, r2, _, _, ?_, H1.out, H2.out, H3.out, H4.out⟩
  have := HO7.out
  simp at this
  exact this
end
end Go.Proofs.Ytmbhgipoofllfaa
