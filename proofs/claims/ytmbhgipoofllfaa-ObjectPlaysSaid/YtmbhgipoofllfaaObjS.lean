/- The package object: the whole state, and each function over it. -/
import Derived.Test.YtmbhgipoofllfaaObjNew
namespace Go.Proofs.Ytmbhgipoofllfaa
set_option linter.unusedVariables false
set_option linter.unusedSimpArgs false
open Go.ChangeShapes Go.WideShapes Go.ChangeAt Go.RowKit Go.Deep

/-- Where a node's places lie. -/
structure OD where
  o : Nat
  q : Nat
  c : Nat
  b1 : Nat
  b2 : Nat
  m : Mat
  s1 : Value
  s2 : Value
  s3 : Value
  who : Int
/-- The node's places: what waits, what is sent, what came. -/
def ObjS (d : OD) (E : List (Nat × Obj)) (w0 w : World) (l : List Ev) (n1 : Nat) (f : Int → Option ByteArray) (n2 : Nat) (g : Int → Option ByteArray) : Prop :=
  ∃ s r o1 o2, Own w0.heap.size w0 ((d.o, objO d.m d.s1 d.s2 d.s3 d.who d.b1 d.b2 d.q 90) :: (d.q, queO d.c) :: (d.c, chaO 4 l s r) :: (d.b2, o2) :: (d.b1, o1) :: E) w ∧ MapO o1 n1 f ∧ MapO o2 n2 g ∧ RdL 3 msgC w0 d.s2 d.m.msgs ∧ l.length ≤ 4
section
variable {d : OD} {E : List (Nat × Obj)} {w0 w w' : World} {l : List Ev} {n1 n2 : Nat} {f g : Int → Option ByteArray}
theorem ObjS.keep (h : ObjS d E w0 w l n1 f n2 g) (hb : Below w.heap.size w w') : ObjS d E w0 w' l n1 f n2 g := by
  obtain ⟨s, r, o1, o2, hO, h1, h2, h3, h4⟩ := h
  exact ⟨s, r, o1, o2, hO.keep hb, h1, h2, h3, h4⟩
theorem Own.perm {B : Nat} {w0 w : World} {L L' : List (Nat × Obj)} (h : Own B w0 L w) (p : L.Perm L') : Own B w0 L' w := ⟨h.bel, h.sz, (p.map _).nodup_iff.1 h.nd, fun b o hm => h.all b o (p.mem_iff.2 hm)⟩
theorem ObjS.alloc (h : ObjS d E w0 w l n1 f n2 g) (o : Obj) : ObjS d ((w.heap.size, o) :: E) w0 (w.alloc o) l n1 f n2 g := by
  obtain ⟨s, r, o1, o2, hO, h1, h2, h3, h4⟩ := h
  exact ⟨s, r, o1, o2, (hO.alloc o).perm (List.perm_middle (l₁ := [_, _, _, _, _])).symm, h1, h2, h3, h4⟩
theorem ObjS.get {x : Nat × Obj} (h : ObjS d E w0 w l n1 f n2 g) (hx : x ∈ E) : w.heap[x.1]? = some x.2 := by
  obtain ⟨s, r, o1, o2, hO, _⟩ := h
  exact (hO.all x.1 x.2 (by simp [hx])).2
theorem ObjS.bel (h : ObjS d E w0 w l n1 f n2 g) : Below w0.heap.size w0 w := by
  obtain ⟨s, r, o1, o2, hO, _⟩ := h
  exact hO.bel
theorem ObjS.queue {l2 : List Ev} {s' r' : Nat} (h : ObjS d E w0 w l n1 f n2 g) (u : Upd d.c (chaO 4 l2 s' r') w w') (h4 : l2.length ≤ 4) : ObjS d E w0 w' l2 n1 f n2 g := by
  obtain ⟨s, r, o1, o2, hO, h1, h2, h3, _⟩ := h
  exact ⟨s', r', o1, o2, hO.upd2 u, h1, h2, h3, h4⟩
theorem ObjS.state {n : Nat} {f' : Int → Option ByteArray} {o' : Obj} (h : ObjS d E w0 w l n1 f n2 g) (u : Upd d.b1 o' w w') (hM : MapO o' n f') : ObjS d E w0 w' l n f' n2 g := by
  obtain ⟨s, r, o1, o2, hO, h1, h2, h3, h4⟩ := h
  exact ⟨s, r, o', o2, Own.upd (L1 := [_, _, _, _]) hO u, hM, h2, h3, h4⟩
theorem ObjS.came {n : Nat} {g' : Int → Option ByteArray} {o' : Obj} (h : ObjS d E w0 w l n1 f n2 g) (u : Upd d.b2 o' w w') (hM : MapO o' n g') : ObjS d E w0 w' l n1 f n g' := by
  obtain ⟨s, r, o1, o2, hO, h1, h2, h3, h4⟩ := h
  exact ⟨s, r, o1, o', hO.upd3 u, h1, hM, h3, h4⟩
/-- A call that hands v back and leaves the node's places so. -/
def Left (d : OD) (E : List (Nat × Obj)) (w0 : World) (l : List Ev) (n1 : Nat) (f : Int → Option ByteArray) (n2 : Nat) (g : Int → Option ByteArray) (v : Value) (e : Ending) (w' : World) : Prop := e = .returned v ∧ ObjS d E w0 w' l n1 f n2 g
theorem s_new {m : Mat} {s1 s2 s3 : Value} (h : RdM w m s1 s2 s3) (hf : FewM m) (who : Int) :
    Calls Try.prog 25 #[matV m s1 s2 s3, .int .i64 who] w fun e w' => ∃ (d : OD) (w0 : World), e = .returned (.pointer (some ⟨d.o, 0, none⟩)) ∧ Below w.heap.size w w0 ∧ d.m = m ∧ d.who = who ∧ ObjS d [] w0 w' [] 0 (fun _ => none) 0 (fun _ => none) := by
  refine (obj_new h hf who).mono ?_
  rintro e w' ⟨o, q, c, b1, b2, t1, t2, t3, w0, rfl, hB, hR, hO⟩
  exact ⟨⟨o, q, c, b1, b2, m, t1, t2, t3, who⟩, w0, rfl, hB, rfl, rfl, 0, 0, _, _, hO, mapO_new, mapO_new, hR, by simp⟩
theorem s_state (h : ObjS d E w0 w l n1 f n2 g) (k : Int) (hk : I64 k) :
    Calls Try.prog 28 #[.pointer (some ⟨d.o, 0, none⟩), .int .i64 k] w (Left d E w0 l n1 f n2 g (.tuple #[.string ((f k).getD ⟨#[]⟩), .bool (f k).isSome])) := by
  have h' := h
  obtain ⟨s, r, o1, o2, hO, h1, h2, h3, h4⟩ := h
  refine (obj_state hO.get0 (hO.all d.b1 o1 (by simp)).2 h1 k hk).mono ?_
  rintro e w' ⟨rfl, rfl⟩
  exact ⟨rfl, h'⟩
theorem s_read (h : ObjS d E w0 w l n1 f n2 g) (k : Int) (hk : I64 k) :
    Calls Try.prog 32 #[.pointer (some ⟨d.o, 0, none⟩), .int .i64 k] w (Left d E w0 l n1 f n2 g (.tuple #[.string ((g k).getD ⟨#[]⟩), .bool (g k).isSome])) := by
  have h' := h
  obtain ⟨s, r, o1, o2, hO, h1, h2, h3, h4⟩ := h
  refine (obj_read hO.get0 hO.get3 h2 k hk).mono ?_
  rintro e w' ⟨rfl, rfl⟩
  exact ⟨rfl, h'⟩
theorem s_waiting (h : ObjS d E w0 w l n1 f n2 g) :
    Calls Try.prog 30 #[.pointer (some ⟨d.o, 0, none⟩)] w (Left d E w0 l n1 f n2 g (.int .i64 l.length)) := by
  have h' := h
  obtain ⟨s, r, o1, o2, hO, h1, h2, h3, h4⟩ := h
  refine (obj_waiting hO.get0 hO.get1 hO.get2).mono ?_
  rintro e w' ⟨rfl, rfl⟩
  exact ⟨rfl, h'⟩
theorem s_event (h : ObjS d E w0 w l n1 f n2 g) :
    Calls Try.prog 38 #[.pointer (some ⟨d.o, 0, none⟩)] w (Left d E w0 l n1 f n2 g (.tuple #[evV (headOf l).1, .bool (headOf l).2])) := by
  have h' := h
  obtain ⟨s, r, o1, o2, hO, h1, h2, h3, h4⟩ := h
  refine (obj_event hO.get0 hO.get1 hO.get2 h4 (Nat.le_refl _)).mono ?_
  rintro e w' ⟨s', r', rfl, hU⟩
  exact ⟨rfl, h'.queue hU h4⟩
theorem s_send_none (h : ObjS d E w0 w l n1 f n2 g) (k : Int) (hk : I64 k) (data : ByteArray) (hz : (thereE d.m k).2 = false) :
    Calls Try.prog 27 #[.pointer (some ⟨d.o, 0, none⟩), .int .i64 k, .string data] w (Left d E w0 l n1 f n2 g (.int .i64 145)) := by
  have h' := h
  obtain ⟨s, r, o1, o2, hO, h1, h2, h3, h4⟩ := h
  refine (obj_send_none hO.get0 (h3.keep hO.bel) k hk data hz).mono ?_
  rintro e w' ⟨rfl, hB⟩
  exact ⟨rfl, h'.keep hB⟩
theorem s_send_alien {y : Msg} (h : ObjS d E w0 w l n1 f n2 g) (k : Int) (hk : I64 k) (data : ByteArray) (hz : thereE d.m k = (y, true)) (hw : (y.owner == d.who) = false) :
    Calls Try.prog 27 #[.pointer (some ⟨d.o, 0, none⟩), .int .i64 k, .string data] w (Left d E w0 l n1 f n2 g (.int .i64 145)) := by
  have h' := h
  obtain ⟨s, r, o1, o2, hO, h1, h2, h3, h4⟩ := h
  refine (obj_send_alien hO.get0 (h3.keep hO.bel) k hk data hz hw).mono ?_
  rintro e w' ⟨rfl, hB⟩
  exact ⟨rfl, h'.keep hB⟩
theorem s_send_form {y : Msg} (h : ObjS d E w0 w l n1 f n2 g) (k : Int) (hk : I64 k) (data : ByteArray) (hz : thereE d.m k = (y, true)) (hw : (y.owner == d.who) = true) (hd : 8 < data.size) :
    Calls Try.prog 27 #[.pointer (some ⟨d.o, 0, none⟩), .int .i64 k, .string data] w (Left d E w0 l n1 f n2 g (.int .i64 12)) := by
  have h' := h
  obtain ⟨s, r, o1, o2, hO, h1, h2, h3, h4⟩ := h
  refine (obj_send_form hO.get0 (h3.keep hO.bel) k hk data hz hw hd).mono ?_
  rintro e w' ⟨rfl, hB⟩
  exact ⟨rfl, h'.keep hB⟩
theorem s_send_event {y : Msg} {l2 : List Ev} {z : Int} (h : ObjS d E w0 w l n1 f n2 g) (k : Int) (hk : I64 k) (data : ByteArray) (hz : thereE d.m k = (y, true)) (hw : (y.owner == d.who) = true) (hd : data.size ≤ 8) (he : y.ev = true)
    (hzz : (if l.length < 4 then 0 else 170) = z) (hl2 : putL 4 l ⟨k, data⟩ = l2) (h24 : l2.length ≤ 4) :
    Calls Try.prog 27 #[.pointer (some ⟨d.o, 0, none⟩), .int .i64 k, .string data] w (Left d E w0 l2 n1 f n2 g (.int .i64 z)) := by
  have h' := h
  obtain ⟨s, r, o1, o2, hO, h1, h2, h3, h4⟩ := h
  refine (obj_send_event hO.get0 (h3.keep hO.bel) k hk data hz hw hd he hO.get1 hO.get2 h4 hzz hl2).mono ?_
  rintro e w' ⟨s', r', rfl, hU⟩
  exact ⟨rfl, h'.queue hU h24⟩
theorem s_send_state {y : Msg} (h : ObjS d E w0 w l n1 f n2 g) (k : Int) (hk : I64 k) (data : ByteArray) (hz : thereE d.m k = (y, true)) (hw : (y.owner == d.who) = true) (hd : data.size ≤ 8) (he : y.ev = false) (hn : n1 < maxLen) :
    Calls Try.prog 27 #[.pointer (some ⟨d.o, 0, none⟩), .int .i64 k, .string data] w (Left d E w0 l (n1 + 1) (setF f k data) n2 g (.int .i64 0)) := by
  have h' := h
  obtain ⟨s, r, o1, o2, hO, h1, h2, h3, h4⟩ := h
  refine (obj_send_state hO.get0 (h3.keep hO.bel) k hk data hz hw hd he (hO.all d.b1 o1 (by simp)).2 h1 hn).mono ?_
  rintro e w' ⟨o', rfl, hU, hM⟩
  exact ⟨rfl, h'.state hU hM⟩
/-- A call without results. -/
def LeftV (d : OD) (E : List (Nat × Obj)) (w0 : World) (l : List Ev) (n1 : Nat) (f : Int → Option ByteArray) (n2 : Nat) (g : Int → Option ByteArray) (e : Ending) (w' : World) : Prop := ∃ v, e = .returned v ∧ ObjS d E w0 w' l n1 f n2 g
theorem s_got_no (h : ObjS d E w0 w l n1 f n2 g) (k : Int) (hk : I64 k) (data : ByteArray) (hz : (thereE d.m k).2 = false) :
    Calls Try.prog 31 #[.pointer (some ⟨d.o, 0, none⟩), .int .i64 k, .string data] w (LeftV d E w0 l n1 f n2 g) := by
  have h' := h
  obtain ⟨s, r, o1, o2, hO, h1, h2, h3, h4⟩ := h
  refine (obj_got_no hO.get0 (h3.keep hO.bel) hO.get3 h2 k hk data hz).mono ?_
  rintro e w' ⟨v, o', rfl, hU, hM⟩
  exact ⟨v, rfl, h'.came hU hM⟩
theorem s_got_yes (h : ObjS d E w0 w l n1 f n2 g) (k : Int) (hk : I64 k) (data : ByteArray) (hz : (thereE d.m k).2 = true) (hn : n2 < maxLen) (hd : data.size ≤ maxLen) :
    Calls Try.prog 31 #[.pointer (some ⟨d.o, 0, none⟩), .int .i64 k, .string data] w (LeftV d E w0 l n1 f (n2 + 1) (setF g k data)) := by
  have h' := h
  obtain ⟨s, r, o1, o2, hO, h1, h2, h3, h4⟩ := h
  refine (obj_got_yes hO.get0 (h3.keep hO.bel) hO.get3 h2 hn k hk data hd hz).mono ?_
  rintro e w' ⟨v, o', rfl, hU, hM⟩
  exact ⟨v, rfl, h'.came hU hM⟩
theorem s_sent_none (h : ObjS d E w0 w l n1 f n2 g) (k : Int) (hk : I64 k) (hz : (thereE d.m k).2 = false) :
    Calls Try.prog 29 #[.pointer (some ⟨d.o, 0, none⟩), .int .i64 k] w (LeftV d E w0 l n1 f n2 g) := by
  have h' := h
  obtain ⟨s, r, o1, o2, hO, h1, h2, h3, h4⟩ := h
  refine (obj_sent_none hO.get0 (h3.keep hO.bel) k hk hz).mono ?_
  rintro e w' ⟨⟨v, rfl⟩, hB⟩
  exact ⟨v, rfl, h'.keep hB⟩
theorem s_sent_state {y : Msg} (h : ObjS d E w0 w l n1 f n2 g) (k : Int) (hk : I64 k) (hz : thereE d.m k = (y, true)) (he : y.ev = false) :
    Calls Try.prog 29 #[.pointer (some ⟨d.o, 0, none⟩), .int .i64 k] w (LeftV d E w0 l n1 f n2 g) := by
  have h' := h
  obtain ⟨s, r, o1, o2, hO, h1, h2, h3, h4⟩ := h
  refine (obj_sent_state hO.get0 (h3.keep hO.bel) k hk hz he).mono ?_
  rintro e w' ⟨⟨v, rfl⟩, hB⟩
  exact ⟨v, rfl, h'.keep hB⟩
/-- What is left behind a confirmation. -/
def sentL (l : List Ev) (k : Int) : List Ev := match l with
  | [] => []
  | x :: t => if x.msg == k then t else x :: t
theorem s_sent_event {yi yo : Int} (h : ObjS d E w0 w l n1 f n2 g) (k : Int) (hk : I64 k) (hz : thereE d.m k = (⟨yi, yo, true⟩, true)) :
    Calls Try.prog 29 #[.pointer (some ⟨d.o, 0, none⟩), .int .i64 k] w (LeftV d E w0 (sentL l k) n1 f n2 g) := by
  have h' := h
  obtain ⟨s, r, o1, o2, hO, h1, h2, h3, h4⟩ := h
  match l, h', hO, h4 with
  | [], h', hO, h4 =>
    refine (obj_sent_empty (x := ⟨0, ⟨#[]⟩⟩) (l := []) hO.get0 (h3.keep hO.bel) k hk hz hO.get1 hO.get2 h4 (Nat.le_refl _)).mono ?_
    rintro e w' ⟨v, s', r', rfl, hU⟩
    exact ⟨v, rfl, h'.queue hU h4⟩
  | x :: t, h', hO, h4 =>
    by_cases hx : (x.msg == k) = true
    · obtain ⟨xm, xd⟩ := x
      have e : xm = k := by simpa using hx
      subst e
      refine (obj_sent_hit (x := ⟨0, ⟨#[]⟩⟩) hO.get0 (h3.keep hO.bel) xm hk hz hO.get1 hO.get2 h4 (Nat.le_refl _)).mono ?_
      rintro e w' ⟨v, s', r', rfl, hU⟩
      refine ⟨v, rfl, ?_⟩
      have : sentL (⟨xm, xd⟩ :: t) xm = t := by simp [sentL]
      rw [this]
      exact h'.queue hU (Nat.le_of_succ_le h4)
    · have hx' : (x.msg == k) = false := by simpa using hx
      refine (obj_sent_miss hO.get0 (h3.keep hO.bel) k hk hz hO.get1 hO.get2 h4 (Nat.le_refl _) hx').mono ?_
      rintro e w' ⟨v, s', r', rfl, hU⟩
      refine ⟨v, rfl, ?_⟩
      have : sentL (x :: t) k = x :: t := by simp [sentL, hx']
      rw [this]
      exact h'.queue hU h4
end
end Go.Proofs.Ytmbhgipoofllfaa
