/- A node and the reference's messages side by side: whole contracts. -/
import Derived.Test.YtmbhgipoofllfaaRefObj4
namespace Go.Proofs.Ytmbhgipoofllfaa
set_option linter.unusedVariables false
set_option linter.unusedSimpArgs false
open Go.ChangeShapes Go.WideShapes Go.ChangeAt Go.RowKit Go.Deep

/-- A message of one's own of which data may be sent. -/
def mayS (m : Mat) (who k : Int) : Bool := (thereE m k).2 && ((thereE m k).1.owner == who)
def sendE (m : Mat) (who : Int) (l : List Ev) (k : Int) (data : ByteArray) : Int :=
  if mayS m who k = true then (if 8 < data.size then 12 else if (thereE m k).1.ev = true then (if l.length < 4 then 0 else 170) else 0) else 145
def sendL (m : Mat) (who : Int) (l : List Ev) (k : Int) (data : ByteArray) : List Ev :=
  if mayS m who k = true ∧ data.size ≤ 8 ∧ (thereE m k).1.ev = true then putL 4 l ⟨k, data⟩ else l
def sendF (m : Mat) (who : Int) (f : Int → Option ByteArray) (k : Int) (data : ByteArray) : Int → Option ByteArray :=
  if mayS m who k = true ∧ data.size ≤ 8 ∧ (thereE m k).1.ev = false then setF f k data else f
def gotF (m : Mat) (g : Int → Option ByteArray) (k : Int) (data : ByteArray) : Int → Option ByteArray := if (thereE m k).2 = true then setF g k data else g
def sentP (m : Mat) (l : List Ev) (k : Int) : List Ev := if (thereE m k).2 = true ∧ (thereE m k).1.ev = true then sentL l k else l
section
variable {d dc : OD} {E : List (Nat × Obj)} {w0 w w' : World} {l l' : List Ev} {n1 n2 m1 m2 : Nat} {f g f' g' : Int → Option ByteArray}
theorem may_none {m : Mat} {who k : Int} (h : (thereE m k).2 = false) : mayS m who k = false := by simp [mayS, h]
theorem may_alien {m : Mat} {who k : Int} {y : Msg} (h : thereE m k = (y, true)) (hw : (y.owner == who) = false) : mayS m who k = false := by simp [mayS, h, hw]
theorem may_own {m : Mat} {who k : Int} {y : Msg} (h : thereE m k = (y, true)) (hw : (y.owner == who) = true) : mayS m who k = true := by simp [mayS, h, hw]
theorem putL_four (h : l.length ≤ 4) (e : Ev) : (putL 4 l e).length ≤ 4 := putL_len e h
theorem s_send_any (h : ObjS d E w0 w l n1 f n2 g) (k : Int) (hk : I64 k) (data : ByteArray) (hn : n1 < maxLen) :
    Calls Try.prog 27 #[.pointer (some ⟨d.o, 0, none⟩), .int .i64 k, .string data] w fun e w' => e = .returned (.int .i64 (sendE d.m d.who l k data)) ∧ ∃ n, n ≤ n1 + 1 ∧ ObjS d E w0 w' (sendL d.m d.who l k data) n (sendF d.m d.who f k data) n2 g := by
  have h4 : l.length ≤ 4 := by obtain ⟨_, _, _, _, _, _, _, _, h4⟩ := h; exact h4
  obtain ⟨y, z, hz⟩ : ∃ y z, thereE d.m k = (y, z) := ⟨_, _, rfl⟩
  cases z with
  | false =>
    have hm := may_none (who := d.who) (by rw [hz] : (thereE d.m k).2 = false)
    refine (s_send_none h k hk data (by rw [hz])).mono ?_
    rintro e w' ⟨rfl, hS⟩
    refine ⟨by simp [sendE, hm], n1, by omega, ?_⟩
    have e1 : sendL d.m d.who l k data = l := by simp [sendL, hm]
    have e2 : sendF d.m d.who f k data = f := by simp [sendF, hm]
    rw [e1, e2]
    exact hS
  | true =>
    cases hw : (y.owner == d.who) with
    | false =>
      have hm := may_alien hz hw
      refine (s_send_alien h k hk data hz hw).mono ?_
      rintro e w' ⟨rfl, hS⟩
      refine ⟨by simp [sendE, hm], n1, by omega, ?_⟩
      have e1 : sendL d.m d.who l k data = l := by simp [sendL, hm]
      have e2 : sendF d.m d.who f k data = f := by simp [sendF, hm]
      rw [e1, e2]
      exact hS
    | true =>
      have hm := may_own hz hw
      rcases Nat.lt_or_ge 8 data.size with hd | hd
      · refine (s_send_form h k hk data hz hw hd).mono ?_
        rintro e w' ⟨rfl, hS⟩
        refine ⟨by simp [sendE, hm, hd], n1, by omega, ?_⟩
        have hd' : ¬ data.size ≤ 8 := by omega
        have e1 : sendL d.m d.who l k data = l := by simp [sendL, hd']
        have e2 : sendF d.m d.who f k data = f := by simp [sendF, hd']
        rw [e1, e2]
        exact hS
      · have hd' : ¬ 8 < data.size := by omega
        cases he : y.ev with
        | true =>
          refine (s_send_event h k hk data hz hw hd he rfl rfl (putL_four h4 _)).mono ?_
          rintro e w' ⟨rfl, hS⟩
          refine ⟨by simp [sendE, hm, hd', hz, he], n1, by omega, ?_⟩
          have e1 : sendL d.m d.who l k data = putL 4 l ⟨k, data⟩ := by simp [sendL, hm, hd, hz, he]
          have e2 : sendF d.m d.who f k data = f := by simp [sendF, hm, hd, hz, he]
          rw [e1, e2]
          exact hS
        | false =>
          refine (s_send_state h k hk data hz hw hd he hn).mono ?_
          rintro e w' ⟨rfl, hS⟩
          refine ⟨by simp [sendE, hm, hd', hz, he], n1 + 1, by omega, ?_⟩
          have e1 : sendL d.m d.who l k data = l := by simp [sendL, hm, hd, hz, he]
          have e2 : sendF d.m d.who f k data = setF f k data := by simp [sendF, hm, hd, hz, he]
          rw [e1, e2]
          exact hS
theorem s_got_any (h : ObjS d E w0 w l n1 f n2 g) (k : Int) (hk : I64 k) (data : ByteArray) (hn : n2 < maxLen) (hd : data.size ≤ maxLen) :
    Calls Try.prog 31 #[.pointer (some ⟨d.o, 0, none⟩), .int .i64 k, .string data] w fun e w' => (∃ v, e = .returned v) ∧ ∃ n, n ≤ n2 + 1 ∧ ObjS d E w0 w' l n1 f n (gotF d.m g k data) := by
  cases hz : (thereE d.m k).2 with
  | false =>
    refine (s_got_no h k hk data hz).mono ?_
    rintro e w' ⟨v, rfl, hS⟩
    refine ⟨⟨v, rfl⟩, n2, by omega, ?_⟩
    have e1 : gotF d.m g k data = g := by simp [gotF, hz]
    rw [e1]
    exact hS
  | true =>
    refine (s_got_yes h k hk data hz hn hd).mono ?_
    rintro e w' ⟨v, rfl, hS⟩
    refine ⟨⟨v, rfl⟩, n2 + 1, by omega, ?_⟩
    have e1 : gotF d.m g k data = setF g k data := by simp [gotF, hz]
    rw [e1]
    exact hS
theorem s_sent_any (h : ObjS d E w0 w l n1 f n2 g) (k : Int) (hk : I64 k) :
    Calls Try.prog 29 #[.pointer (some ⟨d.o, 0, none⟩), .int .i64 k] w fun e w' => (∃ v, e = .returned v) ∧ ObjS d E w0 w' (sentP d.m l k) n1 f n2 g := by
  obtain ⟨y, z, hz⟩ : ∃ y z, thereE d.m k = (y, z) := ⟨_, _, rfl⟩
  cases z with
  | false =>
    refine (s_sent_none h k hk (by rw [hz])).mono ?_
    rintro e w' ⟨v, rfl, hS⟩
    refine ⟨⟨v, rfl⟩, ?_⟩
    have e1 : sentP d.m l k = l := by simp [sentP, hz]
    rw [e1]
    exact hS
  | true =>
    cases he : y.ev with
    | false =>
      refine (s_sent_state h k hk hz he).mono ?_
      rintro e w' ⟨v, rfl, hS⟩
      refine ⟨⟨v, rfl⟩, ?_⟩
      have e1 : sentP d.m l k = l := by simp [sentP, hz, he]
      rw [e1]
      exact hS
    | true =>
      obtain ⟨yi, yo, ye⟩ := y
      simp at he
      subst he
      refine (s_sent_event h k hk hz).mono ?_
      rintro e w' ⟨v, rfl, hS⟩
      refine ⟨⟨v, rfl⟩, ?_⟩
      have e1 : sentP d.m l k = sentL l k := by simp [sentP, hz]
      rw [e1]
      exact hS
/-- The two nodes change places. -/
theorem ObjS.swap {s r : Nat} {o1 o2 : Obj} (h : ObjS dc (dB d l s r o1 o2 ++ E) w0 w l' m1 f' m2 g') (h1 : MapO o1 n1 f) (h2 : MapO o2 n2 g) (hr : RdL 3 msgC w0 d.s2 d.m.msgs) (h4 : l.length ≤ 4) :
    ∃ s' r' p1 p2, MapO p1 m1 f' ∧ MapO p2 m2 g' ∧ RdL 3 msgC w0 dc.s2 dc.m.msgs ∧ l'.length ≤ 4 ∧ ObjS d (dB dc l' s' r' p1 p2 ++ E) w0 w l n1 f n2 g := by
  obtain ⟨s', r', p1, p2, hO, a1, a2, a3, a4⟩ := h
  refine ⟨s', r', p1, p2, a1, a2, a3, a4, s, r, o1, o2, ?_, h1, h2, hr, h4⟩
  have hO' : Own w0.heap.size w0 (dB dc l' s' r' p1 p2 ++ (dB d l s r o1 o2 ++ E)) w := hO
  have e : (dB dc l' s' r' p1 p2 ++ (dB d l s r o1 o2 ++ E)).Perm (dB d l s r o1 o2 ++ (dB dc l' s' r' p1 p2 ++ E)) := by
    rw [← List.append_assoc, ← List.append_assoc]
    exact List.Perm.append_right _ List.perm_append_comm
  exact hO'.perm e
end
/-! ### the reference beside it -/
def refL (m : Mat) (who : Int) (t1 t2 t3 : Value) (x : RD) (f g : Int → Option ByteArray) : List (Nat × Obj) :=
  [(x.r, robO m t1 t2 t3 who m.msgs.length x), (x.bo, strO m.msgs.length f), (x.bh, booO m.msgs.length f), (x.bc, strO m.msgs.length g), (x.bg, booO m.msgs.length g)]
/-- Node and reference: the node's l, f, g; the reference's l', f', g'; X: what lies beside them. -/
def Two (d : OD) (x : RD) (t1 t2 t3 : Value) (X : List (Nat × Obj)) (w0 w : World) (l : List Ev) (n1 : Nat) (f : Int → Option ByteArray) (n2 : Nat) (g : Int → Option ByteArray) (l' : List Ev) (f' g' : Int → Option ByteArray) : Prop :=
  ∃ v G, ObjS d (X ++ refL d.m d.who t1 t2 t3 x f' g' ++ (x.bq, rqO 4 v) :: G) w0 w l n1 f n2 g ∧ Rds G v l' ∧ l'.length ≤ 4 ∧ RdL 3 msgC w0 t2 d.m.msgs
section
variable {d dc : OD} {x : RD} {t1 t2 t3 : Value} {X : List (Nat × Obj)} {w0 w w' : World} {l l' : List Ev} {n1 n2 m1 m2 : Nat} {f g f' g' : Int → Option ByteArray}
theorem Two.bel (h : Two d x t1 t2 t3 X w0 w l n1 f n2 g l' f' g') : Below w0.heap.size w0 w := by
  obtain ⟨v, G, hS, _⟩ := h
  exact hS.bel
theorem Two.ref (h : Two d x t1 t2 t3 X w0 w l n1 f n2 g l' f' g') : (w.heap[x.r]? = some (robO d.m t1 t2 t3 d.who d.m.msgs.length x) ∧ w.heap[x.bo]? = some (strO d.m.msgs.length f') ∧ w.heap[x.bh]? = some (booO d.m.msgs.length f') ∧ w.heap[x.bc]? = some (strO d.m.msgs.length g') ∧ w.heap[x.bg]? = some (booO d.m.msgs.length g')) ∧
    (x.r ≠ x.bo ∧ x.r ≠ x.bh ∧ x.bo ≠ x.bh ∧ x.r ≠ x.bc ∧ x.r ≠ x.bg ∧ x.bc ≠ x.bg) ∧ ∃ v, w.heap[x.bq]? = some (rqO 4 v) ∧ EvS w v l' := by
  obtain ⟨v, G, ⟨s, r, o1, o2, hO, _⟩, hR, _⟩ := h
  have hO' : Own w0.heap.size w0 (((dB d l s r o1 o2 ++ X) ++ refL d.m d.who t1 t2 t3 x f' g' ++ [(x.bq, rqO 4 v)]) ++ G) w := by simpa [dB] using hO
  have nd := hO'.nd
  refine ⟨⟨(hO'.all _ _ (by simp [refL])).2, (hO'.all _ _ (by simp [refL])).2, (hO'.all _ _ (by simp [refL])).2, (hO'.all _ _ (by simp [refL])).2, (hO'.all _ _ (by simp [refL])).2⟩, ?_, v, (hO'.all _ _ (by simp)).2, hR.evs hO'⟩
  have hs : List.Sublist (refL d.m d.who t1 t2 t3 x f' g') (((dB d l s r o1 o2 ++ X) ++ refL d.m d.who t1 t2 t3 x f' g' ++ [(x.bq, rqO 4 v)]) ++ G) := ((List.sublist_append_right _ _).trans (List.sublist_append_left _ _)).trans (List.sublist_append_left _ _)
  have nd2 := nd.sublist (hs.map (·.1))
  simp only [refL, List.map_cons, List.map_nil, List.nodup_cons, List.mem_cons, List.not_mem_nil, or_false, not_or, not_false_eq_true, List.nodup_nil, and_true] at nd2
  obtain ⟨⟨a1, a2, a3, a4⟩, ⟨b1, b2, b3⟩, ⟨c1, c2⟩, e1⟩ := nd2
  exact ⟨a1, a2, b1, a3, a4, e1⟩
theorem Two.keep (h : Two d x t1 t2 t3 X w0 w l n1 f n2 g l' f' g') (hb : Below w.heap.size w w') : Two d x t1 t2 t3 X w0 w' l n1 f n2 g l' f' g' := by
  obtain ⟨v, G, hS, hR⟩ := h
  exact ⟨v, G, hS.keep hb, hR⟩
theorem Two.get (h : Two d x t1 t2 t3 X w0 w l n1 f n2 g l' f' g') {p : Nat × Obj} (hp : p ∈ X) : w.heap[p.1]? = some p.2 := by
  obtain ⟨v, G, hS, hR⟩ := h
  exact hS.get (by simp [hp])
theorem Two.alloc (h : Two d x t1 t2 t3 X w0 w l n1 f n2 g l' f' g') (o : Obj) : Two d x t1 t2 t3 ((w.heap.size, o) :: X) w0 (w.alloc o) l n1 f n2 g l' f' g' := by
  obtain ⟨v, G, hS, hR⟩ := h
  exact ⟨v, G, hS.alloc o, hR⟩
theorem Two.own1 {b : Nat} {o : Obj} (h : Two d x t1 t2 t3 ((b, o) :: X) w0 w l n1 f n2 g l' f' g') : Two d x t1 t2 t3 X w0 w l n1 f n2 g l' f' g' := by
  obtain ⟨v, G, ⟨s, r, o1, o2, hO, hM⟩, hR⟩ := h
  refine ⟨v, G, ⟨s, r, o1, o2, hO.sub ?_, hM⟩, hR⟩
  simp
/-- The reference's two rows turned. -/
theorem Two.sent2 {f2 : Int → Option ByteArray} (h : Two d x t1 t2 t3 X w0 w l n1 f n2 g l' f' g') (u : Upd2 x.bo x.bh (strO d.m.msgs.length f2) (booO d.m.msgs.length f2) w w') : Two d x t1 t2 t3 X w0 w' l n1 f n2 g l' f2 g' := by
  obtain ⟨v, G, ⟨s, r, o1, o2, hO, hM⟩, hR⟩ := h
  obtain ⟨w1, u1, u2⟩ := u
  refine ⟨v, G, ⟨s, r, o1, o2, ?_, hM⟩, hR⟩
  have h1 : Own w0.heap.size w0 ((dB d l s r o1 o2 ++ X ++ [(x.r, robO d.m t1 t2 t3 d.who d.m.msgs.length x)]) ++ (x.bo, strO d.m.msgs.length f') :: ((x.bh, booO d.m.msgs.length f') :: (x.bc, strO d.m.msgs.length g') :: (x.bg, booO d.m.msgs.length g') :: (x.bq, rqO 4 v) :: G)) w := by simpa [dB, refL] using hO
  have h2 := h1.upd u1
  have h3 : Own w0.heap.size w0 ((dB d l s r o1 o2 ++ X ++ [(x.r, robO d.m t1 t2 t3 d.who d.m.msgs.length x), (x.bo, strO d.m.msgs.length f2)]) ++ (x.bh, booO d.m.msgs.length f') :: ((x.bc, strO d.m.msgs.length g') :: (x.bg, booO d.m.msgs.length g') :: (x.bq, rqO 4 v) :: G)) w1 := by simpa using h2
  have h4 := h3.upd u2
  simpa [dB, refL] using h4
theorem Two.came2 {g2 : Int → Option ByteArray} (h : Two d x t1 t2 t3 X w0 w l n1 f n2 g l' f' g') (u : Upd2 x.bc x.bg (strO d.m.msgs.length g2) (booO d.m.msgs.length g2) w w') : Two d x t1 t2 t3 X w0 w' l n1 f n2 g l' f' g2 := by
  obtain ⟨v, G, ⟨s, r, o1, o2, hO, hM⟩, hR⟩ := h
  obtain ⟨w1, u1, u2⟩ := u
  refine ⟨v, G, ⟨s, r, o1, o2, ?_, hM⟩, hR⟩
  have h1 : Own w0.heap.size w0 ((dB d l s r o1 o2 ++ X ++ [(x.r, robO d.m t1 t2 t3 d.who d.m.msgs.length x), (x.bo, strO d.m.msgs.length f'), (x.bh, booO d.m.msgs.length f')]) ++ (x.bc, strO d.m.msgs.length g') :: ((x.bg, booO d.m.msgs.length g') :: (x.bq, rqO 4 v) :: G)) w := by simpa [dB, refL] using hO
  have h2 := h1.upd u1
  have h3 : Own w0.heap.size w0 ((dB d l s r o1 o2 ++ X ++ [(x.r, robO d.m t1 t2 t3 d.who d.m.msgs.length x), (x.bo, strO d.m.msgs.length f'), (x.bh, booO d.m.msgs.length f'), (x.bc, strO d.m.msgs.length g2)]) ++ (x.bg, booO d.m.msgs.length g') :: ((x.bq, rqO 4 v) :: G)) w1 := by simpa using h2
  have h4 := h3.upd u2
  simpa [dB, refL] using h4
end
end Go.Proofs.Ytmbhgipoofllfaa
