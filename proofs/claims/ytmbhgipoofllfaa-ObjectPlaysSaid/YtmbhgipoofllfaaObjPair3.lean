/- The copy beside the pair; what holds of all rows. -/
import Derived.Test.YtmbhgipoofllfaaObjPair2
namespace Go.Proofs.Ytmbhgipoofllfaa
set_option linter.unusedVariables false
set_option linter.unusedSimpArgs false
open Go.ChangeShapes Go.WideShapes Go.ChangeAt Go.RowKit Go.Deep

section
variable {d dc : OD} {x : RD} {t1 t2 t3 : Value} {X : List (Nat × Obj)} {w0 w w' : World} {l l' lc : List Ev} {n1 n2 m1 m2 : Nat} {f g f' g' fc gc : Int → Option ByteArray}
theorem Two.dropL {L : List (Nat × Obj)} (h : Two d x t1 t2 t3 (L ++ X) w0 w l n1 f n2 g l' f' g') : Two d x t1 t2 t3 X w0 w l n1 f n2 g l' f' g' := by
  obtain ⟨v, G, ⟨s, r, o1, o2, hO, hM⟩, hR⟩ := h
  refine ⟨v, G, ⟨s, r, o1, o2, hO.sub ?_, hM⟩, hR⟩
  simp [List.append_assoc]
theorem t_copy (h : Two d x t1 t2 t3 X w0 w l n1 f n2 g l' f' g') :
    Calls Try.prog 34 #[.pointer (some ⟨d.o, 0, none⟩)] w fun e w' => ∃ dc s r p1 p2, e = .returned (.pointer (some ⟨dc.o, 0, none⟩)) ∧ dc.m = d.m ∧ dc.who = d.who ∧ MapO p1 n1 f ∧ MapO p2 n2 g ∧ RdL 3 msgC w0 dc.s2 dc.m.msgs ∧ l.length ≤ 4 ∧ Two d x t1 t2 t3 (dB dc l s r p1 p2 ++ X) w0 w' l n1 f n2 g l' f' g' := by
  obtain ⟨v, G, hS, hR⟩ := h
  refine (s_copy hS).mono ?_
  rintro e w' ⟨dc, s, r, o1, o2, he, hm, hw, a1, a2, a3, a4, hC⟩
  obtain ⟨s', r', p1, p2, b1, b2, b3, b4, hD⟩ := hC.swap a1 a2 a3 a4
  refine ⟨dc, s', r', p1, p2, he, hm, hw, b1, b2, b3, b4, v, G, ?_, hR⟩
  simpa [List.append_assoc] using hD
theorem t_side {F : FuncId} {args : Array Value} {R : Ending → Prop} {s r : Nat} {p1 p2 : Obj}
    (hc : ∀ E, ObjS dc E w0 w lc m1 fc m2 gc → Calls Try.prog F args w fun e w' => R e ∧ ∃ lc' k1 fc' k2 gc', k1 ≤ m1 + 1 ∧ k2 ≤ m2 + 1 ∧ ObjS dc E w0 w' lc' k1 fc' k2 gc')
    (h : Two d x t1 t2 t3 (dB dc lc s r p1 p2 ++ X) w0 w l n1 f n2 g l' f' g') (h1 : MapO p1 m1 fc) (h2 : MapO p2 m2 gc) (h3 : RdL 3 msgC w0 dc.s2 dc.m.msgs) (h4 : lc.length ≤ 4) :
    Calls Try.prog F args w fun e w' => R e ∧ ∃ lc' s' r' q1 q2 k1 fc' k2 gc', k1 ≤ m1 + 1 ∧ k2 ≤ m2 + 1 ∧ MapO q1 k1 fc' ∧ MapO q2 k2 gc' ∧ RdL 3 msgC w0 dc.s2 dc.m.msgs ∧ lc'.length ≤ 4 ∧ Two d x t1 t2 t3 (dB dc lc' s' r' q1 q2 ++ X) w0 w' l n1 f n2 g l' f' g' := by
  obtain ⟨v, G, hS, hR⟩ := h
  have hS' : ObjS d (dB dc lc s r p1 p2 ++ (X ++ refL d.m d.who t1 t2 t3 x f' g' ++ (x.bq, rqO 4 v) :: G)) w0 w l n1 f n2 g := by simpa [List.append_assoc] using hS
  obtain ⟨s2, r2, o1, o2, a1, a2, a3, a4, hC⟩ := hS'.swap h1 h2 h3 h4
  refine (hc _ hC).mono ?_
  rintro e w' ⟨hRe, lc', k1, fc', k2, gc', hk1, hk2, hC'⟩
  obtain ⟨s', r', q1, q2, b1, b2, b3, b4, hD⟩ := hC'.swap a1 a2 a3 a4
  refine ⟨hRe, lc', s', r', q1, q2, k1, fc', k2, gc', hk1, hk2, b1, b2, b3, b4, v, G, ?_, hR⟩
  simpa [List.append_assoc] using hD
/-! ### the node's own functions over the pair -/
theorem t_send (h : Two d x t1 t2 t3 X w0 w l n1 f n2 g l' f' g') (k : Int) (hk : I64 k) (data : ByteArray) (hn : n1 < maxLen) :
    Calls Try.prog 27 #[.pointer (some ⟨d.o, 0, none⟩), .int .i64 k, .string data] w fun e w' => e = .returned (.int .i64 (sendE d.m d.who l k data)) ∧ ∃ n, n ≤ n1 + 1 ∧ Two d x t1 t2 t3 X w0 w' (sendL d.m d.who l k data) n (sendF d.m d.who f k data) n2 g l' f' g' := by
  obtain ⟨v, G, hS, hR⟩ := h
  refine (s_send_any hS k hk data hn).mono ?_
  rintro e w' ⟨he, n, hn', hS'⟩
  exact ⟨he, n, hn', v, G, hS', hR⟩
theorem t_got (h : Two d x t1 t2 t3 X w0 w l n1 f n2 g l' f' g') (k : Int) (hk : I64 k) (data : ByteArray) (hn : n2 < maxLen) (hd : data.size ≤ maxLen) :
    Calls Try.prog 31 #[.pointer (some ⟨d.o, 0, none⟩), .int .i64 k, .string data] w fun e w' => (∃ v, e = .returned v) ∧ ∃ n, n ≤ n2 + 1 ∧ Two d x t1 t2 t3 X w0 w' l n1 f n (gotF d.m g k data) l' f' g' := by
  obtain ⟨v, G, hS, hR⟩ := h
  refine (s_got_any hS k hk data hn hd).mono ?_
  rintro e w' ⟨he, n, hn', hS'⟩
  exact ⟨he, n, hn', v, G, hS', hR⟩
theorem t_sent (h : Two d x t1 t2 t3 X w0 w l n1 f n2 g l' f' g') (k : Int) (hk : I64 k) :
    Calls Try.prog 29 #[.pointer (some ⟨d.o, 0, none⟩), .int .i64 k] w fun e w' => (∃ v, e = .returned v) ∧ Two d x t1 t2 t3 X w0 w' (sentP d.m l k) n1 f n2 g l' f' g' := by
  obtain ⟨v, G, hS, hR⟩ := h
  refine (s_sent_any hS k hk).mono ?_
  rintro e w' ⟨he, hS'⟩
  exact ⟨he, v, G, hS', hR⟩
theorem t_event (h : Two d x t1 t2 t3 X w0 w l n1 f n2 g l' f' g') {v0 : Value} (hv : (.tuple #[evV (headOf l).1, .bool (headOf l).2]) = v0) :
    Calls Try.prog 38 #[.pointer (some ⟨d.o, 0, none⟩)] w fun e w' => e = .returned v0 ∧ Two d x t1 t2 t3 X w0 w' l n1 f n2 g l' f' g' := by
  obtain ⟨v, G, hS, hR⟩ := h
  subst hv
  refine (s_event hS).mono ?_
  rintro e w' ⟨he, hS'⟩
  exact ⟨he, v, G, hS', hR⟩
theorem t_waiting (h : Two d x t1 t2 t3 X w0 w l n1 f n2 g l' f' g') :
    Calls Try.prog 30 #[.pointer (some ⟨d.o, 0, none⟩)] w fun e w' => e = .returned (.int .i64 l.length) ∧ Two d x t1 t2 t3 X w0 w' l n1 f n2 g l' f' g' := by
  obtain ⟨v, G, hS, hR⟩ := h
  refine (s_waiting hS).mono ?_
  rintro e w' ⟨he, hS'⟩
  exact ⟨he, v, G, hS', hR⟩
theorem t_state (h : Two d x t1 t2 t3 X w0 w l n1 f n2 g l' f' g') (k : Int) (hk : I64 k) {y : ByteArray} {z : Bool} (hy : (f k).getD ⟨#[]⟩ = y) (hz : (f k).isSome = z) :
    Calls Try.prog 28 #[.pointer (some ⟨d.o, 0, none⟩), .int .i64 k] w fun e w' => e = .returned (.tuple #[.string y, .bool z]) ∧ Two d x t1 t2 t3 X w0 w' l n1 f n2 g l' f' g' := by
  obtain ⟨v, G, hS, hR⟩ := h
  refine (s_stateZ hS k hk hy hz).mono ?_
  rintro e w' ⟨he, hS'⟩
  exact ⟨he, v, G, hS', hR⟩
theorem t_read (h : Two d x t1 t2 t3 X w0 w l n1 f n2 g l' f' g') (k : Int) (hk : I64 k) {y : ByteArray} {z : Bool} (hy : (g k).getD ⟨#[]⟩ = y) (hz : (g k).isSome = z) :
    Calls Try.prog 32 #[.pointer (some ⟨d.o, 0, none⟩), .int .i64 k] w fun e w' => e = .returned (.tuple #[.string y, .bool z]) ∧ Two d x t1 t2 t3 X w0 w' l n1 f n2 g l' f' g' := by
  obtain ⟨v, G, hS, hR⟩ := h
  refine (s_readZ hS k hk hy hz).mono ?_
  rintro e w' ⟨he, hS'⟩
  exact ⟨he, v, G, hS', hR⟩
theorem t_rstate (h : Two d x t1 t2 t3 X w0 w l n1 f n2 g l' f' g') (hf : ∀ k : Int, ¬ (0 ≤ k ∧ k < (d.m.msgs.length : Int)) → f' k = none) (k : Int) {y : ByteArray} {z : Bool} (hy : (f' k).getD ⟨#[]⟩ = y) (hz : (f' k).isSome = z) :
    Calls Try.prog 39 #[.pointer (some ⟨x.r, 0, none⟩), .int .i64 k] w fun e w' => e = .returned (.tuple #[.string y, .bool z]) ∧ Two d x t1 t2 t3 X w0 w' l n1 f n2 g l' f' g' := by
  obtain ⟨⟨hr, ho, hh, hc, hg⟩, _⟩ := h.ref
  refine (r_state hr ho hh hf k hy hz).mono ?_
  rintro e w' ⟨he, rfl⟩
  exact ⟨he, h⟩
theorem t_rread (h : Two d x t1 t2 t3 X w0 w l n1 f n2 g l' f' g') (hf : ∀ k : Int, ¬ (0 ≤ k ∧ k < (d.m.msgs.length : Int)) → g' k = none) (k : Int) {y : ByteArray} {z : Bool} (hy : (g' k).getD ⟨#[]⟩ = y) (hz : (g' k).isSome = z) :
    Calls Try.prog 40 #[.pointer (some ⟨x.r, 0, none⟩), .int .i64 k] w fun e w' => e = .returned (.tuple #[.string y, .bool z]) ∧ Two d x t1 t2 t3 X w0 w' l n1 f n2 g l' f' g' := by
  obtain ⟨⟨hr, ho, hh, hc, hg⟩, _⟩ := h.ref
  refine (r_read hr hc hg hf k hy hz).mono ?_
  rintro e w' ⟨he, rfl⟩
  exact ⟨he, h⟩
end
/-! ### what holds of all rows -/
def EvAll (m : Mat) (l : List Ev) : Prop := ∀ y ∈ l, (thereE m y.msg).2 = true ∧ (thereE m y.msg).1.ev = true
def OutN (m : Mat) (f : Int → Option ByteArray) : Prop := ∀ k : Int, ¬ (0 ≤ k ∧ k < (m.msgs.length : Int)) → f k = none
theorem evAll_nil (m : Mat) : EvAll m [] := fun y h => by cases h
theorem outN_none (m : Mat) : OutN m (fun _ => none) := fun _ _ => rfl
theorem EvAll.sendL {m : Mat} {who : Int} {l : List Ev} {k : Int} {data : ByteArray} (h : EvAll m l) : EvAll m (sendL m who l k data) := by
  unfold Go.Proofs.Ytmbhgipoofllfaa.sendL
  split
  · rename_i hc
    have hm := hc.1
    simp only [mayS, Bool.and_eq_true] at hm
    unfold putL
    split
    · intro y hy
      rcases List.mem_append.1 hy with hy | hy
      · exact h y hy
      · simp at hy
        subst hy
        exact ⟨hm.1, hc.2.2⟩
    · exact h
  · exact h
theorem sentP_eq {m : Mat} {l : List Ev} {k : Int} (h : EvAll m l) : sentP m l k = sentL l k := by
  unfold sentP
  split
  · rfl
  · rename_i hn
    cases l with
    | nil => rfl
    | cons y t =>
      have hy := h y (by simp)
      have : (y.msg == k) = false := by
        rw [beq_eq_false_iff_ne]
        rintro rfl
        exact hn hy
      simp [sentL, this]
theorem EvAll.sentL {m : Mat} {l : List Ev} {k : Int} (h : EvAll m l) : EvAll m (sentL l k) := by
  cases l with
  | nil => exact h
  | cons y t =>
    intro z hz
    apply h z
    by_cases e : (y.msg == k) = true
    · simp [Go.Proofs.Ytmbhgipoofllfaa.sentL, e] at hz; simp [hz]
    · simp [Go.Proofs.Ytmbhgipoofllfaa.sentL, e] at hz; simpa using hz
theorem there_range {m : Mat} {k : Int} (h : (thereE m k).2 = true) : 0 ≤ k ∧ k < (m.msgs.length : Int) := by
  unfold thereE at h
  split at h
  · cases h
  · omega
theorem outN_set {m : Mat} {f : Int → Option ByteArray} {k : Int} {s : ByteArray} (h : OutN m f) (hk : (thereE m k).2 = true) : OutN m (setF f k s) := by
  intro j hj
  have := there_range hk
  unfold setF
  rw [if_neg (by rintro rfl; exact hj this)]
  exact h j hj
theorem OutN.sendF {m : Mat} {who : Int} {f : Int → Option ByteArray} {k : Int} {data : ByteArray} (h : OutN m f) : OutN m (sendF m who f k data) := by
  unfold Go.Proofs.Ytmbhgipoofllfaa.sendF
  split
  · rename_i hc
    have := hc.1
    simp only [mayS, Bool.and_eq_true] at this
    exact outN_set h this.1
  · exact h
theorem OutN.gotF {m : Mat} {g : Int → Option ByteArray} {k : Int} {data : ByteArray} (h : OutN m g) : OutN m (gotF m g k data) := by
  unfold Go.Proofs.Ytmbhgipoofllfaa.gotF
  split
  · rename_i hc
    exact outN_set h hc
  · exact h
end Go.Proofs.Ytmbhgipoofllfaa
