/- The reference's functions over the pair. -/
import Derived.Test.YtmbhgipoofllfaaObjPair
namespace Go.Proofs.Ytmbhgipoofllfaa
set_option linter.unusedVariables false
set_option linter.unusedSimpArgs false
open Go.ChangeShapes Go.WideShapes Go.ChangeAt Go.RowKit Go.Deep

section
variable {d dc : OD} {x : RD} {t1 t2 t3 : Value} {X : List (Nat × Obj)} {w0 w w' : World} {l l' : List Ev} {n1 n2 m1 m2 : Nat} {f g f' g' : Int → Option ByteArray}
theorem there_out {m : Mat} {k : Int} (h : (thereE m k).2 = false) : ¬ (0 ≤ k ∧ k < (m.msgs.length : Int)) := by
  intro hk
  unfold thereE at h
  rw [if_neg (by omega)] at h
  cases h
theorem there_in {m : Mat} {k : Int} {y : Msg} (h : thereE m k = (y, true)) : ∃ j : Nat, k = j ∧ j < m.msgs.length ∧ m.msgs[j]? = some y := by
  unfold thereE at h
  split at h
  · cases h
  · rename_i hk
    obtain ⟨j, rfl⟩ := Int.eq_ofNat_of_zero_le (by omega : 0 ≤ k)
    have hj : j < m.msgs.length := by omega
    refine ⟨j, rfl, hj, ?_⟩
    simp [hj] at h
    simp [hj, h]
theorem r_send_any (h : Two d x t1 t2 t3 X w0 w l n1 f n2 g l' f' g') (k : Int) (data : ByteArray) :
    Calls Try.prog 35 #[.pointer (some ⟨x.r, 0, none⟩), .int .i64 k, .string data] w fun e w' => e = .returned (.int .i64 (sendE d.m d.who l' k data)) ∧ Two d x t1 t2 t3 X w0 w' l n1 f n2 g (sendL d.m d.who l' k data) (sendF d.m d.who f' k data) g' := by
  obtain ⟨⟨hr, ho, hh, hc, hg⟩, ⟨q1, q2, q3, q4, q5, q6⟩, v0, hq, hE⟩ := h.ref
  obtain ⟨y, z, hz⟩ : ∃ y z, thereE d.m k = (y, z) := ⟨_, _, rfl⟩
  cases z with
  | false =>
    have hm := may_none (who := d.who) (by rw [hz] : (thereE d.m k).2 = false)
    refine (r_send_none hr k (there_out (by rw [hz])) data).mono ?_
    rintro e w' ⟨rfl, hB⟩
    refine ⟨by simp [sendE, hm], ?_⟩
    have e1 : sendL d.m d.who l' k data = l' := by simp [sendL, hm]
    have e2 : sendF d.m d.who f' k data = f' := by simp [sendF, hm]
    rw [e1, e2]
    exact h.keep hB
  | true =>
    obtain ⟨j, rfl, hj, hy⟩ := there_in hz
    have hM : MsgAt t2 j y w := by
      have hb := h.bel
      obtain ⟨v, G, hS, hR, h4, hrd⟩ := h
      exact msgAt_of (hrd.keep hb) hy
    cases hw : (y.owner == d.who) with
    | false =>
      have hm := may_alien hz hw
      refine (r_send_alien hr j hj hM hw data).mono ?_
      rintro e w' ⟨rfl, hB⟩
      refine ⟨by simp [sendE, hm], ?_⟩
      have e1 : sendL d.m d.who l' (j : Int) data = l' := by simp [sendL, hm]
      have e2 : sendF d.m d.who f' (j : Int) data = f' := by simp [sendF, hm]
      rw [e1, e2]
      exact h.keep hB
    | true =>
      have hm := may_own hz hw
      rcases Nat.lt_or_ge 8 data.size with hd | hd
      · refine (r_send_form hr j hj hM hw data hd).mono ?_
        rintro e w' ⟨rfl, hB⟩
        refine ⟨by simp [sendE, hm, hd], ?_⟩
        have hd' : ¬ data.size ≤ 8 := by omega
        have e1 : sendL d.m d.who l' (j : Int) data = l' := by simp [sendL, hd']
        have e2 : sendF d.m d.who f' (j : Int) data = f' := by simp [sendF, hd']
        rw [e1, e2]
        exact h.keep hB
      · have hd' : ¬ 8 < data.size := by omega
        cases he : y.ev with
        | true =>
          have e1 : sendL d.m d.who l' (j : Int) data = putL 4 l' ⟨j, data⟩ := by simp [sendL, hm, hd, hz, he]
          have e2 : sendF d.m d.who f' (j : Int) data = f' := by simp [sendF, hm, hd, hz, he]
          have e3 : sendE d.m d.who l' (j : Int) data = (if l'.length < 4 then 0 else 170) := by simp [sendE, hm, hd', hz, he]
          rw [e1, e2, e3]
          obtain ⟨v, G, ⟨s, r, o1, o2, hO, hMM⟩, hR, h4, hrd⟩ := h
          have hO' : Own w0.heap.size w0 ((dB d l s r o1 o2 ++ X ++ refL d.m d.who t1 t2 t3 x f' g') ++ (x.bq, rqO 4 v) :: G) w.drew := by simpa [dB] using hO.drew
          refine (r_send_event (Q := fun _ w' => Two d x t1 t2 t3 X w0 w' l n1 f n2 g (putL 4 l' ⟨j, data⟩) f' g') hr j hj hM hw data hd he ?_).mono (fun _ _ h => h)
          refine (own_rput hO' hR (j : Int) data rfl (by decide) h4).mono ?_
          rintro e w' ⟨v2, G2, rfl, hO2, hR2⟩
          refine ⟨rfl, v2, G2, ⟨s, r, o1, o2, by simpa [dB] using hO2, hMM⟩, hR2, putL_len _ h4, hrd⟩
        | false =>
          have e1 : sendL d.m d.who l' (j : Int) data = l' := by simp [sendL, hm, hd, hz, he]
          have e2 : sendF d.m d.who f' (j : Int) data = setF f' j data := by simp [sendF, hm, hd, hz, he]
          have e3 : sendE d.m d.who l' (j : Int) data = 0 := by simp [sendE, hm, hd', hz, he]
          rw [e1, e2, e3]
          refine (r_send_state hr ho hh q1 q2 q3 j hj hM hw data hd he).mono ?_
          rintro e w' ⟨rfl, hU⟩
          exact ⟨rfl, h.sent2 hU⟩
theorem r_take_any (h : Two d x t1 t2 t3 X w0 w l n1 f n2 g l' f' g') (k : Int) (data : ByteArray) :
    Calls Try.prog 37 #[.pointer (some ⟨x.r, 0, none⟩), .int .i64 k, .string data] w fun e w' => (∃ v, e = .returned v) ∧ Two d x t1 t2 t3 X w0 w' l n1 f n2 g l' f' (gotF d.m g' k data) := by
  obtain ⟨⟨hr, ho, hh, hc, hg⟩, ⟨q1, q2, q3, q4, q5, q6⟩, v0, hq, hE⟩ := h.ref
  obtain ⟨y, z, hz⟩ : ∃ y z, thereE d.m k = (y, z) := ⟨_, _, rfl⟩
  cases z with
  | false =>
    refine (r_take_no hr k (there_out (by rw [hz])) data).mono ?_
    rintro e w' ⟨he, rfl⟩
    have e1 : gotF d.m g' k data = g' := by simp [gotF, hz]
    rw [e1]
    exact ⟨he, h⟩
  | true =>
    obtain ⟨j, rfl, hj, hy⟩ := there_in hz
    refine (r_take_yes hr hc hg q4 q5 q6 j hj data).mono ?_
    rintro e w' ⟨he, hU⟩
    have e1 : gotF d.m g' (j : Int) data = setF g' j data := by simp [gotF, hz]
    rw [e1]
    exact ⟨he, h.came2 hU⟩
theorem r_sent_any (h : Two d x t1 t2 t3 X w0 w l n1 f n2 g l' f' g') (k : Int) :
    Calls Try.prog 36 #[.pointer (some ⟨x.r, 0, none⟩), .int .i64 k] w fun e w' => (∃ v, e = .returned v) ∧ Two d x t1 t2 t3 X w0 w' l n1 f n2 g (sentL l' k) f' g' := by
  obtain ⟨v, G, ⟨s, r, o1, o2, hO, hMM⟩, hR, h4, hrd⟩ := h
  have hO' : Own w0.heap.size w0 ((dB d l s r o1 o2 ++ X ++ refL d.m d.who t1 t2 t3 x f' g') ++ (x.bq, rqO 4 v) :: G) w := by simpa [dB] using hO
  have hE : EvS w v l' := hR.evs (L := (dB d l s r o1 o2 ++ X ++ refL d.m d.who t1 t2 t3 x f' g') ++ [(x.bq, rqO 4 v)]) (by simpa using hO')
  have hq := (hO'.all x.bq (rqO 4 v) (by simp)).2
  have hr : w.heap[x.r]? = some (robO d.m t1 t2 t3 d.who d.m.msgs.length x) := (hO'.all x.r _ (by simp [refL])).2
  have back : ∀ w' v2 G2 l2, Own w0.heap.size w0 ((dB d l s r o1 o2 ++ X ++ refL d.m d.who t1 t2 t3 x f' g') ++ (x.bq, rqO 4 v2) :: G2) w' → Rds G2 v2 l2 → l2.length ≤ 4 → Two d x t1 t2 t3 X w0 w' l n1 f n2 g l2 f' g' :=
    fun w' v2 G2 l2 hO2 hR2 hl2 => ⟨v2, G2, ⟨s, r, o1, o2, by simpa [dB] using hO2, hMM⟩, hR2, hl2, hrd⟩
  match l', h4, hR, hE with
  | [], h4, hR, hE =>
    refine (r_sent_no hr hq hE h4 k (fun y t e => by cases e)).mono ?_
    rintro e w' ⟨he, rfl⟩
    exact ⟨he, back _ v G [] hO' hR h4⟩
  | y :: t, h4, hR, hE =>
    cases hy : (y.msg == k) with
    | false =>
      refine (r_sent_no hr hq hE h4 k (fun y' t' e => by cases e; exact hy)).mono ?_
      rintro e w' ⟨he, rfl⟩
      have e1 : sentL (y :: t) k = y :: t := by simp [sentL, hy]
      rw [e1]
      exact ⟨he, back _ v G (y :: t) hO' hR h4⟩
    | true =>
      have e1 : sentL (y :: t) k = t := by simp [sentL, hy]
      rw [e1]
      refine r_sent_yes hr hq hE h4 k hy ?_
      refine (own_rtake hO' hR h4).mono ?_
      rintro e w' ⟨v2, G2, he, hO2, hR2⟩
      exact ⟨⟨_, he⟩, back _ v2 G2 t hO2 hR2 (by simp at h4; omega)⟩
/-- New blocks beside those that are there. -/
theorem Own.append_new {B : Nat} {L N : List (Nat × Obj)} (h : Own B w0 L w) (hb : Below w.heap.size w w') (hn : ∀ b o, (b, o) ∈ N → w.heap.size ≤ b ∧ w'.heap[b]? = some o) (nd : (N.map (·.1)).Nodup) : Own B w0 (L ++ N) w' := by
  have k := h.keep hb
  refine ⟨k.bel, k.sz, ?_, fun b o hm => ?_⟩
  · rw [List.map_append, List.nodup_append]
    refine ⟨h.nd, nd, ?_⟩
    intro b h1 c h2 e
    obtain ⟨⟨b', o'⟩, hm, rfl⟩ := List.mem_map.1 h1
    obtain ⟨⟨c', o2⟩, hm2, rfl⟩ := List.mem_map.1 h2
    have := lt_of_heap (h.all b' o' hm).2
    have := (hn c' o2 hm2).1
    simp at e
    omega
  · rcases List.mem_append.1 hm with hm | hm
    · exact k.all b o hm
    · exact ⟨Nat.le_trans h.sz (hn b o hm).1, (hn b o hm).2⟩
theorem Two.begin {w3 : World} (h : ObjS d [] w0 w [] n1 (fun _ => none) n2 (fun _ => none)) (hr : RNew d.m t1 t2 t3 d.who x w w') (hrd : RdL 3 msgC w0 t2 d.m.msgs) : Two d x t1 t2 t3 [] w0 w' [] n1 (fun _ => none) n2 (fun _ => none) [] (fun _ => none) (fun _ => none) := by
  obtain ⟨s, r, o1, o2, hO, hM⟩ := h
  refine ⟨.slice none 0 0, [], ⟨s, r, o1, o2, ?_, hM⟩, .inl ⟨rfl, rfl, rfl⟩, by simp, hrd⟩
  have hf := hr.far
  refine Own.append_new (N := refL d.m d.who t1 t2 t3 x (fun _ => none) (fun _ => none) ++ [(x.bq, rqO 4 (.slice none 0 0))]) hO hr.bel ?_ ?_
  · intro b o hm
    simp only [refL, List.cons_append, List.nil_append, List.mem_cons, Prod.mk.injEq, List.not_mem_nil, or_false] at hm
    rcases hm with ⟨rfl, rfl⟩ | ⟨rfl, rfl⟩ | ⟨rfl, rfl⟩ | ⟨rfl, rfl⟩ | ⟨rfl, rfl⟩ | ⟨rfl, rfl⟩
    · exact ⟨hf _ (by simp), hr.hr⟩
    · exact ⟨hf _ (by simp), hr.ho⟩
    · exact ⟨hf _ (by simp), hr.hh⟩
    · exact ⟨hf _ (by simp), hr.hc⟩
    · exact ⟨hf _ (by simp), hr.hg⟩
    · exact ⟨hf _ (by simp), hr.hq⟩
  · simpa [refL] using hr.nd
end
end Go.Proofs.Ytmbhgipoofllfaa
