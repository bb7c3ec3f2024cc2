/- QueueCopies. UNDER WAY. -/
import Derived.Test.YtmbhgipoofllfaaQueueSame
namespace Go.Proofs.Ytmbhgipoofllfaa
set_option linter.unusedVariables false
set_option linter.unusedSimpArgs false
open Go.ChangeShapes Go.WideShapes Go.ChangeAt Go.RowKit Go.Deep

def putL (cap : Nat) (l : List Ev) (e : Ev) : List Ev := if l.length < cap then l ++ [e] else l
theorem putL_len {cap : Nat} {l : List Ev} (e : Ev) (h : l.length ≤ cap) : (putL cap l e).length ≤ cap := by
  unfold putL
  split
  · simp; omega
  · exact h
theorem tail_len {cap : Nat} {l : List Ev} (h : l.length ≤ cap) : l.tail.length ≤ cap := by simp; omega

section
variable {w : World} {q c cap s r : Nat} {l : List Ev}
theorem que_putAny (hq : w.heap[q]? = some (queO c)) (hc : w.heap[c]? = some (chaO cap l s r)) (msg : Int) (data : ByteArray) (hl : l.length ≤ cap) :
    Calls Try.prog 14 #[.pointer (some ⟨q, 0, none⟩), .int .i64 msg, .string data] w fun e w' => ∃ s' r', e = .returned (.int .i64 (if l.length < cap then 0 else 170)) ∧ Upd c (chaO cap (putL cap l ⟨msg, data⟩) s' r') w w' := by
  by_cases h : l.length < cap
  · simp only [putL, h, if_true]
    exact que_put' hq hc msg data h
  · simp only [putL, h, if_false]
    exact (que_full hq hc msg data (by omega)).mono fun _ _ ⟨he, hw⟩ => ⟨s, r, he, hw ▸ Upd.refl hc⟩
/-- What Take gives back. -/
def takeV : List Ev → Value
  | [] => .tuple #[.agg #[.int .i64 0, .string ⟨#[]⟩], .int .i64 171]
  | e :: _ => .tuple #[.agg #[.int .i64 e.msg, .string e.data], .int .i64 0]
theorem que_putSome (hq : w.heap[q]? = some (queO c)) (hc : w.heap[c]? = some (chaO cap l s r)) (msg : Int) (data : ByteArray) (hl : l.length ≤ cap) :
    Calls Try.prog 14 #[.pointer (some ⟨q, 0, none⟩), .int .i64 msg, .string data] w fun e w' => ∃ z s' r', e = .returned (.int .i64 z) ∧ Upd c (chaO cap (putL cap l ⟨msg, data⟩) s' r') w w' :=
  (que_putAny hq hc msg data hl).mono fun _ _ ⟨s', r', he, hu⟩ => ⟨_, s', r', he, hu⟩
theorem que_takeAny (hq : w.heap[q]? = some (queO c)) (hc : w.heap[c]? = some (chaO cap l s r)) :
    Calls Try.prog 16 #[.pointer (some ⟨q, 0, none⟩)] w fun e w' => ∃ s' r', e = .returned (takeV l) ∧ Upd c (chaO cap l.tail s' r') w w' := by
  cases l with
  | nil => exact que_takeNone' hq hc
  | cons x l => exact que_take' hq hc
end
section
variable {B c q cap s r : Nat} {w0 w : World} {l : List Ev} {L : List (Nat × Obj)}
theorem own_allS (h : Own B w0 ((c, chaO cap l s r) :: L) w) (hq : w.heap[q]? = some (queO c)) (hl : l.length ≤ cap) (h4 : cap ≤ 4) :
    Calls Try.prog 18 #[.pointer (some ⟨q, 0, none⟩)] w fun e w' => ∃ v s' r', e = .returned v ∧ Own B w0 ((c, chaO cap l s' r') :: L) w' ∧ EvS w' v l ∧ Upd c (chaO cap l s' r') w w' ∧ ∀ g, v.ownBlock = some g → w.heap.size ≤ g ∧ g < w'.heap.size := by
  refine (que_all0 hq h.get0 hl h4).mono ?_
  rintro e w' ⟨v, s', r', he, hU, hR⟩
  exact ⟨v, s', r', he, h.upd0 hU, evS_of hR, hU, hR.lt⟩
theorem own_copyS (h : Own B w0 ((c, chaO cap l s r) :: L) w) (hq : w.heap[q]? = some (queO c)) (hl : l.length ≤ cap) (h1 : 1 ≤ cap) (h4 : cap ≤ 4) :
    Calls Try.prog 20 #[.pointer (some ⟨q, 0, none⟩)] w fun e w' => ∃ q' c' s' r' s2 r2, e = .returned (.pointer (some ⟨q', 0, none⟩)) ∧ Own B w0 ((c', chaO cap l s2 r2) :: (q', queO c') :: (c, chaO cap l s' r') :: L) w' ∧ Upd c (chaO cap l s' r') w w' ∧ w.heap.size ≤ c' := by
  refine (que_copy hq h.get0 hl h1 h4).mono ?_
  rintro e w' ⟨q', c', s', r', s2, r2, he, hU, hq', hc', hl1, hl2, hn⟩
  have hlt : ∀ b u, (b, u) ∈ (c, chaO cap l s' r') :: L → b < w.heap.size := by
    intro b u hm
    rcases List.mem_cons.1 hm with e | hm
    · simp only [Prod.mk.injEq] at e
      rw [e.1]
      exact lt_of_heap h.get0
    · exact lt_of_heap (h.all b u (List.mem_cons_of_mem _ hm)).2
  have k := (h.upd0 hU).more hq' (Nat.le_trans h.sz hl1) (fun b u hm => by have := hlt b u hm; omega)
  refine ⟨q', c', s', r', s2, r2, he, k.more hc' (Nat.le_trans h.sz hl2) ?_, hU, hl2⟩
  intro b u hm
  rcases List.mem_cons.1 hm with e | hm
  · simp only [Prod.mk.injEq] at e
    omega
  · have := hlt b u hm
    omega
end

set_option maxRecDepth 100000 in
set_option maxHeartbeats 1000000 in
theorem QueueCopies_walk (a0 : Int) (x1 : Option Addr) (len1 cap1 : Nat) (z1 : List Int) (w0 : (Lit.int .u8 a0).wf = true) (w : World) (r1 : IsRow .u8 w x1 len1 cap1 z1) :
    Holds 7 #[.int .u8 a0, .slice x1 len1 cap1] w := by
  have b0 := u8_bounds w0
  clear w0
  unfold Holds
  by_cases c1 : 40 < len1
  · go_enter Try.func7, Try.ntmps7
    go_wp2_with (go_at_call 12; refine (queue_known _).mono ?_; rintro e w1 ⟨rfl, hb⟩)
    go_ret
    exact ⟨rfl, ‹Below _ _ _›⟩
  have R1 := Lib.hid r1
  clear r1
  obtain ⟨cap, hcap⟩ : ∃ cap : Nat, (cap : Int) = a0 % 4 + 1 := ⟨(a0 % 4 + 1).toNat, by omega⟩
  have hc2 : (min (max (a0 % 4 + 1) 1) 4).toNat = cap := by omega
  have h1 : 1 ≤ cap := by omega
  have h4 : cap ≤ 4 := by omega
  clear hcap
  go_enter Try.func7, Try.ntmps7
  go_wp2_with fail
  refine (queue_known _).mono ?_
  rintro e w1 ⟨rfl, hb⟩
  go_wp2_with fail
  refine (own_addq (a0 % 4 + 1) (Own.nil_ hb hb.size)).mono ?_
  rintro e w2 ⟨q, c, rfl, hO⟩
  rw [hc2] at hO
  clear hb hc2
  go_wp2_with fail
  go_loopw [6] (fun i wr => ∃ (k s r : Nat) (l : List Ev), i = .int .i64 k ∧ k ≤ len1 ∧ l.length ≤ cap ∧ Own w.heap.size w [(c, chaO cap l s r), (q, queO c)] wr) (fun i _ => len1 - (intOf i).toNat)
  case atStart => exact ⟨0, _, _, [], rfl, by omega, by simp, hO⟩
  case round =>
    clear hO
    obtain ⟨k, s, r, l, rfl, hk, hl, hO⟩ := hrel
    have hcl := lt_of_heap hO.get0
    by_cases hlt : k < len1
    · obtain ⟨bb, off, rfl, hc, hwf, hbl⟩ := R1.out.at_ hlt
      obtain ⟨v, hv⟩ : ∃ v, v = z1.getD k 0 := ⟨_, rfl⟩
      rw [← hv] at hc hwf
      have HC := Lib.hid hc
      have hv8 := u8_bounds hwf
      clear hc hv hwf
      go_wp2_with fail
      refine (own_allS hO hO.get1 hl h4).mono ?_
      rintro e w3 ⟨va, s, r, rfl, hO, hE, hU, hg⟩
      go_wp2_with fail
      refine (own_copyS hO hO.get1 hl h1 h4).mono ?_
      rintro e w4 ⟨q2, c2, s, r, s2, r2, rfl, hO, hU2, hl2⟩
      have hE2 := hE.keep (w' := w4) (fun g hg' hlt => hU2.other g hlt (by have := hg g hg'; omega))
      have hc2 := hO.bel.cell (p := ⟨bb, off + k, none⟩) hbl
      rw [HC.out] at hc2
      go_wp2_with fail
      · refine (que_putSome hO.get1 hO.get0 _ _ hl).mono ?_
        rintro e w5 ⟨z, s2, r2, rfl, hU5⟩
        have hE3 := hE2.keep (w' := w5) (fun g hg' hlt => hU5.other g hlt (by have := hg g hg'; omega))
        replace hO := (hO.upd0 hU5).drop.drop
        have hcl2 := lt_of_heap hO.get0
        go_wp2_with fail
        refine (own_allS hO hO.get1 hl h4).mono ?_
        rintro e w6 ⟨vb, s, r, rfl, hO, hEb, hU6, hgb⟩
        have hE4 := hE3.keep (w' := w6) (fun g hg' hlt => hU6.other g hlt (by have := hg g hg'; omega))
        go_wp2_with fail
        refine (own_quiet hO (same_evs hEb hE4 (by omega))).mono ?_
        rintro e w7 ⟨rfl, hO⟩
        have hc3 := hO.bel.cell (p := ⟨bb, off + k, none⟩) hbl
        rw [HC.out] at hc3
        clear hE hE2 hE3 hE4 hEb hU hU2 hU5 hU6 hg hgb hl2
        go_wp2_with fail
        · refine (que_takeAny hO.get1 hO.get0).mono ?_
          rintro e w8 ⟨s, r, rfl, hU8⟩
          replace hO := hO.upd0 hU8
          go_wp2_with fail
          go_roundw
          case rel => exact ⟨k + 1, s, r, _, by go_num, by omega, tail_len hl, hO⟩
          case measure => simp [intOf]; omega
        · refine (que_putSome hO.get1 hO.get0 _ _ hl).mono ?_
          rintro e w8 ⟨z, s, r, rfl, hU8⟩
          replace hO := hO.upd0 hU8
          go_wp2_with fail
          go_roundw
          case rel => exact ⟨k + 1, s, r, _, by go_num, by omega, putL_len _ hl, hO⟩
          case measure => simp [intOf]; omega
      · refine (que_takeAny hO.get1 hO.get0).mono ?_
        rintro e w5 ⟨s2, r2, rfl, hU5⟩
        have hE3 := hE2.keep (w' := w5) (fun g hg' hlt => hU5.other g hlt (by have := hg g hg'; omega))
        replace hO := (hO.upd0 hU5).drop.drop
        have hcl2 := lt_of_heap hO.get0
        go_wp2_with fail
        refine (own_allS hO hO.get1 hl h4).mono ?_
        rintro e w6 ⟨vb, s, r, rfl, hO, hEb, hU6, hgb⟩
        have hE4 := hE3.keep (w' := w6) (fun g hg' hlt => hU6.other g hlt (by have := hg g hg'; omega))
        go_wp2_with fail
        refine (own_quiet hO (same_evs hEb hE4 (by omega))).mono ?_
        rintro e w7 ⟨rfl, hO⟩
        have hc3 := hO.bel.cell (p := ⟨bb, off + k, none⟩) hbl
        rw [HC.out] at hc3
        clear hE hE2 hE3 hE4 hEb hU hU2 hU5 hU6 hg hgb hl2
        go_wp2_with fail
        · refine (que_takeAny hO.get1 hO.get0).mono ?_
          rintro e w8 ⟨s, r, rfl, hU8⟩
          replace hO := hO.upd0 hU8
          go_wp2_with fail
          go_roundw
          case rel => exact ⟨k + 1, s, r, _, by go_num, by omega, tail_len hl, hO⟩
          case measure => simp [intOf]; omega
        · refine (que_putSome hO.get1 hO.get0 _ _ hl).mono ?_
          rintro e w8 ⟨z, s, r, rfl, hU8⟩
          replace hO := hO.upd0 hU8
          go_wp2_with fail
          go_roundw
          case rel => exact ⟨k + 1, s, r, _, by go_num, by omega, putL_len _ hl, hO⟩
          case measure => simp [intOf]; omega
    · go_wp2_with fail
      refine (own_same hO (que_len hO.get1 hO.get0)).mono ?_
      rintro e w3 ⟨rfl, hO⟩
      go_wp2_with fail
      refine (own_allS hO hO.get1 hl h4).mono ?_
      rintro e w4 ⟨va, s, r, rfl, hO, hE, hU, hg⟩
      rcases hE with ⟨rfl, hn⟩ | ⟨g, cp, rfl, _, hE⟩
      · subst hn
        go_wp2
        go_ret
        exact ⟨rfl, hO.bel⟩
      · clear hE hg hU
        go_wp2
        go_ret
        exact ⟨rfl, hO.bel⟩

set_option maxRecDepth 100000 in
theorem QueueCopies_lifted (os : Os) (started : os.Started) (H : Type) (enc : TypeId × Value → H) :
    ReturnsInHanded {} Try.checked os 7 .any (Rows.queueCopiesSpec.pre6 enc Try.prog Try.f7 [] false) (Rows.queueCopiesSpec.post enc Try.prog Try.f7 false true false false) := by
  refine law_lifted (n := 2) os started H enc (by kernel_rfl) Try.func7 rfl rfl (hts_of (by kernel_rfl)) rfl (fun ds h => match ds, h with | [_, _], _ => rfl)
    (ChangeSpec.witness6 (enc := enc) (C := Try.checked) false ⟨#[], #[.int .u8 0, .slice none 0 0], []⟩ 8 (by kernel_rfl) (by kernel_rfl) (by kernel_rfl) (by kernel_rfl)) ?_
  intro W base args ds p hval hA
  rw [Try.params7] at hA hval
  obtain ⟨v0, vs0, d0, ds0, p0, q0, hargs, rfl, rfl, h0, r0⟩ := trodAll_cons hA
  obtain ⟨v1, vs1, d1, ds1, p1, q1, rfl, rfl, rfl, h1, r1⟩ := trodAll_cons r0
  obtain ⟨rfl, rfl, rfl⟩ := trodAll_nil r1
  obtain rfl : args = #[v0, v1] := by cases args; simp_all
  obtain ⟨a0, rfl, rfl, rfl, w0⟩ := open_int Try.underlying5 (hval 0 _ v0 rfl rfl) h0
  obtain ⟨x1, len1, cap1, rfl⟩ := okWide_slice Try.underlying52 (hval 1 _ v1 rfl rfl)
  obtain ⟨z1, w1⟩ : ∃ zs, IsRow .u8 W x1 len1 cap1 zs := isRow_of Try.underlying52 Try.underlying5 (by kernel_rfl) h1
  exact QueueCopies_walk a0 x1 len1 cap1 z1 w0 W w1

theorem QueueCopies_over : Rows.queueCopiesRow.holds Try.pinned (OpenSpec.ofChange Rows.queueCopiesSpec) :=
  OpenClaim.holds_of_wide 7 Try.f7 rfl rfl rfl rfl rfl rfl rfl ⟨rfl, rfl, rfl, rfl, rfl⟩ rfl rfl rfl rfl rfl (by kernel_rfl) Try.func7 (by kernel_rfl)
    (of_decide_eq_true (by kernel_rfl)) (by unfold Func.isWrapper; first | (rw [if_pos (by decide +kernel)]; kernel_rfl) | (rw [if_neg (by decide +kernel)]; exact ⟨rfl, rfl⟩))
    (fun os started H enc _ => QueueCopies_lifted os started H enc)
theorem QueueCopies_holds : Rows.QueueCopiesSaid := QueueCopies_over
#print axioms QueueCopies_holds
end Go.Proofs.Ytmbhgipoofllfaa
