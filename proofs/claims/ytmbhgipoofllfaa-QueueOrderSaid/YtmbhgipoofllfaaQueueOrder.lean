/- QueueOrder: what is put comes out in order; a full queue says 170, an empty one 171. -/
import Derived.Test.YtmbhgipoofllfaaQueueLaws
import Derived.ChangeMaps5
namespace Go.Proofs.Ytmbhgipoofllfaa
set_option linter.unusedVariables false
set_option linter.unusedSimpArgs false
open Go.ChangeShapes Go.WideShapes Go.ChangeAt Go.RowKit Go.Deep

def evd (b : ByteArray) (n : Nat) : List Ev := (List.range n).map fun i : Nat => (⟨(i : Int), b⟩ : Ev)
theorem evd_len (b : ByteArray) (n : Nat) : (evd b n).length = n := by simp [evd]
theorem evd_succ (b : ByteArray) (n : Nat) : evd b (n + 1) = evd b n ++ [⟨n, b⟩] := by simp [evd, List.range_succ]
theorem evd_drop (b : ByteArray) {n k : Nat} (h : k < n) : (evd b n).drop k = ⟨k, b⟩ :: (evd b n).drop (k + 1) := by
  rw [List.drop_eq_getElem_cons (by rw [evd_len]; exact h)]
  simp [evd]

set_option maxRecDepth 100000 in
set_option maxHeartbeats 1000000 in
theorem QueueOrder_core (a0 a1 : Int) (a2 : ByteArray) (w0 : (Lit.int .u8 a0).wf = true) (w1 : (Lit.int .u8 a1).wf = true) (w : World) : Holds 3 #[.int .u8 a0, .int .u8 a1, .string a2] w := by
  have b0 := u8_bounds w0
  have b1 := u8_bounds w1
  clear w0 w1
  have hp := no_held
  have hg := no_guard
  obtain ⟨cap, hcap⟩ : ∃ cap : Nat, (cap : Int) = a0 % 4 + 1 := ⟨(a0 % 4 + 1).toNat, by omega⟩
  obtain ⟨n, hn⟩ : ∃ n : Nat, (n : Int) = a1 % 10 := ⟨(a1 % 10).toNat, by omega⟩
  have hc2 : (min (max (a0 % 4 + 1) 1) 4).toNat = cap := by omega
  have h1 : 1 ≤ cap := by omega
  have h4 : cap ≤ 4 := by omega
  have h10 : n < 10 := by omega
  have HC := Lib.hid hcap
  have HN := Lib.hid hn
  clear hcap hn
  unfold Holds
  go_enter Try.func3, Try.ntmps3
  go_wp2_with fail
  refine (queue_known _).mono ?_
  rintro e w1 ⟨rfl, hb⟩
  go_wp2_with fail
  all_goals try (go_ret; exact ⟨rfl, hb⟩)
  refine (own_addq (a0 % 4 + 1) (Own.nil_ hb hb.size)).mono ?_
  rintro e w2 ⟨q, c, rfl, hO⟩
  rw [hc2] at hO
  clear hb hc2
  go_wp2_with fail
  go_loopw [9] (fun i wr => ∃ (k s r : Nat), i = .int .i64 k ∧ k ≤ n ∧ Own w.heap.size w [(c, chaO cap (evd a2 (min k cap)) s r), (q, queO c)] wr) (fun i _ => 10 - (intOf i).toNat)
  case atStart => exact ⟨0, _, _, rfl, by omega, by simpa [evd] using hO⟩
  case round =>
    clear hO
    obtain ⟨k, s, r, rfl, hk, hO⟩ := hrel
    by_cases hlt : k < n
    · have hlt' : (k : Int) < a1 % 10 := by have := HN.out; omega
      by_cases hr : k < cap
      · have hr' : (k : Int) < a0 % 4 + 1 := by have := HC.out; omega
        have e1 : min k cap = k := by omega
        have e2 : min (k + 1) cap = k + 1 := by omega
        rw [e1] at hO
        go_wp2_with fail
        refine (own_ex0 hO (que_put' hO.get1 hO.get0 _ _ (by rw [evd_len]; exact hr))).mono ?_
        rintro e w3 ⟨s, r, rfl, hO⟩
        rw [← evd_succ] at hO
        go_wp2_with fail
        go_roundw
        case rel => exact ⟨k + 1, s, r, by go_num, by omega, by rw [e2]; exact hO⟩
        case measure => simp [intOf]; omega
      · have hr' : ¬ (k : Int) < a0 % 4 + 1 := by have := HC.out; omega
        have e1 : min k cap = cap := by omega
        have e2 : min (k + 1) cap = cap := by omega
        rw [e1] at hO
        go_wp2_with fail
        refine (own_same hO (que_full hO.get1 hO.get0 _ _ (by rw [evd_len]; omega))).mono ?_
        rintro e w3 ⟨rfl, hO⟩
        go_wp2_with fail
        refine (own_same hO (que_len hO.get1 hO.get0)).mono ?_
        rintro e w4 ⟨rfl, hO⟩
        rw [evd_len, HC.out]
        go_wp2_with fail
        go_roundw
        case rel => exact ⟨k + 1, s, r, by go_num, by omega, by rw [e2]; exact hO⟩
        case measure => simp [intOf]; omega
    · obtain rfl : k = n := by omega
      have hlt' : ¬ (k : Int) < a1 % 10 := by have := HN.out; omega
      obtain ⟨m, hm⟩ : ∃ m, m = min k cap := ⟨_, rfl⟩
      rw [← hm] at hO
      have hmc : m ≤ cap := by omega
      have hmn : m ≤ k := by omega
      have hm10 : m < 10 := by omega
      have hnum : (a0 % 4 + 1 < a1 % 10 ∧ (m : Int) = a0 % 4 + 1) ∨ (¬ a0 % 4 + 1 < a1 % 10 ∧ (m : Int) = a1 % 10) := by
        have := HC.out
        have := HN.out
        omega
      clear hm
      rcases hnum with ⟨hq1, hq2⟩ | ⟨hq1, hq2⟩
      all_goals
        have HM := Lib.hid hq2
        clear hq2
        go_wp2_with fail
        go_loopw [11] (fun i wr => ∃ (j s r : Nat), i = .int .i64 j ∧ j ≤ m ∧ Own w.heap.size w [(c, chaO cap ((evd a2 m).drop j) s r), (q, queO c)] wr) (fun i _ => 10 - (intOf i).toNat)
        case atStart => exact ⟨0, _, _, rfl, by omega, by simpa using hO⟩
        case round =>
          clear hO
          obtain ⟨j, s, r, rfl, hj, hO⟩ := hrel
          by_cases hjm : j < m
          · have hj1 : (j : Int) < a0 % 4 + 1 := by have := HM.out; omega
            have hj2 : (j : Int) < a1 % 10 := by have := HM.out; omega
            rw [evd_drop a2 hjm] at hO
            go_wp2_with fail
            refine (own_ex0 hO (que_take' hO.get1 hO.get0)).mono ?_
            rintro e w3 ⟨s, r, rfl, hO⟩
            go_wp2_with fail
            go_roundw
            case rel => exact ⟨j + 1, s, r, by go_num, by omega, hO.alloc_ _⟩
            case measure => simp [intOf]; omega
          · obtain rfl : j = m := by omega
            have hj1 : ¬ (j : Int) < min (a1 % 10) (a0 % 4 + 1) := by have := HM.out; omega
            have hj2 := HM.out
            rw [List.drop_eq_nil_of_le (by rw [evd_len]; omega)] at hO
            go_wp2_with fail
            refine (own_ex0 hO (que_takeNone' hO.get1 hO.get0)).mono ?_
            rintro e w3 ⟨s, r, rfl, hO⟩
            go_wp2_with fail
            replace hO := hO.alloc_ (.cells #[.int .i64 0, .string ⟨#[]⟩] 29)
            refine (own_ex0 hO (que_put' hO.get1 hO.get0 _ _ (by simp; omega))).mono ?_
            rintro e w4 ⟨s, r, rfl, hO⟩
            go_wp2_with fail
            refine (own_same hO (que_len hO.get1 hO.get0)).mono ?_
            rintro e w5 ⟨rfl, hO⟩
            go_wp2
            go_ret
            exact ⟨rfl, hO.bel⟩

theorem QueueOrder_walk (a0 a1 : Int) (a2 : ByteArray) (w0 : (Lit.int .u8 a0).wf = true) (w1 : (Lit.int .u8 a1).wf = true) (w2 : a2.size ≤ maxLen) (W : World) : Holds 3 #[.int .u8 a0, .int .u8 a1, .string a2] W :=
  QueueOrder_core a0 a1 a2 w0 w1 W

set_option maxRecDepth 100000 in
theorem QueueOrder_lifted (os : Os) (started : os.Started) (H : Type) (enc : TypeId × Value → H) :
    ReturnsInHanded {} Try.checked os 3 .any (Rows.queueOrderSpec.pre6 enc Try.prog Try.f3 [] false) (Rows.queueOrderSpec.post enc Try.prog Try.f3 false true false false) := by
  refine law_lifted (n := 3) os started H enc (by kernel_rfl) Try.func3 rfl rfl (hts_of (by kernel_rfl)) rfl (fun ds h => match ds, h with | [_, _, _], _ => rfl)
    (ChangeSpec.witness6 (enc := enc) (C := Try.checked) false ⟨#[], #[.int .u8 0, .int .u8 0, .string ⟨#[]⟩], []⟩ 8 (by kernel_rfl) (by kernel_rfl) (by kernel_rfl) (by kernel_rfl)) ?_
  intro W base args ds p hval hA
  rw [Try.params3] at hA hval
  obtain ⟨v0, vs0, d0, ds0, p0, q0, hargs, rfl, rfl, h0, r0⟩ := trodAll_cons hA
  obtain ⟨v1, vs1, d1, ds1, p1, q1, rfl, rfl, rfl, h1, r1⟩ := trodAll_cons r0
  obtain ⟨v2, vs2, d2, ds2, p2, q2, rfl, rfl, rfl, h2, r2⟩ := trodAll_cons r1
  obtain ⟨rfl, rfl, rfl⟩ := trodAll_nil r2
  obtain rfl : args = #[v0, v1, v2] := by cases args; simp_all
  obtain ⟨a0, rfl, rfl, rfl, w0⟩ := open_int Try.underlying5 (hval 0 _ v0 rfl rfl) h0
  obtain ⟨a1, rfl, rfl, rfl, w1⟩ := open_int Try.underlying5 (hval 1 _ v1 rfl rfl) h1
  obtain ⟨a2, rfl, rfl, rfl, w2⟩ := Go.ChangeMaps.open_string Try.underlying9 (hval 2 _ v2 rfl rfl) h2
  exact QueueOrder_walk a0 a1 a2 w0 w1 w2 W 

theorem QueueOrder_over : Rows.queueOrderRow.holds Try.pinned (OpenSpec.ofChange Rows.queueOrderSpec) :=
  OpenClaim.holds_of_wide 3 Try.f3 rfl rfl rfl rfl rfl rfl rfl ⟨rfl, rfl, rfl, rfl, rfl⟩ rfl rfl rfl rfl rfl (by kernel_rfl) Try.func3 (by kernel_rfl)
    (of_decide_eq_true (by kernel_rfl)) (by unfold Func.isWrapper; first | (rw [if_pos (by decide +kernel)]; kernel_rfl) | (rw [if_neg (by decide +kernel)]; exact ⟨rfl, rfl⟩))
    (fun os started H enc _ => QueueOrder_lifted os started H enc)
theorem QueueOrder_holds : Rows.QueueOrderSaid := QueueOrder_over
#print axioms QueueOrder_holds
end Go.Proofs.Ytmbhgipoofllfaa
