/- QueueRound: a full queue that goes round: head and take agree, in order, and there is room for one again. -/
import Derived.Test.YtmbhgipoofllfaaQueueLaws
namespace Go.Proofs.Ytmbhgipoofllfaa
set_option linter.unusedVariables false
set_option linter.unusedSimpArgs false
open Go.ChangeShapes Go.WideShapes Go.ChangeAt Go.RowKit Go.Deep

def evf (k m : Nat) : List Ev := (List.range m).map fun j : Nat => (⟨((k + j : Nat) : Int), ⟨#[120]⟩⟩ : Ev)
theorem evf_len (k m : Nat) : (evf k m).length = m := by simp [evf]
theorem evf_last (k m : Nat) : evf k (m + 1) = evf k m ++ [⟨((k + m : Nat) : Int), ⟨#[120]⟩⟩] := by simp [evf, List.range_succ]
theorem evf_head (k m : Nat) : evf k (m + 1) = ⟨(k : Int), ⟨#[120]⟩⟩ :: evf (k + 1) m := by
  simp only [evf, List.range_succ_eq_map, List.map_cons, List.map_map, Nat.add_zero, List.cons.injEq, true_and]
  apply List.map_congr_left
  intro j _
  simp only [Function.comp, Ev.mk.injEq, and_true]
  omega

set_option maxRecDepth 100000 in
set_option maxHeartbeats 1000000 in
theorem QueueRound_walk (a0 a1 : Int) (w0 : (Lit.int .u8 a0).wf = true) (w1 : (Lit.int .u8 a1).wf = true) (w : World) : Holds 4 #[.int .u8 a0, .int .u8 a1] w := by
  have b0 := u8_bounds w0
  have b1 := u8_bounds w1
  clear w0 w1
  have hp := no_held
  have hg := no_guard
  obtain ⟨m, hm⟩ : ∃ m : Nat, (m : Int) = a0 % 4 := ⟨(a0 % 4).toNat, by omega⟩
  obtain ⟨n, hn⟩ : ∃ n : Nat, (n : Int) = a1 := ⟨a1.toNat, by omega⟩
  subst hn
  have hc2 : (min (max (a0 % 4 + 1) 1) 4).toNat = m + 1 := by omega
  have h4 : m + 1 ≤ 4 := by omega
  have HM := Lib.hid hm
  clear hm
  unfold Holds
  go_enter Try.func4, Try.ntmps4
  go_wp2_with fail
  refine (queue_known _).mono ?_
  rintro e w1 ⟨rfl, hb⟩
  go_wp2_with fail
  refine (own_addq (a0 % 4 + 1) (Own.nil_ hb hb.size)).mono ?_
  rintro e w2 ⟨q, c, rfl, hO⟩
  rw [hc2] at hO
  clear hb hc2
  go_wp2_with fail
  go_loopw [7] (fun i wr => ∃ (k s r : Nat), i = .int .i64 k ∧ k ≤ m + 1 ∧ Own w.heap.size w [(c, chaO (m + 1) (evf 0 k) s r), (q, queO c)] wr) (fun i _ => 10 - (intOf i).toNat)
  case atStart => exact ⟨0, _, _, rfl, by omega, by simpa [evf] using hO⟩
  case round =>
    clear hO
    obtain ⟨k, s, r, rfl, hk, hO⟩ := hrel
    by_cases hlt : k < m + 1
    · have hlt' : (k : Int) < a0 % 4 + 1 := by have := HM.out; omega
      go_wp2_with fail
      refine (own_ex0 hO (que_put' hO.get1 hO.get0 _ _ (by rw [evf_len]; exact hlt))).mono ?_
      rintro e w3 ⟨s, r, rfl, hO⟩
      have e0 := evf_last 0 k
      rw [Nat.zero_add] at e0
      rw [← e0] at hO
      clear e0
      go_wp2_with fail
      go_roundw
      case rel => exact ⟨k + 1, s, r, by go_num, by omega, hO⟩
      case measure => simp [intOf]; omega
    · obtain rfl : k = m + 1 := by omega
      have hlt' : ¬ ((m + 1 : Nat) : Int) < a0 % 4 + 1 := by have := HM.out; omega
      go_wp2_with fail
      go_loopw [8] (fun i wr => ∃ (k s r : Nat), i = .int .i64 k ∧ k ≤ n ∧ Own w.heap.size w [(c, chaO (m + 1) (evf k (m + 1)) s r), (q, queO c)] wr) (fun i _ => n - (intOf i).toNat)
      case atStart => exact ⟨0, _, _, rfl, by omega, hO⟩
      case round =>
        clear hO
        obtain ⟨k, s, r, rfl, hk, hO⟩ := hrel
        by_cases hlk : k < n
        · have hlk' : (k : Int) < (n : Int) := by omega
          rw [evf_head] at hO
          go_wp2_with fail
          refine (own_ex0 hO (que_head' hO.get1 hO.get0 (by simp [evf_len]) h4)).mono ?_
          rintro e w3 ⟨s, r, rfl, hO⟩
          go_wp2_with fail
          replace hO := hO.alloc (.cells #[.int .i64 k, .string ⟨#[120]⟩] 29)
          refine (own_ex1 hO (que_take' hO.get2 hO.get1)).mono ?_
          rintro e w4 ⟨s, r, rfl, hO⟩
          have x0 := cell_of hO.get0 0
          have x1 := cell_of hO.get0 1
          simp at x0 x1
          have lx := lt_of_heap hO.get0
          go_wp2_with fail
          replace hO := hO.alloc_ (.cells #[.int .i64 k, .string ⟨#[120]⟩] 29)
          refine (own_ex1 hO (que_put' hO.get2 hO.get1 _ _ (by rw [evf_len]; omega))).mono ?_
          rintro e w5 ⟨s, r, rfl, hO⟩
          go_wp2_with fail
          refine (own_same hO (que_len hO.get2 hO.get1)).mono ?_
          rintro e w6 ⟨rfl, hO⟩
          have el : ((evf (k + 1) m ++ [(⟨(k : Int) + (a0 % 4 + 1), ⟨#[120]⟩⟩ : Ev)]).length : Int) = a0 % 4 + 1 := by
            have := HM.out
            simp [evf_len]
            omega
          have ev2 : evf (k + 1) m ++ [(⟨(k : Int) + (a0 % 4 + 1), ⟨#[120]⟩⟩ : Ev)] = evf (k + 1) (m + 1) := by
            rw [evf_last]
            congr 3
            have := HM.out
            omega
          rw [el]
          rw [ev2] at hO
          go_wp2_with fail
          go_roundw
          case rel => exact ⟨k + 1, s, r, by go_num, by omega, hO.drop⟩
          case measure => simp [intOf]; omega
        · have hlk' : ¬ (k : Int) < (n : Int) := by omega
          go_wp2
          go_ret
          exact ⟨rfl, hO.bel⟩

set_option maxRecDepth 100000 in
theorem QueueRound_lifted (os : Os) (started : os.Started) (H : Type) (enc : TypeId × Value → H) :
    ReturnsInHanded {} Try.checked os 4 .any (Rows.queueRoundSpec.pre6 enc Try.prog Try.f4 [] false) (Rows.queueRoundSpec.post enc Try.prog Try.f4 false true false false) := by
  refine law_lifted (n := 2) os started H enc (by kernel_rfl) Try.func4 rfl rfl (hts_of (by kernel_rfl)) rfl (fun ds h => match ds, h with | [_, _], _ => rfl)
    (ChangeSpec.witness6 (enc := enc) (C := Try.checked) false ⟨#[], #[.int .u8 0, .int .u8 0], []⟩ 8 (by kernel_rfl) (by kernel_rfl) (by kernel_rfl) (by kernel_rfl)) ?_
  intro W base args ds p hval hA
  rw [Try.params4] at hA hval
  obtain ⟨v0, vs0, d0, ds0, p0, q0, hargs, rfl, rfl, h0, r0⟩ := trodAll_cons hA
  obtain ⟨v1, vs1, d1, ds1, p1, q1, rfl, rfl, rfl, h1, r1⟩ := trodAll_cons r0
  obtain ⟨rfl, rfl, rfl⟩ := trodAll_nil r1
  obtain rfl : args = #[v0, v1] := by cases args; simp_all
  obtain ⟨a0, rfl, rfl, rfl, w0⟩ := open_int Try.underlying5 (hval 0 _ v0 rfl rfl) h0
  obtain ⟨a1, rfl, rfl, rfl, w1⟩ := open_int Try.underlying5 (hval 1 _ v1 rfl rfl) h1
  exact QueueRound_walk a0 a1 w0 w1 W 

theorem QueueRound_over : Rows.queueRoundRow.holds Try.pinned (OpenSpec.ofChange Rows.queueRoundSpec) :=
  OpenClaim.holds_of_wide 4 Try.f4 rfl rfl rfl rfl rfl rfl rfl ⟨rfl, rfl, rfl, rfl, rfl⟩ rfl rfl rfl rfl rfl (by kernel_rfl) Try.func4 (by kernel_rfl)
    (of_decide_eq_true (by kernel_rfl)) (by unfold Func.isWrapper; first | (rw [if_pos (by decide +kernel)]; kernel_rfl) | (rw [if_neg (by decide +kernel)]; exact ⟨rfl, rfl⟩))
    (fun os started H enc _ => QueueRound_lifted os started H enc)
theorem QueueRound_holds : Rows.QueueRoundSaid := QueueRound_over
#print axioms QueueRound_holds
end Go.Proofs.Ytmbhgipoofllfaa
