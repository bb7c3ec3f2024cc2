/- The laws of the masters without a reference: known, MasterStates, MasterNever, MasterTwo hold at every input. No conditions. -/
import Derived.Test.YtkciakbkiloknaaFrame
import Derived.Test.YtkciakbkiloknaaMaster
namespace Go.Proofs.Ytkciakbkiloknaa
set_option linter.unusedVariables false
set_option linter.unusedSimpArgs false
open Go.ChangeShapes Go.WideShapes Go.ChangeAt Go.RowKit
section
variable {B b : Nat} {w0 w : World} {m : MasterS}
theorem om_new (h : Below B w0 w) (hs : B ≤ w.heap.size) (r : Int) : Calls Try.prog 24 #[.int .i64 r] w fun e w' => ∃ b, e = .returned (.pointer (some ⟨b, 0, none⟩)) ∧ On B w0 b (masO (MasterS.new r)) w' :=
  (mas_new r w).mono fun _ _ ⟨b, he, hM, hb, hl⟩ => ⟨b, he, h.trans (hb.mono hs), Nat.le_trans hs hl, Nat.le_trans hs hb.size, hM⟩
theorem om_beat (h : On B w0 b (masO m) w) (r : Int) (h0 : 0 ≤ m.state) (h1 : m.state ≤ 2) : Calls Try.prog 26 #[.pointer (some ⟨b, 0, none⟩), .int .i64 r] w fun e w' => e = .returned (.tuple #[]) ∧ On B w0 b (masO (m.beat r)) w' :=
  (mas_beat h.blk r h0 h1).mono fun _ _ ⟨he, u⟩ => ⟨he, h.upd u⟩
theorem om_sent (h : On B w0 b (masO m) w) : Calls Try.prog 25 #[.pointer (some ⟨b, 0, none⟩)] w fun e w' => e = .returned (.tuple #[]) ∧ On B w0 b (masO m.sent) w' :=
  (mas_sent h.blk).mono fun _ _ ⟨he, u⟩ => ⟨he, h.upd u⟩
theorem om_watch (h : On B w0 b (masO m) w) : Calls Try.prog 29 #[.pointer (some ⟨b, 0, none⟩)] w fun e w' => e = .returned (.tuple #[]) ∧ On B w0 b (masO m.watch) w' :=
  (mas_watch h.blk).mono fun _ _ ⟨he, u⟩ => ⟨he, h.upd u⟩
theorem om_leads {v : Bool} (h : On B w0 b (masO m) w) (hv : m.leads = v) : Calls Try.prog 27 #[.pointer (some ⟨b, 0, none⟩)] w fun e w' => e = .returned (.bool v) ∧ On B w0 b (masO m) w' :=
  hv ▸ (mas_leads h.blk).mono fun _ _ ⟨he, n, hn⟩ => ⟨he, hn ▸ h.drewN n⟩

theorem om_stands (h : On B w0 b (masO m) w) : Calls Try.prog 30 #[.pointer (some ⟨b, 0, none⟩)] w fun e w' => e = .returned (.bool m.stands) ∧ w = w' := mas_stands h.blk
theorem om_state (h : On B w0 b (masO m) w) : Calls Try.prog 31 #[.pointer (some ⟨b, 0, none⟩)] w fun e w' => e = .returned (.int .i64 m.state) ∧ w = w' := mas_state h.blk
theorem om_leader (h : On B w0 b (masO m) w) : Calls Try.prog 28 #[.pointer (some ⟨b, 0, none⟩)] w fun e w' => e = .returned (.int .i64 m.leader) ∧ w = w' := mas_leader h.blk
end

def mk0 : MasterS := MasterS.new 0
def mk1 : MasterS := mk0.beat 2
def mk2 : MasterS := mk1.beat 2
def mk3 : MasterS := mk2.watch
theorem master_known (w : World) : Calls Try.prog 23 #[] w fun e w' => e = .returned (.bool true) ∧ Below w.heap.size w w' := by
  have k1 : mk0.leads = false := by decide
  have k2 : mk0.stands = true := by decide
  have k3 : mk0.leader = -1 := by decide
  have k4 : (MasterS.new (-1)).stands = false := by decide
  have k5 : mk1.state = 1 := by decide
  have k6 : mk2.leads = true := by decide
  have k7 : mk3.state = 0 := by decide
  have k8 : mk3.leader = -1 := by decide
  go_enter Try.func23, Try.ntmps23
  go_wp2_with fail
  refine (om_new (Below.refl _ w) (Nat.le_refl _) _).mono ?_
  rintro e w1 ⟨b, rfl, hO⟩
  replace hO : On w.heap.size w b (masO mk0) w1 := hO
  go_wp2_with fail
  refine (om_leads hO rfl).mono ?_
  rintro e w2 ⟨rfl, hO⟩
  go_wp2_with fail
  refine (om_stands hO).mono ?_
  rintro e w2 ⟨rfl, rfl⟩
  go_wp2_with fail
  refine (om_leader hO).mono ?_
  rintro e w2 ⟨rfl, rfl⟩
  go_wp2_with fail
  refine (mas_new _ _).mono ?_
  rintro e w2 ⟨b', rfl, hN, hb, hl⟩
  replace hO := hO.keep hb
  go_wp2_with fail
  refine (mas_stands hN).mono ?_
  rintro e w2 ⟨rfl, rfl⟩
  clear hN hb hl
  go_wp2_with fail
  refine (om_beat hO _ (by decide) (by decide)).mono ?_
  rintro e w3 ⟨rfl, hO⟩
  replace hO : On w.heap.size w b (masO mk1) w3 := hO
  go_wp2_with fail
  refine (om_state hO).mono ?_
  rintro e w4 ⟨rfl, rfl⟩
  go_wp2_with fail
  refine (om_beat hO _ (by decide) (by decide)).mono ?_
  rintro e w4 ⟨rfl, hO⟩
  replace hO : On w.heap.size w b (masO mk2) w4 := hO
  go_wp2_with fail
  refine (om_leads hO rfl).mono ?_
  rintro e w5 ⟨rfl, hO⟩
  go_wp2_with fail
  refine (om_watch hO).mono ?_
  rintro e w6 ⟨rfl, hO⟩
  replace hO : On w.heap.size w b (masO mk3) w6 := hO
  go_wp2_with (first | (go_at_call 31; refine (om_state hO).mono ?_; rintro e w4 ⟨rfl, rfl⟩) | (go_at_call 28; refine (om_leader hO).mono ?_; rintro e w4 ⟨rfl, rfl⟩))
  go_ret
  exact ⟨rfl, hO.bel⟩

theorem MasterStates_walk (a0 a1 a2 : Int) (w0 : (Lit.int .u8 a0).wf = true) (w1 : (Lit.int .u8 a1).wf = true) (w2 : (Lit.int .u8 a2).wf = true) (w : World) :
    Holds 7 #[.int .u8 a0, .int .u8 a1, .int .u8 a2] w := by
  have b0 := u8_bounds w0
  have b1 := u8_bounds w1
  have b2 := u8_bounds w2
  clear w0 w1 w2
  have P0 : 0 ≤ a0 % 4 := by omega
  have Q1 := Lib.hid (show MasterS.new (a0 % 4) = ⟨a0 % 4, 0, -1⟩ by simp [MasterS.new]; omega)
  have Q2 := Lib.hid (show (⟨a0 % 4, 0, -1⟩ : MasterS).beat (a1 % 4) = ⟨a0 % 4, 1, a1 % 4⟩ by simp [MasterS.beat]; try omega)
  have Q3 := Lib.hid (show (⟨a0 % 4, 1, a1 % 4⟩ : MasterS).beat (a2 % 4) = ⟨a0 % 4, 2, a2 % 4⟩ by simp [MasterS.beat]; try omega)
  have Q4 := Lib.hid (show (⟨a0 % 4, 2, a2 % 4⟩ : MasterS).watch = ⟨a0 % 4, 0, -1⟩ by simp [MasterS.watch])
  have Q5 := Lib.hid (show (⟨a0 % 4, 0, -1⟩ : MasterS).sent = ⟨a0 % 4, 2, a0 % 4⟩ by simp [MasterS.sent]; omega)
  have L1 := Lib.hid (show (⟨a0 % 4, 1, a1 % 4⟩ : MasterS).leads = false by simp [MasterS.leads])
  have L2 := Lib.hid (show (⟨a0 % 4, 2, a2 % 4⟩ : MasterS).leads = decide (a0 % 4 ≤ a2 % 4) by simp [MasterS.leads, P0])
  have L3 := Lib.hid (show (⟨a0 % 4, 2, a0 % 4⟩ : MasterS).leads = true by simp [MasterS.leads, P0])
  clear P0
  unfold Holds
  by_cases c : a0 % 4 ≤ a2 % 4
  all_goals
    go_enter Try.func7, Try.ntmps7
    go_wp2_with fail
    refine (master_known _).mono ?_
    rintro e w1 ⟨rfl, hb⟩
    go_wp2_with fail
    refine (om_new hb hb.size _).mono ?_
    rintro e w2 ⟨b, rfl, hO⟩
    rw [Q1.out] at hO
    clear hb
    go_wp2_with fail
    refine (om_state hO).mono ?_
    rintro e w3 ⟨rfl, rfl⟩
    go_wp2_with fail
    refine (om_beat hO _ (by simp) (by simp)).mono ?_
    rintro e w3 ⟨rfl, hO⟩
    rw [Q2.out] at hO
    go_wp2_with fail
    refine (om_state hO).mono ?_
    rintro e w4 ⟨rfl, rfl⟩
    go_wp2_with fail
    refine (om_leads hO L1.out).mono ?_
    rintro e w4 ⟨rfl, hO⟩
    go_wp2_with fail
    refine (om_beat hO _ (by simp) (by simp)).mono ?_
    rintro e w5 ⟨rfl, hO⟩
    rw [Q3.out] at hO
    go_wp2_with fail
    refine (om_state hO).mono ?_
    rintro e w6 ⟨rfl, rfl⟩
    go_wp2_with fail
    refine (om_leads hO L2.out).mono ?_
    rintro e w6 ⟨rfl, hO⟩
    go_wp2_with fail
    refine (om_watch hO).mono ?_
    rintro e w7 ⟨rfl, hO⟩
    rw [Q4.out] at hO
    go_wp2_with fail
    refine (om_state hO).mono ?_
    rintro e w8 ⟨rfl, rfl⟩
    go_wp2_with fail
    refine (om_sent hO).mono ?_
    rintro e w8 ⟨rfl, hO⟩
    rw [Q5.out] at hO
    go_wp2_with (first | (go_at_call 31; refine (om_state hO).mono ?_; rintro e w9 ⟨rfl, rfl⟩) | (go_at_call 27; refine (om_leads hO L3.out).mono ?_; rintro e w9 ⟨rfl, hO⟩) | (go_at_call 28; refine (om_leader hO).mono ?_; rintro e w9 ⟨rfl, rfl⟩))
    go_ret
    exact ⟨rfl, hO.bel⟩

/-- A master without a rank. -/
def NoRank (m : MasterS) : Prop := m.rank = -1 ∧ 0 ≤ m.state ∧ m.state ≤ 2
theorem NoRank.sent {m : MasterS} (h : NoRank m) : NoRank m.sent := by obtain ⟨h1, h2, h3⟩ := h; unfold MasterS.sent; rw [if_neg (by omega)]; exact ⟨h1, h2, h3⟩
theorem NoRank.watch {m : MasterS} (h : NoRank m) : NoRank m.watch := ⟨h.1, by simp [MasterS.watch], by simp [MasterS.watch]⟩
theorem NoRank.beat {m : MasterS} (h : NoRank m) (r : Int) : NoRank (m.beat r) := by obtain ⟨h1, h2, h3⟩ := h; exact ⟨h1, by simp [MasterS.beat]; omega, by simp [MasterS.beat]; omega⟩
theorem NoRank.leads {m : MasterS} (h : NoRank m) : m.leads = false := by simp [MasterS.leads, h.1]
theorem NoRank.stands {m : MasterS} (h : NoRank m) : m.stands = false := by simp [MasterS.stands, h.1]
theorem om_stands' {B b : Nat} {w0 w : World} {m : MasterS} {v : Bool} (h : On B w0 b (masO m) w) (hv : m.stands = v) : Calls Try.prog 30 #[.pointer (some ⟨b, 0, none⟩)] w fun e w' => e = .returned (.bool v) ∧ w = w' := hv ▸ mas_stands h.blk

theorem MasterNever_walk (a0 : Int) (x1 : Option Addr) (len1 cap1 : Nat) (z1 : List Int) (w0 : (Lit.int .i64 a0).wf = true) (w : World) (r1 : IsRow .u8 w x1 len1 cap1 z1) :
    Holds 6 #[.int .i64 a0, .slice x1 len1 cap1] w := by
  unfold Holds
  by_cases c0 : 0 ≤ a0
  · go_enter Try.func6, Try.ntmps6
    go_wp2_with (go_at_call 23; refine (master_known _).mono ?_; rintro e w1 ⟨rfl, hb⟩)
    go_ret
    exact ⟨rfl, ‹Below _ _ _›⟩
  by_cases c1 : 60 < len1
  · go_enter Try.func6, Try.ntmps6
    go_wp2_with (go_at_call 23; refine (master_known _).mono ?_; rintro e w1 ⟨rfl, hb⟩)
    go_ret
    exact ⟨rfl, ‹Below _ _ _›⟩
  have Q1 := Lib.hid (show MasterS.new a0 = ⟨-1, 0, -1⟩ by simp [MasterS.new]; omega)
  have R1 := Lib.hid r1
  clear r1
  go_enter Try.func6, Try.ntmps6
  go_wp2_with fail
  refine (master_known _).mono ?_
  rintro e w1 ⟨rfl, hb⟩
  go_wp2_with fail
  refine (om_new hb hb.size _).mono ?_
  rintro e w2 ⟨b, rfl, hO⟩
  rw [Q1.out] at hO
  clear hb
  go_wp2_with fail
  go_loopw [6] (fun i wr => ∃ (k : Nat) (m : MasterS), i = .int .i64 k ∧ k ≤ len1 ∧ NoRank m ∧ On w.heap.size w b (masO m) wr) (fun i _ => len1 - (intOf i).toNat)
  case atStart => exact ⟨0, ⟨-1, 0, -1⟩, rfl, by omega, ⟨rfl, by decide, by decide⟩, hO⟩
  case round =>
    obtain ⟨k, m, rfl, hk, hr, hO⟩ := hrel
    by_cases hlt : k < len1
    · obtain ⟨bb, off, rfl, hc, hwf, hbl⟩ := R1.out.at_ hlt
      have hc1 := hO.bel.cell (p := ⟨bb, off + k, none⟩) hbl
      rw [hc] at hc1
      clear hc
      obtain ⟨v, hv⟩ : ∃ v, v = z1.getD k 0 := ⟨_, rfl⟩
      rw [← hv] at hc1 hwf
      have hv8 := u8_bounds hwf
      clear hv hwf hbl
      go_wp2_with fail
      · refine (om_sent hO).mono ?_
        rintro e w3 ⟨rfl, hO⟩
        replace hr := hr.sent
        go_wp2_with (first | (go_at_call 27; refine (om_leads hO hr.leads).mono ?_; rintro e w4 ⟨rfl, hO⟩) | (go_at_call 30; refine (om_stands' hO hr.stands).mono ?_; rintro e w4 ⟨rfl, rfl⟩))
        go_roundw
        case rel => exact ⟨k + 1, m.sent, by go_num, by omega, hr, hO⟩
        case measure => simp [intOf]; omega
      · refine (om_watch hO).mono ?_
        rintro e w3 ⟨rfl, hO⟩
        replace hr := hr.watch
        go_wp2_with (first | (go_at_call 27; refine (om_leads hO hr.leads).mono ?_; rintro e w4 ⟨rfl, hO⟩) | (go_at_call 30; refine (om_stands' hO hr.stands).mono ?_; rintro e w4 ⟨rfl, rfl⟩))
        go_roundw
        case rel => exact ⟨k + 1, m.watch, by go_num, by omega, hr, hO⟩
        case measure => simp [intOf]; omega
      · refine (om_beat hO _ hr.2.1 hr.2.2).mono ?_
        rintro e w3 ⟨rfl, hO⟩
        replace hr := hr.beat (v / 4 % 4)
        go_wp2_with (first | (go_at_call 27; refine (om_leads hO hr.leads).mono ?_; rintro e w4 ⟨rfl, hO⟩) | (go_at_call 30; refine (om_stands' hO hr.stands).mono ?_; rintro e w4 ⟨rfl, rfl⟩))
        go_roundw
        case rel => exact ⟨k + 1, m.beat (v / 4 % 4), by go_num, by omega, hr, hO⟩
        case measure => simp [intOf]; omega
    · go_wp2
      go_ret
      exact ⟨rfl, hO.bel⟩

set_option maxRecDepth 100000 in
theorem MasterStates_lifted (os : Os) (started : os.Started) (H : Type) (enc : TypeId × Value → H) :
    ReturnsInHanded {} Try.checked os 7 .any (Rows.masterStatesSpec.pre6 enc Try.prog Try.f7 [] false) (Rows.masterStatesSpec.post enc Try.prog Try.f7 false true false false) := by
  refine law_lifted (n := 3) os started H enc (by kernel_rfl) Try.func7 rfl rfl (hts_of (by kernel_rfl)) rfl (fun ds h => match ds, h with | [_, _, _], _ => rfl)
    (ChangeSpec.witness6 (enc := enc) (C := Try.checked) false ⟨#[], #[.int .u8 0, .int .u8 0, .int .u8 0], []⟩ 8 (by kernel_rfl) (by kernel_rfl) (by kernel_rfl) (by kernel_rfl)) ?_
  intro W base args ds p hval hA
  rw [Try.params7] at hA hval
  obtain ⟨v0, vs0, d0, ds0, p0, q0, hargs, rfl, rfl, h0, r0⟩ := trodAll_cons hA
  obtain ⟨v1, vs1, d1, ds1, p1, q1, rfl, rfl, rfl, h1, r1⟩ := trodAll_cons r0
  obtain ⟨v2, vs2, d2, ds2, p2, q2, rfl, rfl, rfl, h2, r2⟩ := trodAll_cons r1
  obtain ⟨rfl, rfl, rfl⟩ := trodAll_nil r2
  obtain rfl : args = #[v0, v1, v2] := by cases args; simp_all
  obtain ⟨a0, rfl, rfl, rfl, w0⟩ := open_int Try.underlying5 (hval 0 _ v0 rfl rfl) h0
  obtain ⟨a1, rfl, rfl, rfl, w1⟩ := open_int Try.underlying5 (hval 1 _ v1 rfl rfl) h1
  obtain ⟨a2, rfl, rfl, rfl, w2⟩ := open_int Try.underlying5 (hval 2 _ v2 rfl rfl) h2
  exact MasterStates_walk a0 a1 a2 w0 w1 w2 W 

theorem MasterStates_over : Rows.masterStatesRow.holds Try.pinned (OpenSpec.ofChange Rows.masterStatesSpec) :=
  OpenClaim.holds_of_wide 7 Try.f7 rfl rfl rfl rfl rfl rfl rfl ⟨rfl, rfl, rfl, rfl, rfl⟩ rfl rfl rfl rfl rfl (by kernel_rfl) Try.func7 (by kernel_rfl)
    (of_decide_eq_true (by kernel_rfl)) (by unfold Func.isWrapper; first | (rw [if_pos (by decide +kernel)]; kernel_rfl) | (rw [if_neg (by decide +kernel)]; exact ⟨rfl, rfl⟩))
    (fun os started H enc _ => MasterStates_lifted os started H enc)
theorem MasterStates_holds : Rows.MasterStatesSaid := MasterStates_over
#print axioms MasterStates_holds

set_option maxRecDepth 100000 in
theorem MasterNever_lifted (os : Os) (started : os.Started) (H : Type) (enc : TypeId × Value → H) :
    ReturnsInHanded {} Try.checked os 6 .any (Rows.masterNeverSpec.pre6 enc Try.prog Try.f6 [] false) (Rows.masterNeverSpec.post enc Try.prog Try.f6 false true false false) := by
  refine law_lifted (n := 2) os started H enc (by kernel_rfl) Try.func6 rfl rfl (hts_of (by kernel_rfl)) rfl (fun ds h => match ds, h with | [_, _], _ => rfl)
    (ChangeSpec.witness6 (enc := enc) (C := Try.checked) false ⟨#[], #[.int .i64 0, .slice none 0 0], []⟩ 8 (by kernel_rfl) (by kernel_rfl) (by kernel_rfl) (by kernel_rfl)) ?_
  intro W base args ds p hval hA
  rw [Try.params6] at hA hval
  obtain ⟨v0, vs0, d0, ds0, p0, q0, hargs, rfl, rfl, h0, r0⟩ := trodAll_cons hA
  obtain ⟨v1, vs1, d1, ds1, p1, q1, rfl, rfl, rfl, h1, r1⟩ := trodAll_cons r0
  obtain ⟨rfl, rfl, rfl⟩ := trodAll_nil r1
  obtain rfl : args = #[v0, v1] := by cases args; simp_all
  obtain ⟨a0, rfl, rfl, rfl, w0⟩ := open_int Try.underlying3 (hval 0 _ v0 rfl rfl) h0
  obtain ⟨x1, len1, cap1, rfl⟩ := okWide_slice Try.underlying36 (hval 1 _ v1 rfl rfl)
  obtain ⟨z1, w1⟩ : ∃ zs, IsRow .u8 W x1 len1 cap1 zs := isRow_of Try.underlying36 Try.underlying5 (by kernel_rfl) h1
  exact MasterNever_walk a0 x1 len1 cap1 z1 w0 W w1

theorem MasterNever_over : Rows.masterNeverRow.holds Try.pinned (OpenSpec.ofChange Rows.masterNeverSpec) :=
  OpenClaim.holds_of_wide 6 Try.f6 rfl rfl rfl rfl rfl rfl rfl ⟨rfl, rfl, rfl, rfl, rfl⟩ rfl rfl rfl rfl rfl (by kernel_rfl) Try.func6 (by kernel_rfl)
    (of_decide_eq_true (by kernel_rfl)) (by unfold Func.isWrapper; first | (rw [if_pos (by decide +kernel)]; kernel_rfl) | (rw [if_neg (by decide +kernel)]; exact ⟨rfl, rfl⟩))
    (fun os started H enc _ => MasterNever_lifted os started H enc)
theorem MasterNever_holds : Rows.MasterNeverSaid := MasterNever_over
#print axioms MasterNever_holds
end Go.Proofs.Ytkciakbkiloknaa
