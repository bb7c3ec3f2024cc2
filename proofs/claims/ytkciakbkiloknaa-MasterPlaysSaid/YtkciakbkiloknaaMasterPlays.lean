/- MasterPlays: every row of beats come and sent, and watches: state, leader, whether it leads, stands, behind each: at every input. No conditions. -/
import Derived.Test.YtkciakbkiloknaaMasterLaws
import Derived.Test.YtkciakbkiloknaaRefMaster
import Derived.Test.YtkciakbkiloknaaOwn
namespace Go.Proofs.Ytkciakbkiloknaa
set_option linter.unusedVariables false
set_option linter.unusedSimpArgs false
open Go.ChangeShapes Go.WideShapes Go.ChangeAt Go.RowKit

theorem mas_copy' {w : World} {b : Nat} {m : MasterS} (hM : w.heap[b]? = some (masO m)) :
    Calls Try.prog 47 #[.pointer (some ⟨b, 0, none⟩)] w fun e w' => ∃ b', e = .returned (.pointer (some ⟨b', 0, none⟩)) ∧ w'.heap[b']? = some (masO m) ∧ Below w.heap.size w w' ∧ w.heap.size ≤ b' :=
  (mas_copy hM).mono fun _ _ ⟨b', hl, he, hk, hb⟩ => ⟨b', he, hk, hb, hl⟩
theorem mas_new' (r : Int) (w : World) : Calls Try.prog 24 #[.int .i64 r] w fun e w' => ∃ b, e = .returned (.pointer (some ⟨b, 0, none⟩)) ∧ w'.heap[b]? = some (masO (MasterS.new r)) ∧ Below w.heap.size w w' ∧ w.heap.size ≤ b := mas_new r w
theorem rmas_new' (r : Int) (w : World) : Calls Try.prog 46 #[.int .i64 r] w fun e w' => ∃ b, e = .returned (.pointer (some ⟨b, 0, none⟩)) ∧ w'.heap[b]? = some (rmasO (MasterS.new r)) ∧ Below w.heap.size w w' ∧ w.heap.size ≤ b := rmas_new r w
def StOk (m : MasterS) : Prop := 0 ≤ m.state ∧ m.state ≤ 2
theorem StOk.new (r : Int) : StOk (MasterS.new r) := by simp [StOk, MasterS.new]
theorem StOk.sent {m : MasterS} (h : StOk m) : StOk m.sent := by
  unfold MasterS.sent
  split
  · simp [StOk]
  · exact h
theorem StOk.watch {m : MasterS} : StOk m.watch := by simp [StOk, MasterS.watch]
theorem StOk.beat {m : MasterS} (h : StOk m) (r : Int) : StOk (m.beat r) := by unfold StOk MasterS.beat at *; simp only; omega

set_option maxRecDepth 100000 in
set_option maxHeartbeats 1000000 in
theorem MasterPlays_walk (a0 : Int) (x1 : Option Addr) (len1 cap1 : Nat) (z1 : List Int) (w0 : (Lit.int .i64 a0).wf = true) (w : World) (r1 : IsRow .u8 w x1 len1 cap1 z1) :
    Holds 14 #[.int .i64 a0, .slice x1 len1 cap1] w := by
  clear w0
  unfold Holds
  by_cases c1 : 80 < len1
  · go_enter Try.func14, Try.ntmps14
    go_wp2_with (go_at_call 23; refine (master_known _).mono ?_; rintro e w1 ⟨rfl, hb⟩)
    go_ret
    exact ⟨rfl, ‹Below _ _ _›⟩
  have R1 := Lib.hid r1
  clear r1
  go_enter Try.func14, Try.ntmps14
  go_wp2_with fail
  refine (master_known _).mono ?_
  rintro e w1 ⟨rfl, hb⟩
  go_wp2_with fail
  refine (own_add (Own.nil_ hb hb.size) (mas_new' _ _)).mono ?_
  rintro e w2 ⟨bx, rfl, hO⟩
  clear hb
  go_wp2_with fail
  refine (own_add hO (rmas_new' _ _)).mono ?_
  rintro e w3 ⟨br, rfl, hO⟩
  go_wp2_with fail
  go_loopw [7] (fun i wr => ∃ (k : Nat) (m : MasterS), i = .int .i64 k ∧ k ≤ len1 ∧ StOk m ∧ Own w.heap.size w [(br, rmasO m), (bx, masO m)] wr) (fun i _ => len1 - (intOf i).toNat)
  case atStart => exact ⟨0, _, rfl, by omega, StOk.new _, hO⟩
  case round =>
    clear hO
    obtain ⟨k, m, rfl, hk, hs, hO⟩ := hrel
    by_cases hlt : k < len1
    · obtain ⟨bb, off, rfl, hc, hwf, hbl⟩ := R1.out.at_ hlt
      obtain ⟨v, hv⟩ : ∃ v, v = z1.getD k 0 := ⟨_, rfl⟩
      rw [← hv] at hc hwf
      have HC := Lib.hid hc
      have hv8 := u8_bounds hwf
      clear hc hv hwf
      have HS := Lib.hid hs
      clear hs
      go_wp2_with fail
      refine (own_add hO (mas_copy' hO.get1)).mono ?_
      rintro e w4 ⟨bc, rfl, hO⟩
      have hc2 := hO.bel.cell (p := ⟨bb, off + k, none⟩) hbl
      rw [HC.out] at hc2
      go_wp2_with fail
      · refine (own_upd2 hO (mas_sent hO.get2)).mono ?_
        rintro e w5 ⟨rfl, hO⟩
        go_wp2_with fail
        refine (own_upd1 hO (rmas_sent hO.get1)).mono ?_
        rintro e w6 ⟨rfl, hO⟩
        obtain ⟨m', hm'⟩ : ∃ m', m' = m.sent := ⟨_, rfl⟩
        replace HS := Lib.hid (HS.out.sent)
        rw [← hm'] at HS hO
        clear hm'
        go_wp2_with fail
        refine (own_upd0 hO (mas_watch hO.get0)).mono ?_
        rintro e w7 ⟨rfl, hO⟩
        replace hO := hO.drop
        have S0 := cell_of hO.get0 0
        have S1 := cell_of hO.get0 1
        have S2 := cell_of hO.get0 2
        simp at S0 S1 S2
        have hst : m'.stands = decide (0 ≤ m'.rank) := rfl
        go_wp2
        go_quiet ((first | (go_at_call 31; exact quiet_left (mas_state (w := World.drewN _ _) hO.get1)) | (go_at_call 28; exact quiet_left (mas_leader (w := World.drewN _ _) hO.get1)) | (go_at_call 30; exact quiet_left (mas_stands (w := World.drewN _ _) hO.get1)) | (go_at_call 27; exact Calls.quiet_of (mas_leads (w := World.drewN _ _) hO.get1)) | (go_at_call 51; exact Calls.quiet_of (rmas_leads (w := World.drewN _ _) hO.get0))))
        replace hO := hO.drewN nq
        go_wp2_with fail
        go_roundw
        case rel => exact ⟨k + 1, m', by go_num, by omega, HS.out, hO⟩
        case measure => simp [intOf]; omega
      · refine (own_upd2 hO (mas_sent hO.get2)).mono ?_
        rintro e w5 ⟨rfl, hO⟩
        go_wp2_with fail
        refine (own_upd1 hO (rmas_sent hO.get1)).mono ?_
        rintro e w6 ⟨rfl, hO⟩
        obtain ⟨m', hm'⟩ : ∃ m', m' = m.sent := ⟨_, rfl⟩
        replace HS := Lib.hid (HS.out.sent)
        rw [← hm'] at HS hO
        clear hm'
        go_wp2_with fail
        refine (own_upd0 hO (mas_watch hO.get0)).mono ?_
        rintro e w7 ⟨rfl, hO⟩
        replace hO := hO.drop
        have S0 := cell_of hO.get0 0
        have S1 := cell_of hO.get0 1
        have S2 := cell_of hO.get0 2
        simp at S0 S1 S2
        have hst : m'.stands = decide (0 ≤ m'.rank) := rfl
        go_wp2
        go_quiet ((first | (go_at_call 31; exact quiet_left (mas_state (w := World.drewN _ _) hO.get1)) | (go_at_call 28; exact quiet_left (mas_leader (w := World.drewN _ _) hO.get1)) | (go_at_call 30; exact quiet_left (mas_stands (w := World.drewN _ _) hO.get1)) | (go_at_call 27; exact Calls.quiet_of (mas_leads (w := World.drewN _ _) hO.get1)) | (go_at_call 51; exact Calls.quiet_of (rmas_leads (w := World.drewN _ _) hO.get0))))
        replace hO := hO.drewN nq
        go_wp2_with fail
        go_roundw
        case rel => exact ⟨k + 1, m', by go_num, by omega, HS.out, hO⟩
        case measure => simp [intOf]; omega
      · refine (own_upd2 hO (mas_watch hO.get2)).mono ?_
        rintro e w5 ⟨rfl, hO⟩
        go_wp2_with fail
        refine (own_upd1 hO (rmas_watch hO.get1)).mono ?_
        rintro e w6 ⟨rfl, hO⟩
        obtain ⟨m', hm'⟩ : ∃ m', m' = m.watch := ⟨_, rfl⟩
        replace HS := Lib.hid (StOk.watch (m := m))
        rw [← hm'] at HS hO
        clear hm'
        go_wp2_with fail
        refine (own_upd0 hO (mas_watch hO.get0)).mono ?_
        rintro e w7 ⟨rfl, hO⟩
        replace hO := hO.drop
        have S0 := cell_of hO.get0 0
        have S1 := cell_of hO.get0 1
        have S2 := cell_of hO.get0 2
        simp at S0 S1 S2
        have hst : m'.stands = decide (0 ≤ m'.rank) := rfl
        go_wp2
        go_quiet ((first | (go_at_call 31; exact quiet_left (mas_state (w := World.drewN _ _) hO.get1)) | (go_at_call 28; exact quiet_left (mas_leader (w := World.drewN _ _) hO.get1)) | (go_at_call 30; exact quiet_left (mas_stands (w := World.drewN _ _) hO.get1)) | (go_at_call 27; exact Calls.quiet_of (mas_leads (w := World.drewN _ _) hO.get1)) | (go_at_call 51; exact Calls.quiet_of (rmas_leads (w := World.drewN _ _) hO.get0))))
        replace hO := hO.drewN nq
        go_wp2_with fail
        go_roundw
        case rel => exact ⟨k + 1, m', by go_num, by omega, HS.out, hO⟩
        case measure => simp [intOf]; omega
      · refine (own_upd2 hO (mas_beat hO.get2 _ HS.out.1 HS.out.2)).mono ?_
        rintro e w5 ⟨rfl, hO⟩
        have hc3 := hO.bel.cell (p := ⟨bb, off + k, none⟩) hbl
        rw [HC.out] at hc3
        go_wp2_with fail
        refine (own_upd1 hO (rmas_beat hO.get1 _ HS.out.1 HS.out.2)).mono ?_
        rintro e w6 ⟨rfl, hO⟩
        obtain ⟨m', hm'⟩ : ∃ m', m' = (m.beat (v / 8 % 5)) := ⟨_, rfl⟩
        replace HS := Lib.hid (HS.out.beat (v / 8 % 5))
        rw [← hm'] at HS hO
        clear hm'
        go_wp2_with fail
        refine (own_upd0 hO (mas_watch hO.get0)).mono ?_
        rintro e w7 ⟨rfl, hO⟩
        replace hO := hO.drop
        have S0 := cell_of hO.get0 0
        have S1 := cell_of hO.get0 1
        have S2 := cell_of hO.get0 2
        simp at S0 S1 S2
        have hst : m'.stands = decide (0 ≤ m'.rank) := rfl
        go_wp2
        go_quiet ((first | (go_at_call 31; exact quiet_left (mas_state (w := World.drewN _ _) hO.get1)) | (go_at_call 28; exact quiet_left (mas_leader (w := World.drewN _ _) hO.get1)) | (go_at_call 30; exact quiet_left (mas_stands (w := World.drewN _ _) hO.get1)) | (go_at_call 27; exact Calls.quiet_of (mas_leads (w := World.drewN _ _) hO.get1)) | (go_at_call 51; exact Calls.quiet_of (rmas_leads (w := World.drewN _ _) hO.get0))))
        replace hO := hO.drewN nq
        go_wp2_with fail
        go_roundw
        case rel => exact ⟨k + 1, m', by go_num, by omega, HS.out, hO⟩
        case measure => simp [intOf]; omega
    · go_wp2
      go_ret
      exact ⟨rfl, hO.bel⟩

set_option maxRecDepth 100000 in
theorem MasterPlays_lifted (os : Os) (started : os.Started) (H : Type) (enc : TypeId × Value → H) :
    ReturnsInHanded {} Try.checked os 14 .any (Rows.masterPlaysSpec.pre6 enc Try.prog Try.f14 [] false) (Rows.masterPlaysSpec.post enc Try.prog Try.f14 false true false false) := by
  refine law_lifted (n := 2) os started H enc (by kernel_rfl) Try.func14 rfl rfl (hts_of (by kernel_rfl)) rfl (fun ds h => match ds, h with | [_, _], _ => rfl)
    (ChangeSpec.witness6 (enc := enc) (C := Try.checked) false ⟨#[], #[.int .i64 0, .slice none 0 0], []⟩ 8 (by kernel_rfl) (by kernel_rfl) (by kernel_rfl) (by kernel_rfl)) ?_
  intro W base args ds p hval hA
  rw [Try.params14] at hA hval
  obtain ⟨v0, vs0, d0, ds0, p0, q0, hargs, rfl, rfl, h0, r0⟩ := trodAll_cons hA
  obtain ⟨v1, vs1, d1, ds1, p1, q1, rfl, rfl, rfl, h1, r1⟩ := trodAll_cons r0
  obtain ⟨rfl, rfl, rfl⟩ := trodAll_nil r1
  obtain rfl : args = #[v0, v1] := by cases args; simp_all
  obtain ⟨a0, rfl, rfl, rfl, w0⟩ := open_int Try.underlying3 (hval 0 _ v0 rfl rfl) h0
  obtain ⟨x1, len1, cap1, rfl⟩ := okWide_slice Try.underlying36 (hval 1 _ v1 rfl rfl)
  obtain ⟨z1, w1⟩ : ∃ zs, IsRow .u8 W x1 len1 cap1 zs := isRow_of Try.underlying36 Try.underlying5 (by kernel_rfl) h1
  exact MasterPlays_walk a0 x1 len1 cap1 z1 w0 W w1

theorem MasterPlays_over : Rows.masterPlaysRow.holds Try.pinned (OpenSpec.ofChange Rows.masterPlaysSpec) :=
  OpenClaim.holds_of_wide 14 Try.f14 rfl rfl rfl rfl rfl rfl rfl ⟨rfl, rfl, rfl, rfl, rfl⟩ rfl rfl rfl rfl rfl (by kernel_rfl) Try.func14 (by kernel_rfl)
    (of_decide_eq_true (by kernel_rfl)) (by unfold Func.isWrapper; first | (rw [if_pos (by decide +kernel)]; kernel_rfl) | (rw [if_neg (by decide +kernel)]; exact ⟨rfl, rfl⟩))
    (fun os started H enc _ => MasterPlays_lifted os started H enc)
theorem MasterPlays_holds : Rows.MasterPlaysSaid := MasterPlays_over
#print axioms MasterPlays_holds
end Go.Proofs.Ytkciakbkiloknaa
