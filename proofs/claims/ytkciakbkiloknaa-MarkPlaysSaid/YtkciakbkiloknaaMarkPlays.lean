/- MarkPlays: every row of starts, beats, and forgetting: the time within the cycle, its number, its beginning, behind each: at every input. No conditions. -/
import Derived.Test.YtkciakbkiloknaaMarkLaws
import Derived.Test.YtkciakbkiloknaaRefMark
import Derived.Test.YtkciakbkiloknaaOwn
namespace Go.Proofs.Ytkciakbkiloknaa
set_option linter.unusedVariables false
set_option linter.unusedSimpArgs false
open Go.ChangeShapes Go.WideShapes Go.ChangeAt Go.RowKit Go.Deep

theorem mark_new' (w : World) : Calls Try.prog 17 #[] w fun e w' => ∃ b, e = .returned (.pointer (some ⟨b, 0, none⟩)) ∧ w'.heap[b]? = some (markO MarkS.new) ∧ Below w.heap.size w w' ∧ w.heap.size ≤ b :=
  (mark_new w).mono fun _ _ ⟨he, hM, hb, _⟩ => ⟨_, he, hM, hb, Nat.le_refl _⟩
theorem mark_copy' {w : World} {b : Nat} {m : MarkS} (hM : w.heap[b]? = some (markO m)) :
    Calls Try.prog 32 #[.pointer (some ⟨b, 0, none⟩)] w fun e w' => ∃ b', e = .returned (.pointer (some ⟨b', 0, none⟩)) ∧ w'.heap[b']? = some (markO m) ∧ Below w.heap.size w w' ∧ w.heap.size ≤ b' :=
  (mark_copy hM).mono fun _ _ ⟨b', hl, he, hk, hb⟩ => ⟨b', he, hk, hb, hl⟩
def markKs : List FK := [.int .i64, .int .i64, .int .u16]

set_option maxRecDepth 100000 in
set_option maxHeartbeats 2000000 in
theorem MarkPlays_core (x0 : Option Addr) (len0 cap0 : Nat) (a1 : Int) (w : World) (r0 : IsStructs markKs w x0 len0 cap0) :
    Holds 8 #[.slice x0 len0 cap0, .int .u16 a1] w := by
  unfold Holds
  by_cases c1 : 100 < len0
  · go_enter Try.func8, Try.ntmps8
    go_wp2_with (go_at_call 16; refine (mark_known _).mono ?_; rintro e w1 ⟨rfl, hb⟩)
    go_ret
    exact ⟨rfl, ‹Below _ _ _›⟩
  have R0 := Lib.hid r0
  clear r0
  go_enter Try.func8, Try.ntmps8
  go_wp2_with fail
  refine (mark_known _).mono ?_
  rintro e w1 ⟨rfl, hb⟩
  go_wp2_with fail
  refine (own_add (Own.nil_ hb hb.size) (mark_new' _)).mono ?_
  rintro e w2 ⟨bx, rfl, hO⟩
  clear hb
  go_wp2_with fail
  replace hO := hO.alloc (rmarkO RMarkS.new)
  go_loopw [6, 7] (fun vr i wr => ∃ (k : Nat) (br : Nat) (s : MarkS) (r : RMarkS), i = .int .i64 k ∧ vr = .pointer (some ⟨br, 0, none⟩) ∧ k ≤ len0 ∧ MAgree s r ∧ Own w.heap.size w [(br, rmarkO r), (bx, markO s)] wr) (fun _ i _ => len0 - (intOf i).toNat)
  case atStart => exact ⟨0, _, _, _, rfl, rfl, by omega, MAgree.new, hO⟩
  case round =>
    clear hO
    obtain ⟨k, br, s, r, rfl, rfl, hk, hA, hO⟩ := hrel
    by_cases hlt : k < len0
    · obtain ⟨bb, off, rfl, hbl, hf⟩ := R0.out.2 k hlt
      obtain ⟨v0, hc0, what, rfl, hw0⟩ := hf 0 (.int .i64) rfl
      obtain ⟨v1, hc1, cyc, rfl, hw1⟩ := hf 1 (.int .i64) rfl
      obtain ⟨v2, hc2, tt, rfl, hw2⟩ := hf 2 (.int .u16) rfl
      simp only [markKs, List.length_cons, List.length_nil, Nat.zero_add, Nat.reduceAdd, Nat.add_zero] at hc0 hc1 hc2
      have HC0 := Lib.hid hc0
      have HC1 := Lib.hid hc1
      have HC2 := Lib.hid hc2
      clear hf hc0 hc1 hc2 hw0 hw1 hw2
      have HA := Lib.hid hA
      clear hA
      have C0 := hO.bel.cell (p := ⟨bb, off + k * 3, none⟩) hbl
      rw [HC0.out] at C0
      go_wp2_with fail
      refine (own_add hO (mark_copy' hO.get1)).mono ?_
      rintro e w4 ⟨bc, rfl, hO⟩
      clear C0
      have C0 := hO.bel.cell (p := ⟨bb, off + k * 3, none⟩) hbl
      rw [HC0.out] at C0
      have C1 := hO.bel.cell (p := ⟨bb, off + (k * 3 + 1), none⟩) hbl
      rw [HC1.out] at C1
      have C2 := hO.bel.cell (p := ⟨bb, off + (k * 3 + 2), none⟩) hbl
      rw [HC2.out] at C2
      simp only [← Nat.add_assoc] at C1 C2
      go_wp2_with fail
      · refine (own_upd2 hO (mark_start hO.get2 _)).mono ?_
        rintro e w5 ⟨rfl, hO⟩
        clear C0 C1 C2
        have C0 := hO.bel.cell (p := ⟨bb, off + k * 3, none⟩) hbl
        rw [HC0.out] at C0
        have C1 := hO.bel.cell (p := ⟨bb, off + (k * 3 + 1), none⟩) hbl
        rw [HC1.out] at C1
        have C2 := hO.bel.cell (p := ⟨bb, off + (k * 3 + 2), none⟩) hbl
        rw [HC2.out] at C2
        simp only [← Nat.add_assoc] at C1 C2
        go_wp2_with fail
        refine (own_upd1 hO (rmark_start hO.get1 _)).mono ?_
        rintro e w6 ⟨rfl, hO⟩
        replace HA := Lib.hid (HA.out.start tt)
        obtain ⟨s', hs'⟩ : ∃ s', s' = s.start tt := ⟨_, rfl⟩
        obtain ⟨r', hr'⟩ : ∃ r', r' = r.doStart tt := ⟨_, rfl⟩
        rw [← hs', ← hr'] at hO HA
        clear hs' hr'
        go_wp2_with fail
        refine (own_upd0 hO (mark_start hO.get0 _)).mono ?_
        rintro e w7 ⟨rfl, hO⟩
        go_wp2_with fail
        refine (own_upd0 hO (mark_beat hO.get0 _)).mono ?_
        rintro e w8 ⟨rfl, hO⟩
        replace hO := hO.drop
        clear C0 C1 C2
        go_wp2_with fail
        refine (own_same hO (mark_at hO.get1 _)).mono ?_
        rintro e w9 ⟨rfl, hO⟩
        go_wp2_with fail
        refine (own_same hO (rmark_at hO.get0 HA.out _)).mono ?_
        rintro e w10 ⟨rfl, hO⟩
        go_wp2_with fail
        refine (own_quiet hO (mark_last hO.get1)).mono ?_
        rintro e w11 ⟨rfl, hO⟩
        have S3 := cell_of hO.get0 3
        have S4 := cell_of hO.get0 4
        simp at S3 S4
        rw [HA.out.2.1] at S3
        cases hh : s'.hg
        · rw [hh] at S3
          have z : s'.c = 0 := (HA.out.2.2.2.2 hh).2
          have HH := Lib.hid hh
          clear hh
          have hh : s'.hg = false := HH.out
          go_wp2_with (first | (go_at_call 37; refine (own_same hO (rmark_last hO.get0 HA.out)).mono ?_; rintro e w12 ⟨rfl, hO⟩; have S3 := cell_of hO.get0 3; simp at S3; rw [HA.out.2.1, HH.out] at S3) | (go_at_call 21; refine (own_same hO (mark_cycle hO.get1)).mono ?_; rintro e w13 ⟨rfl, hO⟩))
          go_roundw
          case rel => exact ⟨k + 1, _, _, _, by go_num, rfl, by omega, HA.out, hO⟩
          case measure => simp [intOf]; omega
        · rw [hh] at S3
          rw [(HA.out.2.2.2.1 hh).2] at S4
          have HH := Lib.hid hh
          clear hh
          have hh : s'.hg = true := HH.out
          go_wp2_with (first | (go_at_call 37; refine (own_same hO (rmark_last hO.get0 HA.out)).mono ?_; rintro e w12 ⟨rfl, hO⟩; have S3 := cell_of hO.get0 3; simp at S3; rw [HA.out.2.1, HH.out] at S3) | (go_at_call 21; refine (own_same hO (mark_cycle hO.get1)).mono ?_; rintro e w13 ⟨rfl, hO⟩))
          go_roundw
          case rel => exact ⟨k + 1, _, _, _, by go_num, rfl, by omega, HA.out, hO⟩
          case measure => simp [intOf]; omega
      · refine (own_upd2 hO (mark_beat hO.get2 _)).mono ?_
        rintro e w5 ⟨rfl, hO⟩
        clear C0 C1 C2
        have C0 := hO.bel.cell (p := ⟨bb, off + k * 3, none⟩) hbl
        rw [HC0.out] at C0
        have C1 := hO.bel.cell (p := ⟨bb, off + (k * 3 + 1), none⟩) hbl
        rw [HC1.out] at C1
        have C2 := hO.bel.cell (p := ⟨bb, off + (k * 3 + 2), none⟩) hbl
        rw [HC2.out] at C2
        simp only [← Nat.add_assoc] at C1 C2
        go_wp2_with fail
        refine (own_upd1 hO (rmark_beat hO.get1 _)).mono ?_
        rintro e w6 ⟨rfl, hO⟩
        replace HA := Lib.hid (HA.out.beat cyc)
        obtain ⟨s', hs'⟩ : ∃ s', s' = s.beat cyc := ⟨_, rfl⟩
        obtain ⟨r', hr'⟩ : ∃ r', r' = r.doBeat cyc := ⟨_, rfl⟩
        rw [← hs', ← hr'] at hO HA
        clear hs' hr'
        go_wp2_with fail
        refine (own_upd0 hO (mark_start hO.get0 _)).mono ?_
        rintro e w7 ⟨rfl, hO⟩
        go_wp2_with fail
        refine (own_upd0 hO (mark_beat hO.get0 _)).mono ?_
        rintro e w8 ⟨rfl, hO⟩
        replace hO := hO.drop
        clear C0 C1 C2
        go_wp2_with fail
        refine (own_same hO (mark_at hO.get1 _)).mono ?_
        rintro e w9 ⟨rfl, hO⟩
        go_wp2_with fail
        refine (own_same hO (rmark_at hO.get0 HA.out _)).mono ?_
        rintro e w10 ⟨rfl, hO⟩
        go_wp2_with fail
        refine (own_quiet hO (mark_last hO.get1)).mono ?_
        rintro e w11 ⟨rfl, hO⟩
        have S3 := cell_of hO.get0 3
        have S4 := cell_of hO.get0 4
        simp at S3 S4
        rw [HA.out.2.1] at S3
        cases hh : s'.hg
        · rw [hh] at S3
          have z : s'.c = 0 := (HA.out.2.2.2.2 hh).2
          have HH := Lib.hid hh
          clear hh
          have hh : s'.hg = false := HH.out
          go_wp2_with (first | (go_at_call 37; refine (own_same hO (rmark_last hO.get0 HA.out)).mono ?_; rintro e w12 ⟨rfl, hO⟩; have S3 := cell_of hO.get0 3; simp at S3; rw [HA.out.2.1, HH.out] at S3) | (go_at_call 21; refine (own_same hO (mark_cycle hO.get1)).mono ?_; rintro e w13 ⟨rfl, hO⟩))
          go_roundw
          case rel => exact ⟨k + 1, _, _, _, by go_num, rfl, by omega, HA.out, hO⟩
          case measure => simp [intOf]; omega
        · rw [hh] at S3
          rw [(HA.out.2.2.2.1 hh).2] at S4
          have HH := Lib.hid hh
          clear hh
          have hh : s'.hg = true := HH.out
          go_wp2_with (first | (go_at_call 37; refine (own_same hO (rmark_last hO.get0 HA.out)).mono ?_; rintro e w12 ⟨rfl, hO⟩; have S3 := cell_of hO.get0 3; simp at S3; rw [HA.out.2.1, HH.out] at S3) | (go_at_call 21; refine (own_same hO (mark_cycle hO.get1)).mono ?_; rintro e w13 ⟨rfl, hO⟩))
          go_roundw
          case rel => exact ⟨k + 1, _, _, _, by go_num, rfl, by omega, HA.out, hO⟩
          case measure => simp [intOf]; omega
      · refine (own_upd2 hO (mark_forget hO.get2)).mono ?_
        rintro e w5 ⟨rfl, hO⟩
        go_wp2_with fail
        have hz : w5.heap.size = w5.heap.size := rfl
        clear hz
        replace hO := (hO.drop1.alloc (rmarkO RMarkS.new)).swap
        obtain ⟨s', hs'⟩ : ∃ s', s' = MarkS.new := ⟨_, rfl⟩
        replace HA := Lib.hid (show MAgree s' RMarkS.new from hs' ▸ MAgree.new)
        rw [← hs'] at hO
        clear hs'
        refine (own_upd0 hO (mark_start hO.get0 _)).mono ?_
        rintro e w7 ⟨rfl, hO⟩
        go_wp2_with fail
        refine (own_upd0 hO (mark_beat hO.get0 _)).mono ?_
        rintro e w8 ⟨rfl, hO⟩
        replace hO := hO.drop
        clear C0 C1 C2
        go_wp2_with fail
        refine (own_same hO (mark_at hO.get1 _)).mono ?_
        rintro e w9 ⟨rfl, hO⟩
        go_wp2_with fail
        refine (own_same hO (rmark_at hO.get0 HA.out _)).mono ?_
        rintro e w10 ⟨rfl, hO⟩
        go_wp2_with fail
        refine (own_quiet hO (mark_last hO.get1)).mono ?_
        rintro e w11 ⟨rfl, hO⟩
        have S3 := cell_of hO.get0 3
        have S4 := cell_of hO.get0 4
        simp at S3 S4
        rw [HA.out.2.1] at S3
        cases hh : s'.hg
        · rw [hh] at S3
          have z : s'.c = 0 := (HA.out.2.2.2.2 hh).2
          have HH := Lib.hid hh
          clear hh
          have hh : s'.hg = false := HH.out
          go_wp2_with (first | (go_at_call 37; refine (own_same hO (rmark_last hO.get0 HA.out)).mono ?_; rintro e w12 ⟨rfl, hO⟩; have S3 := cell_of hO.get0 3; simp at S3; rw [HA.out.2.1, HH.out] at S3) | (go_at_call 21; refine (own_same hO (mark_cycle hO.get1)).mono ?_; rintro e w13 ⟨rfl, hO⟩))
          go_roundw
          case rel => exact ⟨k + 1, _, _, _, by go_num, rfl, by omega, HA.out, hO⟩
          case measure => simp [intOf]; omega
        · rw [hh] at S3
          rw [(HA.out.2.2.2.1 hh).2] at S4
          have HH := Lib.hid hh
          clear hh
          have hh : s'.hg = true := HH.out
          go_wp2_with (first | (go_at_call 37; refine (own_same hO (rmark_last hO.get0 HA.out)).mono ?_; rintro e w12 ⟨rfl, hO⟩; have S3 := cell_of hO.get0 3; simp at S3; rw [HA.out.2.1, HH.out] at S3) | (go_at_call 21; refine (own_same hO (mark_cycle hO.get1)).mono ?_; rintro e w13 ⟨rfl, hO⟩))
          go_roundw
          case rel => exact ⟨k + 1, _, _, _, by go_num, rfl, by omega, HA.out, hO⟩
          case measure => simp [intOf]; omega
    · go_wp2
      go_ret
      exact ⟨rfl, hO.bel⟩

theorem isMarkSteps_of {H : Type} {enc : TypeId × Value → H} {W : World} {base : Nat} {v : Value} {d : DataW H} {p : List MemPlace} (hv : Value.okWide Try.prog W .any base 38 v)
    (h : DataW.Trod enc Try.prog W 0 (fun _ => true) true 38 v d p) : ∃ a len cap, v = .slice a len cap ∧ IsStructs markKs W a len cap := by
  obtain ⟨a, len, cap, rfl⟩ := okWide_slice Try.underlying38 hv
  refine ⟨a, len, cap, rfl, isStructs_of Try.underlying38 Try.underlying43 (by kernel_rfl) (by kernel_rfl) rfl (by decide) ?_ h⟩
  intro j κ f hj hf
  match j, hj, hf with
  | 0, hj, hf => cases hj; cases hf; exact Try.underlying3
  | 1, hj, hf => cases hj; cases hf; exact Try.underlying3
  | 2, hj, hf => cases hj; cases hf; exact Try.underlying22
  | n + 3, hj, hf => simp [markKs] at hj

theorem MarkPlays_walk {H : Type} {enc : TypeId × Value → H} {base : Nat} {d0 : DataW H} {p0 : List MemPlace} (v0 : Value) (a1 : Int) (w1 : (Lit.int .u16 a1).wf = true) (W : World)
    (hv : Value.okWide Try.prog W .any base 38 v0) (h : DataW.Trod enc Try.prog W 0 (fun _ => true) true 38 v0 d0 p0) :
    Holds 8 #[v0, .int .u16 a1] W := by
  obtain ⟨a, len, cap, rfl, hs⟩ := isMarkSteps_of hv h
  exact MarkPlays_core a len cap a1 W hs

set_option maxRecDepth 100000 in
theorem MarkPlays_lifted (os : Os) (started : os.Started) (H : Type) (enc : TypeId × Value → H) :
    ReturnsInHanded {} Try.checked os 8 .any (Rows.markPlaysSpec.pre6 enc Try.prog Try.f8 [] false) (Rows.markPlaysSpec.post enc Try.prog Try.f8 false true false false) := by
  refine law_lifted (n := 2) os started H enc (by kernel_rfl) Try.func8 rfl rfl (hts_of (by kernel_rfl)) rfl (fun ds h => match ds, h with | [_, _], _ => rfl)
    (ChangeSpec.witness6 (enc := enc) (C := Try.checked) false ⟨#[], #[.slice none 0 0, .int .u16 0], []⟩ 8 (by kernel_rfl) (by kernel_rfl) (by kernel_rfl) (by kernel_rfl)) ?_
  intro W base args ds p hval hA
  rw [Try.params8] at hA hval
  obtain ⟨v0, vs0, d0, ds0, p0, q0, hargs, rfl, rfl, h0, r0⟩ := trodAll_cons hA
  obtain ⟨v1, vs1, d1, ds1, p1, q1, rfl, rfl, rfl, h1, r1⟩ := trodAll_cons r0
  obtain ⟨rfl, rfl, rfl⟩ := trodAll_nil r1
  obtain rfl : args = #[v0, v1] := by cases args; simp_all
  obtain ⟨a1, rfl, rfl, rfl, w1⟩ := open_int Try.underlying22 (hval 1 _ v1 rfl rfl) h1
  exact MarkPlays_walk v0 a1 w1 W (hval 0 _ v0 rfl rfl) h0

theorem MarkPlays_over : Rows.markPlaysRow.holds Try.pinned (OpenSpec.ofChange Rows.markPlaysSpec) :=
  OpenClaim.holds_of_wide 8 Try.f8 rfl rfl rfl rfl rfl rfl rfl ⟨rfl, rfl, rfl, rfl, rfl⟩ rfl rfl rfl rfl rfl (by kernel_rfl) Try.func8 (by kernel_rfl)
    (of_decide_eq_true (by kernel_rfl)) (by unfold Func.isWrapper; first | (rw [if_pos (by decide +kernel)]; kernel_rfl) | (rw [if_neg (by decide +kernel)]; exact ⟨rfl, rfl⟩))
    (fun os started H enc _ => MarkPlays_lifted os started H enc)
theorem MarkPlays_holds : Rows.MarkPlaysSaid := MarkPlays_over
#print axioms MarkPlays_holds
end Go.Proofs.Ytkciakbkiloknaa
