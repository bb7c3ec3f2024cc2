/- GlobalPlays: every row of beats: the time, how steady, lengths, rates, behind each: at every input. No conditions. -/
import Derived.Test.YthlplemhpnnedaaGlobalLaws
import Derived.Test.YthlplemhpnnedaaRefGlobal
import Derived.IntWalk
namespace Go.Proofs.Ythlplemhpnnedaa
set_option linter.unusedVariables false
set_option linter.unusedSimpArgs false
open Go.ChangeShapes Go.WideShapes Go.ChangeAt Go.RowKit Go.Deep

def stepKs : List FK := [.bool, .int .i64, .int .u16, .int .u16, .bool]

set_option maxRecDepth 100000 in
set_option maxHeartbeats 1000000 in
theorem GlobalPlays_core (x0 : Option Addr) (len0 cap0 : Nat) (a1 a2 : Int) (w2 : (Lit.int .i64 a2).wf = true) (w : World) (r0 : IsStructs stepKs w x0 len0 cap0) :
    Holds 7 #[.slice x0 len0 cap0, .int .u16 a1, .int .i64 a2] w := by
  have W2 := Lib.hid w2
  clear w2
  unfold Holds
  by_cases c1 : 100 < len0
  · go_enter Try.func7, Try.ntmps7
    go_wp2_with (go_at_call 8; refine (global_known _).mono ?_; rintro e w1 ⟨rfl, hb⟩)
    go_ret
    exact ⟨rfl, ‹Below _ _ _›⟩
  have R0 := Lib.hid r0
  clear r0
  go_enter Try.func7, Try.ntmps7
  go_wp2_with fail
  refine (global_known _).mono ?_
  rintro e w1 ⟨rfl, hb⟩
  go_wp2_with fail
  refine (own_add (Own.nil_ hb hb.size) (glo_new _)).mono ?_
  rintro e w2 ⟨bx, rfl, hO⟩
  clear hb
  go_wp2_with fail
  replace hO := hO.alloc (rgloO RGlobS.new)
  go_loopw [8, 9] (fun vr i wr => ∃ (k : Nat) (br : Nat) (s : GlobalS) (r : RGlobS), i = .int .i64 k ∧ vr = .pointer (some ⟨br, 0, none⟩) ∧ k ≤ len0 ∧ Agree s r ∧ Own w.heap.size w [(br, rgloO r), (bx, gloO s)] wr) (fun _ i _ => len0 - (intOf i).toNat)
  case atStart => exact ⟨0, _, _, _, rfl, rfl, by omega, Agree.new, hO⟩
  case round =>
    clear hO
    obtain ⟨k, br, s, r, rfl, rfl, hk, hA, hO⟩ := hrel
    by_cases hlt : k < len0
    · obtain ⟨bb, off, rfl, hbl, hf⟩ := R0.out.2 k hlt
      obtain ⟨v0, hc0, fg, rfl⟩ := hf 0 .bool rfl
      obtain ⟨v1, hc1, who, rfl, hw1⟩ := hf 1 (.int .i64) rfl
      obtain ⟨v2, hc2, gg, rfl, hw2⟩ := hf 2 (.int .u16) rfl
      obtain ⟨v3, hc3, mm, rfl, hw3⟩ := hf 3 (.int .u16) rfl
      obtain ⟨v4, hc4, dd, rfl⟩ := hf 4 .bool rfl
      have C0 := hO.bel.cell (p := ⟨bb, off + (k * 5 + 0), none⟩) hbl
      have C1 := hO.bel.cell (p := ⟨bb, off + (k * 5 + 1), none⟩) hbl
      have C2 := hO.bel.cell (p := ⟨bb, off + (k * 5 + 2), none⟩) hbl
      have C3 := hO.bel.cell (p := ⟨bb, off + (k * 5 + 3), none⟩) hbl
      have C4 := hO.bel.cell (p := ⟨bb, off + (k * 5 + 4), none⟩) hbl
      simp only [stepKs, List.length_cons, List.length_nil, Nat.zero_add, Nat.reduceAdd, Nat.add_zero] at hc0 hc1 hc2 hc3 hc4 C0 C1 C2 C3 C4
      rw [hc0] at C0
      rw [hc1] at C1
      rw [hc2] at C2
      rw [hc3] at C3
      rw [hc4] at C4
      simp only [← Nat.add_assoc] at C1 C2 C3 C4
      clear hf hc0 hc1 hc2 hc3 hc4 hw1 hw2 hw3
      have HA := Lib.hid hA
      clear hA
      replace hO := hO.alloc (.cells #[.bool fg, .int .i64 who, .int .u16 gg, .int .u16 mm, .bool dd] 44)
      cases fg
      · go_wp2_with fail
        refine (own_upd2 hO (glo_beat hO.get2 _ _ _ _ HA.out.2.1)).mono ?_
        rintro e w4 ⟨rfl, hO⟩
        have D1 := cell_of hO.get0 1
        have D2 := cell_of hO.get0 2
        have D3 := cell_of hO.get0 3
        have D4 := cell_of hO.get0 4
        simp at D1 D2 D3 D4
        go_wp2_with fail
        refine (own_upd1 hO (rglo_beat hO.get1 _ _ _ _ (HA.out.1 ▸ HA.out.2.1))).mono ?_
        rintro e w5 ⟨rfl, hO⟩
        clear D1 D2 D3 D4
        replace hO := hO.drop
        replace HA := Lib.hid (HA.out.beat who gg mm dd)
        obtain ⟨s', hs'⟩ : ∃ s', s' = s.beat who gg mm dd := ⟨_, rfl⟩
        obtain ⟨r', hr'⟩ : ∃ r', r' = r.beat who gg mm dd := ⟨_, rfl⟩
        rw [← hs', ← hr'] at hO HA
        clear hs' hr'
        clear C0 C1 C2 C3 C4
        go_wp2_with fail
        refine (own_add hO (glo_copy hO.get1)).mono ?_
        rintro e w6 ⟨bc, rfl, hO⟩
        go_wp2_with fail
        refine (own_upd0 hO (glo_beat hO.get0 _ _ _ _ HA.out.2.1)).mono ?_
        rintro e w7 ⟨rfl, hO⟩
        replace hO := hO.drop
        go_wp2_with fail
        refine (own_quiet hO (glo_lengths hO.get1)).mono ?_
        rintro e w8 ⟨rfl, hO⟩
        go_wp2_with fail
        refine (own_quiet hO (rglo_lengths hO.get0 HA.out)).mono ?_
        rintro e w9 ⟨rfl, hO⟩
        go_wp2_with fail
        refine (own_quiet hO (glo_rate hO.get1 _ W2.out)).mono ?_
        rintro e w10 ⟨rfl, hO⟩
        go_wp2_with fail
        refine (own_quiet hO (rglo_rate hO.get0 HA.out _ W2.out)).mono ?_
        rintro e w11 ⟨rfl, hO⟩
        have S5 : w11.cell? ⟨br, 5, none⟩ = some (.int .i64 (s'.st)) := by
          have := cell_of hO.get0 5
          simpa [HA.out.1] using this
        go_wp2
        go_quiet ((first | (go_at_call 11; exact Calls.quiet_of (glo_at (w := World.drewN _ _) hO.get1 _)) | (go_at_call 20; exact Calls.quiet_of (rglo_at (w := World.drewN _ _) hO.get0 HA.out _)) | (go_at_call 12; exact quiet_left (glo_steady (w := World.drewN _ _) hO.get1))))
        replace hO := hO.drewN nq
        go_wp2_with fail
        go_roundw
        case rel => exact ⟨k + 1, br, _, _, by go_num, rfl, by omega, HA.out, hO⟩
        case measure => simp [intOf]; omega
      · go_wp2_with fail
        refine (own_upd2 hO (glo_forget hO.get2)).mono ?_
        rintro e w4 ⟨rfl, hO⟩
        go_wp2_with fail
        replace hO := ((hO.drop).drop).alloc (rgloO RGlobS.new)
        obtain ⟨br', hbr'⟩ : ∃ b', b' = w4.heap.size := ⟨_, rfl⟩
        obtain ⟨s', hs'⟩ : ∃ s', s' = GlobalS.new := ⟨_, rfl⟩
        replace HA := Lib.hid (show Agree s' RGlobS.new from hs' ▸ Agree.new)
        rw [← hs'] at hO
        clear hs' hbr' br'
        clear C0 C1 C2 C3 C4
        go_wp2_with fail
        refine (own_add hO (glo_copy hO.get1)).mono ?_
        rintro e w6 ⟨bc, rfl, hO⟩
        go_wp2_with fail
        refine (own_upd0 hO (glo_beat hO.get0 _ _ _ _ HA.out.2.1)).mono ?_
        rintro e w7 ⟨rfl, hO⟩
        replace hO := hO.drop
        go_wp2_with fail
        refine (own_quiet hO (glo_lengths hO.get1)).mono ?_
        rintro e w8 ⟨rfl, hO⟩
        go_wp2_with fail
        refine (own_quiet hO (rglo_lengths hO.get0 HA.out)).mono ?_
        rintro e w9 ⟨rfl, hO⟩
        go_wp2_with fail
        refine (own_quiet hO (glo_rate hO.get1 _ W2.out)).mono ?_
        rintro e w10 ⟨rfl, hO⟩
        go_wp2_with fail
        refine (own_quiet hO (rglo_rate hO.get0 HA.out _ W2.out)).mono ?_
        rintro e w11 ⟨rfl, hO⟩
        have S5 : w11.cell? ⟨w4.heap.size, 5, none⟩ = some (.int .i64 (s'.st)) := by
          have := cell_of hO.get0 5
          simpa [HA.out.1] using this
        go_wp2
        go_quiet ((first | (go_at_call 11; exact Calls.quiet_of (glo_at (w := World.drewN _ _) hO.get1 _)) | (go_at_call 20; exact Calls.quiet_of (rglo_at (w := World.drewN _ _) hO.get0 HA.out _)) | (go_at_call 12; exact quiet_left (glo_steady (w := World.drewN _ _) hO.get1))))
        replace hO := hO.drewN nq
        go_wp2_with fail
        go_roundw
        case rel => exact ⟨k + 1, _, _, _, by go_num, rfl, by omega, HA.out, hO⟩
        case measure => simp [intOf]; omega
    · go_wp2
      go_ret
      exact ⟨rfl, hO.bel⟩

theorem isSteps_of {H : Type} {enc : TypeId × Value → H} {W : World} {base : Nat} {v : Value} {d : DataW H} {p : List MemPlace} (hv : Value.okWide Try.prog W .any base 39 v)
    (h : DataW.Trod enc Try.prog W 0 (fun _ => true) true 39 v d p) : ∃ a len cap, v = .slice a len cap ∧ IsStructs stepKs W a len cap := by
  obtain ⟨a, len, cap, rfl⟩ := okWide_slice Try.underlying39 hv
  refine ⟨a, len, cap, rfl, isStructs_of Try.underlying39 Try.underlying44 (by kernel_rfl) (by kernel_rfl) rfl (by decide) ?_ h⟩
  intro j κ f hj hf
  match j, hj, hf with
  | 0, hj, hf => cases hj; cases hf; exact Try.underlying4
  | 1, hj, hf => cases hj; cases hf; exact Try.underlying3
  | 2, hj, hf => cases hj; cases hf; exact Try.underlying22
  | 3, hj, hf => cases hj; cases hf; exact Try.underlying22
  | 4, hj, hf => cases hj; cases hf; exact Try.underlying4
  | n + 5, hj, hf => simp [stepKs] at hj

theorem GlobalPlays_walk {H : Type} {enc : TypeId × Value → H} {base : Nat} {d0 : DataW H} {p0 : List MemPlace} (v0 : Value) (a1 a2 : Int) (w1 : (Lit.int .u16 a1).wf = true) (w2 : (Lit.int .i64 a2).wf = true) (W : World)
    (hv : Value.okWide Try.prog W .any base 39 v0) (h : DataW.Trod enc Try.prog W 0 (fun _ => true) true 39 v0 d0 p0) :
    Holds 7 #[v0, .int .u16 a1, .int .i64 a2] W := by
  obtain ⟨a, len, cap, rfl, hs⟩ := isSteps_of hv h
  exact GlobalPlays_core a len cap a1 a2 w2 W hs

set_option maxRecDepth 100000 in
theorem GlobalPlays_lifted (os : Os) (started : os.Started) (H : Type) (enc : TypeId × Value → H) :
    ReturnsInHanded {} Try.checked os 7 .any (Rows.globalPlaysSpec.pre6 enc Try.prog Try.f7 [] false) (Rows.globalPlaysSpec.post enc Try.prog Try.f7 false true false false) := by
  refine law_lifted (n := 3) os started H enc (by kernel_rfl) Try.func7 rfl rfl (hts_of (by kernel_rfl)) rfl (fun ds h => match ds, h with | [_, _, _], _ => rfl)
    (ChangeSpec.witness6 (enc := enc) (C := Try.checked) false ⟨#[], #[.slice none 0 0, .int .u16 0, .int .i64 0], []⟩ 8 (by kernel_rfl) (by kernel_rfl) (by kernel_rfl) (by kernel_rfl)) ?_
  intro W base args ds p hval hA
  rw [Try.params7] at hA hval
  obtain ⟨v0, vs0, d0, ds0, p0, q0, hargs, rfl, rfl, h0, r0⟩ := trodAll_cons hA
  obtain ⟨v1, vs1, d1, ds1, p1, q1, rfl, rfl, rfl, h1, r1⟩ := trodAll_cons r0
  obtain ⟨v2, vs2, d2, ds2, p2, q2, rfl, rfl, rfl, h2, r2⟩ := trodAll_cons r1
  obtain ⟨rfl, rfl, rfl⟩ := trodAll_nil r2
  obtain rfl : args = #[v0, v1, v2] := by cases args; simp_all
  obtain ⟨a1, rfl, rfl, rfl, w1⟩ := open_int Try.underlying22 (hval 1 _ v1 rfl rfl) h1
  obtain ⟨a2, rfl, rfl, rfl, w2⟩ := open_int Try.underlying3 (hval 2 _ v2 rfl rfl) h2
  exact GlobalPlays_walk v0 a1 a2 w1 w2 W (hval 0 _ v0 rfl rfl) h0

theorem GlobalPlays_over : Rows.globalPlaysRow.holds Try.pinned (OpenSpec.ofChange Rows.globalPlaysSpec) :=
  OpenClaim.holds_of_wide 7 Try.f7 rfl rfl rfl rfl rfl rfl rfl ⟨rfl, rfl, rfl, rfl, rfl⟩ rfl rfl rfl rfl rfl (by kernel_rfl) Try.func7 (by kernel_rfl)
    (of_decide_eq_true (by kernel_rfl)) (by unfold Func.isWrapper; first | (rw [if_pos (by decide +kernel)]; kernel_rfl) | (rw [if_neg (by decide +kernel)]; exact ⟨rfl, rfl⟩))
    (fun os started H enc _ => GlobalPlays_lifted os started H enc)
theorem GlobalPlays_holds : Rows.GlobalPlaysSaid := GlobalPlays_over
#print axioms GlobalPlays_holds
end Go.Proofs.Ythlplemhpnnedaa
