/- ClockPlays: every row of ticks and rates: the time, the part, the rate behind each: at every input. No conditions. -/
import Derived.Test.YtkciakbkiloknaaClockMore
import Derived.Test.YtkciakbkiloknaaRefClock
import Derived.Deep.RegionHeld3
namespace Go.Proofs.Ytkciakbkiloknaa
set_option linter.unusedVariables false
set_option linter.unusedSimpArgs false
open Go.ChangeShapes Go.WideShapes Go.ChangeAt Go.RowKit Go.Deep

theorem z_clock : (Try.prog.info? 84).map (·.size) = some 4 := by kernel_rfl
def clockKs : List FK := [.int .i64, .int .i64, .int .i64]

theorem cell_other {w : World} {b i j : Nat} (h : i ≠ j) (v : Value) : (w.setCell ⟨b, i, none⟩ v).cell? ⟨b, j, none⟩ = w.cell? ⟨b, j, none⟩ :=
  World.cell?_setCell_other w ⟨b, i, none⟩ ⟨b, j, none⟩ v (by simp; try omega)
/-- copy of one clock out of a slice that was just made, into an array that was just made. -/
theorem copy_four {P : Program} {dT sT E : TypeId} (hu : P.underlying dT = some (.slice E)) (hz : (P.info? E).map (·.size) = some 4)
    (w : World) (ty : TypeId) (g g' dc sc : Nat)
    (h0 : (w.cell? ⟨g, 0, none⟩).isSome = true)
    (h1 : (w.cell? ⟨g, 1, none⟩).isSome = true)
    (h2 : (w.cell? ⟨g, 2, none⟩).isSome = true)
    (h3 : (w.cell? ⟨g, 3, none⟩).isSome = true)
    (k0 : (w.cell? ⟨g', 0, none⟩).isSome = true)
    (k1 : (w.cell? ⟨g', 1, none⟩).isSome = true)
    (k2 : (w.cell? ⟨g', 2, none⟩).isSome = true)
    (k3 : (w.cell? ⟨g', 3, none⟩).isSome = true)
    (f0 : w.frozen? ⟨g, 0, none⟩ = false) (o0 : ((w.cell? ⟨g', 0, none⟩).getD undef).oneCell' = true)
    (f1 : w.frozen? ⟨g, 1, none⟩ = false) (o1 : ((w.cell? ⟨g', 1, none⟩).getD undef).oneCell' = true)
    (f2 : w.frozen? ⟨g, 2, none⟩ = false) (o2 : ((w.cell? ⟨g', 2, none⟩).getD undef).oneCell' = true)
    (f3 : w.frozen? ⟨g, 3, none⟩ = false) (o3 : ((w.cell? ⟨g', 3, none⟩).getD undef).oneCell' = true) :
    (Builtin.copy_ #[dT, sT] ty #[.slice (some ⟨g, 0, none⟩) 1 dc, .slice (some ⟨g', 0, none⟩) 1 sc]).run P w =
      .ok (goInt 1) ((((w.setCell ⟨g, 0, none⟩ ((w.cell? ⟨g', 0, none⟩).getD undef)).setCell ⟨g, 1, none⟩ ((w.cell? ⟨g', 1, none⟩).getD undef)).setCell ⟨g, 2, none⟩ ((w.cell? ⟨g', 2, none⟩).getD undef)).setCell ⟨g, 3, none⟩ ((w.cell? ⟨g', 3, none⟩).getD undef)) := by
  obtain ⟨u0, d0⟩ := Option.isSome_iff_exists.1 h0
  obtain ⟨v0, e0⟩ := Option.isSome_iff_exists.1 k0
  rw [e0] at o0
  obtain ⟨u1, d1⟩ := Option.isSome_iff_exists.1 h1
  obtain ⟨v1, e1⟩ := Option.isSome_iff_exists.1 k1
  rw [e1] at o1
  obtain ⟨u2, d2⟩ := Option.isSome_iff_exists.1 h2
  obtain ⟨v2, e2⟩ := Option.isSome_iff_exists.1 k2
  rw [e2] at o2
  obtain ⟨u3, d3⟩ := Option.isSome_iff_exists.1 h3
  obtain ⟨v3, e3⟩ := Option.isSome_iff_exists.1 k3
  rw [e3] at o3
  simp only [e0, e1, e2, e3, Option.getD_some] at o0 o1 o2 o3 ⊢
  have hl1 := run_loadCells_list (P := P) w ⟨g', 0, none⟩ [v0, v1, v2, v3] (fun j u hj => by
    rcases j with _ | _ | _ | _ | j
    · simp at hj; subst hj; simpa [Addr.add] using e0
    · simp at hj; subst hj; simpa [Addr.add] using e1
    · simp at hj; subst hj; simpa [Addr.add] using e2
    · simp at hj; subst hj; simpa [Addr.add] using e3
    · simp at hj)
  cases hq : P.info? E with
  | none => simp [hq] at hz
  | some i =>
    have hi : i.size = 4 := by simpa [hq] using hz
    have s0 := run_store P w ⟨g, 0, none⟩ v0 .plain o0
    simp [d0, f0] at s0
    have s1 := run_store P (w.setCell ⟨g, 0, none⟩ v0) ⟨g, 1, none⟩ v1 .plain o1
    simp [cell_other, d1, World.frozen?_setCell, f1] at s1
    have s2 := run_store P ((w.setCell ⟨g, 0, none⟩ v0).setCell ⟨g, 1, none⟩ v1) ⟨g, 2, none⟩ v2 .plain o2
    simp [cell_other, d2, World.frozen?_setCell, f2] at s2
    have s3 := run_store P (((w.setCell ⟨g, 0, none⟩ v0).setCell ⟨g, 1, none⟩ v1).setCell ⟨g, 2, none⟩ v2) ⟨g, 3, none⟩ v3 .plain o3
    simp [cell_other, d3, World.frozen?_setCell, f3] at s3
    have a0 : (⟨g, 0, none⟩ : Addr).add 0 = ⟨g, 0, none⟩ := by simp [Addr.add]
    have a1 : (⟨g, 0, none⟩ : Addr).add 1 = ⟨g, 1, none⟩ := by simp [Addr.add]
    have a2 : (⟨g, 0, none⟩ : Addr).add 2 = ⟨g, 2, none⟩ := by simp [Addr.add]
    have a3 : (⟨g, 0, none⟩ : Addr).add 3 = ⟨g, 3, none⟩ := by simp [Addr.add]
    simp at hl1
    simp [Builtin.copy_, run_underlying hu, Builtin.lenOf, Builtin.firstCells, sizeOf, typeInfo, hq, hi, hl1, storeCells, a0, a1, a2, a3, s0, s1, s2, s3]

theorem clo_copy {w : World} {b : Nat} {T : TypeId} {s : ClockS} (hM : w.heap[b]? = some (cloO T s)) :
    Calls Try.prog 54 #[.pointer (some ⟨b, 0, none⟩)] w fun e w' => ∃ b', e = .returned (.pointer (some ⟨b', 0, none⟩)) ∧ w'.heap[b']? = some (cloO 85 s) ∧ Below w.heap.size w w' ∧ w.heap.size ≤ b' := by
  have c0 := cell_of hM 0
  have c1 := cell_of hM 1
  have c2 := cell_of hM 2
  have c3 := cell_of hM 3
  have cf0 := free_of hM 0
  have cf1 := free_of hM 1
  have cf2 := free_of hM 2
  have cf3 := free_of hM 3
  have clt := lt_of_heap hM
  simp at c0 c1 c2 c3
  have hcp := @copy_four Try.prog 86 86 84 Try.underlying86 z_clock
  have hoc : ∀ k x, (Value.int k x).oneCell' = true := fun _ _ => rfl
  go_enter Try.func54, Try.ntmps54
  go_wp2
  go_region
  go_wp2
  go_ret
  exact ⟨_, rfl, (old_blk _ _ _ (by simp)).trans (new_blk _ _), (((Below.refl _ _).alloc (Nat.le_refl _) _).alloc (by simp) _).drew, Nat.le_refl _⟩

theorem clo_setRate' {w : World} {b : Nat} {T : TypeId} {s s' : ClockS} {t : Bool} (hM : w.heap[b]? = some (cloO T s)) (num d : Int) (hn : (Lit.int .i64 num).wf = true) (hs : s.Ok) (ht : s.takes num d = t) (hr : s.rate num d = s') :
    Calls Try.prog 44 #[.pointer (some ⟨b, 0, none⟩), .int .i64 num, .int .i64 d] w fun e w' => e = .returned (.bool t) ∧ Upd b (cloO T s') w w' := by
  subst ht; subst hr; exact clo_setRate hM num d hn hs
theorem rclo_setRate' {w : World} {b : Nat} {s s' : ClockS} {t : Bool} (hM : w.heap[b]? = some (rcloO s)) (num d : Int) (hn : (Lit.int .i64 num).wf = true) (hs : s.Ok) (ht : s.takes num d = t) (hr : s.rate num d = s') :
    Calls Try.prog 53 #[.pointer (some ⟨b, 0, none⟩), .int .i64 num, .int .i64 d] w fun e w' => e = .returned (.bool t) ∧ Upd b (rcloO s') w w' := by
  subst ht; subst hr; exact rclo_setRate hM num d hn hs

set_option maxRecDepth 100000 in
set_option maxHeartbeats 2000000 in
theorem ClockPlays_core (a0 : Int) (x1 : Option Addr) (len1 cap1 : Nat) (w0 : (Lit.int .i64 a0).wf = true) (w : World) (r1 : IsStructs clockKs w x1 len1 cap1) :
    Holds 15 #[.int .i64 a0, .slice x1 len1 cap1] w := by
  clear w0
  unfold Holds
  by_cases c1 : 200 < len1
  · go_enter Try.func15, Try.ntmps15
    go_wp2_with (go_at_call 38; refine (clock_known _).mono ?_; rintro e w1 ⟨rfl, hb⟩)
    go_ret
    exact ⟨rfl, ‹Below _ _ _›⟩
  have R0 := Lib.hid r1
  clear r1
  go_enter Try.func15, Try.ntmps15
  go_wp2_with fail
  refine (clock_known _).mono ?_
  rintro e w1 ⟨rfl, hb⟩
  go_wp2_with fail
  refine (own_add (Own.nil_ hb hb.size) (clo_new _ _)).mono ?_
  rintro e w2 ⟨bx, rfl, hO⟩
  clear hb
  go_wp2_with fail
  refine (own_add hO (rclo_new _ _)).mono ?_
  rintro e w3 ⟨br, rfl, hO⟩
  go_wp2_with fail
  go_loopw [7] (fun i wr => ∃ (k : Nat) (s : ClockS), i = .int .i64 k ∧ k ≤ len1 ∧ s.Ok ∧ Own w.heap.size w [(br, rcloO s), (bx, cloO 84 s)] wr) (fun i _ => len1 - (intOf i).toNat)
  case atStart => exact ⟨0, _, rfl, by omega, ClockS.Ok.new _, hO⟩
  case round =>
    clear hO
    obtain ⟨k, s, rfl, hk, hs, hO⟩ := hrel
    by_cases hlt : k < len1
    · obtain ⟨bb, off, rfl, hbl, hf⟩ := R0.out.2 k hlt
      obtain ⟨v0, hc0, kd, rfl, hw0⟩ := hf 0 (.int .i64) rfl
      obtain ⟨v1, hc1, nn, rfl, hw1⟩ := hf 1 (.int .i64) rfl
      obtain ⟨v2, hc2, dd, rfl, hw2⟩ := hf 2 (.int .i64) rfl
      simp only [clockKs, List.length_cons, List.length_nil, Nat.zero_add, Nat.reduceAdd, Nat.add_zero] at hc0 hc1 hc2
      clear hf
      have HS := Lib.hid hs
      obtain ⟨t, ht⟩ : ∃ t, s.takes nn dd = t := ⟨_, rfl⟩
      obtain ⟨s', hs'⟩ : ∃ t, s.rate nn dd = t := ⟨_, rfl⟩
      have HT := Lib.hid ht
      have HR := Lib.hid hs'
      have HK := Lib.hid (show s'.Ok from hs' ▸ hs.rate nn dd)
      clear hs ht hs'
      have C0 := hO.bel.cell (p := ⟨bb, off + (k * 3 + 0), none⟩) hbl
      have C1 := hO.bel.cell (p := ⟨bb, off + (k * 3 + 1), none⟩) hbl
      have C2 := hO.bel.cell (p := ⟨bb, off + (k * 3 + 2), none⟩) hbl
      simp only [Nat.add_zero] at C0
      rw [hc0] at C0
      rw [hc1] at C1
      rw [hc2] at C2
      simp only [← Nat.add_assoc] at C1 C2 hc1 hc2
      have HC1 := Lib.hid hc1
      have HC2 := Lib.hid hc2
      clear hc0 hc1 hc2
      have hnn : (Lit.int .i64 nn).wf = true := hw1
      go_wp2_with fail
      · have hO1 : Own w.heap.size w [(br, rcloO s), (bx, cloO 84 s)] wr.drew := hO.drewN 1
        clear hO
        go_region_held3 (fun w' => w'.cell? ⟨bb, off + k * 3 + 1, none⟩ = some (.int .i64 nn) ∧ w'.cell? ⟨bb, off + k * 3 + 2, none⟩ = some (.int .i64 dd))
          (first
            | exact ⟨(hO1.bel.cell (p := ⟨bb, off + k * 3 + 1, none⟩) hbl).trans HC1.out, (hO1.bel.cell (p := ⟨bb, off + k * 3 + 2, none⟩) hbl).trans HC2.out⟩
            | exact ⟨(hO2.bel.cell (p := ⟨bb, off + k * 3 + 1, none⟩) hbl).trans HC1.out, (hO2.bel.cell (p := ⟨bb, off + k * 3 + 2, none⟩) hbl).trans HC2.out⟩
            | exact ⟨(hO3.bel.cell (p := ⟨bb, off + k * 3 + 1, none⟩) hbl).trans HC1.out, (hO3.bel.cell (p := ⟨bb, off + k * 3 + 2, none⟩) hbl).trans HC2.out⟩)
          (first
            | (go_at_call 44; refine (own_upd1 hO1 (clo_setRate' hO1.get1 _ _ hnn HS.out HT.out HR.out)).mono ?_; rintro e w4 ⟨rfl, hO2⟩)
            | (go_at_call 53; refine (own_upd0 hO2 (rclo_setRate' hO2.get0 _ _ hnn HS.out HT.out HR.out)).mono ?_; rintro e w5 ⟨rfl, hO3⟩))
        clear hO1 hO2
        have hO := hO3
        clear hO3
        go_wp2_with fail
        refine (own_same hO (clo_rate hO.get1)).mono ?_
        rintro e wz ⟨rfl, hO⟩
        have S0 := cell_of hO.get0 0
        have S1 := cell_of hO.get0 1
        have S2 := cell_of hO.get0 2
        simp at S0 S1 S2
        go_wp2
        go_quiet ((first | (go_at_call 41; exact quiet_left (clo_time (w := World.drewN _ _) hO.get1)) | (go_at_call 42; exact quiet_left (clo_part (w := World.drewN _ _) hO.get1))))
        replace hO := hO.drewN nq
        go_wp2_with fail
        go_roundw
        case rel => exact ⟨k + 1, s', by go_num, by omega, HK.out, hO⟩
        case measure => simp [intOf]; omega
      · refine (own_add hO (clo_copy hO.get1)).mono ?_
        rintro e w6 ⟨bc, rfl, hO⟩
        have C1 := (hO.bel.cell (p := ⟨bb, off + k * 3 + 1, none⟩) hbl).trans HC1.out
        go_wp2_with fail
        refine (own_upd2 hO (clo_tick hO.get2 _ HS.out)).mono ?_
        rintro e w7 ⟨rfl, hO⟩
        have C1 := (hO.bel.cell (p := ⟨bb, off + k * 3 + 1, none⟩) hbl).trans HC1.out
        go_wp2_with fail
        refine (own_upd1 hO (rclo_tick hO.get1 _ HS.out)).mono ?_
        rintro e w8 ⟨rfl, hO⟩
        go_wp2_with fail
        refine (own_upd0 hO (clo_tick hO.get0 _ HS.out)).mono ?_
        rintro e w9 ⟨rfl, hO⟩
        replace hO := hO.drop
        clear HK HR HT s'
        obtain ⟨s', hs'⟩ : ∃ t, s.tick nn = t := ⟨_, rfl⟩
        have HK := Lib.hid (show s'.Ok from hs' ▸ HS.out.tick nn)
        rw [hs'] at hO
        clear hs'
        go_wp2_with fail
        refine (own_same hO (clo_rate hO.get1)).mono ?_
        rintro e wz ⟨rfl, hO⟩
        have S0 := cell_of hO.get0 0
        have S1 := cell_of hO.get0 1
        have S2 := cell_of hO.get0 2
        simp at S0 S1 S2
        go_wp2
        go_quiet ((first | (go_at_call 41; exact quiet_left (clo_time (w := World.drewN _ _) hO.get1)) | (go_at_call 42; exact quiet_left (clo_part (w := World.drewN _ _) hO.get1))))
        replace hO := hO.drewN nq
        go_wp2_with fail
        go_roundw
        case rel => exact ⟨k + 1, s', by go_num, by omega, HK.out, hO⟩
        case measure => simp [intOf]; omega
    · go_wp2
      go_ret
      exact ⟨rfl, hO.bel⟩

theorem isClockSteps_of {H : Type} {enc : TypeId × Value → H} {W : World} {base : Nat} {v : Value} {d : DataW H} {p : List MemPlace} (hv : Value.okWide Try.prog W .any base 64 v)
    (h : DataW.Trod enc Try.prog W 0 (fun _ => true) true 64 v d p) : ∃ a len cap, v = .slice a len cap ∧ IsStructs clockKs W a len cap := by
  obtain ⟨a, len, cap, rfl⟩ := okWide_slice Try.underlying64 hv
  refine ⟨a, len, cap, rfl, isStructs_of Try.underlying64 Try.underlying68 (by kernel_rfl) (by kernel_rfl) rfl (by decide) ?_ h⟩
  intro j κ f hj hf
  match j, hj, hf with
  | 0, hj, hf => cases hj; cases hf; exact Try.underlying3
  | 1, hj, hf => cases hj; cases hf; exact Try.underlying3
  | 2, hj, hf => cases hj; cases hf; exact Try.underlying3
  | n + 3, hj, hf => simp [clockKs] at hj

theorem ClockPlays_walk {H : Type} {enc : TypeId × Value → H} {base : Nat} {d1 : DataW H} {p1 : List MemPlace} (a0 : Int) (v1 : Value) (w0 : (Lit.int .i64 a0).wf = true) (W : World)
    (hv : Value.okWide Try.prog W .any base 64 v1) (h : DataW.Trod enc Try.prog W 0 (fun _ => true) true 64 v1 d1 p1) :
    Holds 15 #[.int .i64 a0, v1] W := by
  obtain ⟨a, len, cap, rfl, hs⟩ := isClockSteps_of hv h
  exact ClockPlays_core a0 a len cap w0 W hs

set_option maxRecDepth 100000 in
theorem ClockPlays_lifted (os : Os) (started : os.Started) (H : Type) (enc : TypeId × Value → H) :
    ReturnsInHanded {} Try.checked os 15 .any (Rows.clockPlaysSpec.pre6 enc Try.prog Try.f15 [] false) (Rows.clockPlaysSpec.post enc Try.prog Try.f15 false true false false) := by
  refine law_lifted (n := 2) os started H enc (by kernel_rfl) Try.func15 rfl rfl (hts_of (by kernel_rfl)) rfl (fun ds h => match ds, h with | [_, _], _ => rfl)
    (ChangeSpec.witness6 (enc := enc) (C := Try.checked) false ⟨#[], #[.int .i64 0, .slice none 0 0], []⟩ 8 (by kernel_rfl) (by kernel_rfl) (by kernel_rfl) (by kernel_rfl)) ?_
  intro W base args ds p hval hA
  rw [Try.params15] at hA hval
  obtain ⟨v0, vs0, d0, ds0, p0, q0, hargs, rfl, rfl, h0, r0⟩ := trodAll_cons hA
  obtain ⟨v1, vs1, d1, ds1, p1, q1, rfl, rfl, rfl, h1, r1⟩ := trodAll_cons r0
  obtain ⟨rfl, rfl, rfl⟩ := trodAll_nil r1
  obtain rfl : args = #[v0, v1] := by cases args; simp_all
  obtain ⟨a0, rfl, rfl, rfl, w0⟩ := open_int Try.underlying3 (hval 0 _ v0 rfl rfl) h0
  exact ClockPlays_walk a0 v1 w0 W (hval 1 _ v1 rfl rfl) h1

theorem ClockPlays_over : Rows.clockPlaysRow.holds Try.pinned (OpenSpec.ofChange Rows.clockPlaysSpec) :=
  OpenClaim.holds_of_wide 15 Try.f15 rfl rfl rfl rfl rfl rfl rfl ⟨rfl, rfl, rfl, rfl, rfl⟩ rfl rfl rfl rfl rfl (by kernel_rfl) Try.func15 (by kernel_rfl)
    (of_decide_eq_true (by kernel_rfl)) (by unfold Func.isWrapper; first | (rw [if_pos (by decide +kernel)]; kernel_rfl) | (rw [if_neg (by decide +kernel)]; exact ⟨rfl, rfl⟩))
    (fun os started H enc _ => ClockPlays_lifted os started H enc)
theorem ClockPlays_holds : Rows.ClockPlaysSaid := ClockPlays_over
#print axioms ClockPlays_holds
end Go.Proofs.Ytkciakbkiloknaa
