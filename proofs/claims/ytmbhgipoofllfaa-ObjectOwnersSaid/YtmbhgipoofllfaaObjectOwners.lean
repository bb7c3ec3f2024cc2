/- ObjectOwners: each message can be sent by its owner alone. No conditions. -/
import Derived.Test.YtmbhgipoofllfaaOwnRow
namespace Go.Proofs.Ytmbhgipoofllfaa
set_option linter.unusedVariables false
set_option linter.unusedSimpArgs false
open Go.ChangeShapes Go.WideShapes Go.ChangeAt Go.RowKit Go.Deep

set_option maxRecDepth 100000 in
set_option maxHeartbeats 4000000 in
theorem ObjectOwners_core (ls : List Int) (v0 : Value) (who : Int) (data : ByteArray) (w : World) (hl0 : RdL 1 byteC w v0 ls) (hlb : ∀ n ∈ ls, 0 ≤ n ∧ n ≤ 255) (hwho : 0 ≤ who ∧ who ≤ 255) : Holds 9 #[v0, .int .u8 who, .string data] w := by
  obtain ⟨a', cap', e1, r0⟩ := hl0.shape
  subst e1
  have l0 := r0.len.2
  unfold maxLen at l0
  have R0 := Lib.hid r0
  have LB := Lib.hid hlb
  have hmi := ownMsg_info
  obtain ⟨i0, hi0, hz0, hz1, hz2⟩ := info_parts hmi
  clear r0 hl0 hlb hmi
  unfold Holds
  go_enter Try.func9, Try.ntmps9
  go_wp2_with fail
  refine (known18 _).mono ?_
  rintro e w1 ⟨rfl, hB1⟩
  by_cases h12 : ls.length ≤ 12 ∧ data.size ≤ 8
  rotate_left
  · go_wp2
    all_goals first | (exfalso; omega) | (go_ret; exact ⟨rfl, hB1⟩)
  have HB1 := Lib.hid hB1
  clear hB1
  obtain ⟨h12, hd8⟩ := h12
  go_wp2_with fail
  all_goals try (exfalso; omega)
  go_loopw [8] (fun vi wr => ∃ (k : Nat) (sv : Value), vi = .int .i64 k ∧ k ≤ ls.length ∧ wr.heap[w1.heap.size]? = some (boxM zeroM (.slice none 0 0) sv (.slice none 0 0)) ∧ Below w1.heap.size w1 wr ∧ w1.heap.size + 1 ≤ wr.heap.size ∧ wr.ownsRow (w1.heap.size + 1) 69 3 sv k ((ownMsgs ls k).flatMap msgC)) (fun i _ => ls.length - (intOf i).toNat)
  case atStart => exact ⟨0, .slice none 0 0, rfl, by omega, new_blk _ _, (Below.refl _ _).alloc (Nat.le_refl _) _, by simp, World.ownsRow_nil _ _ _ _⟩
  case round =>
    obtain ⟨k, sv, rfl, hk, hb, hB, hsz, hown⟩ := hrel
    by_cases hlt : k < ls.length
    · have hlt' : (k : Int) < ls.length := by omega
      obtain ⟨n, b', off', hn, hmem', ea', hbb', hc'⟩ := R0.out.at_ k hlt
      have e0' := hc' 0 _ rfl
      simp only [Nat.mul_one, Nat.add_zero] at e0'
      have hnb := LB.out n hmem'
      have hBW := HB1.out.trans (hB.mono HB1.out.size)
      have hcell := (hBW.cell (p := ⟨b', off' + k, none⟩) hbb').trans e0'
      have hbl := Nat.lt_of_lt_of_le hbb' hBW.size
      have hk32 : (k : Int) % 4294967296 = k := by omega
      have hbox := cell_of hb 9
      simp [boxM] at hbox
      have hbl2 := lt_of_heap hb
      have hfar := ownsRow_far hown (Nat.lt_succ_self _)
      have HOW := Lib.hid hown
      have HMS := Lib.hid (ownMsgs_succ hn)
      have HBX := Lib.hid hb
      have HW1 := Lib.hid (show IntKind.u32.wrap k = k by rw [wu32]; omega)
      have HW2 := Lib.hid (show IntKind.i64.wrap (n.tmod 4) = n % 4 by
        rw [Int.tmod_eq_emod_of_nonneg hnb.1]
        simp [IntKind.wrap, IntKind.signed, IntKind.bits]
        omega)
      have HBB := Lib.hid hB
      subst ea'
      clear e0' hc' hown hmem' hn hB hBW hb
      go_wp2_with fail
      go_region_law ((refine step_append_lies _ (by rfl) _ _ _ (by rfl) (w1.heap.size + 1) 69 i0 _ 3 24 Try.underlying59 hi0 hz0 hz1 hz2 rfl (by omega) sv k _ (by rfl) ((HOW.out.alloc _).drew) ⟨_, 0, none⟩ 1 1 [.int .u32 (IntKind.u32.wrap k), .int .i64 (IntKind.i64.wrap (n.tmod 4)), .bool false] (by rfl) (by rfl) (World.news_of_block (cs := #[.int .u32 (IntKind.u32.wrap k), .int .i64 (IntKind.i64.wrap (n.tmod 4)), .bool false]) (t := 69) (fr := (0, 0)) (heap_alloc_new wr _)) (by simp [Value.oneCell']) (by omega) (by unfold maxLen; omega) (by omega) (by simp; omega) (wr.heap.size + 1) (by simp) ?_; intro g cap w3 hown1 hgrow hat hlt3; have hb3 := grown_below (base := w1.heap.size + 1) (by simp; omega) ((HOW.out.alloc _).drew) hgrow; have hb4 : w3.heap[w1.heap.size]? = some (boxM zeroM (.slice none 0 0) sv (.slice none 0 0)) := (hb3.block _ (by omega)).trans ((old_blk wr _ _ hbl2).trans HBX.out); have q1 := free_of hb4 9; have q2 := cell_of hb4 9; simp [boxM] at q2; have q3 := lt_of_heap hb4; have HB3 := Lib.hid hb3; have HB4 := Lib.hid hb4; have HO1 := Lib.hid hown1; clear hb3 hb4 hown1 hgrow hat))
      all_goals
        go_wp2_with fail
        have hu := Upd.setCell 9 (.slice (some ⟨g, 0, none⟩) (k + 1) cap) (Upd.refl HB4.out)
        have hu2 := hu.of_eq (show _ = boxM zeroM (.slice none 0 0) (.slice (some ⟨g, 0, none⟩) (k + 1) cap) (.slice none 0 0) by simp [boxM])
        have ho2 := HO1.out
        rw [HW1.out, HW2.out, ← HMS.out] at ho2
        have hB4 : Below w1.heap.size w1 w3 := ((HBB.out.alloc (by omega) _).drew).trans (HB3.out.mono (by omega))
        go_roundw
        case rel => exact ⟨k + 1, _, by go_num, by omega, hu2.blk, hu2.below hB4 (Nat.le_refl _) (by omega), by (have := hu2.size; omega), ownsRow_of ho2 (fun g2 hg hlt => hu2.other g2 hlt (by omega))⟩
        case measure => (simp [intOf]; try omega)
    · have hke : k = ls.length := by omega
      subst hke
      have hR : RdL 3 msgC wr sv (ownMsgs ls ls.length) := RdL_owns (fun _ => rfl) (by rw [ownMsgs_len]; exact hown)
      have RM := Lib.hid (show RdM wr (ownM ls) (.slice none 0 0) sv (.slice none 0 0) from ⟨ownM_ok h12 LB.out, rdL_nil, hR, rdL_nil⟩)
      obtain ⟨b0, b1, b2, b3, b4, b5, b6, b7, b8, b9, b10⟩ := boxM_c hb
      simp only [zeroM] at b0 b1 b2 b3 b4 b5 b6 b7
      have hbl2 := lt_of_heap hb
      have HA := Lib.hid (HB1.out.trans (hB.mono HB1.out.size))
      clear hR hb hB hown
      go_wp2_with fail
      refine (s_new RM.out ⟨by simp [ownM], by simp [ownM, ownMsgs_len]; omega, by simp [ownM]⟩ (who % 4)).mono ?_
      rintro e w3 ⟨d, w0, rfl, hB2, hm, hw, hS⟩
      have HBW := Lib.hid (HA.out.trans (hB2.mono HA.out.size))
      have HM := Lib.hid hm
      have HWW := Lib.hid hw
      clear hB2 hm hw b0 b1 b2 b3 b4 b5 b6 b7 b8 b9 b10 hbl2
      go_wp2_with fail
      go_loopw [10] (fun vi wr => ∃ (k n1 : Nat) (f : Int → Option ByteArray), vi = .int .i64 k ∧ k ≤ ls.length ∧ n1 ≤ k ∧ (∀ j : Nat, k ≤ j → f j = none) ∧ ObjS d [] w0 wr [] n1 f 0 (fun _ => none)) (fun i _ => ls.length - (intOf i).toNat)
      case atStart => exact ⟨0, 0, _, rfl, by omega, by omega, fun _ _ => rfl, hS⟩
      case round =>
        clear hS
        obtain ⟨k, n1, f, rfl, hk, hn1, hf, hS⟩ := hrel
        have HF := Lib.hid hf
        clear hf
        by_cases hlt : k < ls.length
        · have hlt' : (k : Int) < ls.length := by omega
          obtain ⟨n, b', off', hn, hmem', ea', hbb', hc'⟩ := R0.out.at_ k hlt
          have e0' := hc' 0 _ rfl
          simp only [Nat.mul_one, Nat.add_zero] at e0'
          have hnb := LB.out n hmem'
          have HC := Lib.hid (show ∀ w' : World, Below w.heap.size w w' → (w'.cell? ⟨b', off' + k, none⟩ = some (.int .u8 n) ∧ b' < w'.heap.size) from fun w' h => ⟨(h.cell (p := ⟨b', off' + k, none⟩) hbb').trans e0', Nat.lt_of_lt_of_le hbb' h.size⟩)
          have HW := Lib.hid (show ∀ (w' : World) (n1 : Nat) (f : Int → Option ByteArray), ObjS d [] w0 w' [] n1 f 0 (fun _ => none) → Below w.heap.size w w' from fun w' n1 f h => HBW.out.trans (h.bel.mono HBW.out.size))
          have HT := Lib.hid (show thereE d.m k = (⟨k, n % 4, false⟩, true) by rw [HM.out]; exact own_there hn)
          clear hn hmem' hc' e0'
          subst ea'
          by_cases hown : n % 4 = who % 4
          · have hobe : (n % 4 == who % 4) = true := by simp [hown]
            go_wp2_with fail
            refine (s_send_state hS k (i64_small (by omega)) data HT.out (by rw [HWW.out]; simp [hown]) hd8 rfl (by unfold maxLen; omega)).mono ?_
            rintro e w4 ⟨rfl, hS⟩
            go_wp2_with fail
            refine (s_stateZ hS k (i64_small (by omega)) (x := data) (z := true) (by simp [setF]) (by simp [setF])).mono ?_
            rintro e w5 ⟨rfl, hS⟩
            obtain ⟨x0, y0⟩ := HC.out _ (HW.out _ _ _ hS)
            go_wp2_with fail
            go_roundw
            case rel => exact ⟨k + 1, n1 + 1, _, by go_num, by omega, by omega, fun j hj => by (have := HF.out j (by omega); simp only [setF]; rw [if_neg (by omega)]; exact this), hS⟩
            case measure => (simp [intOf]; try omega)
          · have hobe : (n % 4 == who % 4) = false := by simp [hown]
            go_wp2_with fail
            refine (s_send_alien hS k (i64_small (by omega)) data HT.out (by rw [HWW.out]; simp [hown])).mono ?_
            rintro e w4 ⟨rfl, hS⟩
            go_wp2_with fail
            refine (s_stateZ hS k (i64_small (by omega)) (x := ⟨#[]⟩) (z := false) (by rw [HF.out k (Nat.le_refl _)]; rfl) (by rw [HF.out k (Nat.le_refl _)]; rfl)).mono ?_
            rintro e w5 ⟨rfl, hS⟩
            obtain ⟨x0, y0⟩ := HC.out _ (HW.out _ _ _ hS)
            go_wp2_with fail
            go_roundw
            case rel => exact ⟨k + 1, n1, _, by go_num, by omega, by omega, fun j hj => HF.out j (by omega), hS⟩
            case measure => (simp [intOf]; try omega)
        · go_wp2_with fail
          refine (s_send_none hS ls.length (i64_small (by omega)) data (by rw [HM.out]; exact own_off ls)).mono ?_
          rintro e w4 ⟨rfl, hS⟩
          go_wp2_with fail
          refine (s_send_none hS (-1) (by decide) data (by rw [HM.out]; exact own_neg ls)).mono ?_
          rintro e w5 ⟨rfl, hS⟩
          go_wp2_with fail
          refine (s_waiting hS).mono ?_
          rintro e w6 ⟨rfl, hS⟩
          go_wp2
          go_ret
          exact ⟨rfl, HBW.out.trans (hS.bel.mono HBW.out.size)⟩
theorem ObjectOwners_walk {H : Type} {enc : TypeId × Value → H} {base : Nat} {d0 : DataW H} {p0 : List MemPlace} (v0 : Value) (who : Int) (data : ByteArray) (hw : (Lit.int .u8 who).wf = true) (hd : data.size ≤ maxLen) (W : World)
    (hv0 : Value.okWide Try.prog W .any base 52 v0) (h0 : DataW.Trod enc Try.prog W 0 (fun _ => true) true 52 v0 d0 p0) :
    Holds 9 #[v0, .int .u8 who, .string data] W := by
  obtain ⟨a, len, cap, rfl⟩ := okWide_slice Try.underlying52 hv0
  obtain ⟨fuel, hf⟩ := h0
  obtain ⟨l, hr, hb⟩ := rdB_of (v := .slice a len cap) Try.underlying52 Try.underlying5 (by kernel_rfl) (by simpa [Value.cells] using hf)
  exact ObjectOwners_core l _ who data W hr hb (bounds_u8 hw)

set_option maxRecDepth 100000 in
theorem ObjectOwners_lifted (os : Os) (started : os.Started) (H : Type) (enc : TypeId × Value → H) :
    ReturnsInHanded {} Try.checked os 9 .any (Rows.objectOwnersSpec.pre6 enc Try.prog Try.f9 [] false) (Rows.objectOwnersSpec.post enc Try.prog Try.f9 false true false false) := by
  refine law_lifted (n := 3) os started H enc (by kernel_rfl) Try.func9 rfl rfl (hts_of (by kernel_rfl)) rfl (fun ds h => match ds, h with | [_, _, _], _ => rfl)
    (ChangeSpec.witness6 (enc := enc) (C := Try.checked) false ⟨#[], #[.slice none 0 0, .int .u8 0, .string ⟨#[]⟩], []⟩ 8 (by kernel_rfl) (by kernel_rfl) (by kernel_rfl) (by kernel_rfl)) ?_
  intro W base args ds p hval hA
  rw [Try.params9] at hA hval
  obtain ⟨v0, vs0, d0, ds0, p0, q0, hargs, rfl, rfl, h0, r0⟩ := trodAll_cons hA
  obtain ⟨v1, vs1, d1, ds1, p1, q1, rfl, rfl, rfl, h1, r1⟩ := trodAll_cons r0
  obtain ⟨v2, vs2, d2, ds2, p2, q2, rfl, rfl, rfl, h2, r2⟩ := trodAll_cons r1
  obtain ⟨rfl, rfl, rfl⟩ := trodAll_nil r2
  obtain rfl : args = #[v0, v1, v2] := by cases args; simp_all
  obtain ⟨a1, rfl, rfl, rfl, w1⟩ := open_int Try.underlying5 (hval 1 _ v1 rfl rfl) h1
  obtain ⟨a2, rfl, rfl, rfl, w2⟩ := Go.ChangeMaps.open_string Try.underlying9 (hval 2 _ v2 rfl rfl) h2
  exact ObjectOwners_walk v0 a1 a2 w1 w2 W (hval 0 _ v0 rfl rfl) h0

theorem ObjectOwners_over : Rows.objectOwnersRow.holds Try.pinned (OpenSpec.ofChange Rows.objectOwnersSpec) :=
  OpenClaim.holds_of_wide 9 Try.f9 rfl rfl rfl rfl rfl rfl rfl ⟨rfl, rfl, rfl, rfl, rfl⟩ rfl rfl rfl rfl rfl (by kernel_rfl) Try.func9 (by kernel_rfl)
    (of_decide_eq_true (by kernel_rfl)) (by unfold Func.isWrapper; first | (rw [if_pos (by decide +kernel)]; kernel_rfl) | (rw [if_neg (by decide +kernel)]; exact ⟨rfl, rfl⟩))
    (fun os started H enc _ => ObjectOwners_lifted os started H enc)
theorem ObjectOwners_holds : Rows.ObjectOwnersSaid := ObjectOwners_over
#print axioms ObjectOwners_holds
end Go.Proofs.Ytmbhgipoofllfaa
