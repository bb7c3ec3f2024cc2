/- config's reader: lists: the walk. -/
import Derived.Test.YthkhlcigegbpfaaLists
namespace Go.Proofs.Ythkhlcigegbpfaa
set_option linter.unusedVariables false
set_option linter.unusedSimpArgs false
open Go.ChangeShapes Go.WideShapes Go.ChangeAt Go.RowKit Go.Deep

theorem rdL_step {α : Type} {f : Rs → α × Rs} {n : Nat} {acc : List α} {x : Rs} (h : x.sh = false) : rdL f (n + 1) acc x = rdL f n (acc ++ [(f x).1]) (f x).2 := by
  rw [rdL, if_neg (by simp [h])]
theorem rdL_stop {α : Type} {f : Rs → α × Rs} {n : Nat} {acc : List α} {x : Rs} (h : x.sh = true) : rdL f n acc x = (acc, x) := rdL_sh n acc h
theorem rdLists_eq (m : Mat) (x : Rs) : rdLists m x = ({ m with masters := (rdK rd1 x).1, msgs := (rdK rdMsg (rdK rd1 x).2).1, wins := (rdK rdWin (rdK rdMsg (rdK rd1 x).2).2).1 }, (rdK rdWin (rdK rdMsg (rdK rd1 x).2).2).2) := rfl
def PostL (R : Rs → Obj) (B : Nat) (w0 : World) (br bm : Nat) (m : Mat) (x : Rs) (L : List (Nat × Obj)) (e : Ending) (w : World) : Prop :=
  e = .returned (.tuple #[]) ∧ ∃ m' x' v1 v2 v3 L1 L2 L3, Prs R B w0 br bm m' x' L v1 v2 v3 L1 L2 L3 w ∧ x'.sh = (rdLists m x).2.sh ∧ (x'.sh = false → m' = (rdLists m x).1)
theorem rd2_le {x : Rs} : (rd2 x).2.s.size ≤ x.s.size := Nat.le_trans rd1_le rd1_le
theorem rdMsg_eq (y : Rs) : rdMsg y = (⟨(rd2 y).1, (rd1 (rd2 y).2).1, (rd1 (rd1 (rd2 y).2).2).1 == 1⟩, (rd1 (rd1 (rd2 y).2).2).2) := rfl
theorem rdWin_eq (y : Rs) : rdWin y = (⟨(rd1 y).1, (rd2 (rd1 y).2).1, (rd2 (rd2 (rd1 y).2).2).1, (rd1 (rd2 (rd2 (rd1 y).2).2).2).1, (rd1 (rd1 (rd2 (rd2 (rd1 y).2).2).2).2).1, (rd1 (rd1 (rd1 (rd2 (rd2 (rd1 y).2).2).2).2).2).1⟩, (rd1 (rd1 (rd1 (rd2 (rd2 (rd1 y).2).2).2).2).2).2) := rfl
theorem prs_out {R : Rs → Obj} {B br bm : Nat} {w0 w : World} {m : Mat} {x : Rs} {L L1 L2 L3 : List (Nat × Obj)} {v1 v2 v3 : Value} {P : World → Prop} (h : Prs R B w0 br bm m x L v1 v2 v3 L1 L2 L3 w) (k : ∀ v, Prs R B w0 br bm m x L v1 v2 v3 L1 L2 L3 v → P v) : P w := k w h
set_option maxRecDepth 100000 in
set_option maxHeartbeats 4000000 in
theorem rn_lists {B br bm : Nat} {w0 w : World} {m : Mat} {x : Rs} {L : List (Nat × Obj)} (hm : m.masters = [] ∧ m.msgs = [] ∧ m.wins = []) (hs : x.s.size ≤ 1000)
    (h : Prs rnO B w0 br bm m x L (.slice none 0 0) (.slice none 0 0) (.slice none 0 0) [] [] [] w) :
    Calls Try.prog 82 #[.pointer (some ⟨br, 0, none⟩), .pointer (some ⟨bm, 0, none⟩)] w (PostL rnO B w0 br bm m x L) := by
  obtain ⟨i1, hi1, hj1, hk1, hl1⟩ := info_parts int_infoC
  obtain ⟨i2, hi2, hj2, hk2, hl2⟩ := info_parts msg_infoC
  obtain ⟨i3, hi3, hj3, hk3, hl3⟩ := info_parts win_infoC
  have HE := Lib.hid (rdLists_eq m x)
  obtain ⟨m1, m2, m3, m4, m5, m6, m7, m8, m9, m10, m11⟩ := m
  obtain ⟨rfl, rfl, rfl⟩ := hm
  have HP := Lib.hid h
  clear h
  go_enter Try.func82, Try.ntmps82
  go_wp2
  go_step3
  go_wp2
  go_step3
  go_wp2
  refine wp_loop_rounds 4 ?_
  rw [rounds_succ]
  have HC := Lib.hid (rn_one HP.out.own.get0 (by unfold maxLen; omega))
  have hbn := rd1_bd x
  have hle0 := rd1_le (x := x)
  obtain ⟨N0, hN⟩ := Int.eq_ofNat_of_zero_le hbn.1
  have HN0 := Lib.hid (show rdK rd1 x = rdL rd1 N0 [] (rd1 x).2 by unfold rdK; rw [hN]; rfl)
  have HNN := Lib.hid hN
  have hNl0 : N0 ≤ 255 := by omega
  clear hN
  obtain ⟨x0, hx⟩ : ∃ z, (rd1 x).2 = z := ⟨_, rfl⟩
  rw [hx] at hle0
  have HX := Lib.hid hx
  clear hx hbn
  go_wp2_with fail
  refine HC.out.mono ?_
  rw [HNN.out]
  rintro e wa0 ⟨rfl, hu⟩
  have hP := HP.out.read hu
  rw [HX.out] at hP
  replace HN0 := Lib.hid (HX.out ▸ HN0.out)
  have HP1 := Lib.hid hP
  clear hP hu HP HC HX HNN
  go_wp2_with fail
  go_loopw [5] (fun i wr => ∃ (n : Nat) (lst : List Int) (y : Rs) (v : Value) (L0 : List (Nat × Obj)), i = .int .i64 n ∧ n + lst.length ≤ 255 ∧ y.s.size ≤ 1000 ∧ Hid (rdL rd1 n lst y = rdL rd1 N0 [] x0) ∧ Hid (Prs rnO B w0 br bm ⟨m1, m2, m3, m4, m5, m6, m7, m8, lst, [], []⟩ y L v (.slice none 0 0) (.slice none 0 0) L0 [] [] wr)) (fun i _ => (intOf i).toNat)
  case atStart => exact ⟨N0, [], x0, _, _, rfl, by simp; omega, by omega, Lib.hid rfl, HP1⟩
  case round =>
    clear HP1
    obtain ⟨n0, acc, y0, v1, L1, rfl, hn, hys0, HR, HP⟩ := hrel
    rcases n0 with _ | n0
    · skip
      have HK0 := Lib.hid (show rdK rd1 x = (acc, y0) from HN0.out.trans HR.out.symm)
      clear HR hn HN0
      go_wp2_with fail
      rw [rounds_succ]
      have HC := Lib.hid (rn_one HP.out.own.get0 (by unfold maxLen; omega))
      have hbn := rd1_bd y0
      have hle0 := rd1_le (x := y0)
      obtain ⟨N1, hN⟩ := Int.eq_ofNat_of_zero_le hbn.1
      have HN1 := Lib.hid (show rdK rdMsg y0 = rdL rdMsg N1 [] (rd1 y0).2 by unfold rdK; rw [hN]; rfl)
      have HNN := Lib.hid hN
      have hNl1 : N1 ≤ 255 := by omega
      clear hN
      obtain ⟨x1, hx⟩ : ∃ z, (rd1 y0).2 = z := ⟨_, rfl⟩
      rw [hx] at hle0
      have HX := Lib.hid hx
      clear hx hbn
      go_wp2_with fail
      refine HC.out.mono ?_
      rw [HNN.out]
      rintro e wa1 ⟨rfl, hu⟩
      have hP := HP.out.read hu
      rw [HX.out] at hP
      replace HN1 := Lib.hid (HX.out ▸ HN1.out)
      have HP1 := Lib.hid hP
      clear hP hu HP HC HX HNN
      go_wp2_with fail
      go_loopw [5] (fun i wr => ∃ (n : Nat) (lst : List Msg) (y : Rs) (v : Value) (L0 : List (Nat × Obj)), i = .int .i64 n ∧ n + lst.length ≤ 255 ∧ y.s.size ≤ 1000 ∧ Hid (rdL rdMsg n lst y = rdL rdMsg N1 [] x1) ∧ Hid (Prs rnO B w0 br bm ⟨m1, m2, m3, m4, m5, m6, m7, m8, acc, lst, []⟩ y L v1 v (.slice none 0 0) L1 L0 [] wr)) (fun i _ => (intOf i).toNat)
      case atStart => exact ⟨N1, [], x1, _, _, rfl, by simp; omega, by omega, Lib.hid rfl, HP1⟩
      case round =>
        clear HP1
        obtain ⟨n1, accm, y1, v2, L2, rfl, hn, hys1, HR, HP⟩ := hrel
        rcases n1 with _ | n1
        · skip
          have HK1 := Lib.hid (show rdK rdMsg y0 = (accm, y1) from HN1.out.trans HR.out.symm)
          clear HR hn HN1
          go_wp2_with fail
          rw [rounds_succ]
          have HC := Lib.hid (rn_one HP.out.own.get0 (by unfold maxLen; omega))
          have hbn := rd1_bd y1
          have hle0 := rd1_le (x := y1)
          obtain ⟨N2, hN⟩ := Int.eq_ofNat_of_zero_le hbn.1
          have HN2 := Lib.hid (show rdK rdWin y1 = rdL rdWin N2 [] (rd1 y1).2 by unfold rdK; rw [hN]; rfl)
          have HNN := Lib.hid hN
          have hNl2 : N2 ≤ 255 := by omega
          clear hN
          obtain ⟨x2, hx⟩ : ∃ z, (rd1 y1).2 = z := ⟨_, rfl⟩
          rw [hx] at hle0
          have HX := Lib.hid hx
          clear hx hbn
          go_wp2_with fail
          refine HC.out.mono ?_
          rw [HNN.out]
          rintro e wa2 ⟨rfl, hu⟩
          have hP := HP.out.read hu
          rw [HX.out] at hP
          replace HN2 := Lib.hid (HX.out ▸ HN2.out)
          have HP1 := Lib.hid hP
          clear hP hu HP HC HX HNN
          go_wp2_with fail
          go_loopw [5] (fun i wr => ∃ (n : Nat) (lst : List Win) (y : Rs) (v : Value) (L0 : List (Nat × Obj)), i = .int .i64 n ∧ n + lst.length ≤ 255 ∧ y.s.size ≤ 1000 ∧ Hid (rdL rdWin n lst y = rdL rdWin N2 [] x2) ∧ Hid (Prs rnO B w0 br bm ⟨m1, m2, m3, m4, m5, m6, m7, m8, acc, accm, lst⟩ y L v1 v2 v L1 L2 L0 wr)) (fun i _ => (intOf i).toNat)
          case atStart => exact ⟨N2, [], x2, _, _, rfl, by simp; omega, by omega, Lib.hid rfl, HP1⟩
          case round =>
            clear HP1
            obtain ⟨n2, accw, y2, v3, L3, rfl, hn, hys2, HR, HP⟩ := hrel
            rcases n2 with _ | n2
            · skip
              have HK2 := Lib.hid (show rdK rdWin y1 = (accw, y2) from HN2.out.trans HR.out.symm)
              clear HR hn HN2
              go_wp2_with fail
              rw [rounds_succ]
              go_wp2
              try rw [Exit.noGoto_ret]
              go_end0
              refine ⟨rfl, _, _, _, _, _, _, _, _, HP.out, ?_, ?_⟩
              · rw [HE.out, HK0.out, HK1.out, HK2.out]
              · intro _
                rw [HE.out, HK0.out, HK1.out, HK2.out]
            · skip
              obtain ⟨z, hz⟩ : ∃ z, y2.sh = z := ⟨_, rfl⟩
              have c1 := (cell_of HP.out.own.get0 1).trans (show _ = some (Value.bool y2.sh) from rfl)
              rw [hz] at c1
              have HZ := Lib.hid hz
              clear hz
              have hbl := lt_of_heap HP.out.own.get0
              cases z
              · skip
                have HS := Lib.hid (show rdL rdWin n2 (accw ++ [(rdWin y2).1]) (rdWin y2).2 = rdL rdWin N2 [] x2 from (rdL_step HZ.out).symm.trans HR.out)
                clear HR
                rw [rdWin_eq] at HS
                have hb0 := rd1_bd y2
                have hle0 := rd1_le (x := y2)
                obtain ⟨a0, ha0⟩ : ∃ z, (rd1 y2).1 = z := ⟨_, rfl⟩
                obtain ⟨s0, hs0⟩ : ∃ z, (rd1 y2).2 = z := ⟨_, rfl⟩
                rw [ha0] at hb0
                rw [hs0] at hle0
                rw [ha0, hs0] at HS
                have HV0 := Lib.hid (And.intro ha0 hs0)
                clear ha0 hs0
                have hb1 := rd2_bd s0
                have hle1 := rd2_le (x := s0)
                obtain ⟨a1, ha1⟩ : ∃ z, (rd2 s0).1 = z := ⟨_, rfl⟩
                obtain ⟨s1, hs1⟩ : ∃ z, (rd2 s0).2 = z := ⟨_, rfl⟩
                rw [ha1] at hb1
                rw [hs1] at hle1
                rw [ha1, hs1] at HS
                have HV1 := Lib.hid (And.intro ha1 hs1)
                clear ha1 hs1
                have hb2 := rd2_bd s1
                have hle2 := rd2_le (x := s1)
                obtain ⟨a2, ha2⟩ : ∃ z, (rd2 s1).1 = z := ⟨_, rfl⟩
                obtain ⟨s2, hs2⟩ : ∃ z, (rd2 s1).2 = z := ⟨_, rfl⟩
                rw [ha2] at hb2
                rw [hs2] at hle2
                rw [ha2, hs2] at HS
                have HV2 := Lib.hid (And.intro ha2 hs2)
                clear ha2 hs2
                have hb3 := rd1_bd s2
                have hle3 := rd1_le (x := s2)
                obtain ⟨a3, ha3⟩ : ∃ z, (rd1 s2).1 = z := ⟨_, rfl⟩
                obtain ⟨s3, hs3⟩ : ∃ z, (rd1 s2).2 = z := ⟨_, rfl⟩
                rw [ha3] at hb3
                rw [hs3] at hle3
                rw [ha3, hs3] at HS
                have HV3 := Lib.hid (And.intro ha3 hs3)
                clear ha3 hs3
                have hb4 := rd1_bd s3
                have hle4 := rd1_le (x := s3)
                obtain ⟨a4, ha4⟩ : ∃ z, (rd1 s3).1 = z := ⟨_, rfl⟩
                obtain ⟨s4, hs4⟩ : ∃ z, (rd1 s3).2 = z := ⟨_, rfl⟩
                rw [ha4] at hb4
                rw [hs4] at hle4
                rw [ha4, hs4] at HS
                have HV4 := Lib.hid (And.intro ha4 hs4)
                clear ha4 hs4
                have hb5 := rd1_bd s4
                have hle5 := rd1_le (x := s4)
                obtain ⟨a5, ha5⟩ : ∃ z, (rd1 s4).1 = z := ⟨_, rfl⟩
                obtain ⟨s5, hs5⟩ : ∃ z, (rd1 s4).2 = z := ⟨_, rfl⟩
                rw [ha5] at hb5
                rw [hs5] at hle5
                rw [ha5, hs5] at HS
                have HV5 := Lib.hid (And.intro ha5 hs5)
                clear ha5 hs5
                have HA := Lib.hid (HP.out.alloc (.cells #[.int .i64 0, .int .i64 0, .int .i64 0, .int .i64 0, .int .i64 0, .int .i64 0] 56))
                go_wp2_with fail
                refine (rn_one HA.out.own.get0 (by unfold maxLen; omega)).mono ?_
                rw [HV0.out.1, HV0.out.2]
                rintro e u0 ⟨rfl, hu⟩
                have hQ := HA.out.read hu
                have hbx := hQ.get (z := (wr.heap.size, .cells #[.int .i64 0, .int .i64 0, .int .i64 0, .int .i64 0, .int .i64 0, .int .i64 0] 56)) (by simp)
                clear c1 hbl
                have q0 := (cell_of hbx 0).trans (show _ = some (Value.int .i64 0) from rfl)
                have q1 := free_of hbx 0
                have q2 := lt_of_heap hbx
                have HW0 := Lib.hid (hQ.box0 (z := (wr.heap.size, _)) ((Upd.setCell 0 (.int .i64 a0) (Upd.refl hbx)).of_eq (show _ = .cells #[.int .i64 a0, .int .i64 0, .int .i64 0, .int .i64 0, .int .i64 0, .int .i64 0] 56 (0, 0) by simp)))
                clear hQ hbx hu
                go_wp2_with fail
                refine (rn_two HW0.out.own.get0 (by unfold maxLen; omega)).mono ?_
                rw [HV1.out.1, HV1.out.2]
                rintro e u1 ⟨rfl, hu⟩
                have hQ := HW0.out.read hu
                have hbx := hQ.get (z := (wr.heap.size, .cells #[.int .i64 a0, .int .i64 0, .int .i64 0, .int .i64 0, .int .i64 0, .int .i64 0] 56)) (by simp)
                clear q0 q1 q2
                have q0 := (cell_of hbx 1).trans (show _ = some (Value.int .i64 0) from rfl)
                have q1 := free_of hbx 1
                have q2 := lt_of_heap hbx
                have HW1 := Lib.hid (hQ.box0 (z := (wr.heap.size, _)) ((Upd.setCell 1 (.int .i64 a1) (Upd.refl hbx)).of_eq (show _ = .cells #[.int .i64 a0, .int .i64 a1, .int .i64 0, .int .i64 0, .int .i64 0, .int .i64 0] 56 (0, 0) by simp)))
                clear hQ hbx hu
                go_wp2_with fail
                refine (rn_two HW1.out.own.get0 (by unfold maxLen; omega)).mono ?_
                rw [HV2.out.1, HV2.out.2]
                rintro e u2 ⟨rfl, hu⟩
                have hQ := HW1.out.read hu
                have hbx := hQ.get (z := (wr.heap.size, .cells #[.int .i64 a0, .int .i64 a1, .int .i64 0, .int .i64 0, .int .i64 0, .int .i64 0] 56)) (by simp)
                clear q0 q1 q2
                have q0 := (cell_of hbx 2).trans (show _ = some (Value.int .i64 0) from rfl)
                have q1 := free_of hbx 2
                have q2 := lt_of_heap hbx
                have HW2 := Lib.hid (hQ.box0 (z := (wr.heap.size, _)) ((Upd.setCell 2 (.int .i64 a2) (Upd.refl hbx)).of_eq (show _ = .cells #[.int .i64 a0, .int .i64 a1, .int .i64 a2, .int .i64 0, .int .i64 0, .int .i64 0] 56 (0, 0) by simp)))
                clear hQ hbx hu
                go_wp2_with fail
                refine (rn_one HW2.out.own.get0 (by unfold maxLen; omega)).mono ?_
                rw [HV3.out.1, HV3.out.2]
                rintro e u3 ⟨rfl, hu⟩
                have hQ := HW2.out.read hu
                have hbx := hQ.get (z := (wr.heap.size, .cells #[.int .i64 a0, .int .i64 a1, .int .i64 a2, .int .i64 0, .int .i64 0, .int .i64 0] 56)) (by simp)
                clear q0 q1 q2
                have q0 := (cell_of hbx 3).trans (show _ = some (Value.int .i64 0) from rfl)
                have q1 := free_of hbx 3
                have q2 := lt_of_heap hbx
                have HW3 := Lib.hid (hQ.box0 (z := (wr.heap.size, _)) ((Upd.setCell 3 (.int .i64 a3) (Upd.refl hbx)).of_eq (show _ = .cells #[.int .i64 a0, .int .i64 a1, .int .i64 a2, .int .i64 a3, .int .i64 0, .int .i64 0] 56 (0, 0) by simp)))
                clear hQ hbx hu
                go_wp2_with fail
                refine (rn_one HW3.out.own.get0 (by unfold maxLen; omega)).mono ?_
                rw [HV4.out.1, HV4.out.2]
                rintro e u4 ⟨rfl, hu⟩
                have hQ := HW3.out.read hu
                have hbx := hQ.get (z := (wr.heap.size, .cells #[.int .i64 a0, .int .i64 a1, .int .i64 a2, .int .i64 a3, .int .i64 0, .int .i64 0] 56)) (by simp)
                clear q0 q1 q2
                have q0 := (cell_of hbx 4).trans (show _ = some (Value.int .i64 0) from rfl)
                have q1 := free_of hbx 4
                have q2 := lt_of_heap hbx
                have HW4 := Lib.hid (hQ.box0 (z := (wr.heap.size, _)) ((Upd.setCell 4 (.int .i64 a4) (Upd.refl hbx)).of_eq (show _ = .cells #[.int .i64 a0, .int .i64 a1, .int .i64 a2, .int .i64 a3, .int .i64 a4, .int .i64 0] 56 (0, 0) by simp)))
                clear hQ hbx hu
                go_wp2_with fail
                refine (rn_one HW4.out.own.get0 (by unfold maxLen; omega)).mono ?_
                rw [HV5.out.1, HV5.out.2]
                rintro e u5 ⟨rfl, hu⟩
                have hQ := HW4.out.read hu
                have hbx := hQ.get (z := (wr.heap.size, .cells #[.int .i64 a0, .int .i64 a1, .int .i64 a2, .int .i64 a3, .int .i64 a4, .int .i64 0] 56)) (by simp)
                clear q0 q1 q2
                have q0 := (cell_of hbx 5).trans (show _ = some (Value.int .i64 0) from rfl)
                have q1 := free_of hbx 5
                have q2 := lt_of_heap hbx
                have HW5 := Lib.hid (hQ.box0 (z := (wr.heap.size, _)) ((Upd.setCell 5 (.int .i64 a5) (Upd.refl hbx)).of_eq (show _ = .cells #[.int .i64 a0, .int .i64 a1, .int .i64 a2, .int .i64 a3, .int .i64 a4, .int .i64 a5] 56 (0, 0) by simp)))
                clear hQ hbx hu
                go_wp2_with fail
                refine prs_out HW5.out ?_
                clear q0 q1 q2 HW0 HW1 HW2 HW3 HW4 HW5
                intro w4 hP4
                have HD := Lib.hid hP4.drew
                have hbx := hP4.get (z := (wr.heap.size, .cells #[.int .i64 a0, .int .i64 a1, .int .i64 a2, .int .i64 a3, .int .i64 a4, .int .i64 a5] 56)) (by simp)
                have q0 := (cell_of hbx 0).trans (show _ = some (Value.int .i64 a0) from rfl)
                have q1 := (cell_of hbx 1).trans (show _ = some (Value.int .i64 a1) from rfl)
                have q2 := (cell_of hbx 2).trans (show _ = some (Value.int .i64 a2) from rfl)
                have q3 := (cell_of hbx 3).trans (show _ = some (Value.int .i64 a3) from rfl)
                have q4 := (cell_of hbx 4).trans (show _ = some (Value.int .i64 a4) from rfl)
                have q5 := (cell_of hbx 5).trans (show _ = some (Value.int .i64 a5) from rfl)
                have ql := lt_of_heap hbx
                have c8 := (cell_of hP4.box 10).trans (show _ = some v3 from rfl)
                have hml := lt_of_heap hP4.box
                have HDA := Lib.hid (HD.out.keep ((Below.refl _ _).alloc (Nat.le_refl _) (.cells #[.int .i64 a0, .int .i64 a1, .int .i64 a2, .int .i64 a3, .int .i64 a4, .int .i64 a5] 56)))
                have hsz := hP4.sz
                clear hbx hP4
                go_region_law ((refine step_append_lies _ (by rfl) _ _ _ (by rfl) B 56 i3 _ 6 48 Try.underlying25 hi3 hj3 hk3 hl3 rfl (by omega) v3 accw.length _ (by rfl) HDA.out.owns3 ⟨_, 0, none⟩ 1 1 [.int .i64 a0, .int .i64 a1, .int .i64 a2, .int .i64 a3, .int .i64 a4, .int .i64 a5] (by rfl) (by rfl) (World.news_of_block (cs := #[.int .i64 a0, .int .i64 a1, .int .i64 a2, .int .i64 a3, .int .i64 a4, .int .i64 a5]) (t := 56) (fr := (0, 0)) (heap_alloc_new w4.drew _)) (by simp [Value.oneCell']) (by omega) (by unfold maxLen; omega) (by omega) (by simp; omega) (w4.heap.size + 1) (by simp) ?_; intro g cap w3 hown1 hgrow hat hlt3; have hgr := HDA.out.grown3 hown1 hgrow (by simpa using hat); obtain ⟨Lx, hR', hO'⟩ := hgr; have hb3 := hO'.get1; have z1 := free_of hb3 10; have z2 := cell_of hb3 10; have z3 := lt_of_heap hb3; simp [boxM] at z2; have HRR := Lib.hid hR'; have HOO := Lib.hid hO'; clear hown1 hgrow hat hR' hO' hb3))
                all_goals
                  go_wp2_with fail
                  have hu := (Upd.setCell 10 (.slice (some ⟨g, 0, none⟩) (accw.length + 1) cap) (Upd.refl HOO.out.get1)).of_eq (show _ = boxM ⟨m1, m2, m3, m4, m5, m6, m7, m8, acc, accm, accw ++ [⟨a0, a1, a2, a3, a4, a5⟩]⟩ v1 v2 (.slice (some ⟨g, 0, none⟩) (accw.length + 1) cap) by simp [boxM])
                  have HF := Lib.hid (show Prs rnO B w0 br bm ⟨m1, m2, m3, m4, m5, m6, m7, m8, acc, accm, accw ++ [⟨a0, a1, a2, a3, a4, a5⟩]⟩ s5 L v1 v2 (.slice (some ⟨g, 0, none⟩) (accw.length + 1) cap) L1 L2 Lx _ from Prs.drop (z := (wr.heap.size, _)) ⟨HDA.out.r1, HDA.out.r2, by simpa [winC] using HRR.out, HOO.out.upd1 hu⟩)
                  clear hu
                  go_roundw
                  case rel => exact ⟨n2, accw ++ [⟨a0, a1, a2, a3, a4, a5⟩], s5, _, _, by go_num, by simp; omega, by omega, HS, HF⟩
                  case measure => (simp [intOf]; try omega)
              · skip
                have HK2 := Lib.hid (show rdK rdWin y1 = (accw, y2) from HN2.out.trans (HR.out.symm.trans (rdL_stop HZ.out)))
                clear HR hn HN2
                go_wp2_with fail
                try rw [Exit.noGoto_ret]
                go_end0
                refine ⟨rfl, _, _, _, _, _, _, _, _, HP.out, ?_, fun h => absurd (HZ.out.symm.trans h) (by decide)⟩
                rw [HE.out, HK0.out, HK1.out, HK2.out, HZ.out]
                try exact Eq.symm (HZ.out)
        · skip
          obtain ⟨z, hz⟩ : ∃ z, y1.sh = z := ⟨_, rfl⟩
          have c1 := (cell_of HP.out.own.get0 1).trans (show _ = some (Value.bool y1.sh) from rfl)
          rw [hz] at c1
          have HZ := Lib.hid hz
          clear hz
          have hbl := lt_of_heap HP.out.own.get0
          cases z
          · skip
            have HS := Lib.hid (show rdL rdMsg n1 (accm ++ [(rdMsg y1).1]) (rdMsg y1).2 = rdL rdMsg N1 [] x1 from (rdL_step HZ.out).symm.trans HR.out)
            clear HR
            rw [rdMsg_eq] at HS
            have hb0 := rd2_bd y1
            have hle0 := rd2_le (x := y1)
            obtain ⟨a0, ha0⟩ : ∃ z, (rd2 y1).1 = z := ⟨_, rfl⟩
            obtain ⟨s0, hs0⟩ : ∃ z, (rd2 y1).2 = z := ⟨_, rfl⟩
            rw [ha0] at hb0
            rw [hs0] at hle0
            rw [ha0, hs0] at HS
            have HV0 := Lib.hid (And.intro ha0 hs0)
            clear ha0 hs0
            have hb1 := rd1_bd s0
            have hle1 := rd1_le (x := s0)
            obtain ⟨a1, ha1⟩ : ∃ z, (rd1 s0).1 = z := ⟨_, rfl⟩
            obtain ⟨s1, hs1⟩ : ∃ z, (rd1 s0).2 = z := ⟨_, rfl⟩
            rw [ha1] at hb1
            rw [hs1] at hle1
            rw [ha1, hs1] at HS
            have HV1 := Lib.hid (And.intro ha1 hs1)
            clear ha1 hs1
            have hb2 := rd1_bd s1
            have hle2 := rd1_le (x := s1)
            obtain ⟨a2, ha2⟩ : ∃ z, (rd1 s1).1 = z := ⟨_, rfl⟩
            obtain ⟨s2, hs2⟩ : ∃ z, (rd1 s1).2 = z := ⟨_, rfl⟩
            rw [ha2] at hb2
            rw [hs2] at hle2
            rw [ha2, hs2] at HS
            have HV2 := Lib.hid (And.intro ha2 hs2)
            clear ha2 hs2
            have HA := Lib.hid (HP.out.alloc (.cells #[.int .u32 0, .int .i64 0, .bool false] 53))
            go_wp2_with fail
            refine (rn_two HA.out.own.get0 (by unfold maxLen; omega)).mono ?_
            rw [HV0.out.1, HV0.out.2]
            rintro e u0 ⟨rfl, hu⟩
            have hQ := HA.out.read hu
            have hbx := hQ.get (z := (wr.heap.size, .cells #[.int .u32 0, .int .i64 0, .bool false] 53)) (by simp)
            clear c1 hbl
            have q0 := (cell_of hbx 0).trans (show _ = some (Value.int .u32 0) from rfl)
            have q1 := free_of hbx 0
            have q2 := lt_of_heap hbx
            have HW0 := Lib.hid (hQ.box0 (z := (wr.heap.size, _)) ((Upd.setCell 0 (.int .u32 a0) (Upd.refl hbx)).of_eq (show _ = .cells #[.int .u32 a0, .int .i64 0, .bool false] 53 (0, 0) by simp)))
            clear hQ hbx hu
            go_wp2_with fail
            refine (rn_one HW0.out.own.get0 (by unfold maxLen; omega)).mono ?_
            rw [HV1.out.1, HV1.out.2]
            rintro e u1 ⟨rfl, hu⟩
            have hQ := HW0.out.read hu
            have hbx := hQ.get (z := (wr.heap.size, .cells #[.int .u32 a0, .int .i64 0, .bool false] 53)) (by simp)
            clear q0 q1 q2
            have q0 := (cell_of hbx 1).trans (show _ = some (Value.int .i64 0) from rfl)
            have q1 := free_of hbx 1
            have q2 := lt_of_heap hbx
            have HW1 := Lib.hid (hQ.box0 (z := (wr.heap.size, _)) ((Upd.setCell 1 (.int .i64 a1) (Upd.refl hbx)).of_eq (show _ = .cells #[.int .u32 a0, .int .i64 a1, .bool false] 53 (0, 0) by simp)))
            clear hQ hbx hu
            go_wp2_with fail
            refine (rn_one HW1.out.own.get0 (by unfold maxLen; omega)).mono ?_
            rw [HV2.out.1, HV2.out.2]
            rintro e u2 ⟨rfl, hu⟩
            have hQ := HW1.out.read hu
            have hbx := hQ.get (z := (wr.heap.size, .cells #[.int .u32 a0, .int .i64 a1, .bool false] 53)) (by simp)
            clear q0 q1 q2
            have q0 := (cell_of hbx 2).trans (show _ = some (Value.bool false) from rfl)
            have q1 := free_of hbx 2
            have q2 := lt_of_heap hbx
            have HW2 := Lib.hid (hQ.box0 (z := (wr.heap.size, _)) ((Upd.setCell 2 (.bool (a2 == 1)) (Upd.refl hbx)).of_eq (show _ = .cells #[.int .u32 a0, .int .i64 a1, .bool (a2 == 1)] 53 (0, 0) by simp)))
            clear hQ hbx hu
            go_wp2_with fail
            refine prs_out HW2.out ?_
            clear q0 q1 q2 HW0 HW1 HW2
            intro w4 hP4
            have HD := Lib.hid hP4.drew
            have hbx := hP4.get (z := (wr.heap.size, .cells #[.int .u32 a0, .int .i64 a1, .bool (a2 == 1)] 53)) (by simp)
            have q0 := (cell_of hbx 0).trans (show _ = some (Value.int .u32 a0) from rfl)
            have q1 := (cell_of hbx 1).trans (show _ = some (Value.int .i64 a1) from rfl)
            have q2 := (cell_of hbx 2).trans (show _ = some (Value.bool (a2 == 1)) from rfl)
            have ql := lt_of_heap hbx
            have c8 := (cell_of hP4.box 9).trans (show _ = some v2 from rfl)
            have hml := lt_of_heap hP4.box
            have HDA := Lib.hid (HD.out.keep ((Below.refl _ _).alloc (Nat.le_refl _) (.cells #[.int .u32 a0, .int .i64 a1, .bool (a2 == 1)] 53)))
            have hsz := hP4.sz
            clear hbx hP4
            go_region_law ((refine step_append_lies _ (by rfl) _ _ _ (by rfl) B 53 i2 _ 3 24 Try.underlying24 hi2 hj2 hk2 hl2 rfl (by omega) v2 accm.length _ (by rfl) HDA.out.owns2 ⟨_, 0, none⟩ 1 1 [.int .u32 a0, .int .i64 a1, .bool (a2 == 1)] (by rfl) (by rfl) (World.news_of_block (cs := #[.int .u32 a0, .int .i64 a1, .bool (a2 == 1)]) (t := 53) (fr := (0, 0)) (heap_alloc_new w4.drew _)) (by simp [Value.oneCell']) (by omega) (by unfold maxLen; omega) (by omega) (by simp; omega) (w4.heap.size + 1) (by simp) ?_; intro g cap w3 hown1 hgrow hat hlt3; have hgr := HDA.out.grown2 hown1 hgrow (by simpa using hat); obtain ⟨Lx, hR', hO'⟩ := hgr; have hb3 := hO'.get1; have z1 := free_of hb3 9; have z2 := cell_of hb3 9; have z3 := lt_of_heap hb3; simp [boxM] at z2; have HRR := Lib.hid hR'; have HOO := Lib.hid hO'; clear hown1 hgrow hat hR' hO' hb3))
            all_goals
              go_wp2_with fail
              have hu := (Upd.setCell 9 (.slice (some ⟨g, 0, none⟩) (accm.length + 1) cap) (Upd.refl HOO.out.get1)).of_eq (show _ = boxM ⟨m1, m2, m3, m4, m5, m6, m7, m8, acc, accm ++ [⟨a0, a1, a2 == 1⟩], []⟩ v1 (.slice (some ⟨g, 0, none⟩) (accm.length + 1) cap) (.slice none 0 0) by simp [boxM])
              have HF := Lib.hid (show Prs rnO B w0 br bm ⟨m1, m2, m3, m4, m5, m6, m7, m8, acc, accm ++ [⟨a0, a1, a2 == 1⟩], []⟩ s2 L v1 (.slice (some ⟨g, 0, none⟩) (accm.length + 1) cap) (.slice none 0 0) L1 Lx [] _ from Prs.drop (z := (wr.heap.size, _)) ⟨HDA.out.r1, by simpa [msgC] using HRR.out, HDA.out.r3, HOO.out.upd1 hu⟩)
              clear hu
              go_roundw
              case rel => exact ⟨n1, accm ++ [⟨a0, a1, a2 == 1⟩], s2, _, _, by go_num, by simp; omega, by omega, HS, HF⟩
              case measure => (simp [intOf]; try omega)
          · skip
            have HK1 := Lib.hid (show rdK rdMsg y0 = (accm, y1) from HN1.out.trans (HR.out.symm.trans (rdL_stop HZ.out)))
            clear HR hn HN1
            go_wp2_with fail
            try rw [Exit.noGoto_ret]
            go_end0
            refine ⟨rfl, _, _, _, _, _, _, _, _, HP.out, ?_, fun h => absurd (HZ.out.symm.trans h) (by decide)⟩
            rw [HE.out, HK0.out, HK1.out, HZ.out]
            try exact Eq.symm (rdK_sh HZ.out)
    · skip
      obtain ⟨z, hz⟩ : ∃ z, y0.sh = z := ⟨_, rfl⟩
      have c1 := (cell_of HP.out.own.get0 1).trans (show _ = some (Value.bool y0.sh) from rfl)
      rw [hz] at c1
      have HZ := Lib.hid hz
      clear hz
      have hbl := lt_of_heap HP.out.own.get0
      cases z
      · skip
        have HS := Lib.hid (show rdL rd1 n0 (acc ++ [(rd1 y0).1]) (rd1 y0).2 = rdL rd1 N0 [] x0 from (rdL_step HZ.out).symm.trans HR.out)
        clear HR
        have HD := Lib.hid (HP.out.drew)
        have HCC := Lib.hid (rn_one HD.out.own.get0 (by unfold maxLen; omega))
        have hle := rd1_le (x := y0)
        obtain ⟨val, hval⟩ : ∃ z, (rd1 y0).1 = z := ⟨_, rfl⟩
        obtain ⟨y2, hy2⟩ : ∃ z, (rd1 y0).2 = z := ⟨_, rfl⟩
        have HV := Lib.hid hval
        have HY := Lib.hid hy2
        rw [hval, hy2] at HS
        rw [hy2] at hle
        clear hval hy2
        have c8 := (cell_of HD.out.box 8).trans (show _ = some v1 from rfl)
        have hml := lt_of_heap HD.out.box
        go_wp2_with fail
        go_region_law (first | (go_simp; refine HCC.out.mono ?_; rw [HV.out, HY.out]; rintro e w1 ⟨rfl, hu⟩; have HQ := Lib.hid (HD.out.read hu); have hbox := HQ.out.box; have c8 := (cell_of hbox 8).trans (show _ = some v1 from rfl); have hml := lt_of_heap hbox; have HQA := Lib.hid (HQ.out.keep ((Below.refl _ _).alloc (Nat.le_refl _) (.cells #[.int .i64 val] 3))); have hsz := HQ.out.sz; clear hbox hu) | (refine step_append_lies _ (by rfl) _ _ _ (by rfl) B 3 i1 _ 1 8 Try.underlying23 hi1 hj1 hk1 hl1 rfl (by omega) v1 acc.length _ (by rfl) HQA.out.owns1 ⟨_, 0, none⟩ 1 1 [.int .i64 val] (by rfl) (by rfl) (World.news_of_block (heap_alloc_new w1 _)) (by simp [Value.oneCell']) (by omega) (by unfold maxLen; omega) (by omega) (by simp; omega) (w1.heap.size + 1) (by simp) ?_; intro g cap w3 hown1 hgrow hat hlt3; have hgr := HQA.out.grown1 hown1 hgrow (by simpa using hat); obtain ⟨L1', hR', hO'⟩ := hgr; have hb3 := hO'.get1; have q1 := free_of hb3 8; have q2 := cell_of hb3 8; have q3 := lt_of_heap hb3; simp [boxM] at q2; have HRR := Lib.hid hR'; have HOO := Lib.hid hO'; clear hown1 hgrow hat hR' hO' hb3))
        all_goals
          go_wp2_with fail
          have hu := (Upd.setCell 8 (.slice (some ⟨g, 0, none⟩) (acc.length + 1) cap) (Upd.refl HOO.out.get1)).of_eq (show _ = boxM ⟨m1, m2, m3, m4, m5, m6, m7, m8, acc ++ [val], [], []⟩ (.slice (some ⟨g, 0, none⟩) (acc.length + 1) cap) (.slice none 0 0) (.slice none 0 0) by simp [boxM])
          have HF := Lib.hid (show Prs rnO B w0 br bm ⟨m1, m2, m3, m4, m5, m6, m7, m8, acc ++ [val], [], []⟩ y2 L (.slice (some ⟨g, 0, none⟩) (acc.length + 1) cap) (.slice none 0 0) (.slice none 0 0) L1' [] [] _ from ⟨by simpa [intC] using HRR.out, HQ.out.r2, HQ.out.r3, HOO.out.upd1 hu⟩)
          clear hu
          go_roundw
          case rel => exact ⟨n0, acc ++ [val], y2, _, _, by go_num, by simp; omega, by omega, HS, HF⟩
          case measure => (simp [intOf]; try omega)
      · skip
        have HK0 := Lib.hid (show rdK rd1 x = (acc, y0) from HN0.out.trans (HR.out.symm.trans (rdL_stop HZ.out)))
        clear HR hn HN0
        go_wp2_with fail
        try rw [Exit.noGoto_ret]
        go_end0
        refine ⟨rfl, _, _, _, _, _, _, _, _, HP.out, ?_, fun h => absurd (HZ.out.symm.trans h) (by decide)⟩
        rw [HE.out, HK0.out, HZ.out]
        try exact Eq.symm (rdK_sh (rdK_sh HZ.out))
end Go.Proofs.Ythkhlcigegbpfaa
