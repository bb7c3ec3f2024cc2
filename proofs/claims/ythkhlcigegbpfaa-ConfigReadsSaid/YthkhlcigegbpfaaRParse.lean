/- The reference's Parse. -/
import Derived.Test.YthkhlcigegbpfaaRPrint
import Derived.Test.YthkhlcigegbpfaaParse
import Derived.Deep.CutBlock
namespace Go.Proofs.Ythkhlcigegbpfaa
set_option linter.unusedVariables false
set_option linter.unusedSimpArgs false
open Go.ChangeShapes Go.WideShapes Go.ChangeAt Go.RowKit Go.Deep

def PostR (b : ByteArray) (w : World) (e : Ending) (w' : World) : Prop :=
  ∃ s1 s2 s3, e = .returned (.tuple #[matV (pmE b) s1 s2 s3, .bool (okE b)]) ∧ Below w.heap.size w w' ∧ RdM w' (pmE b) s1 s2 s3
theorem results_rparse {w : World} {b : Nat} {m : Mat} {s1 s2 s3 : Value} {tmps : Array Value} {n : Bool} (ht : tmps.getD 2 undef = .pointer (some ⟨b, 0, none⟩)) (ht3 : tmps.getD 3 undef = .bool n) (h : w.heap[b]? = some (boxM m s1 s2 s3)) :
    (results Try.f49 tmps).run Try.prog w = .ok (.tuple #[matV m s1 s2 s3, .bool n]) w := by
  obtain ⟨r0, r1, r2, r3, r4, r5, r6, r7, r8, r9, r10⟩ := boxM_c h
  have ht' : tmps[2]?.getD undef = .pointer (some ⟨b, 0, none⟩) := by simpa using ht
  have ht3' : tmps[3]?.getD undef = .bool n := by simpa using ht3
  simp [results, Try.results49, go_sem, ht', ht3', r0, r1, r2, r3, r4, r5, r6, r7, r8, r9, r10, matV]
theorem ok_first {b : ByteArray} (h : okE b = true) : ∃ hs : 0 < b.size, ((b[0]'hs).toNat : Int) = 79 := by
  obtain ⟨hi, hp⟩ := okE_is h
  have hp' := hp
  unfold printE at hp'
  rw [if_pos hi] at hp'
  have hs : 0 < b.size := by rw [← hp', strOfNums_size]; simp
  refine ⟨hs, ?_⟩
  have key : ∀ (q : ByteArray) (l : List Int) (h : 0 < q.size), q = strOfNums (79 :: l) → ((q[0]'h).toNat : Int) = 79 := by
    intro q l h e
    subst e
    rfl
  exact key b _ hs hp'.symm
theorem rest_of {b : ByteArray} (h : 0 < b.size) : (rd1 ⟨b, false⟩).2 = ⟨b.extract 1 b.size, false⟩ := by
  rw [rd1_some (x := ⟨b, false⟩) h]
def CutK {α : Type} (w0 : World) (br bm : Nat) (L : List (Nat × Obj)) (mk : List α → Mat) (vs : Value → World → List (Nat × Obj) → List α → Rs → Prop) (f : Rs → α × Rs) (x : Rs) (wx : World) : Prop :=
  ∃ (lst : List α) (y : Rs) (v : Value) (L0 : List (Nat × Obj)), rdK f x = (lst, y) ∧ y.s.size ≤ 1000 ∧ vs v wx L0 lst y
set_option maxRecDepth 100000 in
set_option maxHeartbeats 8000000 in
theorem rf_parse {w : World} (b : ByteArray) (hb : b.size ≤ maxLen) : Calls Try.prog 49 #[.string b] w (PostR b w) := by
  unfold maxLen at hb
  obtain ⟨i1, hi1, hj1, hk1, hl1⟩ := info_parts int_infoC
  obtain ⟨i2, hi2, hj2, hk2, hl2⟩ := info_parts msg_infoC
  obtain ⟨i3, hi3, hj3, hk3, hl3⟩ := info_parts win_infoC
  have hO0 := (Own.nil_ (Below.refl w.heap.size w) (Nat.le_refl _)).alloc (boxM zeroM' (.slice none 0 0) (.slice none 0 0) (.slice none 0 0))
  have hz : okE b = false → PostR b w (.returned (.tuple #[matV zeroM' (.slice none 0 0) (.slice none 0 0) (.slice none 0 0), .bool false])) (w.alloc (boxM zeroM' (.slice none 0 0) (.slice none 0 0) (.slice none 0 0))) := by
    intro hok
    have h1 : pmE b = zeroM' := by unfold pmE; rw [hok]; rfl
    exact ⟨.slice none 0 0, .slice none 0 0, .slice none 0 0, by rw [h1, hok], hO0.bel, by rw [h1]; exact zeroM_rd' _⟩
  have HZ := Lib.hid hz
  clear hz
  by_cases h400 : 400 < b.size
  · have hok : okE b = false := by
      unfold okE
      rw [show decide (b.size ≤ 400) = false by simpa using h400]
      rfl
    have h4 : (400 : Int) < b.size := by omega
    have HZ2 := Lib.hid (HZ.out hok)
    have HO := Lib.hid hO0
    clear hok hO0 HZ
    go_enter Try.func49, Try.ntmps49
    go_wp2
    all_goals try (exfalso; omega)
    exact bodyPost_ret (results_rparse rfl rfl HO.out.get0) rfl HZ2.out
  have h4 : (b.size : Int) ≤ 400 := by omega
  by_cases h0 : b.size = 0
  · have hok : okE b = false := by
      rw [toList_of_zero h0]
      exact okE_none
    have h5 : (b.size : Int) < 1 := by omega
    have HZ2 := Lib.hid (HZ.out hok)
    have HO := Lib.hid hO0
    clear hok hO0 HZ h0
    go_enter Try.func49, Try.ntmps49
    go_wp2
    all_goals try (exfalso; omega)
    exact bodyPost_ret (results_rparse rfl rfl HO.out.get0) rfl HZ2.out
  have hp1 : 0 < b.size := by omega
  have h5 : (1 : Int) ≤ b.size := by omega
  obtain ⟨first, hfirst⟩ : ∃ x : Int, ((b[0]'hp1).toNat : Int) = x := ⟨_, rfl⟩
  by_cases h79 : first = 79
  rotate_left
  · have hok : okE b = false := by
      cases hc : okE b with
      | false => rfl
      | true =>
        obtain ⟨hs, he⟩ := ok_first hc
        exact absurd (hfirst.symm.trans he) h79
    have HZ2 := Lib.hid (HZ.out hok)
    have HO := Lib.hid hO0
    have hn79 : (first == 79) = false := by simp [h79]
    have hn79' : (first != 79) = true := by simp [h79]
    clear hok hO0 HZ
    go_enter Try.func49, Try.ntmps49
    go_wp2
    all_goals try (exfalso; omega)
    exact bodyPost_ret (results_rparse rfl rfl HO.out.get0) rfl HZ2.out
  subst h79
  clear HZ
  have hs4 : b.size ≤ 400 := by omega
  have HPR := parseR_eq b
  rw [rdHead_eq] at HPR
  have hle := rd1_le (x := ⟨b, false⟩)
  rw [rest_of hp1] at HPR hle
  clear h400 h0
  simp only at hle
  have hb0 := rd1_bd (⟨b.extract 1 b.size, false⟩ : Rs)
  have hle0 := rd1_le (x := (⟨b.extract 1 b.size, false⟩ : Rs))
  obtain ⟨a0, ha0⟩ : ∃ z, (rd1 (⟨b.extract 1 b.size, false⟩ : Rs)).1 = z := ⟨_, rfl⟩
  obtain ⟨s0, hs0⟩ : ∃ z, (rd1 (⟨b.extract 1 b.size, false⟩ : Rs)).2 = z := ⟨_, rfl⟩
  rw [ha0] at hb0
  rw [hs0] at hle0
  rw [ha0, hs0] at HPR
  have HV0 := Lib.hid (And.intro ha0 hs0)
  clear ha0 hs0
  have hb1 := rd1_bd s0
  have hle1 := rd1_le (x := s0)
  obtain ⟨a1, ha1⟩ : ∃ z, (rd1 s0).1 = z := ⟨_, rfl⟩
  obtain ⟨s1, hs1⟩ : ∃ z, (rd1 s0).2 = z := ⟨_, rfl⟩
  rw [ha1] at hb1
  rw [hs1] at hle1
  rw [ha1, hs1] at HPR
  have HV1 := Lib.hid (And.intro ha1 hs1)
  clear ha1 hs1
  have hb2 := rd1_bd s1
  have hle2 := rd1_le (x := s1)
  obtain ⟨a2, ha2⟩ : ∃ z, (rd1 s1).1 = z := ⟨_, rfl⟩
  obtain ⟨s2, hs2⟩ : ∃ z, (rd1 s1).2 = z := ⟨_, rfl⟩
  rw [ha2] at hb2
  rw [hs2] at hle2
  rw [ha2, hs2] at HPR
  have HV2 := Lib.hid (And.intro ha2 hs2)
  clear ha2 hs2
  have hb3 := rd2_bd s2
  have hle3 := rd2_le (x := s2)
  obtain ⟨a3, ha3⟩ : ∃ z, (rd2 s2).1 = z := ⟨_, rfl⟩
  obtain ⟨s3, hs3⟩ : ∃ z, (rd2 s2).2 = z := ⟨_, rfl⟩
  rw [ha3] at hb3
  rw [hs3] at hle3
  rw [ha3, hs3] at HPR
  have HV3 := Lib.hid (And.intro ha3 hs3)
  clear ha3 hs3
  have hb4 := rd1_bd s3
  have hle4 := rd1_le (x := s3)
  obtain ⟨a4, ha4⟩ : ∃ z, (rd1 s3).1 = z := ⟨_, rfl⟩
  obtain ⟨s4, hs4⟩ : ∃ z, (rd1 s3).2 = z := ⟨_, rfl⟩
  rw [ha4] at hb4
  rw [hs4] at hle4
  rw [ha4, hs4] at HPR
  have HV4 := Lib.hid (And.intro ha4 hs4)
  clear ha4 hs4
  have hb5 := rd1_bd s4
  have hle5 := rd1_le (x := s4)
  obtain ⟨a5, ha5⟩ : ∃ z, (rd1 s4).1 = z := ⟨_, rfl⟩
  obtain ⟨s5, hs5⟩ : ∃ z, (rd1 s4).2 = z := ⟨_, rfl⟩
  rw [ha5] at hb5
  rw [hs5] at hle5
  rw [ha5, hs5] at HPR
  have HV5 := Lib.hid (And.intro ha5 hs5)
  clear ha5 hs5
  have hb6 := rd2_bd s5
  have hle6 := rd2_le (x := s5)
  obtain ⟨a6, ha6⟩ : ∃ z, (rd2 s5).1 = z := ⟨_, rfl⟩
  obtain ⟨s6, hs6⟩ : ∃ z, (rd2 s5).2 = z := ⟨_, rfl⟩
  rw [ha6] at hb6
  rw [hs6] at hle6
  rw [ha6, hs6] at HPR
  have HV6 := Lib.hid (And.intro ha6 hs6)
  clear ha6 hs6
  have hb7 := rd2_bd s6
  have hle7 := rd2_le (x := s6)
  obtain ⟨a7, ha7⟩ : ∃ z, (rd2 s6).1 = z := ⟨_, rfl⟩
  obtain ⟨s7, hs7⟩ : ∃ z, (rd2 s6).2 = z := ⟨_, rfl⟩
  rw [ha7] at hb7
  rw [hs7] at hle7
  rw [ha7, hs7] at HPR
  have HV7 := Lib.hid (And.intro ha7 hs7)
  clear ha7 hs7
  simp only at HPR
  rw [rdLists_eq] at HPR
  have HPRR := Lib.hid HPR
  clear HPR
  have hO2 := (hO0.alloc (rrO ⟨b.extract 1 b.size, false⟩)).alloc (boxM zeroM' (.slice none 0 0) (.slice none 0 0) (.slice none 0 0))
  have hsz0 : ∀ o : Obj, (w.alloc o).heap.size = w.heap.size + 1 := fun o => by simp
  have hsz1 : ∀ o o' : Obj, ((w.alloc o).alloc o').heap.size = w.heap.size + 2 := fun o o' => by simp
  rw [hsz0, hsz1] at hO2
  have hP : Prs rrO w.heap.size w (w.heap.size + 1) (w.heap.size + 2) zeroM' (⟨b.extract 1 b.size, false⟩ : Rs) [(w.heap.size, boxM zeroM' (.slice none 0 0) (.slice none 0 0) (.slice none 0 0))] (.slice none 0 0) (.slice none 0 0) (.slice none 0 0) [] [] [] _ :=
    ⟨RowL.none_ _ _, RowL.none_ _ _, RowL.none_ _ _, hO2.perm' (List.Perm.swap _ _ _)⟩
  have HP := Lib.hid hP
  clear hO0 hO2 hsz0 hsz1 hP
  go_enter Try.func49, Try.ntmps49
  go_wp2_with fail
  all_goals try (exfalso; omega)
  refine (rr_one HP.out.own.get0 (by unfold maxLen; simp only; omega)).mono ?_
  rw [HV0.out.1, HV0.out.2]
  rintro e u0 ⟨rfl, hu⟩
  have hQ := HP.out.read hu
  have q0 := (cell_of hQ.box 0).trans (show _ = some (Value.int .i64 0) from rfl)
  have q1 := free_of hQ.box 0
  have q2 := lt_of_heap hQ.box
  have HW0 := Lib.hid (hQ.fld (m' := ⟨a0, 0, 0, 0, 0, 0, 0, 0, [], [], []⟩) rfl rfl rfl ((Upd.setCell 0 (.int .i64 a0) (Upd.refl hQ.box)).of_eq (by simp [boxM, zeroM'])))
  clear hQ hu HP
  go_wp2_with fail
  refine (rr_one HW0.out.own.get0 (by unfold maxLen; omega)).mono ?_
  rw [HV1.out.1, HV1.out.2]
  rintro e u1 ⟨rfl, hu⟩
  have hQ := HW0.out.read hu
  clear q0 q1 q2
  have q0 := (cell_of hQ.box 1).trans (show _ = some (Value.int .i64 0) from rfl)
  have q1 := free_of hQ.box 1
  have q2 := lt_of_heap hQ.box
  have HW1 := Lib.hid (hQ.fld (m' := ⟨a0, a1, 0, 0, 0, 0, 0, 0, [], [], []⟩) rfl rfl rfl ((Upd.setCell 1 (.int .i64 a1) (Upd.refl hQ.box)).of_eq (by simp [boxM, zeroM'])))
  clear hQ hu HW0
  go_wp2_with fail
  refine (rr_one HW1.out.own.get0 (by unfold maxLen; omega)).mono ?_
  rw [HV2.out.1, HV2.out.2]
  rintro e u2 ⟨rfl, hu⟩
  have hQ := HW1.out.read hu
  clear q0 q1 q2
  have q0 := (cell_of hQ.box 2).trans (show _ = some (Value.int .i64 0) from rfl)
  have q1 := free_of hQ.box 2
  have q2 := lt_of_heap hQ.box
  have HW2 := Lib.hid (hQ.fld (m' := ⟨a0, a1, a2, 0, 0, 0, 0, 0, [], [], []⟩) rfl rfl rfl ((Upd.setCell 2 (.int .i64 a2) (Upd.refl hQ.box)).of_eq (by simp [boxM, zeroM'])))
  clear hQ hu HW1
  go_wp2_with fail
  refine (rr_two HW2.out.own.get0 (by unfold maxLen; omega)).mono ?_
  rw [HV3.out.1, HV3.out.2]
  rintro e u3 ⟨rfl, hu⟩
  have hQ := HW2.out.read hu
  clear q0 q1 q2
  have q0 := (cell_of hQ.box 3).trans (show _ = some (Value.int .i64 0) from rfl)
  have q1 := free_of hQ.box 3
  have q2 := lt_of_heap hQ.box
  have HW3 := Lib.hid (hQ.fld (m' := ⟨a0, a1, a2, a3, 0, 0, 0, 0, [], [], []⟩) rfl rfl rfl ((Upd.setCell 3 (.int .i64 a3) (Upd.refl hQ.box)).of_eq (by simp [boxM, zeroM'])))
  clear hQ hu HW2
  go_wp2_with fail
  refine (rr_one HW3.out.own.get0 (by unfold maxLen; omega)).mono ?_
  rw [HV4.out.1, HV4.out.2]
  rintro e u4 ⟨rfl, hu⟩
  have hQ := HW3.out.read hu
  clear q0 q1 q2
  have q0 := (cell_of hQ.box 4).trans (show _ = some (Value.int .i64 0) from rfl)
  have q1 := free_of hQ.box 4
  have q2 := lt_of_heap hQ.box
  have HW4 := Lib.hid (hQ.fld (m' := ⟨a0, a1, a2, a3, a4, 0, 0, 0, [], [], []⟩) rfl rfl rfl ((Upd.setCell 4 (.int .i64 a4) (Upd.refl hQ.box)).of_eq (by simp [boxM, zeroM'])))
  clear hQ hu HW3
  go_wp2_with fail
  refine (rr_one HW4.out.own.get0 (by unfold maxLen; omega)).mono ?_
  rw [HV5.out.1, HV5.out.2]
  rintro e u5 ⟨rfl, hu⟩
  have hQ := HW4.out.read hu
  clear q0 q1 q2
  have q0 := (cell_of hQ.box 5).trans (show _ = some (Value.int .i64 0) from rfl)
  have q1 := free_of hQ.box 5
  have q2 := lt_of_heap hQ.box
  have HW5 := Lib.hid (hQ.fld (m' := ⟨a0, a1, a2, a3, a4, a5, 0, 0, [], [], []⟩) rfl rfl rfl ((Upd.setCell 5 (.int .i64 a5) (Upd.refl hQ.box)).of_eq (by simp [boxM, zeroM'])))
  clear hQ hu HW4
  go_wp2_with fail
  refine (rr_two HW5.out.own.get0 (by unfold maxLen; omega)).mono ?_
  rw [HV6.out.1, HV6.out.2]
  rintro e u6 ⟨rfl, hu⟩
  have hQ := HW5.out.read hu
  clear q0 q1 q2
  have q0 := (cell_of hQ.box 6).trans (show _ = some (Value.int .i64 0) from rfl)
  have q1 := free_of hQ.box 6
  have q2 := lt_of_heap hQ.box
  have HW6 := Lib.hid (hQ.fld (m' := ⟨a0, a1, a2, a3, a4, a5, a6, 0, [], [], []⟩) rfl rfl rfl ((Upd.setCell 6 (.int .i64 a6) (Upd.refl hQ.box)).of_eq (by simp [boxM, zeroM'])))
  clear hQ hu HW5
  go_wp2_with fail
  refine (rr_two HW6.out.own.get0 (by unfold maxLen; omega)).mono ?_
  rw [HV7.out.1, HV7.out.2]
  rintro e u7 ⟨rfl, hu⟩
  have hQ := HW6.out.read hu
  clear q0 q1 q2
  have q0 := (cell_of hQ.box 7).trans (show _ = some (Value.int .u32 0) from rfl)
  have q1 := free_of hQ.box 7
  have q2 := lt_of_heap hQ.box
  have HW7 := Lib.hid (hQ.fld (m' := ⟨a0, a1, a2, a3, a4, a5, a6, a7, [], [], []⟩) rfl rfl rfl ((Upd.setCell 7 (.int .u32 a7) (Upd.refl hQ.box)).of_eq (by simp [boxM, zeroM'])))
  clear hQ hu HW6
  go_wp2_with fail
  refine (rr_one HW7.out.own.get0 (by unfold maxLen; omega)).mono ?_
  have hbn := rd1_bd s7
  have hle0 := rd1_le (x := s7)
  obtain ⟨N0, hN⟩ := Int.eq_ofNat_of_zero_le hbn.1
  obtain ⟨x0, hx⟩ : ∃ z, (rd1 s7).2 = z := ⟨_, rfl⟩
  have HN0 := Lib.hid (show rdK rd1 s7 = rdL rd1 N0 [] x0 by unfold rdK; rw [hN, hx]; rfl)
  have hNl0 : N0 ≤ 255 := by omega
  rw [hN, hx]
  rw [hx] at hle0
  rintro e wa0 ⟨rfl, hu⟩
  have HP1 := Lib.hid (HW7.out.read hu)
  clear hN hx hbn hu HW7 q0 q1 q2
  go_upto_block 0 with fail
  go_cut [] (fun wx => Hid (∃ (lst : List Int) (y : Rs) (v : Value) (L0 : List (Nat × Obj)), rdK rd1 s7 = (lst, y) ∧ y.s.size ≤ 1000 ∧ Prs rrO w.heap.size w (w.heap.size + 1) (w.heap.size + 2) ⟨a0, a1, a2, a3, a4, a5, a6, a7, lst, [], []⟩ y [(w.heap.size, boxM zeroM' (.slice none 0 0) (.slice none 0 0) (.slice none 0 0))] v (.slice none 0 0) (.slice none 0 0) L0 [] [] wx))
  case first =>
    go_wp2_with fail
    go_loopw [7] (fun i wr => ∃ (k n : Nat) (lst : List Int) (y : Rs) (v : Value) (L0 : List (Nat × Obj)), i = .int .i64 k ∧ k + n = N0 ∧ lst.length ≤ k ∧ y.s.size ≤ 1000 ∧ Hid (rdL rd1 n lst y = rdL rd1 N0 [] x0) ∧ Hid (Prs rrO w.heap.size w (w.heap.size + 1) (w.heap.size + 2) ⟨a0, a1, a2, a3, a4, a5, a6, a7, lst, [], []⟩ y [(w.heap.size, boxM zeroM' (.slice none 0 0) (.slice none 0 0) (.slice none 0 0))] v (.slice none 0 0) (.slice none 0 0) L0 [] [] wr)) (fun i _ => N0 - (intOf i).toNat)
    case atStart => exact ⟨0, N0, [], x0, _, _, rfl, by omega, by simp, by omega, Lib.hid rfl, HP1⟩
    case round =>
      clear HP1
      obtain ⟨k, n, acc, y, v1, L1, rfl, hkn, hlen, hys, HR, HP⟩ := hrel
      obtain ⟨z, hz⟩ : ∃ z, y.sh = z := ⟨_, rfl⟩
      have c1 := (cell_of HP.out.own.get0 1).trans (show _ = some (Value.bool y.sh) from rfl)
      rw [hz] at c1
      have HZ := Lib.hid hz
      clear hz
      have hbl := lt_of_heap HP.out.own.get0
      rcases n with _ | n
      · skip
        have hge : (N0 : Int) ≤ k := by omega
        have HK := Lib.hid (show rdK rd1 s7 = (acc, y) from HN0.out.trans HR.out.symm)
        go_wp2
        all_goals try (exfalso; omega)
        go_meet
        exact Lib.hid ⟨_, _, _, _, HK.out, hys, HP.out⟩
      have hlt : (k : Int) < N0 := by omega
      cases z
      · skip
        have HS := Lib.hid (show rdL rd1 n (acc ++ [(rd1 y).1]) (rd1 y).2 = rdL rd1 N0 [] x0 from (rdL_step HZ.out).symm.trans HR.out)
        clear HR
        have HD := Lib.hid (HP.out.drew)
        have HCC := Lib.hid (rr_one HD.out.own.get0 (by unfold maxLen; omega))
        have hle := rd1_le (x := y)
        obtain ⟨val, hval⟩ : ∃ z, (rd1 y).1 = z := ⟨_, rfl⟩
        obtain ⟨y2, hy2⟩ : ∃ z, (rd1 y).2 = z := ⟨_, rfl⟩
        have HV := Lib.hid hval
        have HY := Lib.hid hy2
        rw [hval, hy2] at HS
        rw [hy2] at hle
        clear hval hy2
        have c8 := (cell_of HD.out.box 8).trans (show _ = some v1 from rfl)
        have hml := lt_of_heap HD.out.box
        go_wp2_with fail
        all_goals try (exfalso; omega)
        go_region_law (first | (go_simp; refine HCC.out.mono ?_; rw [HV.out, HY.out]; rintro e w1 ⟨rfl, hu⟩; have HQ := Lib.hid (HD.out.read hu); have hbox := HQ.out.box; have c8 := (cell_of hbox 8).trans (show _ = some v1 from rfl); have hml := lt_of_heap hbox; have HQA := Lib.hid (HQ.out.keep ((Below.refl _ _).alloc (Nat.le_refl _) (.cells #[.int .i64 val] 3))); have hsz := HQ.out.sz; clear hbox hu) | (refine step_append_lies _ (by rfl) _ _ _ (by rfl) w.heap.size 3 i1 _ 1 8 Try.underlying23 hi1 hj1 hk1 hl1 rfl (by omega) v1 acc.length _ (by rfl) HQA.out.owns1 ⟨_, 0, none⟩ 1 1 [.int .i64 val] (by rfl) (by rfl) (World.news_of_block (heap_alloc_new w1 _)) (by simp [Value.oneCell']) (by omega) (by unfold maxLen; omega) (by omega) (by simp; omega) (w1.heap.size + 1) (by simp) ?_; intro g cap w3 hown1 hgrow hat hlt3; have hgr := HQA.out.grown1 hown1 hgrow (by simpa using hat); obtain ⟨L1', hR', hO'⟩ := hgr; have hb3 := hO'.get1; have q1 := free_of hb3 8; have q2 := cell_of hb3 8; have q3 := lt_of_heap hb3; simp [boxM] at q2; have HRR := Lib.hid hR'; have HOO := Lib.hid hO'; clear hown1 hgrow hat hR' hO' hb3))
        all_goals
          go_wp2_with fail
          have hu := (Upd.setCell 8 (.slice (some ⟨g, 0, none⟩) (acc.length + 1) cap) (Upd.refl HOO.out.get1)).of_eq (show _ = boxM ⟨a0, a1, a2, a3, a4, a5, a6, a7, acc ++ [val], [], []⟩ (.slice (some ⟨g, 0, none⟩) (acc.length + 1) cap) (.slice none 0 0) (.slice none 0 0) by simp [boxM])
          have HF := Lib.hid (show Prs rrO w.heap.size w (w.heap.size + 1) (w.heap.size + 2) ⟨a0, a1, a2, a3, a4, a5, a6, a7, acc ++ [val], [], []⟩ y2 [(w.heap.size, boxM zeroM' (.slice none 0 0) (.slice none 0 0) (.slice none 0 0))] (.slice (some ⟨g, 0, none⟩) (acc.length + 1) cap) (.slice none 0 0) (.slice none 0 0) L1' [] [] _ from ⟨by simpa [intC] using HRR.out, HQ.out.r2, HQ.out.r3, HOO.out.upd1 hu⟩)
          clear hu
          go_roundw
          case rel => exact ⟨k + 1, n, acc ++ [val], y2, _, _, by go_num, by omega, by simp; omega, by omega, HS, HF⟩
          case measure => (simp [intOf]; try omega)
      · skip
        have HK := Lib.hid (show rdK rd1 s7 = (acc, y) from HN0.out.trans (HR.out.symm.trans (rdL_stop HZ.out)))
        go_wp2
        all_goals try (exfalso; omega)
        go_meet
        exact Lib.hid ⟨_, _, _, _, HK.out, hys, HP.out⟩
  case rest =>
    obtain ⟨acc, y0, v1, L1, hk0, hys0, hP⟩ := hcut.out
    have HK0 := Lib.hid hk0
    have HP := Lib.hid hP
    clear HP1 hP hk0 hcut HN0
    have z1c := True.intro
    go_wp2_with fail
    refine (rr_one HP.out.own.get0 (by unfold maxLen; omega)).mono ?_
    have hbn := rd1_bd y0
    have hle0 := rd1_le (x := y0)
    obtain ⟨N1, hN⟩ := Int.eq_ofNat_of_zero_le hbn.1
    obtain ⟨x1, hx⟩ : ∃ z, (rd1 y0).2 = z := ⟨_, rfl⟩
    have HN1 := Lib.hid (show rdK rdMsg y0 = rdL rdMsg N1 [] x1 by unfold rdK; rw [hN, hx]; rfl)
    have hNl1 : N1 ≤ 255 := by omega
    rw [hN, hx]
    rw [hx] at hle0
    rintro e wa1 ⟨rfl, hu⟩
    have HP1 := Lib.hid (HP.out.read hu)
    clear hN hx hbn hu HP z1c
    go_upto_block 2 with fail
    go_cut [] (fun wx => Hid (∃ (lst : List Msg) (y : Rs) (v : Value) (L0 : List (Nat × Obj)), rdK rdMsg y0 = (lst, y) ∧ y.s.size ≤ 1000 ∧ Prs rrO w.heap.size w (w.heap.size + 1) (w.heap.size + 2) ⟨a0, a1, a2, a3, a4, a5, a6, a7, acc, lst, []⟩ y [(w.heap.size, boxM zeroM' (.slice none 0 0) (.slice none 0 0) (.slice none 0 0))] v1 v (.slice none 0 0) L1 L0 [] wx))
    case first =>
      go_wp2_with fail
      go_loopw [8] (fun i wr => ∃ (k n : Nat) (lst : List Msg) (y : Rs) (v : Value) (L0 : List (Nat × Obj)), i = .int .i64 k ∧ k + n = N1 ∧ lst.length ≤ k ∧ y.s.size ≤ 1000 ∧ Hid (rdL rdMsg n lst y = rdL rdMsg N1 [] x1) ∧ Hid (Prs rrO w.heap.size w (w.heap.size + 1) (w.heap.size + 2) ⟨a0, a1, a2, a3, a4, a5, a6, a7, acc, lst, []⟩ y [(w.heap.size, boxM zeroM' (.slice none 0 0) (.slice none 0 0) (.slice none 0 0))] v1 v (.slice none 0 0) L1 L0 [] wr)) (fun i _ => N1 - (intOf i).toNat)
      case atStart => exact ⟨0, N1, [], x1, _, _, rfl, by omega, by simp, by omega, Lib.hid rfl, HP1⟩
      case round =>
        clear HP1
        obtain ⟨k, n, accm, y, v2, L2, rfl, hkn, hlen, hys, HR, HP⟩ := hrel
        obtain ⟨z, hz⟩ : ∃ z, y.sh = z := ⟨_, rfl⟩
        have c1 := (cell_of HP.out.own.get0 1).trans (show _ = some (Value.bool y.sh) from rfl)
        rw [hz] at c1
        have HZ := Lib.hid hz
        clear hz
        have hbl := lt_of_heap HP.out.own.get0
        rcases n with _ | n
        · skip
          have hge : (N1 : Int) ≤ k := by omega
          have HK := Lib.hid (show rdK rdMsg y0 = (accm, y) from HN1.out.trans HR.out.symm)
          go_wp2
          all_goals try (exfalso; omega)
          go_meet
          exact Lib.hid ⟨_, _, _, _, HK.out, hys, HP.out⟩
        have hlt : (k : Int) < N1 := by omega
        cases z
        · skip
          have HS := Lib.hid (show rdL rdMsg n (accm ++ [(rdMsg y).1]) (rdMsg y).2 = rdL rdMsg N1 [] x1 from (rdL_step HZ.out).symm.trans HR.out)
          clear HR
          rw [rdMsg_eq] at HS
          have hb0 := rd2_bd y
          have hle0 := rd2_le (x := y)
          obtain ⟨d0, ha0⟩ : ∃ z, (rd2 y).1 = z := ⟨_, rfl⟩
          obtain ⟨t0, hs0⟩ : ∃ z, (rd2 y).2 = z := ⟨_, rfl⟩
          rw [ha0] at hb0
          rw [hs0] at hle0
          rw [ha0, hs0] at HS
          have HVV0 := Lib.hid (And.intro ha0 hs0)
          clear ha0 hs0
          have hb1 := rd1_bd t0
          have hle1 := rd1_le (x := t0)
          obtain ⟨d1, ha1⟩ : ∃ z, (rd1 t0).1 = z := ⟨_, rfl⟩
          obtain ⟨t1, hs1⟩ : ∃ z, (rd1 t0).2 = z := ⟨_, rfl⟩
          rw [ha1] at hb1
          rw [hs1] at hle1
          rw [ha1, hs1] at HS
          have HVV1 := Lib.hid (And.intro ha1 hs1)
          clear ha1 hs1
          have hb2 := rd1_bd t1
          have hle2 := rd1_le (x := t1)
          obtain ⟨d2, ha2⟩ : ∃ z, (rd1 t1).1 = z := ⟨_, rfl⟩
          obtain ⟨t2, hs2⟩ : ∃ z, (rd1 t1).2 = z := ⟨_, rfl⟩
          rw [ha2] at hb2
          rw [hs2] at hle2
          rw [ha2, hs2] at HS
          have HVV2 := Lib.hid (And.intro ha2 hs2)
          clear ha2 hs2
          have hw32 : IntKind.u32.wrap d0 = d0 := by rw [wu32]; omega
          have HW32 := Lib.hid hw32
          clear hw32
          go_wp2_with fail
          all_goals try (exfalso; omega)
          refine (rr_two HP.out.own.get0 (by unfold maxLen; omega)).mono ?_
          rw [HVV0.out.1, HVV0.out.2]
          rintro e u0 ⟨rfl, hu⟩
          have HQ0 := Lib.hid (HP.out.read hu)
          clear hu c1 hbl
          go_wp2_with fail
          refine (rr_one HQ0.out.own.get0 (by unfold maxLen; omega)).mono ?_
          rw [HVV1.out.1, HVV1.out.2]
          rintro e u1 ⟨rfl, hu⟩
          have HQ1 := Lib.hid (HQ0.out.read hu)
          clear hu
          have HD := Lib.hid (HQ1.out.drew)
          have HCC := Lib.hid (rr_one HD.out.own.get0 (by unfold maxLen; omega))
          have c8 := (cell_of HQ1.out.box 9).trans (show _ = some v2 from rfl)
          have hml := lt_of_heap HQ1.out.box
          go_wp2_with fail
          have hw32 := HW32.out
          go_region_law (first | (go_simp; refine HCC.out.mono ?_; rw [HVV2.out.1, HVV2.out.2]; rintro e w1 ⟨rfl, hu⟩; have HQ := Lib.hid (HD.out.read hu); have hbox := HQ.out.box; have c8 := (cell_of hbox 9).trans (show _ = some v2 from rfl); have hml := lt_of_heap hbox; have HQA := Lib.hid (HQ.out.keep ((Below.refl _ _).alloc (Nat.le_refl _) (.cells #[.int .u32 d0, .int .i64 d1, .bool (d2 == 1)] 53))); have hsz := HQ.out.sz; clear hbox hu) | (refine step_append_lies _ (by rfl) _ _ _ (by rfl) w.heap.size 53 i2 _ 3 24 Try.underlying24 hi2 hj2 hk2 hl2 rfl (by omega) v2 accm.length _ (by rfl) HQA.out.owns2 ⟨_, 0, none⟩ 1 1 [.int .u32 d0, .int .i64 d1, .bool (d2 == 1)] (by rfl) (by rfl) (World.news_of_block (cs := #[.int .u32 d0, .int .i64 d1, .bool (d2 == 1)]) (t := 53) (fr := (0, 0)) (heap_alloc_new w1 _)) (by simp [Value.oneCell']) (by omega) (by unfold maxLen; omega) (by omega) (by simp; omega) (w1.heap.size + 1) (by simp) ?_; intro g cap w3 hown1 hgrow hat hlt3; have hgr := HQA.out.grown2 hown1 hgrow (by simpa using hat); obtain ⟨Lx, hR', hO'⟩ := hgr; have hb3 := hO'.get1; have q1 := free_of hb3 9; have q2 := cell_of hb3 9; have q3 := lt_of_heap hb3; simp [boxM] at q2; have HRR := Lib.hid hR'; have HOO := Lib.hid hO'; clear hown1 hgrow hat hR' hO' hb3))
          all_goals
            go_wp2_with fail
            have hu := (Upd.setCell 9 (.slice (some ⟨g, 0, none⟩) (accm.length + 1) cap) (Upd.refl HOO.out.get1)).of_eq (show _ = boxM ⟨a0, a1, a2, a3, a4, a5, a6, a7, acc, accm ++ [⟨d0, d1, d2 == 1⟩], []⟩ v1 (.slice (some ⟨g, 0, none⟩) (accm.length + 1) cap) (.slice none 0 0) by simp [boxM])
            have HF := Lib.hid (show Prs rrO w.heap.size w (w.heap.size + 1) (w.heap.size + 2) ⟨a0, a1, a2, a3, a4, a5, a6, a7, acc, accm ++ [⟨d0, d1, d2 == 1⟩], []⟩ t2 [(w.heap.size, boxM zeroM' (.slice none 0 0) (.slice none 0 0) (.slice none 0 0))] v1 (.slice (some ⟨g, 0, none⟩) (accm.length + 1) cap) (.slice none 0 0) L1 Lx [] _ from ⟨HQ.out.r1, by simpa [msgC] using HRR.out, HQ.out.r3, HOO.out.upd1 hu⟩)
            clear hu
            go_roundw
            case rel => exact ⟨k + 1, n, accm ++ [⟨d0, d1, d2 == 1⟩], t2, _, _, by go_num, by omega, by simp; omega, by omega, HS, HF⟩
            case measure => (simp [intOf]; try omega)
        · skip
          have HK := Lib.hid (show rdK rdMsg y0 = (accm, y) from HN1.out.trans (HR.out.symm.trans (rdL_stop HZ.out)))
          go_wp2
          all_goals try (exfalso; omega)
          go_meet
          exact Lib.hid ⟨_, _, _, _, HK.out, hys, HP.out⟩
    case rest =>
      obtain ⟨accm, y1, v2, L2, hk1, hys1, hP⟩ := hcut.out
      have HK1 := Lib.hid hk1
      have HP := Lib.hid hP
      clear HP1 hP hk1 hcut HN1
      have z1c := True.intro
      go_wp2_with fail
      refine (rr_one HP.out.own.get0 (by unfold maxLen; omega)).mono ?_
      have hbn := rd1_bd y1
      have hle0 := rd1_le (x := y1)
      obtain ⟨N2, hN⟩ := Int.eq_ofNat_of_zero_le hbn.1
      obtain ⟨x2, hx⟩ : ∃ z, (rd1 y1).2 = z := ⟨_, rfl⟩
      have HN2 := Lib.hid (show rdK rdWin y1 = rdL rdWin N2 [] x2 by unfold rdK; rw [hN, hx]; rfl)
      have hNl2 : N2 ≤ 255 := by omega
      rw [hN, hx]
      rw [hx] at hle0
      rintro e wa2 ⟨rfl, hu⟩
      have HP1 := Lib.hid (HP.out.read hu)
      clear hN hx hbn hu HP z1c
      go_upto_block 4 with fail
      go_cut [] (fun wx => Hid (∃ (lst : List Win) (y : Rs) (v : Value) (L0 : List (Nat × Obj)), rdK rdWin y1 = (lst, y) ∧ y.s.size ≤ 1000 ∧ Prs rrO w.heap.size w (w.heap.size + 1) (w.heap.size + 2) ⟨a0, a1, a2, a3, a4, a5, a6, a7, acc, accm, lst⟩ y [(w.heap.size, boxM zeroM' (.slice none 0 0) (.slice none 0 0) (.slice none 0 0))] v1 v2 v L1 L2 L0 wx))
      case first =>
        go_wp2_with fail
        go_loopw [11] (fun i wr => ∃ (k n : Nat) (lst : List Win) (y : Rs) (v : Value) (L0 : List (Nat × Obj)), i = .int .i64 k ∧ k + n = N2 ∧ lst.length ≤ k ∧ y.s.size ≤ 1000 ∧ Hid (rdL rdWin n lst y = rdL rdWin N2 [] x2) ∧ Hid (Prs rrO w.heap.size w (w.heap.size + 1) (w.heap.size + 2) ⟨a0, a1, a2, a3, a4, a5, a6, a7, acc, accm, lst⟩ y [(w.heap.size, boxM zeroM' (.slice none 0 0) (.slice none 0 0) (.slice none 0 0))] v1 v2 v L1 L2 L0 wr)) (fun i _ => N2 - (intOf i).toNat)
        case atStart => exact ⟨0, N2, [], x2, _, _, rfl, by omega, by simp, by omega, Lib.hid rfl, HP1⟩
        case round =>
          clear HP1
          obtain ⟨k, n, accw, y, v3, L3, rfl, hkn, hlen, hys, HR, HP⟩ := hrel
          obtain ⟨z, hz⟩ : ∃ z, y.sh = z := ⟨_, rfl⟩
          have c1 := (cell_of HP.out.own.get0 1).trans (show _ = some (Value.bool y.sh) from rfl)
          rw [hz] at c1
          have HZ := Lib.hid hz
          clear hz
          have hbl := lt_of_heap HP.out.own.get0
          rcases n with _ | n
          · skip
            have hge : (N2 : Int) ≤ k := by omega
            have HK := Lib.hid (show rdK rdWin y1 = (accw, y) from HN2.out.trans HR.out.symm)
            go_wp2
            all_goals try (exfalso; omega)
            go_meet
            exact Lib.hid ⟨_, _, _, _, HK.out, hys, HP.out⟩
          have hlt : (k : Int) < N2 := by omega
          cases z
          · skip
            have HS := Lib.hid (show rdL rdWin n (accw ++ [(rdWin y).1]) (rdWin y).2 = rdL rdWin N2 [] x2 from (rdL_step HZ.out).symm.trans HR.out)
            clear HR
            rw [rdWin_eq] at HS
            have hb0 := rd1_bd y
            have hle0 := rd1_le (x := y)
            obtain ⟨d0, ha0⟩ : ∃ z, (rd1 y).1 = z := ⟨_, rfl⟩
            obtain ⟨t0, hs0⟩ : ∃ z, (rd1 y).2 = z := ⟨_, rfl⟩
            rw [ha0] at hb0
            rw [hs0] at hle0
            rw [ha0, hs0] at HS
            have HVV0 := Lib.hid (And.intro ha0 hs0)
            clear ha0 hs0
            have hb1 := rd2_bd t0
            have hle1 := rd2_le (x := t0)
            obtain ⟨d1, ha1⟩ : ∃ z, (rd2 t0).1 = z := ⟨_, rfl⟩
            obtain ⟨t1, hs1⟩ : ∃ z, (rd2 t0).2 = z := ⟨_, rfl⟩
            rw [ha1] at hb1
            rw [hs1] at hle1
            rw [ha1, hs1] at HS
            have HVV1 := Lib.hid (And.intro ha1 hs1)
            clear ha1 hs1
            have hb2 := rd2_bd t1
            have hle2 := rd2_le (x := t1)
            obtain ⟨d2, ha2⟩ : ∃ z, (rd2 t1).1 = z := ⟨_, rfl⟩
            obtain ⟨t2, hs2⟩ : ∃ z, (rd2 t1).2 = z := ⟨_, rfl⟩
            rw [ha2] at hb2
            rw [hs2] at hle2
            rw [ha2, hs2] at HS
            have HVV2 := Lib.hid (And.intro ha2 hs2)
            clear ha2 hs2
            have hb3 := rd1_bd t2
            have hle3 := rd1_le (x := t2)
            obtain ⟨d3, ha3⟩ : ∃ z, (rd1 t2).1 = z := ⟨_, rfl⟩
            obtain ⟨t3, hs3⟩ : ∃ z, (rd1 t2).2 = z := ⟨_, rfl⟩
            rw [ha3] at hb3
            rw [hs3] at hle3
            rw [ha3, hs3] at HS
            have HVV3 := Lib.hid (And.intro ha3 hs3)
            clear ha3 hs3
            have hb4 := rd1_bd t3
            have hle4 := rd1_le (x := t3)
            obtain ⟨d4, ha4⟩ : ∃ z, (rd1 t3).1 = z := ⟨_, rfl⟩
            obtain ⟨t4, hs4⟩ : ∃ z, (rd1 t3).2 = z := ⟨_, rfl⟩
            rw [ha4] at hb4
            rw [hs4] at hle4
            rw [ha4, hs4] at HS
            have HVV4 := Lib.hid (And.intro ha4 hs4)
            clear ha4 hs4
            have hb5 := rd1_bd t4
            have hle5 := rd1_le (x := t4)
            obtain ⟨d5, ha5⟩ : ∃ z, (rd1 t4).1 = z := ⟨_, rfl⟩
            obtain ⟨t5, hs5⟩ : ∃ z, (rd1 t4).2 = z := ⟨_, rfl⟩
            rw [ha5] at hb5
            rw [hs5] at hle5
            rw [ha5, hs5] at HS
            have HVV5 := Lib.hid (And.intro ha5 hs5)
            clear ha5 hs5
            go_wp2_with fail
            all_goals try (exfalso; omega)
            refine (rr_one HP.out.own.get0 (by unfold maxLen; omega)).mono ?_
            rw [HVV0.out.1, HVV0.out.2]
            rintro e u0 ⟨rfl, hu⟩
            have HB0 := Lib.hid ((HP.out.read hu).alloc (.cells #[.int .i64 d0, .int .i64 0, .int .i64 0, .int .i64 0, .int .i64 0, .int .i64 0] 56))
            clear hu c1 hbl
            go_wp2_with fail
            refine (rr_two HB0.out.own.get0 (by unfold maxLen; omega)).mono ?_
            rw [HVV1.out.1, HVV1.out.2]
            rintro e u1 ⟨rfl, hu⟩
            have hQ := HB0.out.read hu
            have hbx := hQ.get (z := (u0.heap.size, .cells #[.int .i64 d0, .int .i64 0, .int .i64 0, .int .i64 0, .int .i64 0, .int .i64 0] 56)) (by simp)
            have q0 := (cell_of hbx 1).trans (show _ = some (Value.int .i64 0) from rfl)
            have q1 := free_of hbx 1
            have q2 := lt_of_heap hbx
            have HB1 := Lib.hid (hQ.box0 (z := (u0.heap.size, _)) ((Upd.setCell 1 (.int .i64 d1) (Upd.refl hbx)).of_eq (show _ = .cells #[.int .i64 d0, .int .i64 d1, .int .i64 0, .int .i64 0, .int .i64 0, .int .i64 0] 56 (0, 0) by simp)))
            clear hQ hbx hu HB0
            go_wp2_with fail
            refine (rr_two HB1.out.own.get0 (by unfold maxLen; omega)).mono ?_
            rw [HVV2.out.1, HVV2.out.2]
            rintro e u2 ⟨rfl, hu⟩
            have hQ := HB1.out.read hu
            have hbx := hQ.get (z := (u0.heap.size, .cells #[.int .i64 d0, .int .i64 d1, .int .i64 0, .int .i64 0, .int .i64 0, .int .i64 0] 56)) (by simp)
            clear q0 q1 q2
            have q0 := (cell_of hbx 2).trans (show _ = some (Value.int .i64 0) from rfl)
            have q1 := free_of hbx 2
            have q2 := lt_of_heap hbx
            have HB2 := Lib.hid (hQ.box0 (z := (u0.heap.size, _)) ((Upd.setCell 2 (.int .i64 d2) (Upd.refl hbx)).of_eq (show _ = .cells #[.int .i64 d0, .int .i64 d1, .int .i64 d2, .int .i64 0, .int .i64 0, .int .i64 0] 56 (0, 0) by simp)))
            clear hQ hbx hu HB1
            go_wp2_with fail
            refine (rr_one HB2.out.own.get0 (by unfold maxLen; omega)).mono ?_
            rw [HVV3.out.1, HVV3.out.2]
            rintro e u3 ⟨rfl, hu⟩
            have hQ := HB2.out.read hu
            have hbx := hQ.get (z := (u0.heap.size, .cells #[.int .i64 d0, .int .i64 d1, .int .i64 d2, .int .i64 0, .int .i64 0, .int .i64 0] 56)) (by simp)
            clear q0 q1 q2
            have q0 := (cell_of hbx 3).trans (show _ = some (Value.int .i64 0) from rfl)
            have q1 := free_of hbx 3
            have q2 := lt_of_heap hbx
            have HB3 := Lib.hid (hQ.box0 (z := (u0.heap.size, _)) ((Upd.setCell 3 (.int .i64 d3) (Upd.refl hbx)).of_eq (show _ = .cells #[.int .i64 d0, .int .i64 d1, .int .i64 d2, .int .i64 d3, .int .i64 0, .int .i64 0] 56 (0, 0) by simp)))
            clear hQ hbx hu HB2
            go_wp2_with fail
            refine (rr_one HB3.out.own.get0 (by unfold maxLen; omega)).mono ?_
            rw [HVV4.out.1, HVV4.out.2]
            rintro e u4 ⟨rfl, hu⟩
            have hQ := HB3.out.read hu
            have hbx := hQ.get (z := (u0.heap.size, .cells #[.int .i64 d0, .int .i64 d1, .int .i64 d2, .int .i64 d3, .int .i64 0, .int .i64 0] 56)) (by simp)
            clear q0 q1 q2
            have q0 := (cell_of hbx 4).trans (show _ = some (Value.int .i64 0) from rfl)
            have q1 := free_of hbx 4
            have q2 := lt_of_heap hbx
            have HB4 := Lib.hid (hQ.box0 (z := (u0.heap.size, _)) ((Upd.setCell 4 (.int .i64 d4) (Upd.refl hbx)).of_eq (show _ = .cells #[.int .i64 d0, .int .i64 d1, .int .i64 d2, .int .i64 d3, .int .i64 d4, .int .i64 0] 56 (0, 0) by simp)))
            clear hQ hbx hu HB3
            go_wp2_with fail
            refine (rr_one HB4.out.own.get0 (by unfold maxLen; omega)).mono ?_
            rw [HVV5.out.1, HVV5.out.2]
            rintro e u5 ⟨rfl, hu⟩
            have hQ := HB4.out.read hu
            have hbx := hQ.get (z := (u0.heap.size, .cells #[.int .i64 d0, .int .i64 d1, .int .i64 d2, .int .i64 d3, .int .i64 d4, .int .i64 0] 56)) (by simp)
            clear q0 q1 q2
            have q0 := (cell_of hbx 5).trans (show _ = some (Value.int .i64 0) from rfl)
            have q1 := free_of hbx 5
            have q2 := lt_of_heap hbx
            have HB5 := Lib.hid (hQ.box0 (z := (u0.heap.size, _)) ((Upd.setCell 5 (.int .i64 d5) (Upd.refl hbx)).of_eq (show _ = .cells #[.int .i64 d0, .int .i64 d1, .int .i64 d2, .int .i64 d3, .int .i64 d4, .int .i64 d5] 56 (0, 0) by simp)))
            clear hQ hbx hu HB4
            go_upto_region 35 with fail
            refine prs_out HB5.out ?_
            clear q0 q1 q2 HB5
            intro w4 hP4
            have hbx := hP4.get (z := (u0.heap.size, .cells #[.int .i64 d0, .int .i64 d1, .int .i64 d2, .int .i64 d3, .int .i64 d4, .int .i64 d5] 56)) (by simp)
            have q0 := (cell_of hbx 0).trans (show _ = some (Value.int .i64 d0) from rfl)
            have q1 := (cell_of hbx 1).trans (show _ = some (Value.int .i64 d1) from rfl)
            have q2 := (cell_of hbx 2).trans (show _ = some (Value.int .i64 d2) from rfl)
            have q3 := (cell_of hbx 3).trans (show _ = some (Value.int .i64 d3) from rfl)
            have q4 := (cell_of hbx 4).trans (show _ = some (Value.int .i64 d4) from rfl)
            have q5 := (cell_of hbx 5).trans (show _ = some (Value.int .i64 d5) from rfl)
            have ql := lt_of_heap hbx
            have c8 := (cell_of hP4.box 10).trans (show _ = some v3 from rfl)
            have hml := lt_of_heap hP4.box
            have HDA := Lib.hid (hP4.keep ((Below.refl _ _).alloc (Nat.le_refl _) (.cells #[.int .i64 d0, .int .i64 d1, .int .i64 d2, .int .i64 d3, .int .i64 d4, .int .i64 d5] 56)))
            have HNW := Lib.hid (World.news_of_block (cs := #[.int .i64 d0, .int .i64 d1, .int .i64 d2, .int .i64 d3, .int .i64 d4, .int .i64 d5]) (t := 56) (fr := (0, 0)) (heap_alloc_new w4 _))
            have hsz := hP4.sz
            clear hbx hP4
            go_wp2_with (at_builtin; refine wpList_append_lies _ rfl _ _ 25 rfl w.heap.size 56 i3 _ 6 48 Try.underlying25 hi3 hj3 hk3 hl3 rfl (by decide) v3 accw.length _ rfl HDA.out.owns3 ⟨w4.heap.size, 0, none⟩ 1 1 [.int .i64 d0, .int .i64 d1, .int .i64 d2, .int .i64 d3, .int .i64 d4, .int .i64 d5] rfl rfl HNW.out (by simp [Value.oneCell']) (by decide) (by unfold maxLen; omega) (by omega) (by simp; omega) (w4.heap.size + 1) (by simp) ?_)
            intro g cap w3 hown1 hgrow hat hlt3
            obtain ⟨Lx, hR', hO'⟩ := HDA.out.grown3 hown1 hgrow (by simpa using hat)
            have hb3 := hO'.get1
            have z1 := free_of hb3 10
            have z2 := cell_of hb3 10
            have z3 := lt_of_heap hb3
            simp [boxM] at z2
            have HRR := Lib.hid hR'
            have HOO := Lib.hid hO'
            clear hown1 hgrow hat hR' hO' hb3
            go_wp2_with fail
            have hu := (Upd.setCell 10 (.slice (some ⟨g, 0, none⟩) (accw.length + 1) cap) (Upd.refl HOO.out.get1)).of_eq (show _ = boxM ⟨a0, a1, a2, a3, a4, a5, a6, a7, acc, accm, accw ++ [⟨d0, d1, d2, d3, d4, d5⟩]⟩ v1 v2 (.slice (some ⟨g, 0, none⟩) (accw.length + 1) cap) by simp [boxM])
            have HF := Lib.hid (show Prs rrO w.heap.size w (w.heap.size + 1) (w.heap.size + 2) ⟨a0, a1, a2, a3, a4, a5, a6, a7, acc, accm, accw ++ [⟨d0, d1, d2, d3, d4, d5⟩]⟩ t5 [(w.heap.size, boxM zeroM' (.slice none 0 0) (.slice none 0 0) (.slice none 0 0))] v1 v2 (.slice (some ⟨g, 0, none⟩) (accw.length + 1) cap) L1 L2 Lx _ from Prs.drop (z := (u0.heap.size, _)) ⟨HDA.out.r1, HDA.out.r2, by simpa [winC] using HRR.out, HOO.out.upd1 hu⟩)
            clear hu
            go_roundw
            case rel => exact ⟨k + 1, n, accw ++ [⟨d0, d1, d2, d3, d4, d5⟩], t5, _, _, by go_num, by omega, by simp; omega, by omega, HS, HF⟩
            case measure => (simp [intOf]; try omega)
          · skip
            have HK := Lib.hid (show rdK rdWin y1 = (accw, y) from HN2.out.trans (HR.out.symm.trans (rdL_stop HZ.out)))
            go_wp2
            all_goals try (exfalso; omega)
            go_meet
            exact Lib.hid ⟨_, _, _, _, HK.out, hys, HP.out⟩
      case rest =>
        obtain ⟨accw, y2, v3, L3, hk2, hys2, hP⟩ := hcut.out
        have HK2 := Lib.hid hk2
        have HP := Lib.hid hP
        clear HP1 hP hk2 hcut HN2
        have z1c := True.intro
        obtain ⟨t1, p1, rfl, zz1, zz2⟩ := HP.out.r1.form
        obtain ⟨t2, p2, rfl, zz3, zz4⟩ := HP.out.r2.form
        obtain ⟨t3, p3, rfl, zz5, zz6⟩ := HP.out.r3.form
        clear zz1 zz2 zz3 zz4 zz5 zz6 z1c
        have hpr : parseR b = ((⟨a0, a1, a2, a3, a4, a5, a6, a7, acc, accm, accw⟩ : Mat), y2) := by rw [HPRR.out, HK0.out, HK1.out, HK2.out]
        have c1 := (cell_of HP.out.own.get0 1).trans (show _ = some (Value.bool y2.sh) from rfl)
        have cl := lt_of_heap HP.out.own.get0
        obtain ⟨z, hz⟩ : ∃ z, y2.sh = z := ⟨_, rfl⟩
        rw [hz] at c1
        have hrv := HP.out.get (z := (w.heap.size, boxM zeroM' (.slice none 0 0) (.slice none 0 0) (.slice none 0 0))) (by simp)
        cases z
        rotate_left
        · have hok : okE b = false := by
            unfold okE
            rw [hpr, hz]
            simp
          have HP1 := Lib.hid (show pmE b = zeroM' by unfold pmE; rw [hok]; rfl)
          have HP2 := Lib.hid hok
          have HU := Lib.hid (upd_mat hrv zeroM' (.slice none 0 0) (.slice none 0 0) (.slice none 0 0))
          have g0 := free_of hrv
          obtain ⟨g1, g2, g3, g4, g5, g6, g7, g8, g9, g10, g11⟩ := boxM_c hrv
          have gl := lt_of_heap hrv
          have HRV := Lib.hid (HU.out.below HP.out.bel (Nat.le_refl _) HP.out.sz)
          clear hok hrv hz hpr
          go_wp2
          refine bodyPost_ret (results_rparse rfl rfl HU.out.blk) rfl ⟨.slice none 0 0, .slice none 0 0, .slice none 0 0, by rw [HP1.out, HP2.out], HRV.out, by rw [HP1.out]; exact zeroM_rd' _⟩
        have hRM : RdM wc (⟨a0, a1, a2, a3, a4, a5, a6, a7, acc, accm, accw⟩ : Mat) (.slice t1 acc.length p1) (.slice t2 accm.length p2) (.slice t3 accw.length p3) := HP.out.rd (by have := parseR_ok b; rw [hpr] at this; exact this)
        have hfits : okE b = decide (printE (⟨a0, a1, a2, a3, a4, a5, a6, a7, acc, accm, accw⟩ : Mat) = b) := by
          unfold okE
          rw [hpr]
          simp [hs4, hz]
        have hpm : okE b = true → pmE b = (⟨a0, a1, a2, a3, a4, a5, a6, a7, acc, accm, accw⟩ : Mat) := by
          intro h
          unfold pmE
          rw [h, hpr]
          rfl
        have HRM := Lib.hid hRM
        have HF := Lib.hid hfits
        have HPM := Lib.hid hpm
        clear hRM hfits hpm hz hpr hrv
        obtain ⟨k1, k2, k3, k4, k5, k6, k7, k8, k9, k10, k11⟩ := boxM_c HP.out.box
        have kl := lt_of_heap HP.out.box
        simp only at k1 k2 k3 k4 k5 k6 k7 k8
        go_wp2_with fail
        refine (rf_print HRM.out).mono ?_
        rintro e w3 ⟨rfl, hB⟩
        have HR3 := Lib.hid (HP.out.keep hB)
        have HRM3 := Lib.hid (HRM.out.keep hB)
        clear k1 k2 k3 k4 k5 k6 k7 k8 k9 k10 k11 kl c1 cl HP HRM hB
        have hrv := HR3.out.get (z := (w.heap.size, boxM zeroM' (.slice none 0 0) (.slice none 0 0) (.slice none 0 0))) (by simp)
        by_cases heq : printE (⟨a0, a1, a2, a3, a4, a5, a6, a7, acc, accm, accw⟩ : Mat) = b
        · have hok : okE b = true := by rw [HF.out]; simpa using heq
          have HP1 := Lib.hid (HPM.out hok)
          have HP2 := Lib.hid hok
          have hu := upd_mat hrv (⟨a0, a1, a2, a3, a4, a5, a6, a7, acc, accm, accw⟩ : Mat) (.slice t1 acc.length p1) (.slice t2 accm.length p2) (.slice t3 accw.length p3)
          have HRV := Lib.hid (hu.below HR3.out.bel (Nat.le_refl _) HR3.out.sz)
          have HRD := Lib.hid (show RdM _ (⟨a0, a1, a2, a3, a4, a5, a6, a7, acc, accm, accw⟩ : Mat) (.slice t1 acc.length p1) (.slice t2 accm.length p2) (.slice t3 accw.length p3) from (Prs.box0 HR3.out hu).rd HRM3.out.ok)
          have HU := Lib.hid hu
          have g0 := free_of hrv
          obtain ⟨g1, g2, g3, g4, g5, g6, g7, g8, g9, g10, g11⟩ := boxM_c hrv
          have gl := lt_of_heap hrv
          obtain ⟨k1, k2, k3, k4, k5, k6, k7, k8, k9, k10, k11⟩ := boxM_c HR3.out.box
          have kl := lt_of_heap HR3.out.box
          simp only at k1 k2 k3 k4 k5 k6 k7 k8
          clear hok hrv hu
          rw [heq]
          go_wp2
          refine bodyPost_ret (results_rparse rfl rfl HU.out.blk) rfl ⟨_, _, _, by rw [HP1.out, HP2.out], HRV.out, by rw [HP1.out]; exact HRD.out⟩
        · have hok : okE b = false := by rw [HF.out]; simpa using heq
          have HP1 := Lib.hid (show pmE b = zeroM' by unfold pmE; rw [hok]; rfl)
          have HP2 := Lib.hid hok
          have HU := Lib.hid (upd_mat hrv zeroM' (.slice none 0 0) (.slice none 0 0) (.slice none 0 0))
          have HRV := Lib.hid (HU.out.below HR3.out.bel (Nat.le_refl _) HR3.out.sz)
          have g0 := free_of hrv
          obtain ⟨g1, g2, g3, g4, g5, g6, g7, g8, g9, g10, g11⟩ := boxM_c hrv
          have gl := lt_of_heap hrv
          have hqt : (!(printE (⟨a0, a1, a2, a3, a4, a5, a6, a7, acc, accm, accw⟩ : Mat)).toList == b.toList) = true := by simpa using fun h => heq (tl_inj h)
          obtain ⟨pp, hpp⟩ : ∃ p, printE (⟨a0, a1, a2, a3, a4, a5, a6, a7, acc, accm, accw⟩ : Mat) = p := ⟨_, rfl⟩
          rw [hpp] at hqt ⊢
          clear hok hrv heq hpp
          go_wp2
          refine bodyPost_ret (results_rparse rfl rfl HU.out.blk) rfl ⟨.slice none 0 0, .slice none 0 0, .slice none 0 0, by rw [HP1.out, HP2.out], HRV.out, by rw [HP1.out]; exact zeroM_rd' _⟩
end Go.Proofs.Ythkhlcigegbpfaa
