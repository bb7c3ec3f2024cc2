/- config.Parse. -/
import Derived.Test.YthkhlcigegbpfaaLists2
namespace Go.Proofs.Ythkhlcigegbpfaa
set_option linter.unusedVariables false
set_option linter.unusedSimpArgs false
open Go.ChangeShapes Go.WideShapes Go.ChangeAt Go.RowKit Go.Deep

theorem rdHead_eq (x : Rs) : rdHead x = (⟨(rd1 x).1, (rd1 (rd1 x).2).1, (rd1 (rd1 (rd1 x).2).2).1, (rd2 (rd1 (rd1 (rd1 x).2).2).2).1, (rd1 (rd2 (rd1 (rd1 (rd1 x).2).2).2).2).1, (rd1 (rd1 (rd2 (rd1 (rd1 (rd1 x).2).2).2).2).2).1,
    (rd2 (rd1 (rd1 (rd2 (rd1 (rd1 (rd1 x).2).2).2).2).2).2).1, (rd2 (rd2 (rd1 (rd1 (rd2 (rd1 (rd1 (rd1 x).2).2).2).2).2).2).2).1, [], [], []⟩, (rd2 (rd2 (rd1 (rd1 (rd2 (rd1 (rd1 (rd1 x).2).2).2).2).2).2).2).2) := rfl
theorem parseR_eq (b : ByteArray) : parseR b = rdLists (rdHead (rd1 ⟨b, false⟩).2).1 (rdHead (rd1 ⟨b, false⟩).2).2 := rfl
theorem Prs.fld {R : Rs → Obj} {B br bm : Nat} {w0 w w' : World} {m m' : Mat} {x : Rs} {L L1 L2 L3 : List (Nat × Obj)} {v1 v2 v3 : Value} (h : Prs R B w0 br bm m x L v1 v2 v3 L1 L2 L3 w) (e1 : m'.masters = m.masters) (e2 : m'.msgs = m.msgs) (e3 : m'.wins = m.wins)
    (u : Upd bm (boxM m' v1 v2 v3) w w') : Prs R B w0 br bm m' x L v1 v2 v3 L1 L2 L3 w' := ⟨by rw [e1]; exact h.r1, by rw [e2]; exact h.r2, by rw [e3]; exact h.r3, h.own.upd1 u⟩
theorem tl_inj {s t : ByteArray} (h : s.toList = t.toList) : s = t := by
  have key : ∀ s : ByteArray, s.toList = s.data.toList := by
    intro s
    have hl : ∀ (n i : Nat) (r : List UInt8), s.size - i = n → ByteArray.toList.loop s i r = r.reverse ++ s.data.toList.drop i := by
      intro n
      induction n with
      | zero =>
        intro i r h
        unfold ByteArray.toList.loop
        rw [if_neg (by omega), List.drop_eq_nil_of_le (by rw [Array.length_toList]; have : s.size = s.data.size := rfl; omega), List.append_nil]
      | succ n ih =>
        intro i r h
        have hi : i < s.data.toList.length := by rw [Array.length_toList]; have : s.size = s.data.size := rfl; omega
        unfold ByteArray.toList.loop
        rw [if_pos (by omega), ih _ _ (by omega), List.drop_eq_getElem_cons hi]
        have hi' : i < s.data.size := by rwa [Array.length_toList] at hi
        have hg : s.get! i = s.data.toList[i] := by
          show s.data[i]! = _
          rw [getElem!_pos s.data i hi']
          rfl
        rw [hg]
        simp
    unfold ByteArray.toList
    rw [hl _ 0 [] rfl]
    simp
  rw [key, key] at h
  obtain ⟨⟨a⟩⟩ := s
  obtain ⟨⟨b⟩⟩ := t
  simp at h
  rw [h]
def PostP (b : ByteArray) (w : World) (e : Ending) (w' : World) : Prop :=
  ∃ s1 s2 s3, e = .returned (.tuple #[matV (pmE b) s1 s2 s3, .int .i64 (peE b)]) ∧ Below w.heap.size w w' ∧ RdM w' (pmE b) s1 s2 s3
theorem zeroM_rd' (w : World) : RdM w zeroM' (.slice none 0 0) (.slice none 0 0) (.slice none 0 0) := by
  refine ⟨⟨by decide, by decide, by decide, by decide, by decide, by decide, by decide, by decide, ?_, ?_, ?_⟩, ?_, ?_, ?_⟩
  · intro x hx; simp [zeroM'] at hx
  · intro x hx; simp [zeroM'] at hx
  · intro x hx; simp [zeroM'] at hx
  all_goals exact ⟨none, 0, rfl, by simp [zeroM'], by simp [maxLen], fun i x hi => by simp [zeroM'] at hi⟩
theorem upd_mat {w : World} {b : Nat} {m0 : Mat} {t1 t2 t3 : Value} (h : w.heap[b]? = some (boxM m0 t1 t2 t3)) (m : Mat) (s1 s2 s3 : Value) : Upd b (boxM m s1 s2 s3) w
    (((((((((((w.setCell ⟨b, 0, none⟩ (.int .i64 m.level)).setCell ⟨b, 1, none⟩ (.int .i64 m.nodes)).setCell ⟨b, 2, none⟩ (.int .i64 m.cycles)).setCell ⟨b, 3, none⟩ (.int .i64 m.length)).setCell ⟨b, 4, none⟩ (.int .i64 m.enable)).setCell ⟨b, 5, none⟩ (.int .i64 m.unit)).setCell ⟨b, 6, none⟩ (.int .i64 m.init)).setCell ⟨b, 7, none⟩ (.int .u32 m.ref)).setCell ⟨b, 8, none⟩ s1).setCell ⟨b, 9, none⟩ s2).setCell ⟨b, 10, none⟩ s3) :=
  (((((((((((Upd.refl h).setCell 0 (.int .i64 m.level)).setCell 1 (.int .i64 m.nodes)).setCell 2 (.int .i64 m.cycles)).setCell 3 (.int .i64 m.length)).setCell 4 (.int .i64 m.enable)).setCell 5 (.int .i64 m.unit)).setCell 6 (.int .i64 m.init)).setCell 7 (.int .u32 m.ref)).setCell 8 s1).setCell 9 s2).setCell 10 s3 |>.of_eq (by simp [boxM])
theorem results_parse {w : World} {b : Nat} {m : Mat} {s1 s2 s3 : Value} {tmps : Array Value} {n : Int} (ht : tmps.getD 2 undef = .pointer (some ⟨b, 0, none⟩)) (ht3 : tmps.getD 3 undef = .int .i64 n) (h : w.heap[b]? = some (boxM m s1 s2 s3)) :
    (results Try.f46 tmps).run Try.prog w = .ok (.tuple #[matV m s1 s2 s3, .int .i64 n]) w := by
  obtain ⟨r0, r1, r2, r3, r4, r5, r6, r7, r8, r9, r10⟩ := boxM_c h
  have ht' : tmps[2]?.getD undef = .pointer (some ⟨b, 0, none⟩) := by simpa using ht
  have ht3' : tmps[3]?.getD undef = .int .i64 n := by simpa using ht3
  simp [results, Try.results46, go_sem, ht', ht3', r0, r1, r2, r3, r4, r5, r6, r7, r8, r9, r10, matV]
set_option maxRecDepth 100000 in
set_option maxHeartbeats 4000000 in
theorem cf_parse {w : World} (b : ByteArray) (hb : b.size ≤ maxLen) : Calls Try.prog 46 #[.string b] w (PostP b w) := by
  unfold maxLen at hb
  have hO0 := (Own.nil_ (Below.refl w.heap.size w) (Nat.le_refl _)).alloc (boxM zeroM' (.slice none 0 0) (.slice none 0 0) (.slice none 0 0))
  by_cases h400 : 400 < b.size
  · have hok : okE b = false := by
      unfold okE
      rw [show decide (b.size ≤ 400) = false by simpa using h400]
      rfl
    have h4 : (400 : Int) < b.size := by omega
    have HP1 := Lib.hid (show pmE b = zeroM' by unfold pmE; rw [hok]; rfl)
    have HP2 := Lib.hid (show peE b = 130 by unfold peE; rw [hok]; rfl)
    have HO := Lib.hid hO0
    clear hok hO0
    go_enter Try.func46, Try.ntmps46
    go_wp2
    all_goals try (exfalso; omega)
    refine bodyPost_ret (results_parse rfl rfl HO.out.get0) rfl ⟨.slice none 0 0, .slice none 0 0, .slice none 0 0, by rw [HP1.out, HP2.out], HO.out.bel, by rw [HP1.out]; exact zeroM_rd' _⟩
  have hs4 : b.size ≤ 400 := by omega
  have h4 : (b.size : Int) ≤ 400 := by omega
  have HPR := parseR_eq b
  rw [rdHead_eq] at HPR
  have hle := rd1_le (x := ⟨b, false⟩)
  obtain ⟨x1, hx1⟩ : ∃ z, (rd1 ⟨b, false⟩).2 = z := ⟨_, rfl⟩
  obtain ⟨a, ha⟩ : ∃ z, (rd1 ⟨b, false⟩).1 = z := ⟨_, rfl⟩
  rw [hx1] at HPR hle
  have HV := Lib.hid (And.intro ha hx1)
  clear ha hx1 h400
  simp only at hle
  have hb0 := rd1_bd x1
  have hle0 := rd1_le (x := x1)
  obtain ⟨a0, ha0⟩ : ∃ z, (rd1 x1).1 = z := ⟨_, rfl⟩
  obtain ⟨s0, hs0⟩ : ∃ z, (rd1 x1).2 = z := ⟨_, rfl⟩
  rw [ha0] at hb0
  rw [hs0] at hle0
  rw [ha0, hs0] at HPR
  have HV0 := Lib.hid (And.intro ha0 hs0)
  clear ha0 hs0
  have hb1 := rd1_bd s0
  have hle1 := rd1_le (x := s0)
  obtain ⟨a1, ha1⟩ : ∃ z, (rd1 s0).1 = z := ⟨_, rfl⟩
  obtain ⟨s1, hs1⟩ : ∃ z, (rd1 s0).2 = z := ⟨_, rfl⟩
  rw [ha1] at hb1
  rw [hs1] at hle1
  rw [ha1, hs1] at HPR
  have HV1 := Lib.hid (And.intro ha1 hs1)
  clear ha1 hs1
  have hb2 := rd1_bd s1
  have hle2 := rd1_le (x := s1)
  obtain ⟨a2, ha2⟩ : ∃ z, (rd1 s1).1 = z := ⟨_, rfl⟩
  obtain ⟨s2, hs2⟩ : ∃ z, (rd1 s1).2 = z := ⟨_, rfl⟩
  rw [ha2] at hb2
  rw [hs2] at hle2
  rw [ha2, hs2] at HPR
  have HV2 := Lib.hid (And.intro ha2 hs2)
  clear ha2 hs2
  have hb3 := rd2_bd s2
  have hle3 := rd2_le (x := s2)
  obtain ⟨a3, ha3⟩ : ∃ z, (rd2 s2).1 = z := ⟨_, rfl⟩
  obtain ⟨s3, hs3⟩ : ∃ z, (rd2 s2).2 = z := ⟨_, rfl⟩
  rw [ha3] at hb3
  rw [hs3] at hle3
  rw [ha3, hs3] at HPR
  have HV3 := Lib.hid (And.intro ha3 hs3)
  clear ha3 hs3
  have hb4 := rd1_bd s3
  have hle4 := rd1_le (x := s3)
  obtain ⟨a4, ha4⟩ : ∃ z, (rd1 s3).1 = z := ⟨_, rfl⟩
  obtain ⟨s4, hs4⟩ : ∃ z, (rd1 s3).2 = z := ⟨_, rfl⟩
  rw [ha4] at hb4
  rw [hs4] at hle4
  rw [ha4, hs4] at HPR
  have HV4 := Lib.hid (And.intro ha4 hs4)
  clear ha4 hs4
  have hb5 := rd1_bd s4
  have hle5 := rd1_le (x := s4)
  obtain ⟨a5, ha5⟩ : ∃ z, (rd1 s4).1 = z := ⟨_, rfl⟩
  obtain ⟨s5, hs5⟩ : ∃ z, (rd1 s4).2 = z := ⟨_, rfl⟩
  rw [ha5] at hb5
  rw [hs5] at hle5
  rw [ha5, hs5] at HPR
  have HV5 := Lib.hid (And.intro ha5 hs5)
  clear ha5 hs5
  have hb6 := rd2_bd s5
  have hle6 := rd2_le (x := s5)
  obtain ⟨a6, ha6⟩ : ∃ z, (rd2 s5).1 = z := ⟨_, rfl⟩
  obtain ⟨s6, hs6⟩ : ∃ z, (rd2 s5).2 = z := ⟨_, rfl⟩
  rw [ha6] at hb6
  rw [hs6] at hle6
  rw [ha6, hs6] at HPR
  have HV6 := Lib.hid (And.intro ha6 hs6)
  clear ha6 hs6
  have hb7 := rd2_bd s6
  have hle7 := rd2_le (x := s6)
  obtain ⟨a7, ha7⟩ : ∃ z, (rd2 s6).1 = z := ⟨_, rfl⟩
  obtain ⟨s7, hs7⟩ : ∃ z, (rd2 s6).2 = z := ⟨_, rfl⟩
  rw [ha7] at hb7
  rw [hs7] at hle7
  rw [ha7, hs7] at HPR
  have HV7 := Lib.hid (And.intro ha7 hs7)
  clear ha7 hs7
  simp only at HPR
  have HPRR := Lib.hid HPR
  clear HPR
  have HO := Lib.hid ((hO0.alloc (rnO ⟨b, false⟩)))
  have hsz0 : ∀ o : Obj, (w.alloc o).heap.size = w.heap.size + 1 := fun o => by simp
  replace HO := Lib.hid (hsz0 _ ▸ HO.out)
  clear hO0 hsz0
  go_enter Try.func46, Try.ntmps46
  go_wp2_with fail
  all_goals try (exfalso; omega)
  refine (own_upd0 HO.out (rn_one HO.out.get0 (by unfold maxLen; simp only; omega))).mono ?_
  rw [HV.out.1, HV.out.2]
  rintro e w1 ⟨rfl, hO⟩
  have hP : Prs rnO w.heap.size w (w.heap.size + 1) w1.heap.size zeroM' x1 [(w.heap.size, boxM zeroM' (.slice none 0 0) (.slice none 0 0) (.slice none 0 0))] (.slice none 0 0) (.slice none 0 0) (.slice none 0 0) [] [] [] (w1.alloc (boxM zeroM' (.slice none 0 0) (.slice none 0 0) (.slice none 0 0))) :=
    ⟨RowL.none_ _ _, RowL.none_ _ _, RowL.none_ _ _, (hO.alloc (boxM zeroM' (.slice none 0 0) (.slice none 0 0) (.slice none 0 0))).perm' (List.Perm.swap _ _ _)⟩
  have HP := Lib.hid hP
  clear hP hO HO
  go_wp2_with fail
  refine (rn_one HP.out.own.get0 (by unfold maxLen; omega)).mono ?_
  rw [HV0.out.1, HV0.out.2]
  rintro e u0 ⟨rfl, hu⟩
  have hQ := HP.out.read hu
  have q0 := (cell_of hQ.box 0).trans (show _ = some (Value.int .i64 0) from rfl)
  have q1 := free_of hQ.box 0
  have q2 := lt_of_heap hQ.box
  have HW0 := Lib.hid (hQ.fld (m' := ⟨a0, 0, 0, 0, 0, 0, 0, 0, [], [], []⟩) rfl rfl rfl ((Upd.setCell 0 (.int .i64 a0) (Upd.refl hQ.box)).of_eq (by simp [boxM, zeroM'])))
  clear hQ hu HP
  go_wp2_with fail
  refine (rn_one HW0.out.own.get0 (by unfold maxLen; omega)).mono ?_
  rw [HV1.out.1, HV1.out.2]
  rintro e u1 ⟨rfl, hu⟩
  have hQ := HW0.out.read hu
  clear q0 q1 q2
  have q0 := (cell_of hQ.box 1).trans (show _ = some (Value.int .i64 0) from rfl)
  have q1 := free_of hQ.box 1
  have q2 := lt_of_heap hQ.box
  have HW1 := Lib.hid (hQ.fld (m' := ⟨a0, a1, 0, 0, 0, 0, 0, 0, [], [], []⟩) rfl rfl rfl ((Upd.setCell 1 (.int .i64 a1) (Upd.refl hQ.box)).of_eq (by simp [boxM, zeroM'])))
  clear hQ hu HW0
  go_wp2_with fail
  refine (rn_one HW1.out.own.get0 (by unfold maxLen; omega)).mono ?_
  rw [HV2.out.1, HV2.out.2]
  rintro e u2 ⟨rfl, hu⟩
  have hQ := HW1.out.read hu
  clear q0 q1 q2
  have q0 := (cell_of hQ.box 2).trans (show _ = some (Value.int .i64 0) from rfl)
  have q1 := free_of hQ.box 2
  have q2 := lt_of_heap hQ.box
  have HW2 := Lib.hid (hQ.fld (m' := ⟨a0, a1, a2, 0, 0, 0, 0, 0, [], [], []⟩) rfl rfl rfl ((Upd.setCell 2 (.int .i64 a2) (Upd.refl hQ.box)).of_eq (by simp [boxM, zeroM'])))
  clear hQ hu HW1
  go_wp2_with fail
  refine (rn_two HW2.out.own.get0 (by unfold maxLen; omega)).mono ?_
  rw [HV3.out.1, HV3.out.2]
  rintro e u3 ⟨rfl, hu⟩
  have hQ := HW2.out.read hu
  clear q0 q1 q2
  have q0 := (cell_of hQ.box 3).trans (show _ = some (Value.int .i64 0) from rfl)
  have q1 := free_of hQ.box 3
  have q2 := lt_of_heap hQ.box
  have HW3 := Lib.hid (hQ.fld (m' := ⟨a0, a1, a2, a3, 0, 0, 0, 0, [], [], []⟩) rfl rfl rfl ((Upd.setCell 3 (.int .i64 a3) (Upd.refl hQ.box)).of_eq (by simp [boxM, zeroM'])))
  clear hQ hu HW2
  go_wp2_with fail
  refine (rn_one HW3.out.own.get0 (by unfold maxLen; omega)).mono ?_
  rw [HV4.out.1, HV4.out.2]
  rintro e u4 ⟨rfl, hu⟩
  have hQ := HW3.out.read hu
  clear q0 q1 q2
  have q0 := (cell_of hQ.box 4).trans (show _ = some (Value.int .i64 0) from rfl)
  have q1 := free_of hQ.box 4
  have q2 := lt_of_heap hQ.box
  have HW4 := Lib.hid (hQ.fld (m' := ⟨a0, a1, a2, a3, a4, 0, 0, 0, [], [], []⟩) rfl rfl rfl ((Upd.setCell 4 (.int .i64 a4) (Upd.refl hQ.box)).of_eq (by simp [boxM, zeroM'])))
  clear hQ hu HW3
  go_wp2_with fail
  refine (rn_one HW4.out.own.get0 (by unfold maxLen; omega)).mono ?_
  rw [HV5.out.1, HV5.out.2]
  rintro e u5 ⟨rfl, hu⟩
  have hQ := HW4.out.read hu
  clear q0 q1 q2
  have q0 := (cell_of hQ.box 5).trans (show _ = some (Value.int .i64 0) from rfl)
  have q1 := free_of hQ.box 5
  have q2 := lt_of_heap hQ.box
  have HW5 := Lib.hid (hQ.fld (m' := ⟨a0, a1, a2, a3, a4, a5, 0, 0, [], [], []⟩) rfl rfl rfl ((Upd.setCell 5 (.int .i64 a5) (Upd.refl hQ.box)).of_eq (by simp [boxM, zeroM'])))
  clear hQ hu HW4
  go_wp2_with fail
  refine (rn_two HW5.out.own.get0 (by unfold maxLen; omega)).mono ?_
  rw [HV6.out.1, HV6.out.2]
  rintro e u6 ⟨rfl, hu⟩
  have hQ := HW5.out.read hu
  clear q0 q1 q2
  have q0 := (cell_of hQ.box 6).trans (show _ = some (Value.int .i64 0) from rfl)
  have q1 := free_of hQ.box 6
  have q2 := lt_of_heap hQ.box
  have HW6 := Lib.hid (hQ.fld (m' := ⟨a0, a1, a2, a3, a4, a5, a6, 0, [], [], []⟩) rfl rfl rfl ((Upd.setCell 6 (.int .i64 a6) (Upd.refl hQ.box)).of_eq (by simp [boxM, zeroM'])))
  clear hQ hu HW5
  go_wp2_with fail
  refine (rn_two HW6.out.own.get0 (by unfold maxLen; omega)).mono ?_
  rw [HV7.out.1, HV7.out.2]
  rintro e u7 ⟨rfl, hu⟩
  have hQ := HW6.out.read hu
  clear q0 q1 q2
  have q0 := (cell_of hQ.box 7).trans (show _ = some (Value.int .u32 0) from rfl)
  have q1 := free_of hQ.box 7
  have q2 := lt_of_heap hQ.box
  have HW7 := Lib.hid (hQ.fld (m' := ⟨a0, a1, a2, a3, a4, a5, a6, a7, [], [], []⟩) rfl rfl rfl ((Upd.setCell 7 (.int .u32 a7) (Upd.refl hQ.box)).of_eq (by simp [boxM, zeroM'])))
  clear hQ hu HW6
  go_wp2_with fail
  refine (rn_lists (m := ⟨a0, a1, a2, a3, a4, a5, a6, a7, [], [], []⟩) ⟨rfl, rfl, rfl⟩ (by omega) HW7.out).mono ?_
  clear q0 q1 q2 HW7
  rintro e w2 ⟨rfl, m', x', v1, v2, v3, L1, L2, L3, hP, hsh, himp⟩
  rw [← HPRR.out] at hsh himp
  obtain ⟨t1, p1, rfl, zz1, zz2⟩ := hP.r1.form
  obtain ⟨t2, p2, rfl, zz3, zz4⟩ := hP.r2.form
  obtain ⟨t3, p3, rfl, zz5, zz6⟩ := hP.r3.form
  clear zz1 zz2 zz3 zz4 zz5 zz6
  have HR := Lib.hid hP
  have c1 := (cell_of hP.own.get0 1).trans (show _ = some (Value.bool x'.sh) from rfl)
  have cl := lt_of_heap hP.own.get0
  obtain ⟨z, hz⟩ : ∃ z, x'.sh = z := ⟨_, rfl⟩
  rw [hz] at c1 himp hsh
  clear hz hP
  have hrv := HR.out.get (z := (w.heap.size, boxM zeroM' (.slice none 0 0) (.slice none 0 0) (.slice none 0 0))) (by simp)
  cases z
  rotate_left
  · have hok : okE b = false := by
      unfold okE
      rw [← hsh]
      simp
    have HP1 := Lib.hid (show pmE b = zeroM' by unfold pmE; rw [hok]; rfl)
    have HP2 := Lib.hid (show peE b = 130 by unfold peE; rw [hok]; rfl)
    have HU := Lib.hid (upd_mat hrv zeroM' (.slice none 0 0) (.slice none 0 0) (.slice none 0 0))
    have g0 := free_of hrv
    have gc := boxM_c hrv
    obtain ⟨g1, g2, g3, g4, g5, g6, g7, g8, g9, g10, g11⟩ := gc
    have gl := lt_of_heap hrv
    clear hok hrv hsh himp
    have HRV := Lib.hid (HU.out.below HR.out.bel (Nat.le_refl _) HR.out.sz)
    go_wp2
    refine bodyPost_ret (results_parse rfl rfl HU.out.blk) rfl ⟨.slice none 0 0, .slice none 0 0, .slice none 0 0, by rw [HP1.out, HP2.out], HRV.out, by rw [HP1.out]; exact zeroM_rd' _⟩
  have hm' := himp rfl
  have hRM : RdM w2 m' _ _ _ := HR.out.rd (by rw [hm']; exact parseR_ok b)
  have hfits : okE b = decide (printE m' = b) := by
    unfold okE
    rw [← hsh, ← hm']
    simp [hs4]
  have HM := Lib.hid hm'
  have HRM := Lib.hid hRM
  have HF := Lib.hid hfits
  clear hm' hRM hfits himp hsh
  obtain ⟨k1, k2, k3, k4, k5, k6, k7, k8, k9, k10, k11⟩ := boxM_c HR.out.box
  have kl := lt_of_heap HR.out.box
  go_wp2_with fail
  refine (cf_print HRM.out).mono ?_
  rintro e w3 ⟨rfl, hB⟩
  have HR3 := Lib.hid (HR.out.keep hB)
  have HRM3 := Lib.hid (HRM.out.keep hB)
  clear k1 k2 k3 k4 k5 k6 k7 k8 k9 k10 k11 kl c1 cl hrv HR HRM hB
  have hrv := HR3.out.get (z := (w.heap.size, boxM zeroM' (.slice none 0 0) (.slice none 0 0) (.slice none 0 0))) (by simp)
  by_cases heq : printE m' = b
  · have hok : okE b = true := by rw [HF.out]; simpa using heq
    have HP1 := Lib.hid (show pmE b = m' by unfold pmE; rw [hok, HM.out]; rfl)
    have HP2 := Lib.hid (show peE b = 0 by unfold peE; rw [hok]; rfl)
    have hu := upd_mat hrv m' (.slice t1 m'.masters.length p1) (.slice t2 m'.msgs.length p2) (.slice t3 m'.wins.length p3)
    have HRV := Lib.hid (hu.below HR3.out.bel (Nat.le_refl _) HR3.out.sz)
    have HRD := Lib.hid (show RdM _ m' (.slice t1 m'.masters.length p1) (.slice t2 m'.msgs.length p2) (.slice t3 m'.wins.length p3) from (Prs.box0 HR3.out hu).rd HRM3.out.ok)
    have HU := Lib.hid hu
    have g0 := free_of hrv
    obtain ⟨g1, g2, g3, g4, g5, g6, g7, g8, g9, g10, g11⟩ := boxM_c hrv
    have gl := lt_of_heap hrv
    obtain ⟨k1, k2, k3, k4, k5, k6, k7, k8, k9, k10, k11⟩ := boxM_c HR3.out.box
    have kl := lt_of_heap HR3.out.box
    have hqt : (printE m').toList = b.toList := by rw [heq]
    clear hok hrv hu
    rw [heq]
    go_wp2
    refine bodyPost_ret (results_parse rfl rfl HU.out.blk) rfl ⟨_, _, _, by rw [HP1.out, HP2.out], HRV.out, by rw [HP1.out]; exact HRD.out⟩
  · have hok : okE b = false := by rw [HF.out]; simpa using heq
    have HP1 := Lib.hid (show pmE b = zeroM' by unfold pmE; rw [hok]; rfl)
    have HP2 := Lib.hid (show peE b = 130 by unfold peE; rw [hok]; rfl)
    have HU := Lib.hid (upd_mat hrv zeroM' (.slice none 0 0) (.slice none 0 0) (.slice none 0 0))
    have HRV := Lib.hid (HU.out.below HR3.out.bel (Nat.le_refl _) HR3.out.sz)
    have g0 := free_of hrv
    obtain ⟨g1, g2, g3, g4, g5, g6, g7, g8, g9, g10, g11⟩ := boxM_c hrv
    have gl := lt_of_heap hrv
    have hqt : (!(printE m').toList == b.toList) = true := by simpa using fun h => heq (tl_inj h)
    obtain ⟨pp, hpp⟩ : ∃ p, printE m' = p := ⟨_, rfl⟩
    rw [hpp] at hqt ⊢
    clear hok hrv heq hpp
    go_wp2
    refine bodyPost_ret (results_parse rfl rfl HU.out.blk) rfl ⟨.slice none 0 0, .slice none 0 0, .slice none 0 0, by rw [HP1.out, HP2.out], HRV.out, by rw [HP1.out]; exact zeroM_rd' _⟩
end Go.Proofs.Ythkhlcigegbpfaa
