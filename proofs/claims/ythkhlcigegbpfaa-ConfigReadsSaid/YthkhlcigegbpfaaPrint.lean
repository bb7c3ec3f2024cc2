/- config.Print. -/
import Derived.Test.YthkhlcigegbpfaaText
namespace Go.Proofs.Ythkhlcigegbpfaa
set_option linter.unusedVariables false
set_option linter.unusedSimpArgs false
open Go.ChangeShapes Go.WideShapes Go.ChangeAt Go.RowKit Go.Deep

theorem TextS.alloc {B bt : Nat} {w0 w : World} {xs : List Int} {L : List (Nat × Obj)} (h : TextS B w0 bt xs L w) (o : Obj) : TextS B w0 bt xs ((w.heap.size, o) :: L) (w.alloc o) :=
  h.add ((Below.refl _ _).alloc (Nat.le_refl _) _) (Nat.le_refl _) (new_blk _ _)
theorem TextS.of_eq {B bt : Nat} {w0 w : World} {xs ys : List Int} {L : List (Nat × Obj)} (h : TextS B w0 bt xs L w) (e : xs = ys) : TextS B w0 bt ys L w := e ▸ h
/-- The text's bytes, as a string. -/
theorem TextS.conv {B bt : Nat} {w0 w : World} {xs : List Int} {L : List (Nat × Obj)} (h : TextS B w0 bt xs L w) (hx : xs ≠ []) : ∃ v, w.cell? ⟨bt, 0, none⟩ = some v ∧ bt < w.heap.size ∧ (convert 96 9 v).run Try.prog w = .ok (.string (strOfNums xs)) w := by
  obtain ⟨v, L1, hR, hO⟩ := h
  have hb := (hO.all bt (txO v) (by simp)).2
  have c0 := cell_of hb 0
  simp at c0
  refine ⟨v, c0, lt_of_heap hb, ?_⟩
  rcases hR.2 with ⟨_, h1, _⟩ | ⟨g, cap, cur, rfl, rfl, hle, hmx, hsz, htk⟩
  · exact absurd (List.eq_nil_of_length_eq_zero h1) hx
  · have hg := (hO.all g (.cells cur 5 (0, 0)) (by simp)).2
    refine run_convert_bytes_arg (P := Try.prog) w 96 5 Try.underlying96 Try.underlying5 g 0 xs.length cap xs rfl (fun i hi => ?_) 9 Try.underlying9
    rw [Nat.zero_add, cell_of_row w g i cur 5 (0, 0) hg]
    have h1 : (cur.toList.take (xs.length * 1))[i]? = (xs.map (Value.int .u8))[i]? := by rw [htk]
    rw [List.getElem?_take_of_lt (by omega)] at h1
    simp [hi] at h1
    simp [h1, hi]
set_option maxRecDepth 100000 in
set_option maxHeartbeats 4000000 in
theorem cf_print {w : World} {m : Mat} {s1 s2 s3 : Value} (h : RdM w m s1 s2 s3) : Calls Try.prog 45 #[matV m s1 s2 s3] w fun e w' => e = .returned (.string (printE m)) ∧ Below w.heap.size w w' := by
  have hO := (Own.nil_ (Below.refl w.heap.size w) (Nat.le_refl _)).alloc (boxM m s1 s2 s3)
  obtain ⟨a1, p1, e1, r1⟩ := h.r1.shape
  obtain ⟨a2, p2, e2, r2⟩ := h.r2.shape
  obtain ⟨a3, p3, e3, r3⟩ := h.r3.shape
  subst e1 e2 e3
  have l1 := r1.len.2
  have l2 := r2.len.2
  have l3 := r3.len.2
  unfold maxLen at l1 l2 l3
  have RM := Lib.hid h
  have R1 := Lib.hid r1
  have R2 := Lib.hid r2
  have R3 := Lib.hid r3
  obtain ⟨hp1, hp2⟩ := ok_pos h.ok
  have HP := Lib.hid hp2
  clear r1 r2 r3 h hp2
  obtain ⟨z, hz⟩ : ∃ z, isB m = z := ⟨_, rfl⟩
  have HZ := Lib.hid hz
  clear hz
  obtain ⟨c0, c1, c2, c3, c4, c5, c6, c7, c8, c9, c10⟩ := boxM_c hO.get0
  have hml := lt_of_heap hO.get0
  unfold matV
  go_enter Try.func45, Try.ntmps45
  go_wp2_with fail
  refine (own_below hO (mat_is (RM.out.keep hO.bel))).mono ?_
  rw [HZ.out]
  rintro e w2 ⟨rfl, hO⟩
  clear c0 c1 c2 c3 c4 c5 c6 c7 c8 c9 c10 hml
  cases z
  · have HF := Lib.hid (print_none HZ.out)
    go_wp2
    go_ret
    rw [HF.out]
    exact ⟨rfl, hO.bel⟩
  have bd := bds_of HZ.out
  have b1 := bd.level
  have b2 := bd.nodes
  have b3 := bd.cycles
  have b4 := bd.length
  have b5 := bd.enable
  have b6 := bd.unit
  have b7 := bd.init
  have b8 := bd.ref
  have d1 := bd.l1
  have d2 := bd.l2
  have d3 := bd.l3
  have HBD := Lib.hid bd
  clear bd
  have hT : TextS w.heap.size w (w2.heap.size + 1) [79] [(w.heap.size, boxM m (.slice a1 m.masters.length p1) (.slice a2 m.msgs.length p2) (.slice a3 m.wins.length p3))] ((w2.alloc (.cells #[.int .u8 79] 5)).alloc (txO (.slice (some ⟨w2.heap.size, 0, none⟩) 1 1))) := by
    have hO2 := (hO.alloc (.cells #[.int .u8 79] 5)).alloc (txO (.slice (some ⟨w2.heap.size, 0, none⟩) 1 1))
    have hs : (w2.alloc (.cells #[.int .u8 79] 5)).heap.size = w2.heap.size + 1 := by simp
    rw [hs] at hO2
    exact ⟨_, [(w2.heap.size, .cells #[.int .u8 79] 5)], ⟨rfl, .inr ⟨_, 1, _, rfl, rfl, Nat.le_refl _, by decide, rfl, rfl⟩⟩, hO2.perm' (List.Perm.swap _ _ _)⟩
  have HT := Lib.hid hT
  have z0 := (boxM_c hO.get0).1
  have zl := lt_of_heap hO.get0
  clear hT hO

  have hbox := HT.out.get (x := (w.heap.size, boxM m (.slice a1 m.masters.length p1) (.slice a2 m.msgs.length p2) (.slice a3 m.wins.length p3))) (by simp)
  have c0 := (cell_of hbox 0).trans (show _ = some _ from rfl)
  have hml := lt_of_heap hbox
  clear hbox
  go_wp2_with fail
  refine (t_one HT.out m.level (by omega) (by simp)).mono ?_
  rintro e w3 ⟨rfl, hT⟩
  clear HT c0 hml
  have HT := Lib.hid hT
  clear hT
  clear z0 zl
  have hbox := HT.out.get (x := (w.heap.size, boxM m (.slice a1 m.masters.length p1) (.slice a2 m.msgs.length p2) (.slice a3 m.wins.length p3))) (by simp)
  have c1 := (cell_of hbox 1).trans (show _ = some _ from rfl)
  have hml := lt_of_heap hbox
  clear hbox
  go_wp2_with fail
  refine (t_one HT.out m.nodes (by omega) (by simp)).mono ?_
  rintro e w4 ⟨rfl, hT⟩
  clear HT c1 hml
  have HT := Lib.hid hT
  clear hT
  have hbox := HT.out.get (x := (w.heap.size, boxM m (.slice a1 m.masters.length p1) (.slice a2 m.msgs.length p2) (.slice a3 m.wins.length p3))) (by simp)
  have c2 := (cell_of hbox 2).trans (show _ = some _ from rfl)
  have hml := lt_of_heap hbox
  clear hbox
  go_wp2_with fail
  refine (t_one HT.out m.cycles (by omega) (by simp)).mono ?_
  rintro e w5 ⟨rfl, hT⟩
  clear HT c2 hml
  have HT := Lib.hid hT
  clear hT
  have hbox := HT.out.get (x := (w.heap.size, boxM m (.slice a1 m.masters.length p1) (.slice a2 m.msgs.length p2) (.slice a3 m.wins.length p3))) (by simp)
  have c3 := (cell_of hbox 3).trans (show _ = some _ from rfl)
  have hml := lt_of_heap hbox
  clear hbox
  go_wp2_with fail
  refine (t_two HT.out m.length (by omega) (by simp)).mono ?_
  rintro e w6 ⟨rfl, hT⟩
  clear HT c3 hml
  have HT := Lib.hid hT
  clear hT
  have hbox := HT.out.get (x := (w.heap.size, boxM m (.slice a1 m.masters.length p1) (.slice a2 m.msgs.length p2) (.slice a3 m.wins.length p3))) (by simp)
  have c4 := (cell_of hbox 4).trans (show _ = some _ from rfl)
  have hml := lt_of_heap hbox
  clear hbox
  go_wp2_with fail
  refine (t_one HT.out m.enable (by omega) (by simp)).mono ?_
  rintro e w7 ⟨rfl, hT⟩
  clear HT c4 hml
  have HT := Lib.hid hT
  clear hT
  have hbox := HT.out.get (x := (w.heap.size, boxM m (.slice a1 m.masters.length p1) (.slice a2 m.msgs.length p2) (.slice a3 m.wins.length p3))) (by simp)
  have c5 := (cell_of hbox 5).trans (show _ = some _ from rfl)
  have hml := lt_of_heap hbox
  clear hbox
  go_wp2_with fail
  refine (t_one HT.out m.unit (by omega) (by simp)).mono ?_
  rintro e w8 ⟨rfl, hT⟩
  clear HT c5 hml
  have HT := Lib.hid hT
  clear hT
  have hbox := HT.out.get (x := (w.heap.size, boxM m (.slice a1 m.masters.length p1) (.slice a2 m.msgs.length p2) (.slice a3 m.wins.length p3))) (by simp)
  have c6 := (cell_of hbox 6).trans (show _ = some _ from rfl)
  have hml := lt_of_heap hbox
  clear hbox
  go_wp2_with fail
  refine (t_two HT.out m.init (by omega) (by simp)).mono ?_
  rintro e w9 ⟨rfl, hT⟩
  clear HT c6 hml
  have HT := Lib.hid hT
  clear hT
  have hbox := HT.out.get (x := (w.heap.size, boxM m (.slice a1 m.masters.length p1) (.slice a2 m.msgs.length p2) (.slice a3 m.wins.length p3))) (by simp)
  have c7 := (cell_of hbox 7).trans (show _ = some _ from rfl)
  have hml := lt_of_heap hbox
  clear hbox
  go_wp2_with fail
  refine (t_two HT.out m.ref (by omega) (by simp)).mono ?_
  rintro e w10 ⟨rfl, hT⟩
  clear HT c7 hml
  have HT := Lib.hid hT
  clear hT
  have hbox := HT.out.get (x := (w.heap.size, boxM m (.slice a1 m.masters.length p1) (.slice a2 m.msgs.length p2) (.slice a3 m.wins.length p3))) (by simp)
  have c8 := (cell_of hbox 8).trans (show _ = some _ from rfl)
  have hml := lt_of_heap hbox
  clear hbox
  go_wp2_with fail
  refine (t_one HT.out (m.masters.length : Int) (by omega) (by simp)).mono ?_
  rintro e w11 ⟨rfl, hT⟩
  clear HT c8 hml
  have HT := Lib.hid hT
  clear hT
  obtain ⟨P, hP⟩ : ∃ P, P = [79] ++ [m.level] ++ [m.nodes] ++ [m.cycles] ++ [m.length / 256, m.length % 256] ++ [m.enable] ++ [m.unit] ++ [m.init / 256, m.init % 256] ++ [m.ref / 256, m.ref % 256] ++ [(m.masters.length : Int)] := ⟨_, rfl⟩
  have HT2 := HT.out
  clear HT
  rw [← hP] at HT2
  have hPl : P.length = 13 := by rw [hP]; simp
  have HP1 := Lib.hid hP
  clear hP
  have HT := Lib.hid HT2
  clear HT2
  have hbox := HT.out.get (x := (w.heap.size, boxM m (.slice a1 m.masters.length p1) (.slice a2 m.msgs.length p2) (.slice a3 m.wins.length p3))) (by simp)
  have c8 := (cell_of hbox 8).trans (show _ = some _ from rfl)
  have hml := lt_of_heap hbox
  clear hbox
  go_wp2_with fail
  clear c8 hml
  go_loopw [47] (fun i wr => ∃ k : Nat, i = .int .i64 k ∧ k ≤ m.masters.length ∧ TextS w.heap.size w (w2.heap.size + 1) (P ++ m.masters.take k) [(w.heap.size, boxM m (.slice a1 m.masters.length p1) (.slice a2 m.msgs.length p2) (.slice a3 m.wins.length p3))] wr) (fun i _ => m.masters.length - (intOf i).toNat)
  case atStart => exact ⟨0, rfl, by omega, HT.out.of_eq (by simp)⟩
  case round =>
    clear HT
    obtain ⟨k, rfl, hk, hT⟩ := hrel
    by_cases hlt : k < m.masters.length
    · have hlt' : (k : Int) < m.masters.length := by omega
      obtain ⟨y, b, off, hy, hm, rfl, hbb, hc⟩ := (R1.out.keep hT.bel).at_ k hlt
      have e0 := hc 0 _ rfl
      simp only [Nat.mul_one, Nat.add_zero] at e0
      have hyb := HBD.out.masters y hm
      have HY := Lib.hid (show m.masters.take (k + 1) = m.masters.take k ++ [y] by rw [List.take_add_one, hy]; rfl)
      have htl : (m.masters.take k).length ≤ k := List.length_take_le _ _
      have HT := Lib.hid hT
      clear hT hc hy hm
      go_wp2_with fail
      refine (t_one HT.out y (by omega) (by rw [List.length_append]; omega)).mono ?_
      rintro e wx ⟨rfl, hT⟩
      go_wp2_with fail
      go_roundw
      case rel => exact ⟨k + 1, by go_num, by omega, hT.of_eq (by rw [HY.out, List.append_assoc])⟩
      case measure => simp [intOf]; omega
    obtain rfl : k = m.masters.length := by omega
    have HT := Lib.hid (hT.of_eq (show _ = P ++ m.masters by rw [List.take_length]))
    clear hT hlt
    have hbox := HT.out.get (x := (w.heap.size, boxM m (.slice a1 m.masters.length p1) (.slice a2 m.msgs.length p2) (.slice a3 m.wins.length p3))) (by simp)
    have c9 := (cell_of hbox 9).trans (show _ = some _ from rfl)
    have hml := lt_of_heap hbox
    clear hbox
    go_wp2_with fail
    refine (t_one HT.out (m.msgs.length : Int) (by omega) (by rw [List.length_append]; omega)).mono ?_
    rintro e w12 ⟨rfl, hT⟩
    clear HT c9 hml
    have HT := Lib.hid hT
    clear hT
    obtain ⟨P2, hP2⟩ : ∃ P2, P2 = P ++ m.masters ++ [(m.msgs.length : Int)] := ⟨_, rfl⟩
    have HT2 := HT.out
    clear HT
    rw [← hP2] at HT2
    have hPl2 : P2.length = 14 + m.masters.length := by rw [hP2]; simp; omega
    have HP2 := Lib.hid hP2
    clear hP2
    have HT := Lib.hid HT2
    clear HT2
    have hbox := HT.out.get (x := (w.heap.size, boxM m (.slice a1 m.masters.length p1) (.slice a2 m.msgs.length p2) (.slice a3 m.wins.length p3))) (by simp)
    have c9 := (cell_of hbox 9).trans (show _ = some _ from rfl)
    have hml := lt_of_heap hbox
    clear hbox
    go_wp2_with fail
    clear c9 hml
    go_loopw [61] (fun i wr => ∃ k : Nat, i = .int .i64 k ∧ k ≤ m.msgs.length ∧ TextS w.heap.size w (w2.heap.size + 1) (P2 ++ (m.msgs.take k).flatMap msgT) [(w.heap.size, boxM m (.slice a1 m.masters.length p1) (.slice a2 m.msgs.length p2) (.slice a3 m.wins.length p3))] wr) (fun i _ => m.msgs.length - (intOf i).toNat)
    case atStart => exact ⟨0, rfl, by omega, HT.out.of_eq (by simp)⟩
    case round =>
      clear HT
      obtain ⟨k, rfl, hk, hT⟩ := hrel
      have hfl : ∀ l : List Msg, (l.flatMap msgT).length = 4 * l.length := by
        intro l; induction l with
        | nil => rfl
        | cons x l ih => simp [ih, msgT]; omega
      by_cases hlt : k < m.msgs.length
      · have hlt' : (k : Int) < m.msgs.length := by omega
        obtain ⟨y, b, off, hy, hm, rfl, hbb, hc⟩ := (R2.out.keep hT.bel).at_ k hlt
        have e0 := hc 0 _ rfl
        have e1 := hc 1 _ rfl
        have e2 := hc 2 _ rfl
        simp only [Nat.add_zero, ← Nat.add_assoc] at e0 e1 e2
        have hyb := HBD.out.msgs y hm
        have hyi := HP.out y hm
        have HY := Lib.hid (show (m.msgs.take (k + 1)).flatMap msgT = (m.msgs.take k).flatMap msgT ++ msgT y by rw [List.take_add_one, hy]; simp [List.flatMap_append])
        have htl : ((m.msgs.take k).flatMap msgT).length ≤ 4 * k := by rw [hfl]; have := List.length_take_le k m.msgs; omega
        have HT := Lib.hid (hT.alloc (.cells #[.int .u32 y.id, .int .i64 y.owner, .bool y.ev] 53))
        obtain ⟨q, hq⟩ : ∃ q, q = (P2 ++ (m.msgs.take k).flatMap msgT) := ⟨_, rfl⟩
        have hql : q.length ≤ 200 := by rw [hq, List.length_append]; omega
        have HT2 := HT.out
        clear HT
        rw [← hq] at HT2
        have HT := Lib.hid HT2
        have HQ := Lib.hid hq
        obtain ⟨ye, hye⟩ : ∃ ye : Bool, y.ev = ye := ⟨_, rfl⟩
        have HYE := Lib.hid hye
        clear hT hc hy hm hfl htl HT2 hq hye
        go_wp2_with fail
        refine (t_two HT.out y.id (by omega) (by omega)).mono ?_
        rintro e w5 ⟨rfl, hT⟩
        clear HT e0 e1 e2
        have HT := Lib.hid hT
        have hxb := hT.get (x := (wr.heap.size, .cells #[.int .u32 y.id, .int .i64 y.owner, .bool y.ev] 53)) (by simp)
        have x1 := (cell_of hxb 1).trans (show _ = some (Value.int .i64 y.owner) from rfl)
        have hxl := lt_of_heap hxb
        clear hT hxb
        go_wp2_with fail
        refine (t_one HT.out y.owner (by omega) (by simp; omega)).mono ?_
        rintro e w6 ⟨rfl, hT⟩
        clear HT x1 hxl
        have HT := Lib.hid hT
        have hxb := hT.get (x := (wr.heap.size, .cells #[.int .u32 y.id, .int .i64 y.owner, .bool y.ev] 53)) (by simp)
        have x2 := (cell_of hxb 2).trans (show _ = some (Value.bool y.ev) from rfl)
        rw [HYE.out] at x2
        have hxl := lt_of_heap hxb
        clear hT hxb
        cases ye
        · go_wp2_with fail
          refine (t_one HT.out 0 (by omega) (by simp; omega)).mono ?_
          rintro e w7 ⟨rfl, hT⟩
          go_wp2_with fail
          go_roundw
          case rel => exact ⟨k + 1, by go_num, by omega, hT.drop.of_eq (by rw [HY.out, HQ.out]; simp [msgT, HYE.out])⟩
          case measure => simp [intOf]; omega
        · go_wp2_with fail
          refine (t_one HT.out 1 (by omega) (by simp; omega)).mono ?_
          rintro e w7 ⟨rfl, hT⟩
          go_wp2_with fail
          go_roundw
          case rel => exact ⟨k + 1, by go_num, by omega, hT.drop.of_eq (by rw [HY.out, HQ.out]; simp [msgT, HYE.out])⟩
          case measure => simp [intOf]; omega
      obtain rfl : k = m.msgs.length := by omega
      have HT := Lib.hid (hT.of_eq (show _ = P2 ++ m.msgs.flatMap msgT by rw [List.take_length]))
      have hfl2 := hfl m.msgs
      clear hT hlt hfl
      have hbox := HT.out.get (x := (w.heap.size, boxM m (.slice a1 m.masters.length p1) (.slice a2 m.msgs.length p2) (.slice a3 m.wins.length p3))) (by simp)
      have c10 := (cell_of hbox 10).trans (show _ = some _ from rfl)
      have hml := lt_of_heap hbox
      clear hbox
      go_wp2_with fail
      refine (t_one HT.out (m.wins.length : Int) (by omega) (by rw [List.length_append]; omega)).mono ?_
      rintro e w13 ⟨rfl, hT⟩
      clear HT c10 hml
      have HT := Lib.hid hT
      clear hT
      obtain ⟨P3, hP3⟩ : ∃ P3, P3 = P2 ++ m.msgs.flatMap msgT ++ [(m.wins.length : Int)] := ⟨_, rfl⟩
      have HT2 := HT.out
      clear HT
      rw [← hP3] at HT2
      have hPl3 : P3.length = 15 + m.masters.length + 4 * m.msgs.length := by rw [hP3]; simp only [List.length_append, List.length_cons, List.length_nil]; omega
      have HP3 := Lib.hid hP3
      clear hP3
      have HT := Lib.hid HT2
      clear HT2
      have hbox := HT.out.get (x := (w.heap.size, boxM m (.slice a1 m.masters.length p1) (.slice a2 m.msgs.length p2) (.slice a3 m.wins.length p3))) (by simp)
      have c10 := (cell_of hbox 10).trans (show _ = some _ from rfl)
      have hml := lt_of_heap hbox
      clear hbox
      go_wp2_with fail
      clear c10 hml
      go_loopw [84] (fun i wr => ∃ k : Nat, i = .int .i64 k ∧ k ≤ m.wins.length ∧ TextS w.heap.size w (w2.heap.size + 1) (P3 ++ (m.wins.take k).flatMap winT) [(w.heap.size, boxM m (.slice a1 m.masters.length p1) (.slice a2 m.msgs.length p2) (.slice a3 m.wins.length p3))] wr) (fun i _ => m.wins.length - (intOf i).toNat)
      case atStart => exact ⟨0, rfl, by omega, HT.out.of_eq (by simp)⟩
      case round =>
        clear HT
        obtain ⟨k, rfl, hk, hT⟩ := hrel
        by_cases hlt : k < m.wins.length
        · have hlt' : (k : Int) < m.wins.length := by omega
          obtain ⟨y, b, off, hy, hm, rfl, hbb, hc⟩ := (R3.out.keep hT.bel).at_ k hlt
          have e0 := hc 0 _ rfl
          have e1 := hc 1 _ rfl
          have e2 := hc 2 _ rfl
          have e3 := hc 3 _ rfl
          have e4 := hc 4 _ rfl
          have e5 := hc 5 _ rfl
          simp only [Nat.add_zero, ← Nat.add_assoc] at e0 e1 e2 e3 e4 e5
          have hfl : ∀ l : List Win, (l.flatMap winT).length = 8 * l.length := by
            intro l; induction l with
            | nil => rfl
            | cons x l ih => simp [ih, winT]; omega
          have hyb := HBD.out.wins y hm
          have HY := Lib.hid (show (m.wins.take (k + 1)).flatMap winT = (m.wins.take k).flatMap winT ++ winT y by rw [List.take_add_one, hy]; simp [List.flatMap_append])
          have htl : ((m.wins.take k).flatMap winT).length ≤ 8 * k := by rw [hfl]; have := List.length_take_le k m.wins; omega
          have hT0 := hT.alloc (.cells #[.int .i64 y.kind, .int .i64 y.start, .int .i64 y.stop, .int .i64 y.cyc, .int .i64 y.rep, .int .i64 y.msg] 56)
          obtain ⟨q, hq⟩ : ∃ q, q = (P3 ++ (m.wins.take k).flatMap winT) := ⟨_, rfl⟩
          have hql : q.length ≤ 400 := by rw [hq, List.length_append]; omega
          rw [← hq] at hT0
          have HT := Lib.hid hT0
          have HQ := Lib.hid hq
          clear hT hc hy hm hfl htl hT0 hq
          go_wp2_with fail
          refine (t_one HT.out y.kind (by omega) (by omega)).mono ?_
          rintro e u0 ⟨rfl, hT⟩
          clear HT e0 e1 e2 e3 e4 e5
          have HT := Lib.hid hT
          clear hT
          have hxb := HT.out.get (x := (wr.heap.size, .cells #[.int .i64 y.kind, .int .i64 y.start, .int .i64 y.stop, .int .i64 y.cyc, .int .i64 y.rep, .int .i64 y.msg] 56)) (by simp)
          have x1 := (cell_of hxb 1).trans (show _ = some (Value.int .i64 y.start) from rfl)
          have hxl := lt_of_heap hxb
          clear hxb
          go_wp2_with fail
          refine (t_two HT.out y.start (by omega) (by simp; omega)).mono ?_
          rintro e u1 ⟨rfl, hT⟩
          clear HT x1 hxl
          have HT := Lib.hid hT
          clear hT
          have hxb := HT.out.get (x := (wr.heap.size, .cells #[.int .i64 y.kind, .int .i64 y.start, .int .i64 y.stop, .int .i64 y.cyc, .int .i64 y.rep, .int .i64 y.msg] 56)) (by simp)
          have x2 := (cell_of hxb 2).trans (show _ = some (Value.int .i64 y.stop) from rfl)
          have hxl := lt_of_heap hxb
          clear hxb
          go_wp2_with fail
          refine (t_two HT.out y.stop (by omega) (by simp; omega)).mono ?_
          rintro e u2 ⟨rfl, hT⟩
          clear HT x2 hxl
          have HT := Lib.hid hT
          clear hT
          have hxb := HT.out.get (x := (wr.heap.size, .cells #[.int .i64 y.kind, .int .i64 y.start, .int .i64 y.stop, .int .i64 y.cyc, .int .i64 y.rep, .int .i64 y.msg] 56)) (by simp)
          have x3 := (cell_of hxb 3).trans (show _ = some (Value.int .i64 y.cyc) from rfl)
          have hxl := lt_of_heap hxb
          clear hxb
          go_wp2_with fail
          refine (t_one HT.out y.cyc (by omega) (by simp; omega)).mono ?_
          rintro e u3 ⟨rfl, hT⟩
          clear HT x3 hxl
          have HT := Lib.hid hT
          clear hT
          have hxb := HT.out.get (x := (wr.heap.size, .cells #[.int .i64 y.kind, .int .i64 y.start, .int .i64 y.stop, .int .i64 y.cyc, .int .i64 y.rep, .int .i64 y.msg] 56)) (by simp)
          have x4 := (cell_of hxb 4).trans (show _ = some (Value.int .i64 y.rep) from rfl)
          have hxl := lt_of_heap hxb
          clear hxb
          go_wp2_with fail
          refine (t_one HT.out y.rep (by omega) (by simp; omega)).mono ?_
          rintro e u4 ⟨rfl, hT⟩
          clear HT x4 hxl
          have HT := Lib.hid hT
          clear hT
          have hxb := HT.out.get (x := (wr.heap.size, .cells #[.int .i64 y.kind, .int .i64 y.start, .int .i64 y.stop, .int .i64 y.cyc, .int .i64 y.rep, .int .i64 y.msg] 56)) (by simp)
          have x5 := (cell_of hxb 5).trans (show _ = some (Value.int .i64 y.msg) from rfl)
          have hxl := lt_of_heap hxb
          clear hxb
          go_wp2_with fail
          refine (t_one HT.out y.msg (by omega) (by simp; omega)).mono ?_
          rintro e u5 ⟨rfl, hT⟩
          clear HT x5 hxl
          go_wp2_with fail
          go_roundw
          case rel => exact ⟨k + 1, by go_num, by omega, hT.drop.of_eq (by rw [HY.out, HQ.out]; simp [winT])⟩
          case measure => simp [intOf]; omega
        obtain rfl : k = m.wins.length := by omega
        have hT2 := hT.of_eq (show _ = 79 :: matT m by
          rw [List.take_length, HP3.out, HP2.out, HP1.out]
          simp [matT, headT])
        obtain ⟨v, hv, hvl, hcv⟩ := hT2.conv (by simp)
        have HF := Lib.hid (show printE m = strOfNums (79 :: matT m) by unfold printE; rw [if_pos HZ.out])
        have hbel := hT.bel
        clear hT hT2 hlt
        obtain ⟨s, hs⟩ : ∃ s, s = strOfNums (79 :: matT m) := ⟨_, rfl⟩
        rw [← hs] at hcv
        have HS := Lib.hid hs
        clear hs
        go_wp2
        go_ret
        rw [HF.out, ← HS.out]
        exact ⟨rfl, hbel⟩
end Go.Proofs.Ythkhlcigegbpfaa
