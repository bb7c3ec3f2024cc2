/- The reference's Meet, twice. -/
import Derived.Test.YthkhlcigegbpfaaChk
import Derived.Deep.DeepCutAuto
import Derived.Test.YthkhlcigegbpfaaRow
namespace Go.Proofs.Ythkhlcigegbpfaa
set_option linter.unusedVariables false
set_option linter.unusedSimpArgs false
open Go.ChangeShapes Go.WideShapes Go.ChangeAt Go.RowKit Go.Deep

def winO (y : Win) : Obj := .cells #[.int .i64 y.kind, .int .i64 y.start, .int .i64 y.stop, .int .i64 y.cyc, .int .i64 y.rep, .int .i64 y.msg] 56 (0, 0)
theorem winO_c {w : World} {b : Nat} {y : Win} (h : w.heap[b]? = some (winO y)) : w.cell? ⟨b, 0, none⟩ = some (.int .i64 y.kind) ∧ w.cell? ⟨b, 1, none⟩ = some (.int .i64 y.start) ∧ w.cell? ⟨b, 2, none⟩ = some (.int .i64 y.stop) ∧ w.cell? ⟨b, 3, none⟩ = some (.int .i64 y.cyc) ∧ w.cell? ⟨b, 4, none⟩ = some (.int .i64 y.rep) ∧ w.cell? ⟨b, 5, none⟩ = some (.int .i64 y.msg) :=
  ⟨cell_of h 0, cell_of h 1, cell_of h 2, cell_of h 3, cell_of h 4, cell_of h 5⟩
theorem win_at {w : World} {a : Option Addr} {n cap : Nat} {l : List Win} (R : RdL 6 winC w (.slice a n cap) l) {i : Nat} (hi : i < n) : ∃ y b off, y ∈ l ∧ a = some ⟨b, off, none⟩ ∧ ∀ w', Below w.heap.size w w' →
    (w'.cell? ⟨b, off + i * 6, none⟩ = some (.int .i64 y.kind) ∧ w'.cell? ⟨b, off + i * 6 + 1, none⟩ = some (.int .i64 y.start) ∧ w'.cell? ⟨b, off + i * 6 + 2, none⟩ = some (.int .i64 y.stop) ∧ w'.cell? ⟨b, off + i * 6 + 3, none⟩ = some (.int .i64 y.cyc) ∧
      w'.cell? ⟨b, off + i * 6 + 4, none⟩ = some (.int .i64 y.rep) ∧ w'.cell? ⟨b, off + i * 6 + 5, none⟩ = some (.int .i64 y.msg)) ∧ b < w'.heap.size := by
  obtain ⟨y, b, off, hy, hm, ha, hb, hc⟩ := R.at_ i hi
  refine ⟨y, b, off, hm, ha, fun w' hw => ⟨⟨?_, ?_, ?_, ?_, ?_, ?_⟩, Nat.lt_of_lt_of_le hb hw.size⟩⟩
  · exact (hw.cell (p := ⟨b, off + i * 6, none⟩) hb).trans (hc 0 _ rfl)
  · exact (hw.cell (p := ⟨b, off + i * 6 + 1, none⟩) hb).trans (hc 1 _ rfl)
  · exact (hw.cell (p := ⟨b, off + i * 6 + 2, none⟩) hb).trans (hc 2 _ rfl)
  · exact (hw.cell (p := ⟨b, off + i * 6 + 3, none⟩) hb).trans (hc 3 _ rfl)
  · exact (hw.cell (p := ⟨b, off + i * 6 + 4, none⟩) hb).trans (hc 4 _ rfl)
  · exact (hw.cell (p := ⟨b, off + i * 6 + 5, none⟩) hb).trans (hc 5 _ rfl)
def TwoW (B : Nat) (w0 : World) (x y : Win) (L : List (Nat × Obj)) (px py : Value) (w : World) : Prop :=
  ∃ bx bY, px = .pointer (some ⟨bx, 0, none⟩) ∧ py = .pointer (some ⟨bY, 0, none⟩) ∧ Own B w0 ((bY, winO y) :: (bx, winO x) :: L) w
set_option maxRecDepth 100000 in
set_option maxHeartbeats 2000000 in
theorem r_meet {w : World} {m : Mat} {s1 s2 s3 : Value} (h : RdM w m s1 s2 s3) (hB : isB m = true) (a b : Nat) (ha : a < m.wins.length) (hb : b < m.wins.length) :
    Calls Try.prog 87 #[matV m s1 s2 s3, .int .i64 a, .int .i64 b] w (SomeB w) := by
  have hO := (Own.nil_ (Below.refl w.heap.size w) (Nat.le_refl _)).alloc (boxM m s1 s2 s3)
  obtain ⟨a1, p1, e1, r1⟩ := h.r1.shape
  obtain ⟨a2, p2, e2, r2⟩ := h.r2.shape
  obtain ⟨a3, p3, e3, r3⟩ := h.r3.shape
  subst e1 e2 e3
  have l1 := r1.len.2
  have l2 := r2.len.2
  have l3 := r3.len.2
  unfold maxLen at l1 l2 l3
  have RM := Lib.hid h
  have R1 := Lib.hid r1
  have R2 := Lib.hid r2
  have R3 := Lib.hid r3
  clear r1 r2 r3 h
  obtain ⟨c0, c1, c2, c3, c4, c5, c6, c7, c8, c9, c10⟩ := boxM_c hO.get0
  have hml := lt_of_heap hO.get0
  have hbd := bds_of hB
  have b3 := hbd.cycles
  have d3 := hbd.l3
  clear hbd
  have hai : (a : Int) < m.wins.length := by omega
  have hbi : (b : Int) < m.wins.length := by omega
  have hw1 : wi (a : Int) 0 ((m.wins.length : Int) - 1) = true := wi_iff.2 ⟨by omega, by omega⟩
  have hw2 : wi (b : Int) 0 ((m.wins.length : Int) - 1) = true := wi_iff.2 ⟨by omega, by omega⟩
  have HW1 := Lib.hid hw1
  have HW2 := Lib.hid hw2
  clear hw1 hw2
  obtain ⟨x, bx, ox, hmx, ex, hX⟩ := win_at R3.out ha
  obtain ⟨y, bY, oy, hmy, ey, hY⟩ := win_at R3.out hb
  have e := ex.symm.trans ey
  simp only [Option.some.injEq, Addr.mk.injEq, and_true] at e
  obtain ⟨rfl, rfl⟩ := e
  subst ex
  clear ey
  have HX := Lib.hid hX
  have HY := Lib.hid hY
  have HOX := Lib.hid (RM.out.ok.wins x hmx)
  have HOY := Lib.hid (RM.out.ok.wins y hmy)
  clear hX hY hmx hmy
  unfold matV
  go_enter Try.func87, Try.ntmps87
  go_wp2_with fail
  refine (own_same hO (rmat_within _ _ _ _)).mono ?_
  rw [HW1.out]
  rintro e w2 ⟨rfl, hO⟩
  clear c0 c1 c2 c3 c4 c5 c6 c7 c8 c9 c10 hml
  obtain ⟨c0, c1, c2, c3, c4, c5, c6, c7, c8, c9, c10⟩ := boxM_c hO.get0
  have hml := lt_of_heap hO.get0
  go_wp2_with fail
  refine (own_same hO (rmat_within _ _ _ _)).mono ?_
  rw [HW2.out]
  rintro e w3 ⟨rfl, hO⟩
  clear c0 c1 c2 c3 c4 c5 c6 c7 c8 c9 c10 hml
  go_wp2_with fail
  go_cut [7, 8] (fun px py wx => TwoW w.heap.size w x y [(w.heap.size, boxM m (.slice a1 m.masters.length p1) (.slice a2 m.msgs.length p2) (.slice (some ⟨bx, ox, none⟩) m.wins.length p3))] px py wx)
  case first =>
    obtain ⟨c0, c1, c2, c3, c4, c5, c6, c7, c8, c9, c10⟩ := boxM_c hO.get0
    have hml := lt_of_heap hO.get0
    obtain ⟨⟨x0, x1, x2, x3, x4, x5⟩, xl⟩ := HX.out _ hO.bel
    obtain ⟨⟨y0, y1, y2, y3, y4, y5⟩, yl⟩ := HY.out _ hO.bel
    go_region
    all_goals
      go_wp2_with fail
      go_meet
      first
        | exact ⟨_, _, rfl, rfl, by
            have h1 := (hO.alloc (winO x)).alloc (winO y)
            rw [show (w3.alloc (winO x)).heap.size = w3.heap.size + 1 by simp] at h1
            exact h1.drew⟩
        | exact ⟨_, _, rfl, rfl, by
            have h1 := (hO.alloc (winO y)).alloc (winO x)
            rw [show (w3.alloc (winO y)).heap.size = w3.heap.size + 1 by simp] at h1
            exact (h1.perm' (List.Perm.swap _ _ _)).drew⟩
  case rest =>
    obtain ⟨px, py, rfl, rfl, hO2⟩ := hcut
    clear hO
    obtain ⟨x0, x1, x2, x3, x4, x5⟩ := winO_c hO2.get1
    obtain ⟨y0, y1, y2, y3, y4, y5⟩ := winO_c hO2.get0
    have xl := lt_of_heap hO2.get1
    have yl := lt_of_heap hO2.get0
    have hbel := hO2.bel
    by_cases h1 : y.stop ≤ x.start
    · go_wp2
      all_goals try (exfalso; omega)
      go_ret
      exact ⟨false, rfl, hbel⟩
    by_cases h2 : x.stop ≤ y.start
    · go_wp2
      all_goals try (exfalso; omega)
      go_ret
      exact ⟨false, rfl, hbel⟩
    have h1' : x.start < y.stop := by omega
    have h2' : y.start < x.stop := by omega
    clear hbel
    go_wp2_with fail
    all_goals try (exfalso; omega)
    go_loopw [9] (fun i wr => ∃ k : Nat, i = .int .i64 k ∧ (k : Int) ≤ m.cycles ∧ Own w.heap.size w ((py, winO y) :: (px, winO x) :: [(w.heap.size, boxM m (.slice a1 m.masters.length p1) (.slice a2 m.msgs.length p2) (.slice (some ⟨bx, ox, none⟩) m.wins.length p3))]) wr) (fun i _ => (8 - intOf i).toNat)
    case atStart => exact ⟨0, rfl, by omega, hO2⟩
    case round =>
      clear hO2 x0 x1 x2 x3 x4 x5 y0 y1 y2 y3 y4 y5 xl yl
      obtain ⟨k, rfl, hk, hO⟩ := hrel
      have hbm := hO.drop.drop.get0
      have c2 : _ = some (Value.int .i64 m.cycles) := cell_of hbm 2
      have hml := lt_of_heap hbm
      clear hbm
      obtain ⟨x0, x1, x2, x3, x4, x5⟩ := winO_c hO.get1
      obtain ⟨y0, y1, y2, y3, y4, y5⟩ := winO_c hO.get0
      have xl := lt_of_heap hO.get1
      have yl := lt_of_heap hO.get0
      by_cases hlt : (k : Int) < m.cycles
      · have hk8 : (k : Int) < 8 := by omega
        have hki : I64 (k : Int) := i64_b (by omega)
        obtain ⟨z1, hz1⟩ : ∃ z, comesB x.cyc x.rep k = z := ⟨_, rfl⟩
        obtain ⟨z2, hz2⟩ : ∃ z, comesB y.cyc y.rep k = z := ⟨_, rfl⟩
        have HZ1 := Lib.hid hz1
        have HZ2 := Lib.hid hz2
        clear hz1 hz2
        go_wp2_with fail
        all_goals try (exfalso; omega)
        refine (own_same hO (rmat_comes x.cyc x.rep k HOX.out.2.2.2.1 HOX.out.2.2.2.2.1 hki _)).mono ?_
        rw [HZ1.out]
        rintro e w5 ⟨rfl, hO⟩
        cases z1
        · go_wp2_with fail
          go_roundw
          case rel => exact ⟨k + 1, by go_num, by omega, hO⟩
          case measure => (simp [intOf]; try omega)
        clear c2 hml x0 x1 x2 x3 x4 x5 y0 y1 y2 y3 y4 y5 xl yl
        obtain ⟨y0, y1, y2, y3, y4, y5⟩ := winO_c hO.get0
        have yl := lt_of_heap hO.get0
        go_wp2_with fail
        refine (own_same hO (rmat_comes y.cyc y.rep k HOY.out.2.2.2.1 HOY.out.2.2.2.2.1 hki _)).mono ?_
        rw [HZ2.out]
        rintro e w6 ⟨rfl, hO⟩
        cases z2
        · go_wp2_with fail
          go_roundw
          case rel => exact ⟨k + 1, by go_num, by omega, hO⟩
          case measure => (simp [intOf]; try omega)
        go_wp2
        go_ret
        exact ⟨true, rfl, hO.bel⟩
      · go_wp2
        all_goals try (exfalso; omega)
        go_ret
        exact ⟨false, rfl, hO.bel⟩
end Go.Proofs.Ythkhlcigegbpfaa
