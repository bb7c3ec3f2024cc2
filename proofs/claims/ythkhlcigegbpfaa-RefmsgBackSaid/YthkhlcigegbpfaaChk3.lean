/- The reference's twice, window, Check. -/
import Derived.Test.YthkhlcigegbpfaaChk2
namespace Go.Proofs.Ythkhlcigegbpfaa
set_option linter.unusedVariables false
set_option linter.unusedSimpArgs false
open Go.ChangeShapes Go.WideShapes Go.ChangeAt Go.RowKit Go.Deep

/-- No message has the beat's identifier. -/
def Free (m : Mat) : Prop := ∀ x ∈ m.msgs, x.id / 8 ≠ m.ref / 8
def FreeTo (m : Mat) (k : Nat) : Prop := ∀ (j : Nat) (x : Msg), j < k → m.msgs[j]? = some x → x.id / 8 ≠ m.ref / 8
theorem FreeTo.all {m : Mat} (h : FreeTo m m.msgs.length) : Free m := fun x hx => by
  obtain ⟨j, hj⟩ := List.getElem?_of_mem hx
  exact h j x (List.getElem?_eq_some_iff.1 hj).1 hj
theorem FreeTo.succ {m : Mat} {k : Nat} {y : Msg} (h : FreeTo m k) (hy : m.msgs[k]? = some y) (hn : y.id / 8 ≠ m.ref / 8) : FreeTo m (k + 1) := by
  intro j x hj hx
  by_cases e : j = k
  · subst e; rw [hy] at hx; cases hx; exact hn
  · exact h j x (by omega) hx
theorem tdiv8 {n : Int} (h : 0 ≤ n ∧ n ≤ 4294967295) : n.tdiv 8 % 4294967296 = n / 8 := by
  rw [Int.tdiv_eq_ediv_of_nonneg h.1]
  omega
theorem u32_bd {n : Int} (h : U32 n) : 0 ≤ n ∧ n ≤ 4294967295 := by
  have := bounds_u32 h
  exact ⟨this.1, by omega⟩
def SomeT (m : Mat) (w : World) (e : Ending) (w' : World) : Prop := ∃ i e0 : Int, e = .returned (.tuple #[.int .i64 i, .int .i64 e0]) ∧ Below w.heap.size w w' ∧ (e0 = 0 → Free m)
def SomeC (m : Mat) (w : World) (e : Ending) (w' : World) : Prop := ∃ i e0 : Int, e = .returned (.tuple #[.int .i64 i, .int .i64 e0]) ∧ Below w.heap.size w w' ∧ (e0 = 0 → isB m = true ∧ Free m)
set_option maxRecDepth 100000 in
set_option maxHeartbeats 2000000 in
theorem r_twice {w : World} {m : Mat} {s1 s2 s3 : Value} (h : RdM w m s1 s2 s3) :
    Calls Try.prog 53 #[matV m s1 s2 s3] w (SomeT m w) := by
  have hO := (Own.nil_ (Below.refl w.heap.size w) (Nat.le_refl _)).alloc (boxM m s1 s2 s3)
  obtain ⟨a1, p1, e1, r1⟩ := h.r1.shape
  obtain ⟨a2, p2, e2, r2⟩ := h.r2.shape
  obtain ⟨a3, p3, e3, r3⟩ := h.r3.shape
  subst e1 e2 e3
  have l1 := r1.len.2
  have l2 := r2.len.2
  have l3 := r3.len.2
  unfold maxLen at l1 l2 l3
  have RM := Lib.hid h
  have R1 := Lib.hid r1
  have R2 := Lib.hid r2
  have R3 := Lib.hid r3
  clear r1 r2 r3 h
  obtain ⟨c0, c1, c2, c3, c4, c5, c6, c7, c8, c9, c10⟩ := boxM_c hO.get0
  have hml := lt_of_heap hO.get0
  have hrb := (ok_pos RM.out.ok).1
  have HID := Lib.hid (ok_pos RM.out.ok).2
  clear c0 c1 c2 c3 c4 c5 c6 c7 c8 c9 c10 hml
  unfold matV
  go_enter Try.func53, Try.ntmps53
  go_wp2_with fail
  go_loopw [4] (fun i wr => ∃ k : Nat, i = .int .i64 k ∧ k ≤ m.masters.length ∧ Own w.heap.size w [(w.heap.size, boxM m (.slice a1 m.masters.length p1) (.slice a2 m.msgs.length p2) (.slice a3 m.wins.length p3))] wr) (fun i _ => m.masters.length - (intOf i).toNat)
  case atStart => exact ⟨0, rfl, by omega, hO⟩
  case round =>
    clear hO
    obtain ⟨k, rfl, hk, hO⟩ := hrel
    have c8 : _ = some (Value.slice a1 m.masters.length p1) := cell_of hO.get0 8
    have hml := lt_of_heap hO.get0
    by_cases hlt : k < m.masters.length
    · have hlt' : (k : Int) < m.masters.length := by omega
      obtain ⟨y, b, off, hy, hm, rfl, hb, hc⟩ := R1.out.at_ k hlt
      have e0 := hc 0 _ rfl
      simp only [Nat.mul_one, Nat.add_zero] at e0
      have E0 := Lib.hid (show ∀ w', Below w.heap.size w w' → (w'.cell? ⟨b, off + k, none⟩ = some (.int .i64 y) ∧ b < w'.heap.size) from fun w' hw => ⟨(hw.cell (p := ⟨b, off + k, none⟩) hb).trans e0, Nat.lt_of_lt_of_le hb hw.size⟩)
      obtain ⟨r, hr⟩ : ∃ r, rankI m y = r := ⟨_, rfl⟩
      have HR := Lib.hid hr
      obtain ⟨z, hz⟩ : ∃ z, decide (r < (k : Int)) = z := ⟨_, rfl⟩
      clear hc hy hm e0 hb hr
      go_wp2_with fail
      clear c8 hml
      refine wp_region_held_drew (S := fun w' => Own w.heap.size w [(w.heap.size, boxM m (.slice (some ⟨b, off, none⟩) m.masters.length p1) (.slice a2 m.msgs.length p2) (.slice a3 m.wins.length p3))] w') (by kernel_rfl) hO.drew (fun hHeld => ?_)
      clear hO
      refine take_op 0 rfl (by kernel_rfl) (by kernel_rfl) (by kernel_rfl) (fun _ _ _ h => h) (by rfl) (by (intro wz hSw; (obtain ⟨c0, c1, c2, c3, c4, c5, c6, c7, c8, c9, c10⟩ := boxM_c hSw.get0); go_simp; (try with_reducible rfl))) (by assumption) ?_
      simp only [Act.put, List.setIfInBounds_toArray, List.set_cons_zero, List.set_cons_succ]
      refine take_op 1 rfl (by kernel_rfl) (by kernel_rfl) (by kernel_rfl) (fun _ _ _ h => h) (by rfl) (by (intro w hSw; (try dsimp only at hSw); go_simp; (try with_reducible rfl))) (by assumption) ?_
      simp only [Act.put, List.setIfInBounds_toArray, List.set_cons_zero, List.set_cons_succ]
      refine take_op 2 rfl (by kernel_rfl) (by kernel_rfl) (by kernel_rfl) (fun _ _ _ h => h) (by rfl) (by (intro wz hSw; (obtain ⟨c0, c1, c2, c3, c4, c5, c6, c7, c8, c9, c10⟩ := boxM_c hSw.get0); go_simp; (try with_reducible rfl))) (by assumption) ?_
      simp only [Act.put, List.setIfInBounds_toArray, List.set_cons_zero, List.set_cons_succ]
      refine take_op 3 rfl (by kernel_rfl) (by kernel_rfl) (by kernel_rfl) (fun _ _ _ h => h) (by rfl) (by (intro w hSw; (try dsimp only at hSw); go_simp; (try with_reducible rfl))) (by assumption) ?_
      simp only [Act.put, List.setIfInBounds_toArray, List.set_cons_zero, List.set_cons_succ]
      refine take_op 4 rfl (by kernel_rfl) (by kernel_rfl) (by kernel_rfl) (fun _ _ _ h => h) (by rfl) (by (intro w hSw; (try dsimp only at hSw); go_simp; (try with_reducible rfl))) (by assumption) ?_
      simp only [Act.put, List.setIfInBounds_toArray, List.set_cons_zero, List.set_cons_succ]
      refine take_op 5 rfl (by kernel_rfl) (by kernel_rfl) (by kernel_rfl) (fun _ _ _ h => h) (by rfl) (by (intro wz hSw; (obtain ⟨e0, eb⟩ := E0.out _ hSw.bel); go_simp; (try with_reducible rfl))) (by assumption) ?_
      simp only [Act.put, List.setIfInBounds_toArray, List.set_cons_zero, List.set_cons_succ]
      refine take_op 7 rfl (by kernel_rfl) (by kernel_rfl) (by kernel_rfl) (fun _ _ _ h => h) (by rfl) (by (intro w hSw; (try dsimp only at hSw); go_simp; (try with_reducible rfl))) (by assumption) ?_
      simp only [Act.put, List.setIfInBounds_toArray, List.set_cons_zero, List.set_cons_succ]
      refine at_op 6 rfl (by kernel_rfl) (by rfl) (fun K hK => ?_)
      go_simp
      refine (own_below hHeld (rmat_rank (RM.out.keep hHeld.bel) y)).mono ?_
      rw [HR.out]
      rintro e w3 ⟨rfl, hO⟩
      refine hK.out _ _ ?_ (fun hHeld => ?_)
      · exact hO
      clear hK K
      try simp only [Act.put, List.setIfInBounds_toArray, List.set_cons_zero, List.set_cons_succ]
      refine take_op 8 rfl (by kernel_rfl) (by kernel_rfl) (by kernel_rfl) (fun _ _ _ h => h) (by rfl) (by (intro w hSw; (try dsimp only at hSw); go_simp; (try with_reducible rfl))) (by assumption) ?_
      simp only [Act.put, List.setIfInBounds_toArray, List.set_cons_zero, List.set_cons_succ]
      refine wpAnyH_done (by kernel_rfl) ?_ _
      cases z
      · go_wp2_with fail
        go_roundw
        case rel => exact ⟨k + 1, by go_num, by omega, hHeld⟩
        case measure => (simp [intOf]; try omega)
      · go_wp2
        go_ret2
        exact ⟨_, _, rfl, hHeld.bel, fun h => absurd h (by decide)⟩
    go_wp2_with fail
    all_goals try (exfalso; omega)
    clear c8 hml
    go_loopw [5] (fun i wr => ∃ k : Nat, i = .int .i64 k ∧ k ≤ m.msgs.length ∧ Hid (FreeTo m k) ∧ Own w.heap.size w [(w.heap.size, boxM m (.slice a1 m.masters.length p1) (.slice a2 m.msgs.length p2) (.slice a3 m.wins.length p3))] wr) (fun i _ => m.msgs.length - (intOf i).toNat)
    case atStart => exact ⟨0, rfl, by omega, Lib.hid (fun j x hj => by omega), hO⟩
    case round =>
      clear hO hlt hk
      obtain ⟨k, rfl, hk, HF, hO⟩ := hrel
      obtain ⟨c0, c1, c2, c3, c4, c5, c6, c7, c8, c9, c10⟩ := boxM_c hO.get0
      have hml := lt_of_heap hO.get0
      by_cases hlt : k < m.msgs.length
      · have hlt' : (k : Int) < m.msgs.length := by omega
        obtain ⟨y, b, off, hy, hm, rfl, hb, hc⟩ := (R2.out.keep hO.bel).at_ k hlt
        have e0 := hc 0 _ rfl
        simp only [Nat.add_zero, ← Nat.add_assoc] at e0
        have hid := HID.out y hm
        have HIU := Lib.hid (u32_bd (RM.out.ok.msgs y hm).1)
        have HRU := Lib.hid (u32_bd RM.out.ok.ref)
        have HY := Lib.hid hy
        obtain ⟨r, hr⟩ : ∃ r, findI m ⟨false, y.id, false, ⟨#[]⟩⟩ = r := ⟨_, rfl⟩
        have HR := Lib.hid hr
        clear hc hy hm hr
        go_wp2_with fail
        refine (own_below hO (rmat_find (RM.out.keep hO.bel) ⟨false, y.id, false, ⟨#[]⟩⟩)).mono ?_
        rw [HR.out]
        rintro e w3 ⟨rfl, hO⟩
        clear c0 c1 c2 c3 c4 c5 c6 c7 c8 c9 c10 hml e0 hb
        obtain ⟨c0, c1, c2, c3, c4, c5, c6, c7, c8, c9, c10⟩ := boxM_c hO.get0
        have hml := lt_of_heap hO.get0
        by_cases h1 : r < (k : Int)
        · have h1' : decide (r < (k : Int)) = true := by simpa using h1
          go_wp2
          go_ret2
          exact ⟨_, _, rfl, hO.bel, fun h => absurd h (by decide)⟩
        · have h1' : decide (r < (k : Int)) = false := by simpa using h1
          by_cases h2 : y.id / 8 = m.ref / 8
          · have h2' : (y.id.tdiv 8 % 4294967296 == m.ref.tdiv 8 % 4294967296) = true := by rw [tdiv8 HIU.out, tdiv8 HRU.out]; simpa using h2
            clear h2
            go_wp2
            go_ret2
            exact ⟨_, _, rfl, hO.bel, fun h => absurd h (by decide)⟩
          · have h2' : (y.id.tdiv 8 % 4294967296 == m.ref.tdiv 8 % 4294967296) = false := by rw [tdiv8 HIU.out, tdiv8 HRU.out]; simpa using h2
            have HF2 := Lib.hid (HF.out.succ HY.out h2)
            clear h2
            go_wp2_with fail
            go_roundw
            case rel => exact ⟨k + 1, by go_num, by omega, HF2, hO⟩
            case measure => (simp [intOf]; try omega)
      · obtain rfl : k = m.msgs.length := by omega
        have HF2 := Lib.hid HF.out.all
        clear HF
        go_wp2
        all_goals try (exfalso; omega)
        go_ret2
        exact ⟨_, _, rfl, hO.bel, fun _ => HF2.out⟩
end Go.Proofs.Ythkhlcigegbpfaa
