/- The reference's Is. -/
import Derived.Test.YthkhlcigegbpfaaMatIs3
namespace Go.Proofs.Ythkhlcigegbpfaa
set_option linter.unusedVariables false
set_option linter.unusedSimpArgs false
open Go.ChangeShapes Go.WideShapes Go.ChangeAt Go.RowKit Go.Deep

theorem rmat_within (a b c : Int) (w : World) : Calls Try.prog 69 #[.int .i64 a, .int .i64 b, .int .i64 c] w fun e w' => e = .returned (.bool (wi a b c)) ∧ w = w' := by
  by_cases h1 : b ≤ a
  · go_enter Try.func69, Try.ntmps69
    go_wp2
    go_ret
    exact ⟨by simp [wi, h1], rfl⟩
  · go_enter Try.func69, Try.ntmps69
    go_wp2
    go_ret
    exact ⟨by simp [wi]; omega, rfl⟩
theorem rmat_power (a b : Int) (w : World) : Calls Try.prog 70 #[.int .i64 a, .int .i64 b] w fun e w' => e = .returned (.bool (pw a && decide (a ≤ b))) ∧ w = w' := by
  go_enter Try.func70, Try.ntmps70
  go_wp2
  all_goals
    go_ret
    refine ⟨ret_bool ?_, rfl⟩
    first
      | (simp [pw, *]; done)
      | (simp [pw, *]; omega)
      | (simp_all [pw]; done)
      | (simp_all [pw]; omega)
theorem Clean.all {α : Type} {p : α → Bool} {l : List α} {k : Nat} (h : Clean (fun y => !p y) l k) (hk : l.length ≤ k) : l.all p = true := by
  rw [List.all_eq_true]
  intro x hx
  obtain ⟨i, hi⟩ := List.getElem?_of_mem hx
  have := h i x (by have := (List.getElem?_eq_some_iff.1 hi).1; omega) hi
  simpa using this
theorem all_false {α : Type} {p : α → Bool} {l : List α} {x : α} (hx : x ∈ l) (hp : p x = false) : l.all p = false := by
  rw [Bool.eq_false_iff]
  intro h
  rw [List.all_eq_true] at h
  rw [h x hx] at hp
  cases hp

set_option maxRecDepth 100000 in
set_option maxHeartbeats 4000000 in
theorem rmat_is {w : World} {m : Mat} {s1 s2 s3 : Value} (h : RdM w m s1 s2 s3) : Calls Try.prog 33 #[matV m s1 s2 s3] w fun e w' => e = .returned (.bool (isB m)) ∧ Below w.heap.size w w' := by
  have hO := (Own.nil_ (Below.refl w.heap.size w) (Nat.le_refl _)).alloc (boxM m s1 s2 s3)
  obtain ⟨a1, p1, e1, r1⟩ := h.r1.shape
  obtain ⟨a2, p2, e2, r2⟩ := h.r2.shape
  obtain ⟨a3, p3, e3, r3⟩ := h.r3.shape
  have hok := h.ok
  subst e1 e2 e3
  clear h
  have hrb := bounds_u32 hok.ref
  have HO := Lib.hid hok
  clear hok
  have l1 := r1.len.2
  have l2 := r2.len.2
  have l3 := r3.len.2
  unfold maxLen at l1 l2 l3
  have R1 := Lib.hid r1
  have R2 := Lib.hid r2
  have R3 := Lib.hid r3
  clear r1 r2 r3
  unfold matV
  have c0 := cell_of hO.get0 0
  have c0 := cell_of hO.get0 0
  have c1 := cell_of hO.get0 1
  have c2 := cell_of hO.get0 2
  have c3 := cell_of hO.get0 3
  have c4 := cell_of hO.get0 4
  have c5 := cell_of hO.get0 5
  have c6 := cell_of hO.get0 6
  have c7 := cell_of hO.get0 7
  have c8 := cell_of hO.get0 8
  have c9 := cell_of hO.get0 9
  have c10 := cell_of hO.get0 10
  have cf0 := free_of hO.get0 0
  have cf1 := free_of hO.get0 1
  have cf2 := free_of hO.get0 2
  have cf3 := free_of hO.get0 3
  have cf4 := free_of hO.get0 4
  have cf5 := free_of hO.get0 5
  have cf6 := free_of hO.get0 6
  have cf7 := free_of hO.get0 7
  have cf8 := free_of hO.get0 8
  have cf9 := free_of hO.get0 9
  have cf10 := free_of hO.get0 10
  have clt := lt_of_heap hO.get0
  simp at c0 c1 c2 c3 c4 c5 c6 c7 c8 c9 c10
  clear cf0 cf1 cf2 cf3 cf4 cf5 cf6 cf7 cf8 cf9 cf10
  go_enter Try.func33, Try.ntmps33
  by_cases hh : headB m = true
  · have hh' := hh
    simp only [headB, Bool.and_eq_true, decide_eq_true_eq, beq_iff_eq] at hh'
    obtain ⟨⟨⟨⟨⟨⟨⟨⟨g1, g2⟩, g3⟩, g4⟩, g5⟩, g6⟩, g7⟩, g8⟩, g9⟩ := hh'
    have g3' : (pw m.cycles && decide (m.cycles ≤ 8)) = true := by
      simp [g3]; simp [pw] at g3; omega
    have HH := Lib.hid hh
    have hcyc : m.cycles ≤ 8 := by simp [pw] at g3; omega
    clear hh
    go_wp2_with (first | (go_at_call 69; refine (rmat_within _ _ _ _).mono ?_; rintro e w' ⟨rfl, rfl⟩) | (go_at_call 70; refine (rmat_power _ _ _).mono ?_; rintro e w' ⟨rfl, rfl⟩))
    rotate_right
    · clear g1 g2 g3 g4 g5 g6 g7 g8 g9 g3' hcyc
      have HL : Hid (wi m.masters.length 1 4 = true ∧ m.msgs.length ≤ 12 ∧ m.wins.length ≤ 16) := ⟨by assumption, by omega, by omega⟩
      go_loop [3] (fun i => ∃ k : Nat, i = .int .i64 k ∧ k ≤ m.masters.length ∧ Hid (Clean (fun y => !whoB y) m.masters k)) (fun i => m.masters.length - (intOf i).toNat)
      case atStart => exact ⟨0, rfl, by omega, Lib.hid (Clean.zero _ _)⟩
      case round =>
        obtain ⟨k, rfl, hk, hcl⟩ := hrel
        by_cases hlt : k < m.masters.length
        · obtain ⟨y, b, off, hy, hm, rfl, hb, hc⟩ := (R1.out.keep hO.bel).at_ k hlt
          have e0 := hc 0 _ rfl
          simp only [Nat.mul_one, Nat.add_zero, boxM] at e0
          have HY := Lib.hid hy
          clear hc hy
          by_cases hxy : whoB y = true
          · have HC := Lib.hid (hcl.out.succ HY.out (by simp [hxy]))
            have hxy' : wi y 0 99 = true := hxy
            clear hcl
            go_wp2_with (go_at_call 69; refine (rmat_within _ _ _ _).mono ?_; rintro e w' ⟨rfl, rfl⟩)
            go_round
            case rel => exact ⟨k + 1, by go_num, by omega, HC⟩
            case measure => simp [intOf]; omega
          · have hxy' : wi y 0 99 = false := by simpa [whoB] using hxy
            have HF := Lib.hid (show isB m = false by
              have := all_false (p := whoB) hm hxy'
              simp [isB, this])
            clear hcl
            go_wp2_with (go_at_call 69; refine (rmat_within _ _ _ _).mono ?_; rintro e w' ⟨rfl, rfl⟩)
            go_ret
            exact ⟨ret_bool HF.out.symm, hO.bel⟩
        · have HA1 := Lib.hid (hcl.out.all (by omega))
          clear hcl
          go_wp2
          go_loopw [4] (fun i wr => ∃ k : Nat, i = .int .i64 k ∧ k ≤ m.msgs.length ∧ Hid (Clean (fun y => !msgB y) m.msgs k) ∧ Own w.heap.size w [(w.heap.size, boxM m (.slice a1 m.masters.length p1) (.slice a2 m.msgs.length p2) (.slice a3 m.wins.length p3))] wr) (fun i _ => m.msgs.length - (intOf i).toNat)
          case atStart => exact ⟨0, rfl, by omega, Lib.hid (Clean.zero _ _), hO⟩
          case round =>
            clear hO c0 c1 c2 c3 c4 c5 c6 c7 c8 c9 c10 clt
            obtain ⟨k, rfl, hk, hcl, hO⟩ := hrel
            have c9 := cell_of hO.get0 9
            simp [boxM] at c9
            by_cases hlt : k < m.msgs.length
            · obtain ⟨y, b, off, hy, hm, rfl, hb, hc⟩ := (R2.out.keep hO.bel).at_ k hlt
              have e0 := hc 0 _ rfl
              have e1 := hc 1 _ rfl
              simp only [Nat.add_zero, ← Nat.add_assoc] at e0 e1
              have HY := Lib.hid hy
              have hyo := bounds_u32 (HO.out.msgs y hm).1
              clear hc hy
              by_cases hxy : msgB y = true
              · have HC := Lib.hid (hcl.out.succ HY.out (by simp [hxy]))
                simp only [msgB, whoB, Bool.and_eq_true, decide_eq_true_eq] at hxy
                obtain ⟨f1, f2⟩ := hxy
                clear hcl
                go_wp2_with (go_at_call 69; refine (rmat_within _ _ _ _).mono ?_; rintro e w' ⟨rfl, rfl⟩)
                go_roundw
                case rel => exact ⟨k + 1, by go_num, by omega, HC, hO⟩
                case measure => simp [intOf]; omega
              · replace hxy : msgB y = false := by simpa using hxy
                have HF := Lib.hid (show isB m = false by
                  have := all_false (p := msgB) hm hxy
                  simp [isB, this])
                clear hcl
                rcases Int.lt_or_le y.id 2048 with f1 | f1
                · have f2 : wi y.owner 0 99 = false := by simpa [msgB, whoB, f1] using hxy
                  clear hxy
                  go_wp2_with (go_at_call 69; refine (rmat_within _ _ _ _).mono ?_; rintro e w' ⟨rfl, rfl⟩)
                  all_goals (go_ret; exact ⟨ret_bool HF.out.symm, hO.bel⟩)
                · clear hxy
                  go_wp2
                  all_goals (go_ret; exact ⟨ret_bool HF.out.symm, hO.bel⟩)
            · have HA2 := Lib.hid (hcl.out.all (by omega))
              clear hcl
              go_wp2
              clear c9
              go_loopw [5] (fun i wr => ∃ k : Nat, i = .int .i64 k ∧ k ≤ m.wins.length ∧ Hid (Clean (fun y => !winB m y) m.wins k) ∧ Own w.heap.size w [(w.heap.size, boxM m (.slice a1 m.masters.length p1) (.slice a2 m.msgs.length p2) (.slice a3 m.wins.length p3))] wr) (fun i _ => m.wins.length - (intOf i).toNat)
              case atStart => exact ⟨0, rfl, by omega, Lib.hid (Clean.zero _ _), hO⟩
              case round =>
                clear hO
                obtain ⟨k, rfl, hk, hcl, hO⟩ := hrel
                have c10 := cell_of hO.get0 10
                simp [boxM] at c10
                by_cases hlt : k < m.wins.length
                · obtain ⟨y, b, off, hy, hm, rfl, hb, hc⟩ := (R3.out.keep hO.bel).at_ k hlt
                  have e0 := hc 0 _ rfl
                  have e1 := hc 1 _ rfl
                  have e2 := hc 2 _ rfl
                  have e3 := hc 3 _ rfl
                  have e4 := hc 4 _ rfl
                  have e5 := hc 5 _ rfl
                  simp only [Nat.add_zero, ← Nat.add_assoc] at e0 e1 e2 e3 e4 e5
                  have HY := Lib.hid hy
                  have hyo := (HO.out.wins y hm).2.2.2.2.1.bounds
                  have c2 := cell_of hO.get0 2
                  have c3 := cell_of hO.get0 3
                  simp [boxM] at c2 c3
                  have hwl := lt_of_heap hO.get0
                  clear hc hy
                  by_cases hxy : winB m y = true
                  · have HC := Lib.hid (hcl.out.succ HY.out (by simp [hxy]))
                    simp only [winB, Bool.and_eq_true, decide_eq_true_eq, Bool.or_eq_true, beq_iff_eq] at hxy
                    obtain ⟨⟨⟨⟨⟨⟨⟨⟨f1, f2⟩, f3⟩, f4⟩, f5⟩, f6⟩, f7⟩, f8⟩, f9⟩ := hxy
                    have f5' : (pw y.rep && decide (y.rep ≤ m.cycles)) = true := by simp [f5, f6]
                    have f5'' : 1 ≤ y.rep := by simp [pw] at f5; omega
                    clear hcl f5
                    rcases f9 with f9 | f9
                    · go_wp2_with (first | (go_at_call 69; refine (rmat_within _ _ _ _).mono ?_; rintro e w' ⟨rfl, rfl⟩) | (go_at_call 70; refine (rmat_power _ _ _).mono ?_; rintro e w' ⟨rfl, rfl⟩))
                      all_goals first | exact ⟨⟨k + 1, by go_num, by omega, HC, hO.alloc_ _⟩, by simp [intOf]; omega⟩ | (go_roundw <;> first | exact ⟨k + 1, by go_num, by omega, HC, hO.alloc_ _⟩ | (simp [intOf]; omega)) | (exfalso; omega) | (exfalso; clear e0 e1 e2 e3 e4 e5 c2 c3 c10 hO; simp_all; done)
                    · go_wp2_with (first | (go_at_call 69; refine (rmat_within _ _ _ _).mono ?_; rintro e w' ⟨rfl, rfl⟩) | (go_at_call 70; refine (rmat_power _ _ _).mono ?_; rintro e w' ⟨rfl, rfl⟩))
                      all_goals first | exact ⟨⟨k + 1, by go_num, by omega, HC, hO.alloc_ _⟩, by simp [intOf]; omega⟩ | (go_roundw <;> first | exact ⟨k + 1, by go_num, by omega, HC, hO.alloc_ _⟩ | (simp [intOf]; omega)) | (exfalso; omega) | (exfalso; clear e0 e1 e2 e3 e4 e5 c2 c3 c10 hO; simp_all; done)
                  · replace hxy : winB m y = false := by simpa using hxy
                    have HF := Lib.hid (show isB m = false by
                      have := all_false (p := winB m) hm hxy
                      simp [isB, this])
                    have hpn : (pw y.rep && decide (y.rep ≤ m.cycles)) = true → 1 ≤ y.rep := by
                      intro h; simp [pw] at h; omega
                    obtain ⟨pz, hpz⟩ : ∃ z, (pw y.rep && decide (y.rep ≤ m.cycles)) = z := ⟨_, rfl⟩
                    clear hcl
                    have HX := Lib.hid hxy
                    clear hxy
                    cases pz
                    · clear hpn
                      go_wp2_with (first | (go_at_call 69; refine (rmat_within _ _ _ _).mono ?_; rintro e w' ⟨rfl, rfl⟩) | (go_at_call 70; refine (rmat_power _ _ _).mono ?_; rintro e w' ⟨rfl, rfl⟩))
                      all_goals (go_ret; exact ⟨ret_bool HF.out.symm, (hO.alloc_ _).bel⟩)
                    · have hr1 := hpn hpz
                      clear hpn
                      go_wp2_with (first | (go_at_call 69; refine (rmat_within _ _ _ _).mono ?_; rintro e w' ⟨rfl, rfl⟩) | (go_at_call 70; refine (rmat_power _ _ _).mono ?_; rintro e w' ⟨rfl, rfl⟩))
                      all_goals
                        first
                          | (go_ret; exact ⟨ret_bool HF.out.symm, (hO.alloc_ _).bel⟩)
                          | (exfalso; have hx := HX.out; clear e0 e1 e2 e3 e4 e5 c2 c3 c10 hO; simp_all [winB]; done)
                          | (exfalso; have hx := HX.out; clear e0 e1 e2 e3 e4 e5 c2 c3 c10 hO; simp_all [winB]; omega)
                · have HA3 := Lib.hid (hcl.out.all (by omega))
                  clear hcl
                  go_wp2
                  go_ret
                  refine ⟨ret_bool ?_, hO.bel⟩
                  have x1 := HL.out
                  have x2 := HH.out
                  have x3 := HA1.out
                  have x4 := HA2.out
                  have x5 := HA3.out
                  clear c10 hO
                  simp [isB, x1, x2, x3, x4, x5]
    all_goals
      go_ret
      refine ⟨ret_bool ?_, hO.bel⟩
      first
        | (simp [isB, *]; done)
        | (simp [isB, *]; omega)
        | (simp_all [isB]; omega)
  · replace hh : headB m = false := by simpa using hh
    go_wp2_with (first | (go_at_call 69; refine (rmat_within _ _ _ _).mono ?_; rintro e w' ⟨rfl, rfl⟩) | (go_at_call 70; refine (rmat_power _ _ _).mono ?_; rintro e w' ⟨rfl, rfl⟩))
    all_goals
      first
        | (go_ret; exact ⟨ret_bool (by simp [isB, hh]), hO.bel⟩)
        | (exfalso; clear c0 c1 c2 c3 c4 c5 c6 c7 c8 c9 c10; simp_all [headB]; done)
        | (exfalso; clear c0 c1 c2 c3 c4 c5 c6 c7 c8 c9 c10; simp_all [headB]; omega)
end Go.Proofs.Ythkhlcigegbpfaa
