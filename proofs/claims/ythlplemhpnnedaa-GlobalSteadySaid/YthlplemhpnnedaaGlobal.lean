/- The package global: each function's contract over its block. -/
import Derived.Test.YthlplemhpnnedaaChecked
import Derived.Test.YthlplemhpnnedaaBase
import Derived.WalkKit
import Derived.BigQuiet
import Derived.Deep.QuietTactic
import Derived.RegionTactic
import Derived.Outline
import Derived.KernelRfl
import Derived.Lib.Hide
namespace Go.Proofs.Ythlplemhpnnedaa
set_option linter.unusedVariables false
set_option linter.unusedSimpArgs false
open Go.RowKit

theorem cell_other {w : World} {b i j : Nat} (h : i ≠ j) (v : Value) : (w.setCell ⟨b, i, none⟩ v).cell? ⟨b, j, none⟩ = w.cell? ⟨b, j, none⟩ :=
  World.cell?_setCell_other w ⟨b, i, none⟩ ⟨b, j, none⟩ v (by simp; try omega)

/-- copy of one element of three cells within a block, onto the element behind it. -/
theorem copy_three {P : Program} {dT sT E : TypeId} (hu : P.underlying dT = some (.slice E)) (hz : (P.info? E).map (·.size) = some 3)
    (w : World) (ty : TypeId) (b dc sc : Nat)
    (h0 : (w.cell? ⟨b, 0, none⟩).isSome = true) (h1 : (w.cell? ⟨b, 1, none⟩).isSome = true) (h2 : (w.cell? ⟨b, 2, none⟩).isSome = true)
    (h3 : (w.cell? ⟨b, 3, none⟩).isSome = true) (h4 : (w.cell? ⟨b, 4, none⟩).isSome = true) (h5 : (w.cell? ⟨b, 5, none⟩).isSome = true)
    (f3 : w.frozen? ⟨b, 3, none⟩ = false) (f4 : w.frozen? ⟨b, 4, none⟩ = false) (f5 : w.frozen? ⟨b, 5, none⟩ = false)
    (o0 : ((w.cell? ⟨b, 0, none⟩).getD undef).oneCell' = true) (o1 : ((w.cell? ⟨b, 1, none⟩).getD undef).oneCell' = true) (o2 : ((w.cell? ⟨b, 2, none⟩).getD undef).oneCell' = true) :
    (Builtin.copy_ #[dT, sT] ty #[.slice (some ⟨b, 3, none⟩) 1 dc, .slice (some ⟨b, 0, none⟩) 1 sc]).run P w =
      .ok (goInt 1) (((w.setCell ⟨b, 3, none⟩ ((w.cell? ⟨b, 0, none⟩).getD undef)).setCell ⟨b, 4, none⟩ ((w.cell? ⟨b, 1, none⟩).getD undef)).setCell ⟨b, 5, none⟩ ((w.cell? ⟨b, 2, none⟩).getD undef)) := by
  obtain ⟨v0, e0⟩ := Option.isSome_iff_exists.1 h0
  obtain ⟨v1, e1⟩ := Option.isSome_iff_exists.1 h1
  obtain ⟨v2, e2⟩ := Option.isSome_iff_exists.1 h2
  obtain ⟨v3, e3⟩ := Option.isSome_iff_exists.1 h3
  obtain ⟨v4, e4⟩ := Option.isSome_iff_exists.1 h4
  obtain ⟨v5, e5⟩ := Option.isSome_iff_exists.1 h5
  rw [e0] at o0; rw [e1] at o1; rw [e2] at o2
  simp only [e0, e1, e2, Option.getD_some] at o0 o1 o2 ⊢
  have hl1 := run_loadCells_list (P := P) w ⟨b, 0, none⟩ [v0, v1, v2] (fun j u hj => by
    rcases j with _ | _ | _ | j
    · simp at hj; subst hj; simpa [Addr.add] using e0
    · simp at hj; subst hj; simpa [Addr.add] using e1
    · simp at hj; subst hj; simpa [Addr.add] using e2
    · simp at hj)
  cases hq : P.info? E with
  | none => simp [hq] at hz
  | some i =>
    have hi : i.size = 3 := by simpa [hq] using hz
    have s0 := run_store P w ⟨b, 3, none⟩ v0 .plain o0
    simp [e3, f3] at s0
    have s1 := run_store P (w.setCell ⟨b, 3, none⟩ v0) ⟨b, 4, none⟩ v1 .plain o1
    simp [cell_other, e4, World.frozen?_setCell, f4] at s1
    have s2 := run_store P ((w.setCell ⟨b, 3, none⟩ v0).setCell ⟨b, 4, none⟩ v1) ⟨b, 5, none⟩ v2 .plain o2
    simp [cell_other, e5, World.frozen?_setCell, f5] at s2
    have a0 : (⟨b, 3, none⟩ : Addr).add 0 = ⟨b, 3, none⟩ := by simp [Addr.add]
    have a1 : (⟨b, 3, none⟩ : Addr).add 1 = ⟨b, 4, none⟩ := by simp [Addr.add]
    have a2 : (⟨b, 3, none⟩ : Addr).add 2 = ⟨b, 5, none⟩ := by simp [Addr.add]
    simp at hl1
    simp [Builtin.copy_, run_underlying hu, Builtin.lenOf, Builtin.firstCells, sizeOf, typeInfo, hq, hi, hl1, storeCells, a0, a1, a2, s0, s1, s2]

def since (a b : Int) : Int := (b - a) % 65536
theorem since_calls (a b : Int) (w : World) : Calls Try.prog 21 #[.int .u16 a, .int .u16 b] w fun e w' => e = .returned (.int .i64 (since a b)) ∧ w = w' := by
  have h1 : 0 ≤ IntKind.u16.wrap (b - a) := by rw [wu16]; omega
  have h2 : IntKind.u16.wrap (b - a) < 65536 := by rw [wu16]; omega
  go_enter Try.func21, Try.ntmps21
  go_wp2
  go_ret
  exact ⟨by rw [wu16]; rfl, rfl⟩

structure GlobalS where
  who : Int
  g : Int
  m : Int
  ow : Int
  og : Int
  om : Int
  st : Int
def gloO (s : GlobalS) : Obj := .cells #[.int .i64 s.who, .int .u16 s.g, .int .u16 s.m, .int .i64 s.ow, .int .u16 s.og, .int .u16 s.om, .int .i64 s.st] 50 (0, 0)
def GlobalS.new : GlobalS := ⟨0, 0, 0, 0, 0, 0, 0⟩
def GlobalS.beat (s : GlobalS) (who g m : Int) (disc : Bool) : GlobalS :=
  ⟨who, g, m, s.who, s.g, s.m, if s.st = 0 ∨ disc = true ∨ s.who ≠ who then 1 else min (s.st + 1) 1000⟩
def GlobalS.at (s : GlobalS) (t : Int) : Int := if s.st = 0 then t else (t + (s.g - s.m)) % 65536
def GlobalS.l1 (s : GlobalS) : Int := if s.st < 2 then 0 else since s.og s.g
def GlobalS.l2 (s : GlobalS) : Int := if s.st < 2 then 0 else since s.om s.m
def GlobalS.ok (s : GlobalS) : Bool := decide (2 ≤ s.st)
def GlobalS.rok (s : GlobalS) (num : Int) : Bool := decide (2 ≤ s.st ∧ 0 < s.l1 ∧ 0 < s.l2 ∧ 1 ≤ num ∧ num ≤ 1000000)
def GlobalS.rate (s : GlobalS) (num : Int) : Int := if s.rok num then num * s.l2 / s.l1 else num
def IsGlo (w : World) (b : Nat) (s : GlobalS) : Prop := w.heap[b]? = some (gloO s)

theorem glo_new (w : World) : Calls Try.prog 9 #[] w fun e w' => ∃ b, e = .returned (.pointer (some ⟨b, 0, none⟩)) ∧ IsGlo w' b GlobalS.new ∧ Below w.heap.size w w' ∧ w.heap.size ≤ b := by
  go_enter Try.func9, Try.ntmps9
  go_wp2
  go_ret
  exact ⟨_, rfl, new_blk _ _, (Below.refl _ _).alloc (Nat.le_refl _) _, Nat.le_refl _⟩

theorem glo_forget {w : World} {b : Nat} {s : GlobalS} (hM : IsGlo w b s) :
    Calls Try.prog 15 #[.pointer (some ⟨b, 0, none⟩)] w fun e w' => e = .returned (.tuple #[]) ∧ Upd b (gloO GlobalS.new) w w' := by
  have c0 := cell_of hM 0
  have c1 := cell_of hM 1
  have c2 := cell_of hM 2
  have c3 := cell_of hM 3
  have c4 := cell_of hM 4
  have c5 := cell_of hM 5
  have c6 := cell_of hM 6
  have cf0 := free_of hM 0
  have cf1 := free_of hM 1
  have cf2 := free_of hM 2
  have cf3 := free_of hM 3
  have cf4 := free_of hM 4
  have cf5 := free_of hM 5
  have cf6 := free_of hM 6
  have clt := lt_of_heap hM
  simp at c0 c1 c2 c3 c4 c5 c6
  go_enter Try.func15, Try.ntmps15
  go_wp2
  go_end0
  refine ⟨rfl, Upd.of_eq (by repeat (first | with_reducible apply Upd.setCell | with_reducible apply Upd.alloc | with_reducible apply Upd.drewN | exact Upd.refl hM)) ?_⟩
  simp [gloO, GlobalS.new]

theorem glo_steady {w : World} {b : Nat} {s : GlobalS} (hM : IsGlo w b s) :
    Calls Try.prog 12 #[.pointer (some ⟨b, 0, none⟩)] w fun e w' => e = .returned (.int .i64 s.st) ∧ w = w' := by
  have c0 := cell_of hM 0
  have c1 := cell_of hM 1
  have c2 := cell_of hM 2
  have c3 := cell_of hM 3
  have c4 := cell_of hM 4
  have c5 := cell_of hM 5
  have c6 := cell_of hM 6
  have cf0 := free_of hM 0
  have cf1 := free_of hM 1
  have cf2 := free_of hM 2
  have cf3 := free_of hM 3
  have cf4 := free_of hM 4
  have cf5 := free_of hM 5
  have cf6 := free_of hM 6
  have clt := lt_of_heap hM
  simp at c0 c1 c2 c3 c4 c5 c6
  go_enter Try.func12, Try.ntmps12
  go_wp2
  go_ret
  exact ⟨rfl, rfl⟩

theorem glo_copy {w : World} {b : Nat} {s : GlobalS} (hM : IsGlo w b s) :
    Calls Try.prog 17 #[.pointer (some ⟨b, 0, none⟩)] w fun e w' => ∃ b', e = .returned (.pointer (some ⟨b', 0, none⟩)) ∧ IsGlo w' b' s ∧ Below w.heap.size w w' ∧ w.heap.size ≤ b' := by
  have c0 := cell_of hM 0
  have c1 := cell_of hM 1
  have c2 := cell_of hM 2
  have c3 := cell_of hM 3
  have c4 := cell_of hM 4
  have c5 := cell_of hM 5
  have c6 := cell_of hM 6
  have cf0 := free_of hM 0
  have cf1 := free_of hM 1
  have cf2 := free_of hM 2
  have cf3 := free_of hM 3
  have cf4 := free_of hM 4
  have cf5 := free_of hM 5
  have cf6 := free_of hM 6
  have clt := lt_of_heap hM
  simp at c0 c1 c2 c3 c4 c5 c6
  go_enter Try.func17, Try.ntmps17
  go_wp2
  go_ret
  exact ⟨_, rfl, new_blk _ _, (Below.refl _ _).alloc (Nat.le_refl _) _, Nat.le_refl _⟩

theorem glo_at {w : World} {b : Nat} {s : GlobalS} (hM : IsGlo w b s) (t : Int) :
    Calls Try.prog 11 #[.pointer (some ⟨b, 0, none⟩), .int .u16 t] w fun e w' => e = .returned (.int .u16 (s.at t)) ∧ ∃ n, w' = w.drewN n := by
  have c0 := cell_of hM 0
  have c1 := cell_of hM 1
  have c2 := cell_of hM 2
  have c3 := cell_of hM 3
  have c4 := cell_of hM 4
  have c5 := cell_of hM 5
  have c6 := cell_of hM 6
  have cf0 := free_of hM 0
  have cf1 := free_of hM 1
  have cf2 := free_of hM 2
  have cf3 := free_of hM 3
  have cf4 := free_of hM 4
  have cf5 := free_of hM 5
  have cf6 := free_of hM 6
  have clt := lt_of_heap hM
  simp at c0 c1 c2 c3 c4 c5 c6
  by_cases k : s.st = 0
  · have d1 : (s.st == 0) = true := by simp [k]
    have E := Lib.hid (show s.at t = t by simp [GlobalS.at, k])
    clear k
    go_enter Try.func11, Try.ntmps11
    go_wp2
    go_ret
    exact ⟨by rw [E.out]; rfl, 0, rfl⟩
  · have d1 : (s.st == 0) = false := by simp [k]
    have E := Lib.hid (show s.at t = IntKind.u16.wrap (t + IntKind.u16.wrap (s.g - s.m)) by simp only [GlobalS.at, if_neg k, wu16]; omega)
    clear k
    go_enter Try.func11, Try.ntmps11
    go_wp2
    go_quiet (fail)
    go_wp2
    go_ret
    exact ⟨by rw [E.out]; rfl, _, rfl⟩

theorem glo_lengths {w : World} {b : Nat} {s : GlobalS} (hM : IsGlo w b s) :
    Calls Try.prog 14 #[.pointer (some ⟨b, 0, none⟩)] w fun e w' => e = .returned (.tuple #[.int .i64 s.l1, .int .i64 s.l2, .bool s.ok]) ∧ ∃ n, w' = w.drewN n := by
  have c0 := cell_of hM 0
  have c1 := cell_of hM 1
  have c2 := cell_of hM 2
  have c3 := cell_of hM 3
  have c4 := cell_of hM 4
  have c5 := cell_of hM 5
  have c6 := cell_of hM 6
  have cf0 := free_of hM 0
  have cf1 := free_of hM 1
  have cf2 := free_of hM 2
  have cf3 := free_of hM 3
  have cf4 := free_of hM 4
  have cf5 := free_of hM 5
  have cf6 := free_of hM 6
  have clt := lt_of_heap hM
  simp at c0 c1 c2 c3 c4 c5 c6
  by_cases k : s.st < 2
  · have E1 := Lib.hid (show s.l1 = 0 by simp [GlobalS.l1, k])
    have E2 := Lib.hid (show s.l2 = 0 by simp [GlobalS.l2, k])
    have E3 := Lib.hid (show s.ok = false by simp [GlobalS.ok]; omega)
    go_enter Try.func14, Try.ntmps14
    go_wp2
    go_ret3
    exact ⟨by rw [E1.out, E2.out, E3.out]; rfl, 0, rfl⟩
  · have E1 := Lib.hid (show s.l1 = since s.og s.g by simp [GlobalS.l1, k])
    have E2 := Lib.hid (show s.l2 = since s.om s.m by simp [GlobalS.l2, k])
    have E3 := Lib.hid (show s.ok = true by simp [GlobalS.ok]; omega)
    go_enter Try.func14, Try.ntmps14
    go_wp2
    go_quiet ((go_at_call 21; exact quiet_left (since_calls _ _ _)))
    go_wp2
    go_ret3
    exact ⟨by rw [E1.out, E2.out, E3.out]; rfl, _, rfl⟩

theorem z_beat : (Try.prog.info? 47).map (·.size) = some 3 := by kernel_rfl

theorem glo_beat {w : World} {b : Nat} {s : GlobalS} (hM : IsGlo w b s) (who g m : Int) (disc : Bool) (hs : 0 ≤ s.st ∧ s.st ≤ 1000) :
    Calls Try.prog 10 #[.pointer (some ⟨b, 0, none⟩), .int .i64 who, .int .u16 g, .int .u16 m, .bool disc] w fun e w' => e = .returned (.tuple #[]) ∧ Upd b (gloO (s.beat who g m disc)) w w' := by
  have c0 := cell_of hM 0
  have c1 := cell_of hM 1
  have c2 := cell_of hM 2
  have c3 := cell_of hM 3
  have c4 := cell_of hM 4
  have c5 := cell_of hM 5
  have c6 := cell_of hM 6
  have cf0 := free_of hM 0
  have cf1 := free_of hM 1
  have cf2 := free_of hM 2
  have cf3 := free_of hM 3
  have cf4 := free_of hM 4
  have cf5 := free_of hM 5
  have cf6 := free_of hM 6
  have clt := lt_of_heap hM
  simp at c0 c1 c2 c3 c4 c5 c6
  have hcp := @copy_three Try.prog 51 51 47 Try.underlying51 z_beat
  have hoc : ∀ k x, (Value.int k x).oneCell' = true := fun _ _ => rfl
  by_cases k : s.st = 0
  · have d1 : (s.st == 0) = true := by simp [k]
    have E := Lib.hid k
    clear k
    go_enter Try.func10, Try.ntmps10
    go_wp2
    go_region
    go_wp2
    go_end0
    refine ⟨rfl, Upd.of_eq (by repeat (first | with_reducible apply Upd.drew | with_reducible apply Upd.setCell | with_reducible apply Upd.alloc | with_reducible apply Upd.drewN | exact Upd.refl hM)) ?_⟩
    simp [gloO, GlobalS.beat, E.out]
  · have d1 : (s.st == 0) = false := by simp [k]
    cases disc
    · by_cases k2 : s.who = who
      · have d2 : (s.who != who) = false := by simp [k2]
        have d3 : decide (s.who = who) = true := by simp [k2]
        have E := Lib.hid k
        have E2 := Lib.hid k2
        clear k k2
        by_cases k3 : s.st < 1000
        · go_enter Try.func10, Try.ntmps10
          go_wp2
          go_region
          go_wp2
          go_end0
          refine ⟨rfl, Upd.of_eq (by repeat (first | with_reducible apply Upd.drew | with_reducible apply Upd.setCell | with_reducible apply Upd.alloc | with_reducible apply Upd.drewN | exact Upd.refl hM)) ?_⟩
          simp [gloO, GlobalS.beat, E.out, E2.out]
          omega
        · go_enter Try.func10, Try.ntmps10
          go_wp2
          go_region
          go_wp2
          go_end0
          refine ⟨rfl, Upd.of_eq (by repeat (first | with_reducible apply Upd.drew | with_reducible apply Upd.setCell | with_reducible apply Upd.alloc | with_reducible apply Upd.drewN | exact Upd.refl hM)) ?_⟩
          simp [gloO, GlobalS.beat, E.out, E2.out]
          omega
      · have d2 : (s.who != who) = true := by simp [k2]
        have d3 : decide (s.who = who) = false := by simp [k2]
        have E := Lib.hid k
        have E2 := Lib.hid k2
        clear k k2
        go_enter Try.func10, Try.ntmps10
        go_wp2
        go_region
        go_wp2
        go_end0
        refine ⟨rfl, Upd.of_eq (by repeat (first | with_reducible apply Upd.drew | with_reducible apply Upd.setCell | with_reducible apply Upd.alloc | with_reducible apply Upd.drewN | exact Upd.refl hM)) ?_⟩
        simp [gloO, GlobalS.beat, E2.out]
    · have E := Lib.hid k
      clear k
      go_enter Try.func10, Try.ntmps10
      go_wp2
      go_region
      go_wp2
      go_end0
      refine ⟨rfl, Upd.of_eq (by repeat (first | with_reducible apply Upd.drew | with_reducible apply Upd.setCell | with_reducible apply Upd.alloc | with_reducible apply Upd.drewN | exact Upd.refl hM)) ?_⟩
      simp [gloO, GlobalS.beat]

theorem glo_rate {w : World} {b : Nat} {s : GlobalS} (hM : IsGlo w b s) (num : Int) (hn : (Lit.int .i64 num).wf = true) :
    Calls Try.prog 13 #[.pointer (some ⟨b, 0, none⟩), .int .i64 num] w fun e w' => e = .returned (.tuple #[.int .i64 (s.rate num), .bool (s.rok num)]) ∧ ∃ n, w' = w.drewN n := by
  by_cases k : 2 ≤ s.st ∧ 0 < s.l1 ∧ 0 < s.l2 ∧ 1 ≤ num ∧ num ≤ 1000000
  · obtain ⟨k1, k2, k3, k4, k5⟩ := k
    have E1 := Lib.hid (show s.rok num = true by simp [GlobalS.rok, k1, k2, k3, k4, k5])
    have E2 := Lib.hid (show s.rate num = num * s.l2 / s.l1 by simp [GlobalS.rate, E1.out])
    have E3 := Lib.hid (show s.ok = true by simp [GlobalS.ok, k1])
    have g1 : s.l1 < 65536 := by unfold GlobalS.l1; split <;> (try unfold since) <;> omega
    have g2 : s.l2 < 65536 := by unfold GlobalS.l2; split <;> (try unfold since) <;> omega
    obtain ⟨x, hx⟩ : ∃ x, s.l1 = x := ⟨_, rfl⟩
    obtain ⟨y, hy⟩ : ∃ y, s.l2 = y := ⟨_, rfl⟩
    have hm0 : 0 ≤ num * s.l2 := Int.mul_nonneg (by omega) (by omega)
    have hm1 : num * s.l2 ≤ 1000000 * 65536 := Int.mul_le_mul k5 (by omega) (by omega) (by omega)
    rw [hx] at E2 k2 g1
    rw [hy] at E2 k3 g2 hm0 hm1
    have X := Lib.hid hx
    have Y := Lib.hid hy
    have hwr : wrap64 (num * y) = num * y := by unfold wrap64; omega
    clear hx hy
    go_enter Try.func13, Try.ntmps13
    go_wp2_with fail
    refine (glo_lengths hM).mono ?_
    rintro e w' ⟨rfl, nq, rfl⟩
    rw [E3.out, X.out, Y.out]
    go_wp2
    go_ret2
    exact ⟨by rw [E1.out, E2.out]; rfl, _, rfl⟩
  · have E1 := Lib.hid (show s.rok num = false by simp only [GlobalS.rok, k]; rfl)
    have E2 := Lib.hid (show s.rate num = num by simp [GlobalS.rate, E1.out])
    by_cases k1 : 2 ≤ s.st
    · have E3 := Lib.hid (show s.ok = true by simp [GlobalS.ok, k1])
      by_cases k2 : 0 < s.l1
      · by_cases k3 : 0 < s.l2
        · by_cases k4 : 1 ≤ num
          · have k5 : 1000000 < num := by
              by_cases h : num ≤ 1000000
              · exact absurd ⟨k1, k2, k3, k4, h⟩ k
              · omega
            clear k
            go_enter Try.func13, Try.ntmps13
            go_wp2_with fail
            refine (glo_lengths hM).mono ?_
            rintro e w' ⟨rfl, nq, rfl⟩
            rw [E3.out]
            go_wp2
            go_ret2
            exact ⟨by rw [E1.out, E2.out]; rfl, _, rfl⟩
          · clear k
            go_enter Try.func13, Try.ntmps13
            go_wp2_with fail
            refine (glo_lengths hM).mono ?_
            rintro e w' ⟨rfl, nq, rfl⟩
            rw [E3.out]
            go_wp2
            go_ret2
            exact ⟨by rw [E1.out, E2.out]; rfl, _, rfl⟩
        · clear k
          go_enter Try.func13, Try.ntmps13
          go_wp2_with fail
          refine (glo_lengths hM).mono ?_
          rintro e w' ⟨rfl, nq, rfl⟩
          rw [E3.out]
          go_wp2
          go_ret2
          exact ⟨by rw [E1.out, E2.out]; rfl, _, rfl⟩
      · clear k
        go_enter Try.func13, Try.ntmps13
        go_wp2_with fail
        refine (glo_lengths hM).mono ?_
        rintro e w' ⟨rfl, nq, rfl⟩
        rw [E3.out]
        go_wp2
        go_ret2
        exact ⟨by rw [E1.out, E2.out]; rfl, _, rfl⟩
    · have E3 := Lib.hid (show s.ok = false by simp [GlobalS.ok]; omega)
      clear k
      go_enter Try.func13, Try.ntmps13
      go_wp2_with fail
      refine (glo_lengths hM).mono ?_
      rintro e w' ⟨rfl, nq, rfl⟩
      rw [E3.out]
      go_wp2
      go_ret2
      exact ⟨by rw [E1.out, E2.out]; rfl, _, rfl⟩
end Go.Proofs.Ythlplemhpnnedaa
