/- matrix.Is. -/
import Derived.Test.YthkhlcigegbpfaaMatIs
namespace Go.Proofs.Ythkhlcigegbpfaa
set_option linter.unusedVariables false
set_option linter.unusedSimpArgs false
open Go.ChangeShapes Go.WideShapes Go.ChangeAt Go.RowKit Go.Deep

def msgV (x : Msg) : Value := .agg #[.int .u32 x.id, .int .i64 x.owner, .bool x.ev]
theorem mat_msgF {w : World} {p : Nat} (hw : w.cell? ⟨p, 0, none⟩ = some (.func (.func 62) #[] #[])) (x : Msg) (hx : x.Ok) :
    Calls Try.prog 63 #[msgV x, .pointer (some ⟨p, 0, none⟩)] w fun e w' => e = .returned (.bool (!msgB x)) ∧ Below w.heap.size w w' := by
  have hb := bounds_u32 hx.1
  have hlt := World.block_lt_of_cell? w _ hw
  have hO0 := (Own.nil_ (Below.refl w.heap.size w) (Nat.le_refl _)).alloc (.cells #[.int .u32 x.id, .int .i64 x.owner, .bool x.ev] 53)
  have hne : p ≠ w.heap.size := by simp at hlt; omega
  unfold msgV
  go_enter Try.func63, Try.ntmps63
  go_wp2_with (go_at_call 62; refine (mat_who _ _).mono ?_; rintro e w' ⟨rfl, rfl⟩)
  all_goals
    go_ret
    exact ⟨ret_bool (by simp [msgB] <;> omega), hO0.bel⟩

theorem mat_msgs {w : World} {a : Option Addr} {n cap p : Nat} {l : List Msg} (h : RdL 3 msgC w (.slice a n cap) l) (hok : ∀ x ∈ l, x.Ok) (hw : w.cell? ⟨p, 0, none⟩ = some (.func (.func 62) #[] #[])) :
    Calls Try.prog 55 #[.slice a n cap, .func (.func 63) #[] #[.pointer (some ⟨p, 0, none⟩)]] w fun e w' => e = .returned (.int .i64 (firstI (fun y => !msgB y) l)) ∧ Below w.heap.size w w' := by
  obtain ⟨hn, hc1, hc2⟩ := h.len
  unfold maxLen at hc2
  have H := Lib.hid h
  have HN := Lib.hid hn
  have HW := Lib.hid hw
  have hpl := World.block_lt_of_cell? w _ hw
  clear h hn hw
  go_enter Try.func55, Try.ntmps55
  go_wp2_with fail
  go_loopw [8] (fun i wr => ∃ k : Nat, i = .int .i64 k ∧ k ≤ n ∧ Hid (Clean (fun y => !msgB y) l k) ∧ Below w.heap.size w wr) (fun i _ => n - (intOf i).toNat)
  case atStart => exact ⟨0, rfl, by omega, Lib.hid (Clean.zero _ _), Below.refl _ _⟩
  case round =>
    obtain ⟨k, rfl, hk, hcl, hB⟩ := hrel
    by_cases hlt : k < n
    · obtain ⟨y, b, off, hy, hm, rfl, hb, hc⟩ := (H.out.keep hB).at_ k hlt
      have c0 := hc 0 _ rfl
      have c1 := hc 1 _ rfl
      have c2 := hc 2 _ rfl
      simp only [Nat.add_zero, ← Nat.add_assoc] at c0 c1 c2
      have HY := Lib.hid hy
      have hcw := (hB.cell (p := ⟨p, 0, none⟩) hpl).trans HW.out
      have HC := Lib.hid hcw
      clear hc hy hcw
      by_cases hxy : msgB y = true
      · have HH := Lib.hid (hcl.out.succ HY.out (by simp [hxy]))
        clear hcl
        go_wp2_with fail
        refine (mat_msgF HC.out y (hok y hm)).mono ?_
        rintro e w' ⟨rfl, hB'⟩
        go_wp2_with fail
        go_roundw
        case rel => exact ⟨k + 1, by go_num, by omega, HH, hB.trans (hB'.mono hB.size)⟩
        case measure => simp [intOf]; omega
      · replace hxy : msgB y = false := by simpa using hxy
        have HH := Lib.hid (firstI_hit (p := fun y => !msgB y) _ HY.out hcl.out (by simp [hxy]))
        clear hcl
        go_wp2_with fail
        refine (mat_msgF HC.out y (hok y hm)).mono ?_
        rintro e w' ⟨rfl, hB'⟩
        go_wp2_with fail
        go_ret
        exact ⟨ret_int HH.out.symm, hB.trans (hB'.mono hB.size)⟩
    · have HH := Lib.hid (firstI_none (p := fun y => !msgB y) (l := l) (fun j y hj hy => hcl.out j y (by have := HN.out; omega) hy))
      clear hcl
      go_wp2
      go_ret
      exact ⟨ret_int HH.out.symm, hB⟩
theorem mat_winF {w : World} {p : Nat} {m : Mat} {s1 s2 s3 : Value} (hw : w.heap[p]? = some (boxM m s1 s2 s3)) (x : Win) (hx : x.Ok) :
    Calls Try.prog 64 #[winV x, .pointer (some ⟨p, 0, none⟩)] w fun e w' => e = .returned (.bool (!winB m x)) ∧ Below w.heap.size w w' := by
  have hlt := lt_of_heap hw
  have hO0 := (Own.nil_ (Below.refl w.heap.size w) (Nat.le_refl _)).alloc (boxW x)
  have c0 := cell_of hw 0
  have c1 := cell_of hw 1
  have c2 := cell_of hw 2
  have c3 := cell_of hw 3
  have c4 := cell_of hw 4
  have c5 := cell_of hw 5
  have c6 := cell_of hw 6
  have c7 := cell_of hw 7
  have c8 := cell_of hw 8
  have c9 := cell_of hw 9
  have c10 := cell_of hw 10
  have cf0 := free_of hw 0
  have cf1 := free_of hw 1
  have cf2 := free_of hw 2
  have cf3 := free_of hw 3
  have cf4 := free_of hw 4
  have cf5 := free_of hw 5
  have cf6 := free_of hw 6
  have cf7 := free_of hw 7
  have cf8 := free_of hw 8
  have cf9 := free_of hw 9
  have cf10 := free_of hw 10
  have clt := lt_of_heap hw
  simp at c0 c1 c2 c3 c4 c5 c6 c7 c8 c9 c10
  have hne : p ≠ w.heap.size := by omega
  unfold winV
  go_enter Try.func64, Try.ntmps64
  go_wp2_with fail
  have hW := mat_window m s1 s2 s3 x hx.2.2.2.2.1 (w.alloc (boxW x))
  unfold matV winV at hW
  refine (own_below hO0 hW).mono ?_
  rintro e w1 ⟨rfl, hO⟩
  go_wp2_with fail
  go_ret
  exact ⟨rfl, hO.bel⟩
theorem mat_wins {w : World} {a : Option Addr} {n cap p : Nat} {l : List Win} {m : Mat} {s1 s2 s3 : Value} (h : RdL 6 winC w (.slice a n cap) l) (hok : ∀ x ∈ l, x.Ok) (hw : w.heap[p]? = some (boxM m s1 s2 s3)) :
    Calls Try.prog 90 #[.slice a n cap, .func (.func 64) #[] #[.pointer (some ⟨p, 0, none⟩)]] w fun e w' => e = .returned (.int .i64 (firstI (fun y => !winB m y) l)) ∧ Below w.heap.size w w' := by
  obtain ⟨hn, hc1, hc2⟩ := h.len
  unfold maxLen at hc2
  have H := Lib.hid h
  have HN := Lib.hid hn
  have HW := Lib.hid hw
  have hpl := lt_of_heap hw
  clear h hn hw
  go_enter Try.func90, Try.ntmps90
  go_wp2_with fail
  go_loopw [8] (fun i wr => ∃ k : Nat, i = .int .i64 k ∧ k ≤ n ∧ Hid (Clean (fun y => !winB m y) l k) ∧ Below w.heap.size w wr) (fun i _ => n - (intOf i).toNat)
  case atStart => exact ⟨0, rfl, by omega, Lib.hid (Clean.zero _ _), Below.refl _ _⟩
  case round =>
    obtain ⟨k, rfl, hk, hcl, hB⟩ := hrel
    by_cases hlt : k < n
    · obtain ⟨y, b, off, hy, hm, rfl, hb, hc⟩ := (H.out.keep hB).at_ k hlt
      have c0 := hc 0 _ rfl
      have c1 := hc 1 _ rfl
      have c2 := hc 2 _ rfl
      have c3 := hc 3 _ rfl
      have c4 := hc 4 _ rfl
      have c5 := hc 5 _ rfl
      simp only [Nat.add_zero, ← Nat.add_assoc] at c0 c1 c2 c3 c4 c5
      have HY := Lib.hid hy
      have hcw := (hB.block p hpl).trans HW.out
      have HC := Lib.hid hcw
      clear hc hy hcw
      by_cases hxy : winB m y = true
      · have HH := Lib.hid (hcl.out.succ HY.out (by simp [hxy]))
        clear hcl
        go_wp2_with fail
        refine (mat_winF HC.out y (hok y hm)).mono ?_
        rintro e w' ⟨rfl, hB'⟩
        go_wp2_with fail
        go_roundw
        case rel => exact ⟨k + 1, by go_num, by omega, HH, hB.trans (hB'.mono hB.size)⟩
        case measure => simp [intOf]; omega
      · replace hxy : winB m y = false := by simpa using hxy
        have HH := Lib.hid (firstI_hit (p := fun y => !winB m y) _ HY.out hcl.out (by simp [hxy]))
        clear hcl
        go_wp2_with fail
        refine (mat_winF HC.out y (hok y hm)).mono ?_
        rintro e w' ⟨rfl, hB'⟩
        go_wp2_with fail
        go_ret
        exact ⟨ret_int HH.out.symm, hB.trans (hB'.mono hB.size)⟩
    · have HH := Lib.hid (firstI_none (p := fun y => !winB m y) (l := l) (fun j y hj hy => hcl.out j y (by have := HN.out; omega) hy))
      clear hcl
      go_wp2
      go_ret
      exact ⟨ret_int HH.out.symm, hB⟩

section
variable {w : World} {a : Option Addr} {n cap p : Nat}
theorem con_whos {l : List Int} (h : RdL 1 intC w (.slice a n cap) l) :
    Calls Try.prog 66 #[.slice a n cap, .func (.func 62) #[] #[]] w fun e w' => e = .returned (.bool (!l.all whoB)) ∧ w = w' := by
  have HA := Lib.hid ((firstI_any (fun y => !whoB y) l).trans (show _ = !l.all whoB by rw [List.all_eq_not_any_not]; simp))
  go_enter Try.func66, Try.ntmps66
  go_wp2_with fail
  refine (mat_whos h).mono ?_
  rintro e w' ⟨rfl, rfl⟩
  go_wp2_with fail
  go_ret
  exact ⟨ret_bool HA.out, rfl⟩
theorem con_msgs {l : List Msg} (h : RdL 3 msgC w (.slice a n cap) l) (hok : ∀ x ∈ l, x.Ok) (hw : w.cell? ⟨p, 0, none⟩ = some (.func (.func 62) #[] #[])) :
    Calls Try.prog 67 #[.slice a n cap, .func (.func 63) #[] #[.pointer (some ⟨p, 0, none⟩)]] w fun e w' => e = .returned (.bool (!l.all msgB)) ∧ Below w.heap.size w w' := by
  have HA := Lib.hid ((firstI_any (fun y => !msgB y) l).trans (show _ = !l.all msgB by rw [List.all_eq_not_any_not]; simp))
  go_enter Try.func67, Try.ntmps67
  go_wp2_with fail
  refine (mat_msgs h hok hw).mono ?_
  rintro e w' ⟨rfl, hB⟩
  go_wp2_with fail
  go_ret
  exact ⟨ret_bool HA.out, hB⟩
theorem con_wins {l : List Win} {m : Mat} {s1 s2 s3 : Value} (h : RdL 6 winC w (.slice a n cap) l) (hok : ∀ x ∈ l, x.Ok) (hw : w.heap[p]? = some (boxM m s1 s2 s3)) :
    Calls Try.prog 68 #[.slice a n cap, .func (.func 64) #[] #[.pointer (some ⟨p, 0, none⟩)]] w fun e w' => e = .returned (.bool (!l.all (winB m))) ∧ Below w.heap.size w w' := by
  have HA := Lib.hid ((firstI_any (fun y => !winB m y) l).trans (show _ = !l.all (winB m) by rw [List.all_eq_not_any_not]; simp))
  go_enter Try.func68, Try.ntmps68
  go_wp2_with fail
  refine (mat_wins h hok hw).mono ?_
  rintro e w' ⟨rfl, hB⟩
  go_wp2_with fail
  go_ret
  exact ⟨ret_bool HA.out, hB⟩
end
end Go.Proofs.Ythkhlcigegbpfaa
