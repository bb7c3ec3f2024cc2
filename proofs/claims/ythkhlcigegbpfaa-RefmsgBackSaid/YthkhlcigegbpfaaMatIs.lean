/- matrix.Is: the contracts of its parts. -/
import Derived.Test.YthkhlcigegbpfaaMat
import Derived.Test.YthkhlcigegbpfaaChecked
import Derived.BigQuiet
import Derived.BigGuardPart
import Derived.Deep.QuietTactic
import Derived.Outline
import Derived.Laws.EntriesVeiled
import Derived.WalkSpells
namespace Go.Proofs.Ythkhlcigegbpfaa
set_option linter.unusedVariables false
set_option linter.unusedSimpArgs false
open Go.ChangeShapes Go.WideShapes Go.ChangeAt Go.RowKit Go.Deep

def wi (n lo hi : Int) : Bool := decide (lo ≤ n) && decide (n ≤ hi)
def pw (n : Int) : Bool := n == 1 || n == 2 || n == 4 || n == 8
def whoB (n : Int) : Bool := wi n 0 99
def msgB (x : Msg) : Bool := decide (x.id < 2048) && whoB x.owner
def headB (m : Mat) : Bool := wi m.level 1 2 && wi m.nodes 1 8 && pw m.cycles && wi m.length 1 4000 && wi m.enable 1 16 && wi m.unit 1 64 && wi m.init 0 8000 && decide (m.ref < 2048) && (m.ref % 8 == 0)
def winB (m : Mat) (w : Win) : Bool :=
  wi w.kind 1 3 && wi w.start 0 m.length && wi w.stop 0 m.length && decide (w.start < w.stop) && pw w.rep && decide (w.rep ≤ m.cycles) && wi w.cyc 0 (w.rep - 1) && wi w.msg 0 99 && (w.msg == 0 || w.kind == 1)
def isB (m : Mat) : Bool :=
  headB m && wi m.masters.length 1 4 && decide (m.msgs.length ≤ 12) && decide (m.wins.length ≤ 16) && m.masters.all whoB && m.msgs.all msgB && m.wins.all (winB m)

/-- The first place at which p holds; -1: none. -/
def firstI {α : Type} (p : α → Bool) (l : List α) : Int := if l.findIdx p < l.length then (l.findIdx p : Int) else -1
theorem firstI_hit {α : Type} {p : α → Bool} {l : List α} {k : Nat} (x : α) (hk : l[k]? = some x) (hb : ∀ j y, j < k → l[j]? = some y → p y = false) (hp : p x = true) : firstI p l = k := by
  have hlt := (List.getElem?_eq_some_iff.1 hk).1
  have e : l.findIdx p = k := by
    rw [List.findIdx_eq hlt]
    exact ⟨by rw [(List.getElem?_eq_some_iff.1 hk).2]; exact hp, fun j hj => hb j _ hj (by simp)⟩
  unfold firstI
  rw [e, if_pos hlt]
theorem firstI_none {α : Type} {p : α → Bool} {l : List α} (hb : ∀ j y, j < l.length → l[j]? = some y → p y = false) : firstI p l = -1 := by
  have e : ¬ l.findIdx p < l.length := by
    intro h
    have h1 := List.findIdx_getElem (w := h)
    have h2 := hb _ l[l.findIdx p] h (by simp)
    rw [h2] at h1
    cases h1
  unfold firstI
  rw [if_neg e]
theorem firstI_any {α : Type} (p : α → Bool) (l : List α) : decide (0 ≤ firstI p l) = l.any p := by
  unfold firstI
  rw [Bool.eq_iff_iff]
  simp only [decide_eq_true_eq, List.any_eq_true]
  by_cases h : l.findIdx p < l.length
  · rw [if_pos h]
    have := List.findIdx_getElem (w := h)
    exact ⟨fun _ => ⟨_, List.getElem_mem h, this⟩, fun _ => by omega⟩
  · rw [if_neg h]
    refine ⟨fun h' => by omega, fun ⟨x, hx, hp⟩ => ?_⟩
    exact absurd (List.findIdx_lt_length_of_exists ⟨x, hx, hp⟩) h
theorem I64.bounds {n : Int} (h : I64 n) : -9223372036854775808 ≤ n ∧ n ≤ 9223372036854775807 := by
  have := bounds_i64 h; omega

theorem ret_int {k : IntKind} {a b : Int} (h : a = b) : Ending.returned (.int k a) = .returned (.int k b) := by rw [h]
theorem ret_bool {a b : Bool} (h : a = b) : Ending.returned (.bool a) = .returned (.bool b) := by rw [h]

theorem mat_within (a b c : Int) (w : World) : Calls Try.prog 61 #[.int .i64 a, .int .i64 b, .int .i64 c] w fun e w' => e = .returned (.bool (wi a b c)) ∧ w = w' := by
  by_cases h1 : b ≤ a
  · go_enter Try.func61, Try.ntmps61
    go_wp2
    go_ret
    exact ⟨by simp [wi, h1], rfl⟩
  · go_enter Try.func61, Try.ntmps61
    go_wp2
    go_ret
    exact ⟨by simp [wi]; omega, rfl⟩

/-- A row of numbers in memory, at index k. -/
theorem RdL.at_ {α : Type} {k : Nat} {C : α → List Value} {w : World} {a : Option Addr} {n cap : Nat} {l : List α} (h : RdL k C w (.slice a n cap) l) (i : Nat) (hi : i < n) :
    ∃ x b off, l[i]? = some x ∧ x ∈ l ∧ a = some ⟨b, off, none⟩ ∧ b < w.heap.size ∧ ∀ j u, (C x)[j]? = some u → w.cell? ⟨b, off + (i * k + j), none⟩ = some u := by
  obtain ⟨a', cap', e, h2, h2', h3⟩ := h
  simp only [Value.slice.injEq] at e
  obtain ⟨rfl, rfl, rfl⟩ := e
  obtain ⟨b, off, e, hlt, hc⟩ := h3 i l[i] (by simp [hi])
  exact ⟨l[i], b, off, by simp [hi], by simp, e, hlt, hc⟩
theorem RdL.len {α : Type} {k : Nat} {C : α → List Value} {w : World} {a : Option Addr} {n cap : Nat} {l : List α} (h : RdL k C w (.slice a n cap) l) : n = l.length ∧ n ≤ cap ∧ cap ≤ maxLen := by
  obtain ⟨a', cap', e, h2, h2', h3⟩ := h
  simp only [Value.slice.injEq] at e
  obtain ⟨rfl, rfl, rfl⟩ := e
  exact ⟨rfl, h2, h2'⟩
theorem RdL.shape {α : Type} {k : Nat} {C : α → List Value} {w : World} {v : Value} {l : List α} (h : RdL k C w v l) : ∃ a cap, v = .slice a l.length cap ∧ RdL k C w (.slice a l.length cap) l := by
  obtain ⟨a, cap, e, h2, h2', h3⟩ := h
  exact ⟨a, cap, e, a, cap, rfl, h2, h2', h3⟩

/-- What a loop has seen so far: p held nowhere. -/
def Clean {α : Type} (p : α → Bool) (l : List α) (k : Nat) : Prop := ∀ j y, j < k → l[j]? = some y → p y = false
theorem Clean.zero {α : Type} (p : α → Bool) (l : List α) : Clean p l 0 := fun j y h => by omega
theorem Clean.succ {α : Type} {p : α → Bool} {l : List α} {k : Nat} (h : Clean p l k) {x : α} (hx : l[k]? = some x) (hp : p x = false) : Clean p l (k + 1) := by
  intro j y hj hy
  by_cases e : j = k
  · subst e; rw [hx] at hy; cases hy; exact hp
  · exact h j y (by omega) hy

theorem mat_index {w : World} {a : Option Addr} {n cap : Nat} {l : List Int} (h : RdL 1 intC w (.slice a n cap) l) (x : Int) :
    Calls Try.prog 75 #[.slice a n cap, .int .i64 x] w fun e w' => e = .returned (.int .i64 (firstI (fun y => x == y) l)) ∧ w = w' := by
  obtain ⟨hn, hc1, hc2⟩ := h.len
  unfold maxLen at hc2
  have H := Lib.hid h
  have HN := Lib.hid hn
  clear h hn
  go_enter Try.func75, Try.ntmps75
  go_wp2
  go_loop [8] (fun i => ∃ k : Nat, i = .int .i64 k ∧ k ≤ n ∧ Hid (Clean (fun y => x == y) l k)) (fun i => n - (intOf i).toNat)
  case atStart => exact ⟨0, rfl, by omega, Lib.hid (Clean.zero _ _)⟩
  case round =>
    obtain ⟨k, rfl, hk, hcl⟩ := hrel
    by_cases hlt : k < n
    · obtain ⟨y, b, off, hy, _, rfl, hb, hc⟩ := H.out.at_ k hlt
      have c0 := hc 0 _ rfl
      simp only [Nat.mul_one, Nat.add_zero] at c0
      have HY := Lib.hid hy
      clear hc hy
      by_cases hxy : x = y
      · subst hxy
        have HH := Lib.hid (firstI_hit (p := fun y => x == y) _ HY.out hcl.out (by simp))
        clear hcl
        go_wp2
        go_ret
        exact ⟨ret_int HH.out.symm, rfl⟩
      · have HH := Lib.hid (hcl.out.succ HY.out (by simp [hxy]))
        clear hcl
        go_wp2
        go_round
        case rel => exact ⟨k + 1, by go_num, by omega, HH⟩
        case measure => simp [intOf]; omega
    · have HH := Lib.hid (firstI_none (p := fun y => x == y) (l := l) (fun j y hj hy => hcl.out j y (by have := HN.out; omega) hy))
      clear hcl
      go_wp2
      go_ret
      exact ⟨ret_int HH.out.symm, rfl⟩
theorem mat_contains {w : World} {a : Option Addr} {n cap : Nat} {l : List Int} (h : RdL 1 intC w (.slice a n cap) l) (x : Int) :
    Calls Try.prog 95 #[.slice a n cap, .int .i64 x] w fun e w' => e = .returned (.bool (l.any (fun y => x == y))) ∧ w = w' := by
  have HA := Lib.hid (firstI_any (fun y => x == y) l)
  go_enter Try.func95, Try.ntmps95
  go_wp2_with fail
  refine (mat_index h x).mono ?_
  rintro e w' ⟨rfl, rfl⟩
  go_wp2_with fail
  go_ret
  exact ⟨ret_bool HA.out, rfl⟩
theorem mat_power (x : Int) (w : World) : Calls Try.prog 88 #[.int .i64 x] w fun e w' => e = .returned (.bool (pw x)) ∧ Below w.heap.size w w' := by
  have hN := new_blk w (.cells #[.int .i64 1, .int .i64 2, .int .i64 4, .int .i64 8] 3)
  have hR : RdL 1 intC (w.alloc (.cells #[.int .i64 1, .int .i64 2, .int .i64 4, .int .i64 8] 3)) (.slice (some ⟨w.heap.size, 0, none⟩) 4 4) [1, 2, 4, 8] := by
    refine ⟨_, 4, rfl, by simp, by simp [maxLen], fun i z hi => ⟨_, _, rfl, by simp, fun j u hj => ?_⟩⟩
    have hlt := (List.getElem?_eq_some_iff.1 hi).1
    match j, hj with
    | 0, hj =>
      simp [intC] at hj
      subst hj
      rw [cell_of hN]
      match i, hi with
      | 0, hi => simp at hi; subst hi; rfl
      | 1, hi => simp at hi; subst hi; rfl
      | 2, hi => simp at hi; subst hi; rfl
      | 3, hi => simp at hi; subst hi; rfl
  have HR := Lib.hid hR
  have HP := Lib.hid (show (x == 1 || (x == 2 || (x == 4 || x == 8))) = pw x by simp [pw, Bool.or_assoc])
  clear hR hN
  go_enter Try.func88, Try.ntmps88
  go_wp2_with fail
  refine (mat_contains HR.out x).mono ?_
  rintro e w' ⟨rfl, rfl⟩
  go_wp2_with fail
  go_ret
  exact ⟨ret_bool HP.out, (Below.refl _ _).alloc (Nat.le_refl _) _⟩

theorem mat_who (x : Int) (w : World) : Calls Try.prog 62 #[.int .i64 x] w fun e w' => e = .returned (.bool (!whoB x)) ∧ w = w' := by
  go_enter Try.func62, Try.ntmps62
  go_wp2_with fail
  refine (mat_within _ _ _ _).mono ?_
  rintro e w' ⟨rfl, rfl⟩
  go_wp2
  go_ret
  exact ⟨rfl, rfl⟩
def boxM (m : Mat) (s1 s2 s3 : Value) : Obj := .cells #[.int .i64 m.level, .int .i64 m.nodes, .int .i64 m.cycles, .int .i64 m.length, .int .i64 m.enable, .int .i64 m.unit, .int .i64 m.init, .int .u32 m.ref, s1, s2, s3] 27 (0, 0)
set_option maxHeartbeats 1000000 in
theorem mat_head (m : Mat) (s1 s2 s3 : Value) (hr : U32 m.ref) (w : World) : Calls Try.prog 60 #[matV m s1 s2 s3] w fun e w' => e = .returned (.bool (headB m)) ∧ Below w.heap.size w w' := by
  have hO0 := (Own.nil_ (Below.refl w.heap.size w) (Nat.le_refl _)).alloc (boxM m s1 s2 s3)
  have hb := bounds_u32 hr
  unfold matV
  go_enter Try.func60, Try.ntmps60
  have c0 := cell_of hO0.get0 0
  have c1 := cell_of hO0.get0 1
  have c2 := cell_of hO0.get0 2
  have c3 := cell_of hO0.get0 3
  have c4 := cell_of hO0.get0 4
  have c5 := cell_of hO0.get0 5
  have c6 := cell_of hO0.get0 6
  have c7 := cell_of hO0.get0 7
  have c8 := cell_of hO0.get0 8
  have c9 := cell_of hO0.get0 9
  have c10 := cell_of hO0.get0 10
  have cf0 := free_of hO0.get0 0
  have cf1 := free_of hO0.get0 1
  have cf2 := free_of hO0.get0 2
  have cf3 := free_of hO0.get0 3
  have cf4 := free_of hO0.get0 4
  have cf5 := free_of hO0.get0 5
  have cf6 := free_of hO0.get0 6
  have cf7 := free_of hO0.get0 7
  have cf8 := free_of hO0.get0 8
  have cf9 := free_of hO0.get0 9
  have cf10 := free_of hO0.get0 10
  have clt := lt_of_heap hO0.get0
  simp at c0 c1 c2 c3 c4 c5 c6 c7 c8 c9 c10
  go_wp2_with (go_at_call 61; refine (mat_within _ _ _ _).mono ?_; rintro e w' ⟨rfl, rfl⟩)
  · refine (own_below hO0 (mat_power _ _)).mono ?_
    rintro e w1 ⟨rfl, hO⟩
    clear c0 c1 c2 c3 c4 c5 c6 c7 c8 c9 c10 cf0 cf1 cf2 cf3 cf4 cf5 cf6 cf7 cf8 cf9 cf10
    have d0 := cell_of hO.get0 0
    have d1 := cell_of hO.get0 1
    have d2 := cell_of hO.get0 2
    have d3 := cell_of hO.get0 3
    have d4 := cell_of hO.get0 4
    have d5 := cell_of hO.get0 5
    have d6 := cell_of hO.get0 6
    have d7 := cell_of hO.get0 7
    have d8 := cell_of hO.get0 8
    have d9 := cell_of hO.get0 9
    have d10 := cell_of hO.get0 10
    have df0 := free_of hO.get0 0
    have df1 := free_of hO.get0 1
    have df2 := free_of hO.get0 2
    have df3 := free_of hO.get0 3
    have df4 := free_of hO.get0 4
    have df5 := free_of hO.get0 5
    have df6 := free_of hO.get0 6
    have df7 := free_of hO.get0 7
    have df8 := free_of hO.get0 8
    have df9 := free_of hO.get0 9
    have df10 := free_of hO.get0 10
    have dlt := lt_of_heap hO.get0
    simp at d0 d1 d2 d3 d4 d5 d6 d7 d8 d9 d10
    go_wp2_with (go_at_call 61; refine (mat_within _ _ _ _).mono ?_; rintro e w' ⟨rfl, rfl⟩)
    all_goals
      go_ret
      exact ⟨ret_bool (by simp [headB, *] <;> omega), hO.bel⟩
  all_goals
    go_ret
    exact ⟨ret_bool (by simp [headB, *] <;> omega), hO0.bel⟩
def boxW (x : Win) : Obj := .cells #[.int .i64 x.kind, .int .i64 x.start, .int .i64 x.stop, .int .i64 x.cyc, .int .i64 x.rep, .int .i64 x.msg] 56 (0, 0)
def winV (x : Win) : Value := .agg #[.int .i64 x.kind, .int .i64 x.start, .int .i64 x.stop, .int .i64 x.cyc, .int .i64 x.rep, .int .i64 x.msg]
set_option maxHeartbeats 1000000 in
theorem mat_window (m : Mat) (s1 s2 s3 : Value) (x : Win) (hx : I64 x.rep) (w : World) : Calls Try.prog 65 #[matV m s1 s2 s3, winV x] w fun e w' => e = .returned (.bool (winB m x)) ∧ Below w.heap.size w w' := by
  have hO0 := ((Own.nil_ (Below.refl w.heap.size w) (Nat.le_refl _)).alloc (boxM m s1 s2 s3)).alloc (boxW x)
  unfold matV winV
  have hb := hx.bounds
  have hpn : pw x.rep = true → -9223372036854775808 ≤ x.rep - 1 := by
    intro h; simp [pw] at h; omega
  have HPN := Lib.hid hpn
  clear hpn
  have c0 := cell_of hO0.get1 3
  have c1 := cell_of hO0.get0 0
  have c2 := cell_of hO0.get0 1
  have c3 := cell_of hO0.get0 2
  simp [boxM, boxW] at c0 c1 c2 c3
  go_enter Try.func65, Try.ntmps65
  go_wp2_with (go_at_call 61; refine (mat_within _ _ _ _).mono ?_; rintro e w' ⟨rfl, rfl⟩)
  rotate_right
  · have HW := Lib.hid (show pw x.rep = true → True from fun _ => trivial)
    refine (own_below hO0 (mat_power _ _)).mono ?_
    rintro e w1 ⟨rfl, hO⟩
    clear c0 c1 c2 c3
    have c1 := cell_of hO.get0 0
    have c2 := cell_of hO.get0 3
    have c3 := cell_of hO.get0 4
    have c4 := cell_of hO.get0 5
    have c5 := cell_of hO.get1 2
    simp [boxM, boxW] at c1 c2 c3 c4 c5
    by_cases hp : pw x.rep = true
    · have hp1 := HPN.out hp
      go_wp2_with (go_at_call 61; refine (mat_within _ _ _ _).mono ?_; rintro e w' ⟨rfl, rfl⟩)
      all_goals
        go_ret
        refine ⟨ret_bool ?_, hO.bel⟩
        clear c1 c2 c3 c4 c5 hO hO0
        first
          | (simp [winB, *]; done)
          | (simp [winB, *]; omega)
          | (simp_all [winB]; done)
          | (simp_all [winB]; omega)
    · replace hp : pw x.rep = false := by simpa using hp
      go_wp2
      go_ret
      exact ⟨ret_bool (by simp [winB, *] <;> omega), hO.bel⟩
  all_goals
    go_ret
    exact ⟨ret_bool (by simp [winB, *] <;> omega), hO0.bel⟩
/-- The closures of Is, met in a loop over a row. -/
theorem mat_whos {w : World} {a : Option Addr} {n cap : Nat} {l : List Int} (h : RdL 1 intC w (.slice a n cap) l) :
    Calls Try.prog 89 #[.slice a n cap, .func (.func 62) #[] #[]] w fun e w' => e = .returned (.int .i64 (firstI (fun y => !whoB y) l)) ∧ w = w' := by
  obtain ⟨hn, hc1, hc2⟩ := h.len
  unfold maxLen at hc2
  have H := Lib.hid h
  have HN := Lib.hid hn
  clear h hn
  go_enter Try.func89, Try.ntmps89
  go_wp2_with fail
  go_loop [8] (fun i => ∃ k : Nat, i = .int .i64 k ∧ k ≤ n ∧ Hid (Clean (fun y => !whoB y) l k)) (fun i => n - (intOf i).toNat)
  case atStart => exact ⟨0, rfl, by omega, Lib.hid (Clean.zero _ _)⟩
  case round =>
    obtain ⟨k, rfl, hk, hcl⟩ := hrel
    by_cases hlt : k < n
    · obtain ⟨y, b, off, hy, _, rfl, hb, hc⟩ := H.out.at_ k hlt
      have c0 := hc 0 _ rfl
      simp only [Nat.mul_one, Nat.add_zero] at c0
      have HY := Lib.hid hy
      clear hc hy
      by_cases hxy : whoB y = true
      · have HH := Lib.hid (hcl.out.succ HY.out (by simp [hxy]))
        clear hcl
        go_wp2_with (go_at_call 62; refine (mat_who _ _).mono ?_; rintro e w' ⟨rfl, rfl⟩)
        go_round
        case rel => exact ⟨k + 1, by go_num, by omega, HH⟩
        case measure => simp [intOf]; omega
      · replace hxy : whoB y = false := by simpa using hxy
        have HH := Lib.hid (firstI_hit (p := fun y => !whoB y) _ HY.out hcl.out (by simp [hxy]))
        clear hcl
        go_wp2_with (go_at_call 62; refine (mat_who _ _).mono ?_; rintro e w' ⟨rfl, rfl⟩)
        go_ret
        exact ⟨ret_int HH.out.symm, rfl⟩
    · have HH := Lib.hid (firstI_none (p := fun y => !whoB y) (l := l) (fun j y hj hy => hcl.out j y (by have := HN.out; omega) hy))
      clear hcl
      go_wp2
      go_ret
      exact ⟨ret_int HH.out.symm, rfl⟩
end Go.Proofs.Ythkhlcigegbpfaa
