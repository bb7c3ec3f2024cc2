/- ObjectStates: a state is what was sent last; an event goes when it is confirmed. No conditions. -/
import Derived.Test.YtmbhgipoofllfaaObjKnown
import Derived.SliceStrings
import Derived.ChangeMaps5
namespace Go.Proofs.Ytmbhgipoofllfaa
set_option linter.unusedVariables false
set_option linter.unusedSimpArgs false
open Go.ChangeShapes Go.WideShapes Go.ChangeAt Go.RowKit Go.Deep

def strC (s : ByteArray) : List Value := [.string s]
theorem sent_all (l : List Ev) (s : ByteArray) (hx : ∀ x ∈ l, x.msg = 1) : ∃ l', sentL (l ++ [⟨1, s⟩]) 1 = l' ∧ l'.length = l.length ∧ ∀ x ∈ l', x.msg = 1 := by
  cases l with
  | nil => exact ⟨[], by simp [sentL], rfl, by simp⟩
  | cons y t =>
    have hy := hx y (by simp)
    refine ⟨t ++ [⟨1, s⟩], by simp [sentL, hy], by simp, ?_⟩
    intro x h
    rcases List.mem_append.1 h with h | h
    · exact hx x (by simp [h])
    · simp at h; subst h; rfl
theorem sent_full (l : List Ev) (hx : ∀ x ∈ l, x.msg = 1) : ∃ l', sentL l 1 = l' ∧ l'.length = l.length - 1 ∧ ∀ x ∈ l', x.msg = 1 := by
  cases l with
  | nil => exact ⟨[], by simp [sentL], rfl, by simp⟩
  | cons y t =>
    have hy := hx y (by simp)
    exact ⟨t, by simp [sentL, hy], by simp, fun x h => hx x (by simp [h])⟩
set_option maxRecDepth 100000 in
set_option maxHeartbeats 4000000 in
theorem ObjectStates_core (vs : List ByteArray) (v : Value) (w : World) (hr : RdL 1 strC w v vs) : Holds 8 #[v] w := by
  obtain ⟨a, cap, e1, r1⟩ := hr.shape
  subst e1
  have l1 := r1.len.2
  unfold maxLen at l1
  have R := Lib.hid r1
  clear r1 hr
  unfold Holds
  go_enter Try.func8, Try.ntmps8
  go_wp2_with fail
  refine (known18 _).mono ?_
  rintro e w1 ⟨rfl, hB1⟩
  rcases Nat.lt_or_ge 20 vs.length with h20 | h20
  · go_wp2
    all_goals first | (exfalso; omega) | (go_ret; exact ⟨rfl, hB1⟩)
  have HB1 := Lib.hid hB1
  clear hB1
  go_wp2_with fail
  all_goals try (exfalso; omega)
  refine (least_any _).mono ?_
  rintro e w2 ⟨a2, n2, c2, rfl, hB0, hN⟩
  have HB0 := Lib.hid hB0
  have RM := Lib.hid (hN.rd ⟨by decide, by decide, by decide⟩ leastO_ok)
  clear hN hB0
  simp only [matV, leastO]
  go_wp2_with fail
  refine (s_new RM.out ⟨by decide, by decide, by decide⟩ 0).mono ?_
  rintro e w3 ⟨d, w0, rfl, hB2, hm, hw, hS⟩
  have HA := Lib.hid (HB1.out.trans (HB0.out.mono HB1.out.size))
  have HBW := Lib.hid (HA.out.trans (hB2.mono HA.out.size))
  have T0 := Lib.hid (show thereE d.m 0 = (⟨1, 0, false⟩, true) by rw [hm]; rfl)
  have T1 := Lib.hid (show thereE d.m 1 = (⟨2, 0, true⟩, true) by rw [hm]; rfl)
  have W0 := Lib.hid (show ((0 : Int) == d.who) = true by rw [hw]; rfl)
  clear hB2 hm hw
  go_wp2_with fail
  go_loopw [4, 5] (fun vn vi wr => ∃ (k : Nat) (l : List Ev) (n1 : Nat) (f : Int → Option ByteArray), vi = .int .i64 k ∧ vn = .int .i64 l.length ∧ k ≤ vs.length ∧ n1 ≤ k ∧ l.length ≤ 4 ∧ (∀ x ∈ l, x.msg = 1) ∧ ObjS d [] w0 wr l n1 f 0 (fun _ => none)) (fun _ i _ => vs.length - (intOf i).toNat)
  case atStart => exact ⟨0, [], 0, _, rfl, rfl, by omega, by omega, by simp, by simp, hS⟩
  case round =>
    clear hS
    obtain ⟨k, l, n1, f, rfl, rfl, hk, hn1, hl, hx, hS⟩ := hrel
    have HX := Lib.hid hx
    clear hx
    by_cases hlt : k < vs.length
    · have hlt' : (k : Int) < vs.length := by omega
      obtain ⟨s, b, off, hs, hmem, ea, hbb, hc⟩ := R.out.at_ k hlt
      have e0 := hc 0 _ rfl
      simp only [Nat.mul_one, Nat.add_zero] at e0
      have HC := Lib.hid (show ∀ w' : World, Below w.heap.size w w' → w'.cell? ⟨b, off + k, none⟩ = some (.string s) ∧ b < w'.heap.size from fun w' h => ⟨(h.cell (p := ⟨b, off + k, none⟩) hbb).trans e0, Nat.lt_of_lt_of_le hbb h.size⟩)
      have HW := Lib.hid (show ∀ (w' : World) (l : List Ev) (n : Nat) (f : Int → Option ByteArray), ObjS d [] w0 w' l n f 0 (fun _ => none) → Below w.heap.size w w' from fun w' l n f h => HBW.out.trans (h.bel.mono HBW.out.size))
      clear hs hmem hc e0
      subst ea
      obtain ⟨x0, y0⟩ := HC.out _ (HW.out _ _ _ _ hS)
      rcases Nat.lt_or_ge 8 s.size with h8 | h8
      · go_wp2_with fail
        all_goals try (exfalso; omega)
        refine (s_send_form hS 0 (by decide) s T0.out W0.out h8).mono ?_
        rintro e w4 ⟨rfl, hS⟩
        go_wp2_with fail
        go_roundw
        case rel => exact ⟨k + 1, l, n1, f, by go_num, rfl, by omega, by omega, hl, HX.out, hS⟩
        case measure => (simp [intOf]; try omega)
      · go_wp2_with fail
        all_goals try (exfalso; omega)
        refine (s_send_state hS 0 (by decide) s T0.out W0.out h8 rfl (by unfold maxLen; omega)).mono ?_
        rintro e w4 ⟨rfl, hS⟩
        go_wp2_with fail
        refine (s_stateZ hS 0 (by decide) (x := s) (z := true) rfl rfl).mono ?_
        rintro e w5 ⟨rfl, hS⟩
        clear x0 y0
        obtain ⟨x0, y0⟩ := HC.out _ (HW.out _ _ _ _ hS)
        go_wp2_with fail
        rcases Nat.lt_or_ge l.length 4 with hl4 | hl4
        · have hli : (l.length : Int) < 4 := by omega
          refine (s_send_event (z := 0) (l2 := l ++ [⟨1, s⟩]) hS 1 (by decide) s T1.out W0.out h8 rfl (by rw [if_pos hl4]) (by unfold putL; rw [if_pos hl4]) (by simp; omega)).mono ?_
          rintro e w6 ⟨rfl, hS⟩
          clear x0 y0
          obtain ⟨x0, y0⟩ := HC.out _ (HW.out _ _ _ _ hS)
          have HXX := Lib.hid (show ∀ x ∈ l ++ [(⟨1, s⟩ : Ev)], x.msg = 1 by
            intro x h
            rcases List.mem_append.1 h with h | h
            · exact HX.out x h
            · simp at h; subst h; rfl)
          by_cases hm3 : k % 3 = 2
          · have hm3' : (k : Int) % 3 = 2 := by omega
            go_wp2_with fail
            all_goals try (exfalso; omega)
            refine (s_sent_event hS 1 (by decide) T1.out).mono ?_
            rintro e w7 ⟨v7, rfl, hS⟩
            obtain ⟨l', hl', hn', hx'⟩ := sent_all l s HX.out
            rw [hl'] at hS
            clear hl'
            have HN' := Lib.hid hn'
            have HX' := Lib.hid hx'
            clear hn' hx'
            go_wp2_with fail
            refine (s_waiting hS).mono ?_
            rintro e w8 ⟨rfl, hS⟩
            rw [HN'.out]
            go_wp2_with fail
            all_goals try (exfalso; omega)
            go_roundw
            case rel => exact ⟨k + 1, l', n1 + 1, _, by go_num, by (rw [HN'.out] <;> go_num), by omega, by omega, by (rw [HN'.out] <;> omega), HX'.out, hS⟩
            case measure => (simp [intOf]; try omega)
          · have hm3' : ((k : Int) % 3 == 2) = false := by
              rw [beq_eq_false_iff_ne]
              omega
            go_wp2_with fail
            all_goals try (exfalso; omega)
            refine (s_waiting hS).mono ?_
            rintro e w8 ⟨rfl, hS⟩
            rw [show (l ++ [(⟨1, s⟩ : Ev)]).length = l.length + 1 by simp]
            go_wp2_with fail
            all_goals try (exfalso; omega)
            go_roundw
            case rel => exact ⟨k + 1, l ++ [⟨1, s⟩], n1 + 1, _, by go_num, by first | go_num | (simp; done) | (simp; omega), by omega, by omega, by (simp; try omega), HXX.out, hS⟩
            case measure => (simp [intOf]; try omega)
        · have hli : (4 : Int) ≤ l.length := by omega
          have HE4 := Lib.hid (show l.length = 4 by omega)
          refine (s_send_event (z := 170) (l2 := l) hS 1 (by decide) s T1.out W0.out h8 rfl (by rw [if_neg (by omega)]) (by unfold putL; rw [if_neg (by omega)]) hl).mono ?_
          rintro e w6 ⟨rfl, hS⟩
          clear x0 y0
          obtain ⟨x0, y0⟩ := HC.out _ (HW.out _ _ _ _ hS)
          by_cases hm3 : k % 3 = 2
          · have hm3' : (k : Int) % 3 = 2 := by omega
            go_wp2_with fail
            all_goals try (exfalso; omega)
            refine (s_sent_event hS 1 (by decide) T1.out).mono ?_
            rintro e w7 ⟨v7, rfl, hS⟩
            obtain ⟨l', hl', hn', hx'⟩ := sent_full l HX.out
            rw [hl'] at hS
            clear hl'
            have HN' := Lib.hid (show l'.length = 3 by rw [hn', HE4.out])
            have HX' := Lib.hid hx'
            clear hn' hx'
            go_wp2_with fail
            refine (s_waiting hS).mono ?_
            rintro e w8 ⟨rfl, hS⟩
            rw [HN'.out]
            go_wp2_with fail
            all_goals try (exfalso; omega)
            go_roundw
            case rel => exact ⟨k + 1, l', n1 + 1, _, by go_num, by (rw [HN'.out] <;> first | rfl | go_num), by omega, by omega, by (rw [HN'.out] <;> omega), HX'.out, hS⟩
            case measure => (simp [intOf]; try omega)
          · have hm3' : ((k : Int) % 3 == 2) = false := by
              rw [beq_eq_false_iff_ne]
              omega
            go_wp2_with fail
            all_goals try (exfalso; omega)
            refine (s_waiting hS).mono ?_
            rintro e w8 ⟨rfl, hS⟩
            rw [HE4.out]
            go_wp2_with fail
            all_goals try (exfalso; omega)
            go_roundw
            case rel => exact ⟨k + 1, l, n1 + 1, _, by go_num, by (rw [HE4.out] <;> first | rfl | go_num), by omega, by omega, hl, HX.out, hS⟩
            case measure => (simp [intOf]; try omega)
    · go_wp2
      all_goals first | (exfalso; omega) | (go_ret; exact ⟨rfl, HBW.out.trans (hS.bel.mono HBW.out.size)⟩)
theorem rdS_of {H : Type} {enc : TypeId × Value → H} {P : Program} {w : World} {t e : TypeId} {fuel : Nat} {v : Value} {x : DataW H × List MemPlace} (ht : P.underlying t = some (.slice e)) (he : P.underlying e = some .string) (hc : P.cellsOf e = 1)
    (h : DataW.trod enc P w 0 (fun _ => true) true fuel t [v] = some x) : ∃ l : List ByteArray, RdL 1 strC w v l ∧ ∀ z ∈ l, z.size ≤ maxLen := by
  rcases open_strings ht he hc h with ⟨hcs, _⟩ | ⟨a, len, cap, zs, hcs, _, hl, hm, hz, _, hcell, hwz⟩
  · simp at hcs
    exact ⟨[], ⟨none, 0, hcs, by simp, by simp [maxLen], fun i x hi => by simp at hi⟩, by simp⟩
  · simp at hcs
    have hz' : zs.length = cap := by simpa using hz
    refine ⟨zs.take len, ⟨some a, cap, by rw [hcs]; simp; omega, by simp; omega, hm, fun i z hi => ?_⟩, fun z hzm => hwz z (List.mem_of_mem_take hzm)⟩
    have hil : i < len := by have := (List.getElem?_eq_some_iff.1 hi).1; simp at this; omega
    obtain ⟨b, off, spot⟩ := a
    have hsp : spot = none := by simpa [Addr.add] using World.cell?_spot (hcell 0 (by omega))
    subst hsp
    have h0 := hcell i (by omega)
    have hadd : (⟨b, off, none⟩ : Addr).add i = ⟨b, off + i, none⟩ := by unfold Addr.add; split <;> simp_all
    rw [hadd] at h0
    have hzi : zs.getD i ByteArray.empty = z := by
      rw [List.getElem?_take_of_lt hil] at hi
      simp [List.getD_eq_getElem?_getD, hi]
    rw [hzi] at h0
    refine ⟨b, off, rfl, ?_, fun j u hj => ?_⟩
    · rcases Nat.lt_or_ge b w.heap.size with h | h
      · exact h
      · simp [World.cell?, Array.getElem?_eq_none h] at h0
    · match j, hj with
      | 0, hj => simp [strC] at hj; subst hj; simpa using h0
theorem ObjectStates_walk {H : Type} {enc : TypeId × Value → H} {base : Nat} {d0 : DataW H} {p0 : List MemPlace} (v0 : Value) (W : World)
    (hv : Value.okWide Try.prog W .any base 54 v0) (h : DataW.Trod enc Try.prog W 0 (fun _ => true) true 54 v0 d0 p0) :
    Holds 8 #[v0] W := by
  obtain ⟨a, len, cap, rfl⟩ := okWide_slice Try.underlying54 hv
  obtain ⟨fuel, hf⟩ := h
  obtain ⟨l, hr, _⟩ := rdS_of (v := .slice a len cap) Try.underlying54 Try.underlying9 (by kernel_rfl) (by simpa [Value.cells] using hf)
  exact ObjectStates_core l _ W hr

set_option maxRecDepth 100000 in
theorem ObjectStates_lifted (os : Os) (started : os.Started) (H : Type) (enc : TypeId × Value → H) :
    ReturnsInHanded {} Try.checked os 8 .any (Rows.objectStatesSpec.pre6 enc Try.prog Try.f8 [] false) (Rows.objectStatesSpec.post enc Try.prog Try.f8 false true false false) := by
  refine law_lifted (n := 1) os started H enc (by kernel_rfl) Try.func8 rfl rfl (hts_of (by kernel_rfl)) rfl (fun ds h => match ds, h with | [_], _ => rfl)
    (ChangeSpec.witness6 (enc := enc) (C := Try.checked) false ⟨#[], #[.slice none 0 0], []⟩ 8 (by kernel_rfl) (by kernel_rfl) (by kernel_rfl) (by kernel_rfl)) ?_
  intro W base args ds p hval hA
  rw [Try.params8] at hA hval
  obtain ⟨v0, vs0, d0, ds0, p0, q0, hargs, rfl, rfl, h0, r0⟩ := trodAll_cons hA
  obtain ⟨rfl, rfl, rfl⟩ := trodAll_nil r0
  obtain rfl : args = #[v0] := by cases args; simp_all
  exact ObjectStates_walk v0 W (hval 0 _ v0 rfl rfl) h0

theorem ObjectStates_over : Rows.objectStatesRow.holds Try.pinned (OpenSpec.ofChange Rows.objectStatesSpec) :=
  OpenClaim.holds_of_wide 8 Try.f8 rfl rfl rfl rfl rfl rfl rfl ⟨rfl, rfl, rfl, rfl, rfl⟩ rfl rfl rfl rfl rfl (by kernel_rfl) Try.func8 (by kernel_rfl)
    (of_decide_eq_true (by kernel_rfl)) (by unfold Func.isWrapper; first | (rw [if_pos (by decide +kernel)]; kernel_rfl) | (rw [if_neg (by decide +kernel)]; exact ⟨rfl, rfl⟩))
    (fun os started H enc _ => ObjectStates_lifted os started H enc)
theorem ObjectStates_holds : Rows.ObjectStatesSaid := ObjectStates_over
#print axioms ObjectStates_holds
end Go.Proofs.Ytmbhgipoofllfaa
