/- ObjectComes (first lemmas): what came last is read, of each message by itself. -/
import Derived.Test.YtmbhgipoofllfaaObjectStates
namespace Go.Proofs.Ytmbhgipoofllfaa
set_option linter.unusedVariables false
set_option linter.unusedSimpArgs false
open Go.ChangeShapes Go.WideShapes Go.ChangeAt Go.RowKit Go.Deep

section
variable {d : OD} {E : List (Nat × Obj)} {w0 w w' : World} {l : List Ev} {n1 n2 : Nat} {f g : Int → Option ByteArray}
theorem ObjS.extra0 {b : Nat} {o o' : Obj} (h : ObjS d ((b, o) :: E) w0 w l n1 f n2 g) (u : Upd b o' w w') : ObjS d ((b, o') :: E) w0 w' l n1 f n2 g := by
  obtain ⟨s, r, o1, o2, hO, h1, h2, h3, h4⟩ := h
  exact ⟨s, r, o1, o2, Own.upd (L1 := [_, _, _, _, _]) hO u, h1, h2, h3, h4⟩
theorem ObjS.extra1 {b : Nat} {x : Nat × Obj} {o o' : Obj} (h : ObjS d (x :: (b, o) :: E) w0 w l n1 f n2 g) (u : Upd b o' w w') : ObjS d (x :: (b, o') :: E) w0 w' l n1 f n2 g := by
  obtain ⟨s, r, o1, o2, hO, h1, h2, h3, h4⟩ := h
  exact ⟨s, r, o1, o2, Own.upd (L1 := [_, _, _, _, _, _]) hO u, h1, h2, h3, h4⟩
end
/-- The two arrays of the law, as what came says. -/
def lastO (g : Int → Option ByteArray) : Obj := .cells #[.string ((g 0).getD ⟨#[]⟩), .string ((g 1).getD ⟨#[]⟩), .string ((g 2).getD ⟨#[]⟩)] 71 (0, 0)
def hasO (g : Int → Option ByteArray) : Obj := .cells #[.bool (g 0).isSome, .bool (g 1).isSome, .bool (g 2).isSome] 72 (0, 0)
def byteC (n : Int) : List Value := [.int .u8 n]
def ownS : ByteArray := ⟨#[111, 119, 110]⟩
set_option maxRecDepth 100000 in
set_option maxHeartbeats 4000000 in
theorem ObjectComes_core (ls : List Int) (vs : List ByteArray) (v0 v1 : Value) (w : World) (hl0 : RdL 1 byteC w v0 ls) (hlb : ∀ n ∈ ls, 0 ≤ n ∧ n ≤ 255) (hr : RdL 1 strC w v1 vs) : Holds 10 #[v0, v1] w := by
  obtain ⟨a, cap, e1, r1⟩ := hr.shape
  subst e1
  obtain ⟨a', cap', e1, r0⟩ := hl0.shape
  subst e1
  have l1 := r1.len.2
  have l0 := r0.len.2
  unfold maxLen at l1 l0
  have R := Lib.hid r1
  have R0 := Lib.hid r0
  have LB := Lib.hid hlb
  clear r1 hr r0 hl0 hlb
  unfold Holds
  go_enter Try.func10, Try.ntmps10
  go_wp2_with fail
  refine (known18 _).mono ?_
  rintro e w1 ⟨rfl, hB1⟩
  by_cases h30 : ls.length ≤ 30 ∧ ls.length ≤ vs.length
  rotate_left
  · go_wp2
    all_goals first | (exfalso; omega) | (go_ret; exact ⟨rfl, hB1⟩)
  have HB1 := Lib.hid hB1
  clear hB1
  obtain ⟨h30, hlv⟩ := h30
  go_wp2_with fail
  all_goals try (exfalso; omega)
  refine (least_any _).mono ?_
  rintro e w2 ⟨a2, n2, c2, rfl, hB0, hN⟩
  have HB0 := Lib.hid hB0
  have RM := Lib.hid (hN.rd ⟨by decide, by decide, by decide⟩ leastO_ok)
  clear hN hB0
  simp only [matV, leastO]
  go_wp2_with fail
  refine (s_new RM.out ⟨by decide, by decide, by decide⟩ 0).mono ?_
  rintro e w3 ⟨d, w0, rfl, hB2, hm, hw, hS⟩
  have HA := Lib.hid (HB1.out.trans (HB0.out.mono HB1.out.size))
  have HBW := Lib.hid (HA.out.trans (hB2.mono HA.out.size))
  have HM := Lib.hid hm
  have T0 := Lib.hid (show thereE d.m 0 = (⟨1, 0, false⟩, true) by rw [hm]; rfl)
  have W0 := Lib.hid (show ((0 : Int) == d.who) = true by rw [hw]; rfl)
  clear hB2 hm hw
  go_wp2_with fail
  have hS := (hS.alloc (lastO (fun _ => none))).alloc (hasO (fun _ => none))
  have hs1 : (w3.alloc (lastO (fun _ => none))).heap.size = w3.heap.size + 1 := by simp
  rw [hs1] at hS
  clear hs1
  go_loopw [8] (fun vi wr => ∃ (k n1 n2 : Nat) (f g : Int → Option ByteArray), vi = .int .i64 k ∧ k ≤ ls.length ∧ n1 ≤ k ∧ n2 ≤ k ∧ g 3 = none ∧ ObjS d [(w3.heap.size + 1, hasO g), (w3.heap.size, lastO g)] w0 wr [] n1 f n2 g) (fun i _ => ls.length - (intOf i).toNat)
  case atStart => exact ⟨0, 0, 0, _, _, rfl, by omega, by omega, by omega, rfl, hS⟩
  case round =>
    clear hS
    obtain ⟨k, n1, n2, f, g, rfl, hk, hn1, hn2, hg3, hS⟩ := hrel
    have HG3 := Lib.hid hg3
    clear hg3
    by_cases hlt : k < ls.length
    · have hlt' : (k : Int) < ls.length := by omega
      have hlt2 : (k : Int) < vs.length := by omega
      obtain ⟨s, b, off, hs, hmem, ea, hbb, hc⟩ := R.out.at_ k (by omega)
      have e0 := hc 0 _ rfl
      obtain ⟨n, b', off', hn, hmem', ea', hbb', hc'⟩ := R0.out.at_ k hlt
      have e0' := hc' 0 _ rfl
      simp only [Nat.mul_one, Nat.add_zero] at e0 e0'
      have hnb := LB.out n hmem'
      have HC := Lib.hid (show ∀ w' : World, Below w.heap.size w w' → (w'.cell? ⟨b, off + k, none⟩ = some (.string s) ∧ b < w'.heap.size) ∧ (w'.cell? ⟨b', off' + k, none⟩ = some (.int .u8 n) ∧ b' < w'.heap.size) from fun w' h => ⟨⟨(h.cell (p := ⟨b, off + k, none⟩) hbb).trans e0, Nat.lt_of_lt_of_le hbb h.size⟩, ⟨(h.cell (p := ⟨b', off' + k, none⟩) hbb').trans e0', Nat.lt_of_lt_of_le hbb' h.size⟩⟩)
      have HW := Lib.hid (show ∀ (w' : World) (E : List (Nat × Obj)) (n1 n2 : Nat) (f g : Int → Option ByteArray), ObjS d E w0 w' [] n1 f n2 g → Below w.heap.size w w' from fun w' E n1 n2 f g h => HBW.out.trans (h.bel.mono HBW.out.size))
      clear hs hmem hc e0 hn hmem' hc' e0'
      subst ea ea'
      obtain ⟨⟨x0, y0⟩, ⟨x1, y1⟩⟩ := HC.out _ (HW.out _ _ _ _ _ _ hS)
      rcases Nat.lt_or_ge 40 s.size with h40 | h40
      · go_wp2
        all_goals first | (exfalso; omega) | (go_ret; exact ⟨rfl, HW.out _ _ _ _ _ _ hS⟩)
      · go_wp2_with fail
        all_goals try (exfalso; omega)
        obtain ⟨j, hj, hj4⟩ : ∃ j : Nat, n % 4 = (j : Int) ∧ j < 4 := ⟨(n % 4).toNat, by omega, by omega⟩
        rw [hj]
        clear hj
        rcases (show j = 0 ∨ j = 1 ∨ j = 2 ∨ j = 3 by omega) with rfl | rfl | rfl | rfl
        · refine (s_got_yes hS 0 (by decide) s (by rw [HM.out]; rfl) (by unfold maxLen; omega) (by unfold maxLen; omega)).mono ?_
          rintro e w4 ⟨v4, rfl, hS⟩
          go_wp2_with fail
          refine (s_send_state hS 0 (by decide) ownS T0.out W0.out (by decide) rfl (by unfold maxLen; omega)).mono ?_
          rintro e w5 ⟨rfl, hS⟩
          clear x0 y0 x1 y1
          obtain ⟨⟨x0, y0⟩, ⟨x1, y1⟩⟩ := HC.out _ (HW.out _ _ _ _ _ _ hS)
          have hg0 : w5.heap[w3.heap.size + 1]? = some (hasO g) := hS.get (x := (w3.heap.size + 1, hasO g)) (by simp)
          have hg1 : w5.heap[w3.heap.size]? = some (lastO g) := hS.get (x := (w3.heap.size, lastO g)) (by simp)
          have q0 := free_of hg0 0
          have q1 := free_of hg1 0
          have q4 := cell_of hg0 0
          have q5 := cell_of hg1 0
          simp at q4 q5
          have q6 := (free_of (setCell_blk hg1 0 (.string s)) 0)
          have q7 : (w5.setCell ⟨w3.heap.size, 0, none⟩ (.string s)).frozen? ⟨w3.heap.size + 1, 0, none⟩ = false := free_of ((Upd.setCell 0 (.string s) (Upd.refl hg1)).other (w3.heap.size + 1) (lt_of_heap hg0) (by omega) |>.trans hg0) 0
          have q2 := lt_of_heap hg0
          have q3 := lt_of_heap hg1
          have HG0 := Lib.hid hg0
          have HG1 := Lib.hid hg1
          clear hg0 hg1
          go_wp2_with fail
          have hu1 := Upd.setCell 0 (.string s) (Upd.refl HG1.out)
          have hb1 := (hu1.other (w3.heap.size + 1) (lt_of_heap HG0.out) (by omega)).trans HG0.out
          have hu2 := Upd.setCell 0 (.bool true) (Upd.refl hb1)
          have hS2 := (hS.extra1 (hu1.of_eq (show _ = lastO (setF g 0 s) by simp [lastO, setF]))).extra0 (hu2.of_eq (show _ = hasO (setF g 0 s) by simp [hasO, setF]))
          go_roundw
          case rel => exact ⟨k + 1, n1 + 1, n2 + 1, _, setF g 0 s, by go_num, by omega, by omega, by omega, HG3.out, hS2⟩
          case measure => (simp [intOf]; try omega)
        · refine (s_got_yes hS 1 (by decide) s (by rw [HM.out]; rfl) (by unfold maxLen; omega) (by unfold maxLen; omega)).mono ?_
          rintro e w4 ⟨v4, rfl, hS⟩
          go_wp2_with fail
          refine (s_send_state hS 0 (by decide) ownS T0.out W0.out (by decide) rfl (by unfold maxLen; omega)).mono ?_
          rintro e w5 ⟨rfl, hS⟩
          clear x0 y0 x1 y1
          obtain ⟨⟨x0, y0⟩, ⟨x1, y1⟩⟩ := HC.out _ (HW.out _ _ _ _ _ _ hS)
          have hg0 : w5.heap[w3.heap.size + 1]? = some (hasO g) := hS.get (x := (w3.heap.size + 1, hasO g)) (by simp)
          have hg1 : w5.heap[w3.heap.size]? = some (lastO g) := hS.get (x := (w3.heap.size, lastO g)) (by simp)
          have q0 := free_of hg0 1
          have q1 := free_of hg1 1
          have q4 := cell_of hg0 1
          have q5 := cell_of hg1 1
          simp at q4 q5
          have q6 := (free_of (setCell_blk hg1 1 (.string s)) 1)
          have q7 : (w5.setCell ⟨w3.heap.size, 1, none⟩ (.string s)).frozen? ⟨w3.heap.size + 1, 1, none⟩ = false := free_of ((Upd.setCell 1 (.string s) (Upd.refl hg1)).other (w3.heap.size + 1) (lt_of_heap hg0) (by omega) |>.trans hg0) 1
          have q2 := lt_of_heap hg0
          have q3 := lt_of_heap hg1
          have HG0 := Lib.hid hg0
          have HG1 := Lib.hid hg1
          clear hg0 hg1
          go_wp2_with fail
          have hu1 := Upd.setCell 1 (.string s) (Upd.refl HG1.out)
          have hb1 := (hu1.other (w3.heap.size + 1) (lt_of_heap HG0.out) (by omega)).trans HG0.out
          have hu2 := Upd.setCell 1 (.bool true) (Upd.refl hb1)
          have hS2 := (hS.extra1 (hu1.of_eq (show _ = lastO (setF g 1 s) by simp [lastO, setF]))).extra0 (hu2.of_eq (show _ = hasO (setF g 1 s) by simp [hasO, setF]))
          go_roundw
          case rel => exact ⟨k + 1, n1 + 1, n2 + 1, _, setF g 1 s, by go_num, by omega, by omega, by omega, HG3.out, hS2⟩
          case measure => (simp [intOf]; try omega)
        · refine (s_got_yes hS 2 (by decide) s (by rw [HM.out]; rfl) (by unfold maxLen; omega) (by unfold maxLen; omega)).mono ?_
          rintro e w4 ⟨v4, rfl, hS⟩
          go_wp2_with fail
          refine (s_send_state hS 0 (by decide) ownS T0.out W0.out (by decide) rfl (by unfold maxLen; omega)).mono ?_
          rintro e w5 ⟨rfl, hS⟩
          clear x0 y0 x1 y1
          obtain ⟨⟨x0, y0⟩, ⟨x1, y1⟩⟩ := HC.out _ (HW.out _ _ _ _ _ _ hS)
          have hg0 : w5.heap[w3.heap.size + 1]? = some (hasO g) := hS.get (x := (w3.heap.size + 1, hasO g)) (by simp)
          have hg1 : w5.heap[w3.heap.size]? = some (lastO g) := hS.get (x := (w3.heap.size, lastO g)) (by simp)
          have q0 := free_of hg0 2
          have q1 := free_of hg1 2
          have q4 := cell_of hg0 2
          have q5 := cell_of hg1 2
          simp at q4 q5
          have q6 := (free_of (setCell_blk hg1 2 (.string s)) 2)
          have q7 : (w5.setCell ⟨w3.heap.size, 2, none⟩ (.string s)).frozen? ⟨w3.heap.size + 1, 2, none⟩ = false := free_of ((Upd.setCell 2 (.string s) (Upd.refl hg1)).other (w3.heap.size + 1) (lt_of_heap hg0) (by omega) |>.trans hg0) 2
          have q2 := lt_of_heap hg0
          have q3 := lt_of_heap hg1
          have HG0 := Lib.hid hg0
          have HG1 := Lib.hid hg1
          clear hg0 hg1
          go_wp2_with fail
          have hu1 := Upd.setCell 2 (.string s) (Upd.refl HG1.out)
          have hb1 := (hu1.other (w3.heap.size + 1) (lt_of_heap HG0.out) (by omega)).trans HG0.out
          have hu2 := Upd.setCell 2 (.bool true) (Upd.refl hb1)
          have hS2 := (hS.extra1 (hu1.of_eq (show _ = lastO (setF g 2 s) by simp [lastO, setF]))).extra0 (hu2.of_eq (show _ = hasO (setF g 2 s) by simp [hasO, setF]))
          go_roundw
          case rel => exact ⟨k + 1, n1 + 1, n2 + 1, _, setF g 2 s, by go_num, by omega, by omega, by omega, HG3.out, hS2⟩
          case measure => (simp [intOf]; try omega)
        · refine (s_got_no hS 3 (by decide) s (by rw [HM.out]; rfl)).mono ?_
          rintro e w4 ⟨v4, rfl, hS⟩
          go_wp2_with fail
          refine (s_send_state hS 0 (by decide) ownS T0.out W0.out (by decide) rfl (by unfold maxLen; omega)).mono ?_
          rintro e w5 ⟨rfl, hS⟩
          go_wp2_with fail
          go_roundw
          case rel => exact ⟨k + 1, n1 + 1, n2, _, g, by go_num, by omega, by omega, by omega, HG3.out, hS⟩
          case measure => (simp [intOf]; try omega)
    · go_wp2_with fail
      go_loopw [10] (fun vi wr => ∃ j : Nat, vi = .int .i64 j ∧ j ≤ 3 ∧ ObjS d [(w3.heap.size + 1, hasO g), (w3.heap.size, lastO g)] w0 wr [] n1 f n2 g) (fun i _ => 3 - (intOf i).toNat)
      case atStart => exact ⟨0, rfl, by omega, hS⟩
      case round =>
        clear hS
        obtain ⟨j, rfl, hj, hS⟩ := hrel
        rcases (show j = 0 ∨ j = 1 ∨ j = 2 ∨ j = 3 by omega) with rfl | rfl | rfl | rfl
        · obtain ⟨x, hx⟩ : ∃ x, (g 0).getD ⟨#[]⟩ = x := ⟨_, rfl⟩
          obtain ⟨z, hz⟩ : ∃ z, (g 0).isSome = z := ⟨_, rfl⟩
          go_wp2_with fail
          refine (s_readZ hS 0 (by decide) hx hz).mono ?_
          rintro e w4 ⟨rfl, hS⟩
          have hg0 : w4.heap[w3.heap.size + 1]? = some (hasO g) := hS.get (x := (w3.heap.size + 1, hasO g)) (by simp)
          have hg1 : w4.heap[w3.heap.size]? = some (lastO g) := hS.get (x := (w3.heap.size, lastO g)) (by simp)
          have q4 := cell_of hg0 0
          have q5 := cell_of hg1 0
          simp [hx, hz] at q4 q5
          have q2 := lt_of_heap hg0
          have q3 := lt_of_heap hg1
          clear hg0 hg1 hx hz
          go_wp2_with fail
          go_roundw
          case rel => exact ⟨0 + 1, by go_num, by omega, hS⟩
          case measure => (simp [intOf]; try omega)
        · obtain ⟨x, hx⟩ : ∃ x, (g 1).getD ⟨#[]⟩ = x := ⟨_, rfl⟩
          obtain ⟨z, hz⟩ : ∃ z, (g 1).isSome = z := ⟨_, rfl⟩
          go_wp2_with fail
          refine (s_readZ hS 1 (by decide) hx hz).mono ?_
          rintro e w4 ⟨rfl, hS⟩
          have hg0 : w4.heap[w3.heap.size + 1]? = some (hasO g) := hS.get (x := (w3.heap.size + 1, hasO g)) (by simp)
          have hg1 : w4.heap[w3.heap.size]? = some (lastO g) := hS.get (x := (w3.heap.size, lastO g)) (by simp)
          have q4 := cell_of hg0 1
          have q5 := cell_of hg1 1
          simp [hx, hz] at q4 q5
          have q2 := lt_of_heap hg0
          have q3 := lt_of_heap hg1
          clear hg0 hg1 hx hz
          go_wp2_with fail
          go_roundw
          case rel => exact ⟨1 + 1, by go_num, by omega, hS⟩
          case measure => (simp [intOf]; try omega)
        · obtain ⟨x, hx⟩ : ∃ x, (g 2).getD ⟨#[]⟩ = x := ⟨_, rfl⟩
          obtain ⟨z, hz⟩ : ∃ z, (g 2).isSome = z := ⟨_, rfl⟩
          go_wp2_with fail
          refine (s_readZ hS 2 (by decide) hx hz).mono ?_
          rintro e w4 ⟨rfl, hS⟩
          have hg0 : w4.heap[w3.heap.size + 1]? = some (hasO g) := hS.get (x := (w3.heap.size + 1, hasO g)) (by simp)
          have hg1 : w4.heap[w3.heap.size]? = some (lastO g) := hS.get (x := (w3.heap.size, lastO g)) (by simp)
          have q4 := cell_of hg0 2
          have q5 := cell_of hg1 2
          simp [hx, hz] at q4 q5
          have q2 := lt_of_heap hg0
          have q3 := lt_of_heap hg1
          clear hg0 hg1 hx hz
          go_wp2_with fail
          go_roundw
          case rel => exact ⟨2 + 1, by go_num, by omega, hS⟩
          case measure => (simp [intOf]; try omega)
        · go_wp2_with fail
          refine (s_readZ hS 3 (by decide) (x := ⟨#[]⟩) (z := false) (by rw [HG3.out]; rfl) (by rw [HG3.out]; rfl)).mono ?_
          rintro e w4 ⟨rfl, hS⟩
          go_wp2
          go_ret
          exact ⟨rfl, HBW.out.trans (hS.bel.mono HBW.out.size)⟩
theorem rdB_of {H : Type} {enc : TypeId × Value → H} {P : Program} {w : World} {t e : TypeId} {fuel : Nat} {v : Value} {x : DataW H × List MemPlace} (ht : P.underlying t = some (.slice e)) (he : P.underlying e = some (.int .u8)) (hc : P.cellsOf e = 1)
    (h : DataW.trod enc P w 0 (fun _ => true) true fuel t [v] = some x) : ∃ l : List Int, RdL 1 byteC w v l ∧ ∀ z ∈ l, 0 ≤ z ∧ z ≤ 255 := by
  rcases open_ints ht he hc h with ⟨hcs, _⟩ | ⟨a, len, cap, zs, hcs, _, hl, hm, hz, _, hcell, hwz⟩
  · simp at hcs
    exact ⟨[], ⟨none, 0, hcs, by simp, by simp [maxLen], fun i x hi => by simp at hi⟩, by simp⟩
  · simp at hcs
    have hz' : zs.length = cap := by simpa using hz
    refine ⟨zs.take len, ⟨some a, cap, by rw [hcs]; simp; omega, by simp; omega, hm, fun i z hi => ?_⟩, fun z hzm => bounds_u8 (hwz z (List.mem_of_mem_take hzm))⟩
    have hil : i < len := by have := (List.getElem?_eq_some_iff.1 hi).1; simp at this; omega
    obtain ⟨b, off, spot⟩ := a
    have hsp : spot = none := by simpa [Addr.add] using World.cell?_spot (hcell 0 (by omega))
    subst hsp
    have h0 := hcell i (by omega)
    have hadd : (⟨b, off, none⟩ : Addr).add i = ⟨b, off + i, none⟩ := by unfold Addr.add; split <;> simp_all
    rw [hadd] at h0
    have hzi : zs.getD i 0 = z := by
      rw [List.getElem?_take_of_lt hil] at hi
      simp [List.getD_eq_getElem?_getD, hi]
    rw [hzi] at h0
    refine ⟨b, off, rfl, ?_, fun j u hj => ?_⟩
    · rcases Nat.lt_or_ge b w.heap.size with h | h
      · exact h
      · simp [World.cell?, Array.getElem?_eq_none h] at h0
    · match j, hj with
      | 0, hj => simp [byteC] at hj; subst hj; simpa using h0
theorem ObjectComes_walk {H : Type} {enc : TypeId × Value → H} {base : Nat} {d0 d1 : DataW H} {p0 p1 : List MemPlace} (v0 v1 : Value) (W : World)
    (hv0 : Value.okWide Try.prog W .any base 52 v0) (h0 : DataW.Trod enc Try.prog W 0 (fun _ => true) true 52 v0 d0 p0)
    (hv1 : Value.okWide Try.prog W .any base 54 v1) (h1 : DataW.Trod enc Try.prog W 0 (fun _ => true) true 54 v1 d1 p1) :
    Holds 10 #[v0, v1] W := by
  obtain ⟨a, len, cap, rfl⟩ := okWide_slice Try.underlying52 hv0
  obtain ⟨a', len', cap', rfl⟩ := okWide_slice Try.underlying54 hv1
  obtain ⟨fuel, hf⟩ := h0
  obtain ⟨fuel', hf'⟩ := h1
  obtain ⟨l, hr, hb⟩ := rdB_of (v := .slice a len cap) Try.underlying52 Try.underlying5 (by kernel_rfl) (by simpa [Value.cells] using hf)
  obtain ⟨l', hr', _⟩ := rdS_of (v := .slice a' len' cap') Try.underlying54 Try.underlying9 (by kernel_rfl) (by simpa [Value.cells] using hf')
  exact ObjectComes_core l l' _ _ W hr hb hr'

set_option maxRecDepth 100000 in
theorem ObjectComes_lifted (os : Os) (started : os.Started) (H : Type) (enc : TypeId × Value → H) :
    ReturnsInHanded {} Try.checked os 10 .any (Rows.objectComesSpec.pre6 enc Try.prog Try.f10 [] false) (Rows.objectComesSpec.post enc Try.prog Try.f10 false true false false) := by
  refine law_lifted (n := 2) os started H enc (by kernel_rfl) Try.func10 rfl rfl (hts_of (by kernel_rfl)) rfl (fun ds h => match ds, h with | [_, _], _ => rfl)
    (ChangeSpec.witness6 (enc := enc) (C := Try.checked) false ⟨#[], #[.slice none 0 0, .slice none 0 0], []⟩ 8 (by kernel_rfl) (by kernel_rfl) (by kernel_rfl) (by kernel_rfl)) ?_
  intro W base args ds p hval hA
  rw [Try.params10] at hA hval
  obtain ⟨v0, vs0, d0, ds0, p0, q0, hargs, rfl, rfl, h0, r0⟩ := trodAll_cons hA
  obtain ⟨v1, vs1, d1, ds1, p1, q1, rfl, rfl, rfl, h1, r1⟩ := trodAll_cons r0
  obtain ⟨rfl, rfl, rfl⟩ := trodAll_nil r1
  obtain rfl : args = #[v0, v1] := by cases args; simp_all
  exact ObjectComes_walk v0 v1 W (hval 0 _ v0 rfl rfl) h0 (hval 1 _ v1 rfl rfl) h1

theorem ObjectComes_over : Rows.objectComesRow.holds Try.pinned (OpenSpec.ofChange Rows.objectComesSpec) :=
  OpenClaim.holds_of_wide 10 Try.f10 rfl rfl rfl rfl rfl rfl rfl ⟨rfl, rfl, rfl, rfl, rfl⟩ rfl rfl rfl rfl rfl (by kernel_rfl) Try.func10 (by kernel_rfl)
    (of_decide_eq_true (by kernel_rfl)) (by unfold Func.isWrapper; first | (rw [if_pos (by decide +kernel)]; kernel_rfl) | (rw [if_neg (by decide +kernel)]; exact ⟨rfl, rfl⟩))
    (fun os started H enc _ => ObjectComes_lifted os started H enc)
theorem ObjectComes_holds : Rows.ObjectComesSaid := ObjectComes_over
#print axioms ObjectComes_holds
end Go.Proofs.Ytmbhgipoofllfaa
