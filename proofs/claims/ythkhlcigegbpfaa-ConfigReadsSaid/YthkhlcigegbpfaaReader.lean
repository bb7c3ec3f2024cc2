/- The readers of both texts: one byte, two bytes. -/
import Derived.Test.YthkhlcigegbpfaaPrint
import Derived.Laws.BitsAllLaws
namespace Go.Proofs.Ythkhlcigegbpfaa
set_option linter.unusedVariables false
set_option linter.unusedSimpArgs false
open Go.ChangeShapes Go.WideShapes Go.ChangeAt Go.RowKit Go.Deep

def rnO (x : Rs) : Obj := .cells #[.string x.s, .bool x.sh] 100 (0, 0)
def rrO (x : Rs) : Obj := .cells #[.string x.s, .bool x.sh] 107 (0, 0)
theorem or64 {a b : Int} (ha : 0 ≤ a ∧ a ≤ 255) (hb : 0 ≤ b ∧ b ≤ 255) : bits BinOp.or IntKind.i64 (a * 256) b = a * 256 + b := by
  obtain ⟨n2, rfl⟩ := Int.eq_ofNat_of_zero_le ha.1
  obtain ⟨n3, rfl⟩ := Int.eq_ofNat_of_zero_le hb.1
  have e : ((n2 : Int) * 256) = ((n2 * 256 : Nat) : Int) := by omega
  have h1 := Nat.shiftLeft_add_eq_or_of_lt (show n3 < 2 ^ 8 by omega) n2
  rw [Nat.shiftLeft_eq] at h1
  have h8 : (2 : Nat) ^ 8 = 256 := by decide
  rw [h8] at h1
  rw [e]
  show IntKind.i64.wrap ((BitVec.ofInt 64 ((n2 * 256 : Nat) : Int) ||| BitVec.ofInt 64 (n3 : Int)).toNat : Int) = _
  rw [BitVec.toNat_or, ofInt_u64 (n2 * 256) (by omega), ofInt_u64 n3 (by omega), ← h1]
  simp [IntKind.wrap, IntKind.signed, IntKind.bits]
  omega
theorem rd1_none {x : Rs} (h : x.s.size = 0) : rd1 x = (0, ⟨x.s, true⟩) := by
  unfold rd1
  rw [dif_neg (by omega)]
theorem rd1_some {x : Rs} (h : 0 < x.s.size) : rd1 x = ((x.s[0].toNat : Int), ⟨x.s.extract 1 x.s.size, x.sh⟩) := by
  unfold rd1
  rw [dif_pos h]
theorem rd1_le {x : Rs} : (rd1 x).2.s.size ≤ x.s.size := by
  unfold rd1
  split
  · simp [ByteArray.size_extract]
  · exact Nat.le_refl _
theorem toList_of_zero {s : ByteArray} (h : s.size = 0) : s = ⟨#[]⟩ := by
  obtain ⟨⟨l⟩⟩ := s
  have : l.length = 0 := h
  rw [List.eq_nil_of_length_eq_zero this]
theorem isEmpty_of_pos {s : ByteArray} (h : 0 < s.size) : s.toList.isEmpty = false := by
  have h1 : s.toList = s.data.toList := by
    have hl : ∀ (n i : Nat) (r : List UInt8), s.size - i = n → ByteArray.toList.loop s i r = r.reverse ++ s.data.toList.drop i := by
      intro n
      induction n with
      | zero =>
        intro i r h
        unfold ByteArray.toList.loop
        rw [if_neg (by omega), List.drop_eq_nil_of_le (by rw [Array.length_toList]; have : s.size = s.data.size := rfl; omega), List.append_nil]
      | succ n ih =>
        intro i r h
        have hi : i < s.data.toList.length := by rw [Array.length_toList]; have : s.size = s.data.size := rfl; omega
        unfold ByteArray.toList.loop
        rw [if_pos (by omega), ih _ _ (by omega), List.drop_eq_getElem_cons hi]
        have hi' : i < s.data.size := by rwa [Array.length_toList] at hi
        have hg : s.get! i = s.data.toList[i] := by
          show s.data[i]! = _
          rw [getElem!_pos s.data i hi']
          rfl
        rw [hg]
        simp
    unfold ByteArray.toList
    rw [hl _ 0 [] rfl]
    simp
  rw [h1]
  have h2 : 0 < s.data.toList.length := by rw [Array.length_toList]; exact h
  cases hl : s.data.toList with
  | nil => rw [hl] at h2; simp at h2
  | cons a t => rfl
section
variable {w : World} {b : Nat} {x : Rs}
theorem rn_one (h : w.heap[b]? = some (rnO x)) (hs : x.s.size ≤ maxLen) :
    Calls Try.prog 80 #[.pointer (some ⟨b, 0, none⟩)] w fun e w' => e = .returned (.int .i64 (rd1 x).1) ∧ Upd b (rnO (rd1 x).2) w w' := by
  unfold maxLen at hs
  have c0 := (cell_of h 0).trans (show _ = some (Value.string x.s) from rfl)
  have c1 := (cell_of h 1).trans (show _ = some (Value.bool x.sh) from rfl)
  have f0 := free_of h 0
  have f1 := free_of h 1
  have hl := lt_of_heap h
  have HH := Lib.hid h
  clear h
  by_cases h0 : x.s.size = 0
  · have HF := Lib.hid (rd1_none h0)
    rw [toList_of_zero h0] at c0
    have HZ := Lib.hid (toList_of_zero h0)
    clear h0
    rw [HF.out]
    go_enter Try.func80, Try.ntmps80
    go_wp2
    go_ret
    exact ⟨rfl, (Upd.setCell 1 (.bool true) (Upd.refl HH.out)).of_eq (by simp [rnO])⟩
  · have hp : 0 < x.s.size := by omega
    have HF := Lib.hid (rd1_some hp)
    have hne := isEmpty_of_pos hp
    obtain ⟨v, hv⟩ : ∃ v : Int, (x.s[0].toNat : Int) = v := ⟨_, rfl⟩
    have hb := x.s[0].toNat_lt
    have hvb : 0 ≤ v ∧ v ≤ 255 := by omega
    have hi1 : (1 : Int) ≤ x.s.size := by omega
    rw [HF.out]
    have HV := Lib.hid hv
    clear hb
    go_enter Try.func80, Try.ntmps80
    go_wp2
    go_ret
    exact ⟨ret_int HV.out.symm, (Upd.setCell 0 (.string (x.s.extract 1 x.s.size)) (Upd.refl HH.out)).of_eq (by simp [rnO])⟩
theorem rr_one (h : w.heap[b]? = some (rrO x)) (hs : x.s.size ≤ maxLen) :
    Calls Try.prog 84 #[.pointer (some ⟨b, 0, none⟩)] w fun e w' => e = .returned (.int .i64 (rd1 x).1) ∧ Upd b (rrO (rd1 x).2) w w' := by
  unfold maxLen at hs
  have c0 := (cell_of h 0).trans (show _ = some (Value.string x.s) from rfl)
  have c1 := (cell_of h 1).trans (show _ = some (Value.bool x.sh) from rfl)
  have f0 := free_of h 0
  have f1 := free_of h 1
  have hl := lt_of_heap h
  have HH := Lib.hid h
  clear h
  by_cases h0 : x.s.size = 0
  · have HF := Lib.hid (rd1_none h0)
    have hi1 : (x.s.size : Int) < 1 := by omega
    clear h0
    rw [HF.out]
    go_enter Try.func84, Try.ntmps84
    go_wp2
    all_goals try (exfalso; omega)
    go_ret
    exact ⟨rfl, (Upd.setCell 1 (.bool true) (Upd.refl HH.out)).of_eq (by simp [rrO])⟩
  · have hp : 0 < x.s.size := by omega
    have HF := Lib.hid (rd1_some hp)
    obtain ⟨v, hv⟩ : ∃ v : Int, (x.s[0].toNat : Int) = v := ⟨_, rfl⟩
    have hb := x.s[0].toNat_lt
    have hvb : 0 ≤ v ∧ v ≤ 255 := by omega
    have hi1 : (1 : Int) ≤ x.s.size := by omega
    rw [HF.out]
    have HV := Lib.hid hv
    clear hb
    go_enter Try.func84, Try.ntmps84
    go_wp2
    all_goals try (exfalso; omega)
    go_ret
    exact ⟨ret_int HV.out.symm, (Upd.setCell 0 (.string (x.s.extract 1 x.s.size)) (Upd.refl HH.out)).of_eq (by simp [rrO])⟩
theorem rn_two (h : w.heap[b]? = some (rnO x)) (hs : x.s.size ≤ maxLen) :
    Calls Try.prog 81 #[.pointer (some ⟨b, 0, none⟩)] w fun e w' => e = .returned (.int .i64 (rd2 x).1) ∧ Upd b (rnO (rd2 x).2) w w' := by
  have h1 := rd1_bd x
  have h2 := rd1_bd (rd1 x).2
  have ho := or64 h1 h2
  have HE := Lib.hid (show rd2 x = ((rd1 x).1 * 256 + (rd1 (rd1 x).2).1, (rd1 (rd1 x).2).2) from rfl)
  rw [HE.out]
  have H1 := Lib.hid (rn_one h hs)
  have H2 := Lib.hid (show ∀ w' : World, w'.heap[b]? = some (rnO (rd1 x).2) → _ from fun w' h' => rn_one h' (Nat.le_trans rd1_le hs))
  generalize (rd1 x).1 = p at *
  generalize (rd1 x).2 = y at *
  generalize (rd1 y).1 = q at *
  generalize (rd1 y).2 = z at *
  clear h hs
  go_enter Try.func81, Try.ntmps81
  go_wp2_with fail
  refine H1.out.mono ?_
  rintro e w1 ⟨rfl, hu⟩
  have HU := Lib.hid hu
  clear hu
  go_wp2_with fail
  refine (H2.out _ HU.out.blk).mono ?_
  rintro e w2 ⟨rfl, hu⟩
  have HU2 := Lib.hid (HU.out.to hu)
  clear hu
  go_wp2_with fail
  go_ret
  exact ⟨rfl, HU2.out⟩
theorem rr_two (h : w.heap[b]? = some (rrO x)) (hs : x.s.size ≤ maxLen) :
    Calls Try.prog 85 #[.pointer (some ⟨b, 0, none⟩)] w fun e w' => e = .returned (.int .i64 (rd2 x).1) ∧ Upd b (rrO (rd2 x).2) w w' := by
  have h1 := rd1_bd x
  have h2 := rd1_bd (rd1 x).2
  have HE := Lib.hid (show rd2 x = ((rd1 x).1 * 256 + (rd1 (rd1 x).2).1, (rd1 (rd1 x).2).2) from rfl)
  rw [HE.out]
  have H1 := Lib.hid (rr_one h hs)
  have H2 := Lib.hid (show ∀ w' : World, w'.heap[b]? = some (rrO (rd1 x).2) → _ from fun w' h' => rr_one h' (Nat.le_trans rd1_le hs))
  generalize (rd1 x).1 = p at *
  generalize (rd1 x).2 = y at *
  generalize (rd1 y).1 = q at *
  generalize (rd1 y).2 = z at *
  clear h hs
  go_enter Try.func85, Try.ntmps85
  go_wp2_with fail
  refine H1.out.mono ?_
  rintro e w1 ⟨rfl, hu⟩
  have HU := Lib.hid hu
  clear hu
  go_wp2_with fail
  refine (H2.out _ HU.out.blk).mono ?_
  rintro e w2 ⟨rfl, hu⟩
  have HU2 := Lib.hid (HU.out.to hu)
  clear hu
  go_wp2_with fail
  go_ret
  exact ⟨ret_int (by omega), HU2.out⟩
end
end Go.Proofs.Ythkhlcigegbpfaa
