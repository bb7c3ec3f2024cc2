/- Words for Parse and Beats. -/
import Derived.Test.YthkhlcigegbpfaaRmsg2
import Derived.Test.YthkhlcigegbpfaaHeld
import Derived.BigRegion
import Derived.Laws.BitsAllLaws
namespace Go.Proofs.Ythkhlcigegbpfaa
set_option linter.unusedVariables false
set_option linter.unusedSimpArgs false
open Go.ChangeShapes Go.WideShapes Go.ChangeAt Go.RowKit Go.Deep
theorem or16 {d2 d3 : Int} (h2 : 0 ≤ d2 ∧ d2 ≤ 255) (h3 : 0 ≤ d3 ∧ d3 ≤ 255) : bits BinOp.or IntKind.u16 (IntKind.u16.wrap (IntKind.u16.wrap d2 * 256)) (IntKind.u16.wrap d3) = d2 * 256 + d3 := by
  obtain ⟨n2, rfl⟩ := Int.eq_ofNat_of_zero_le h2.1
  obtain ⟨n3, rfl⟩ := Int.eq_ofNat_of_zero_le h3.1
  have e : IntKind.u16.wrap (IntKind.u16.wrap (n2 : Int) * 256) = ((n2 * 256 : Nat) : Int) := by rw [wu16, wu16]; omega
  have e3 : IntKind.u16.wrap (n3 : Int) = (n3 : Int) := by rw [wu16]; omega
  rw [e, e3, u16_or_nat (n2 * 256) n3 (by omega) (by omega)]
  have := Nat.shiftLeft_add_eq_or_of_lt (show n3 < 2 ^ 8 by omega) n2
  rw [Nat.shiftLeft_eq] at this
  have h8 : (2 : Nat) ^ 8 = 256 := by decide
  rw [h8] at this
  rw [← this]
  omega
theorem i64_of {n : Int} (h1 : -9223372036854775808 ≤ n) (h2 : n ≤ 9223372036854775807) : I64 n := by
  simp [I64, Lit.wf, IntKind.min, IntKind.max, IntKind.signed, IntKind.bits]
  omega
theorem or16b {d2 d3 : Int} (h2 : 0 ≤ d2 ∧ d2 ≤ 255) (h3 : 0 ≤ d3 ∧ d3 ≤ 255) : bits BinOp.or IntKind.u16 (d2 * 256) d3 = d2 * 256 + d3 := by
  have h := or16 h2 h3
  rw [wu16, wu16, wu16, show (d2 % 65536 * 256) % 65536 = d2 * 256 by omega, show d3 % 65536 = d3 by omega] at h
  exact h
theorem loop_eq (s : ByteArray) : ∀ (n i : Nat) (r : List UInt8), s.size - i = n → ByteArray.toList.loop s i r = r.reverse ++ s.data.toList.drop i := by
  intro n
  induction n with
  | zero =>
    intro i r h
    unfold ByteArray.toList.loop
    rw [if_neg (by omega), List.drop_eq_nil_of_le (by rw [Array.length_toList]; have : s.size = s.data.size := rfl; omega), List.append_nil]
  | succ n ih =>
    intro i r h
    have hi : i < s.data.toList.length := by rw [Array.length_toList]; have : s.size = s.data.size := rfl; omega
    unfold ByteArray.toList.loop
    rw [if_pos (by omega), ih _ _ (by omega), List.drop_eq_getElem_cons hi]
    have hi' : i < s.data.size := by rwa [Array.length_toList] at hi
    have hg : s.get! i = s.data.toList[i] := by
      show s.data[i]! = _
      rw [getElem!_pos s.data i hi']
      rfl
    rw [hg]
    simp
theorem toList_eq (s : ByteArray) : s.toList = s.data.toList := by
  unfold ByteArray.toList
  rw [loop_eq s _ 0 [] rfl]
  simp
theorem toList_inj {s t : ByteArray} (h : s.toList = t.toList) : s = t := by
  rw [toList_eq, toList_eq] at h
  obtain ⟨⟨a⟩⟩ := s
  obtain ⟨⟨b⟩⟩ := t
  simp at h
  rw [h]
theorem held30f : Try.prog.stoodInHeld 30 = false := by kernel_rfl
theorem guard30f : Try.prog.eqGuardType Try.prog.depth 30 = false := by kernel_rfl
/-- The world as it stands, behind a letter. -/
theorem world_out {B : Nat} {w0 w : World} {L : List (Nat × Obj)} {P : World → Prop} (h : Own B w0 L w) (k : ∀ v, Own B w0 L v → P v) : P w := k w h
end Go.Proofs.Ythkhlcigegbpfaa
