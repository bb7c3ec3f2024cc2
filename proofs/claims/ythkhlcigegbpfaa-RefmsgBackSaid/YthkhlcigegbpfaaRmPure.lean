/- Bytes of a beat: plain words. -/
import Derived.Test.YthkhlcigegbpfaaRef3Is
namespace Go.Proofs.Ythkhlcigegbpfaa
set_option linter.unusedVariables false
set_option linter.unusedSimpArgs false

theorem str_at {xs : List Int} {i : Nat} (hi : i < xs.length) : (strOfNums xs)[i]'(by rw [strOfNums_size]; exact hi) = UInt8.ofNat (xs[i]).toNat := by
  have hs : i < (strOfNums xs).data.size := by
    have := strOfNums_size xs
    show i < (strOfNums xs).size
    omega
  have h1 : (strOfNums xs).data.toList[i]? = (xs.map fun n => UInt8.ofNat n.toNat)[i]? := by rw [strOfNums_data]
  rw [Array.getElem?_toList, Array.getElem?_eq_getElem hs, List.getElem?_map, List.getElem?_eq_getElem hi] at h1
  exact Option.some.inj h1
theorem dAt_str {xs : List Int} {i : Nat} (hi : i < xs.length) (hb : 0 ≤ xs[i] ∧ xs[i] ≤ 255) : dAt (strOfNums xs) i = xs[i] := by
  have hs : i < (strOfNums xs).size := by rw [strOfNums_size]; exact hi
  rw [← dAt_of hs, str_at hi]
  have : (UInt8.ofNat (xs[i]).toNat).toNat = (xs[i]).toNat := by
    rw [UInt8.toNat_ofNat']
    omega
  rw [this]
  omega
theorem str_of_dAt {xs : List Int} {s : ByteArray} (hl : xs.length = s.size) (h : ∀ i, (hi : i < xs.length) → xs[i] = dAt s i) : strOfNums xs = s := by
  obtain ⟨⟨l⟩⟩ := s
  have hl' : xs.length = l.length := hl
  show (⟨(xs.map fun n => UInt8.ofNat n.toNat).toArray⟩ : ByteArray) = ⟨⟨l⟩⟩
  congr 1
  congr 1
  apply List.ext_getElem
  · simpa using hl'
  · intro i h1 h2
    simp at h1 h2
    have := h i (by omega)
    rw [← dAt_of (s := ⟨⟨l⟩⟩) (i := i) h2] at this
    simp only [List.getElem_map, this]
    show UInt8.ofNat (((l[i]).toNat : Int)).toNat = l[i]
    simp
def leastF (two : Bool) : Mat := if two = true then ⟨2, 2, 2, 200, 1, 16, 0, 16, [0, 1], [], []⟩ else ⟨1, 2, 2, 200, 1, 16, 0, 16, [0, 1], [], []⟩
def fineB (two : Bool) (r : Int) (s : ByteArray) : Bool := decide (r < 2) && decide (s.size = if two = true then 4 else 1) && decide (dAt s 0 < 2) && (!two || decide (dAt s 1 < 2))
theorem forms_law (two : Bool) (r : Int) (hr : 0 ≤ r ∧ r ≤ 7) (s : ByteArray) : (parseE (leastF two) ⟨false, 16 + r, false, s⟩).2 = fineB two r s := by
  have b0 := dAt_bounds s 0
  have b1 := dAt_bounds s 1
  have b2 := dAt_bounds s 2
  have b3 := dAt_bounds s 3
  by_cases h0 : s.size = 0
  · rw [parse_none (.inl h0)]
    cases two <;> simp [fineB, h0]
  have hB : isB (leastF two) = true := by cases two <;> decide
  have hres : ∀ b, ((parseE (leastF two) ⟨false, 16 + r, false, s⟩).2 = b) ↔ (((buildOk (leastF two) r (dAt s 0) && decide (strOfNums (beatD (leastF two) (dAt s 0) (beatP (leastF two) ⟨false, 16 + r, false, s⟩).glob (beatP (leastF two) ⟨false, 16 + r, false, s⟩).disc) = s)) = b)) := by
    intro b
    have hrank : (beatP (leastF two) ⟨false, 16 + r, false, s⟩).rank = r := by
      rw [beatP_rank]
      cases two <;> simp [leastF] <;> omega
    have hcyc : (beatP (leastF two) ⟨false, 16 + r, false, s⟩).cycle = dAt s 0 := by unfold beatP; split <;> rfl
    unfold parseE
    rw [if_neg (by cases two <;> simp [leastF, h0] <;> omega), hrank, hcyc, build_snd]
    by_cases hb : buildOk (leastF two) r (dAt s 0) = true
    · have hid : ((leastF two).ref + r) % 4294967296 = 16 + r := by cases two <;> simp [leastF] <;> omega
      unfold buildE
      rw [if_pos hb]
      simp only [hb, true_and, frEqB, hid, beq_self_eq_true, Bool.true_and, decide_eq_true_eq]
      split <;> simp_all
    · have hb' : buildOk (leastF two) r (dAt s 0) = false := by simpa using hb
      simp [hb']
  rw [hres]
  have hok : buildOk (leastF two) r (dAt s 0) = (decide (r < 2) && decide (dAt s 0 < 2)) := by
    unfold buildOk
    rw [hB, Bool.true_and, Bool.eq_iff_iff]
    cases two <;> simp [leastF] <;> omega
  rw [hok]
  by_cases hr2 : r < 2
  · by_cases hd2 : dAt s 0 < 2
    · simp only [hr2, hd2, decide_true, Bool.true_and, fineB, Bool.and_true]
      cases two with
      | false =>
        have e : beatD (leastF false) (dAt s 0) (beatP (leastF false) ⟨false, 16 + r, false, s⟩).glob (beatP (leastF false) ⟨false, 16 + r, false, s⟩).disc = [dAt s 0] := by
          unfold beatD
          rw [if_neg (by decide), show dAt s 0 % 256 = dAt s 0 by omega]
        rw [e, Bool.eq_iff_iff]
        simp
        constructor
        · intro h
          rw [← h, strOfNums_size]
          rfl
        · intro h
          refine str_of_dAt (by simp [h]) (fun i hi => ?_)
          simp at hi
          subst hi
          rfl
      | true =>
        rw [Bool.eq_iff_iff]
        simp
        by_cases h4 : s.size = 4
        · have e : beatP (leastF true) ⟨false, 16 + r, false, s⟩ = ⟨16 + r - 16, dAt s 0, dAt s 2 * 256 + dAt s 3, dAt s 1 == 1⟩ := by
            unfold beatP
            rw [if_pos ⟨rfl, h4⟩]
            rfl
          have e2 : beatD (leastF true) (dAt s 0) (dAt s 2 * 256 + dAt s 3) (dAt s 1 == 1) = [dAt s 0, if (dAt s 1 == 1) = true then 1 else 0, dAt s 2, dAt s 3] := by
            unfold beatD
            rw [if_pos (show (leastF true).level = 2 from rfl), show dAt s 0 % 256 = dAt s 0 by omega, show (dAt s 2 * 256 + dAt s 3) / 256 = dAt s 2 by omega, show (dAt s 2 * 256 + dAt s 3) % 256 = dAt s 3 by omega]
          rw [e, e2]
          constructor
          · intro h
            refine ⟨h4, ?_⟩
            have hd := dAt_str (xs := [dAt s 0, if (dAt s 1 == 1) = true then 1 else 0, dAt s 2, dAt s 3]) (i := 1) (by simp) (by
              simp only [List.getElem_cons_succ, List.getElem_cons_zero]
              split <;> omega)
            rw [h] at hd
            simp only [List.getElem_cons_succ, List.getElem_cons_zero] at hd
            split at hd <;> omega
          · rintro ⟨_, h⟩
            refine str_of_dAt (by simp [h4]) (fun i hi => ?_)
            simp at hi
            match i, hi with
            | 0, _ => rfl
            | 1, _ =>
              simp only [List.getElem_cons_succ, List.getElem_cons_zero]
              by_cases h1 : dAt s 1 = 1
              · simp [h1]
              · simp [h1]; omega
            | 2, _ => rfl
            | 3, _ => rfl
        · constructor
          · intro h
            exfalso
            apply h4
            rw [← h, strOfNums_size]
            unfold beatD
            rw [if_pos (show (leastF true).level = 2 from rfl)]
            rfl
          · rintro ⟨h, _⟩
            exact absurd h h4
    · simp [fineB, hd2]
  · simp [fineB, hr2]
end Go.Proofs.Ythkhlcigegbpfaa
