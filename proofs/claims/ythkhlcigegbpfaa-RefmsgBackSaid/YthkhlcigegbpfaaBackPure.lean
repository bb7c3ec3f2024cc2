/- A beat's frame is read as it was made; no message's frame is one: plain words. -/
import Derived.Test.YthkhlcigegbpfaaRmPure
import Derived.Test.YthkhlcigegbpfaaChk4
namespace Go.Proofs.Ythkhlcigegbpfaa
set_option linter.unusedVariables false
set_option linter.unusedSimpArgs false

theorem pure_isref {m : Mat} (h : isB m = true) : m.ref % 8 = 0 := by
  simp only [isB, headB, Bool.and_eq_true] at h
  obtain ⟨⟨⟨⟨⟨⟨⟨_, h8⟩, _⟩, _⟩, _⟩, _⟩, _⟩, _⟩ := h
  simpa using h8
def wantB (m : Mat) (r c g : Int) (d : Bool) : Bt := if m.level = 2 then ⟨r, c, g, d⟩ else ⟨r, c, 0, false⟩
theorem build_of {m : Mat} (hb : isB m = true) (ho : m.Ok) {r c : Int} (g : Int) (d : Bool) (hr : 0 ≤ r ∧ r < (m.masters.length : Int)) (hc : 0 ≤ c ∧ c < m.cycles) :
    buildE m r c g d = (⟨false, m.ref + r, false, strOfNums (beatD m c g d)⟩, true) := by
  have bd := bds_of hb
  have h1 := bd.l1
  have h8 := bd.ref
  have hp := (ok_pos ho).1
  have hk : buildOk m r c = true := by
    unfold buildOk
    rw [hb]
    simp
    omega
  unfold buildE
  rw [if_pos hk, show (m.ref + r) % 4294967296 = m.ref + r by omega]
theorem parse_build {m : Mat} (hb : isB m = true) (ho : m.Ok) {r c g : Int} {d : Bool} (hr : 0 ≤ r ∧ r < (m.masters.length : Int)) (hc : 0 ≤ c ∧ c < m.cycles) (hg : 0 ≤ g ∧ g ≤ 65535) :
    parseE m (buildE m r c g d).1 = (wantB m r c g d, true) := by
  have bd := bds_of hb
  have h3 := bd.cycles
  rw [build_of hb ho g d hr hc]
  simp only
  by_cases hl : m.level = 2
  · have hbd : beatD m c g d = [c, if d then 1 else 0, g / 256, g % 256] := by
      unfold beatD
      rw [if_pos hl, show c % 256 = c by omega]
    have hsz : (strOfNums (beatD m c g d)).size = 4 := by rw [strOfNums_size, hbd]; rfl
    have hbt : beatP m ⟨false, m.ref + r, false, strOfNums (beatD m c g d)⟩ = ⟨r, c, g, d⟩ := by
      have d0 : dAt (strOfNums (beatD m c g d)) 0 = c := by
        rw [hbd]; exact dAt_str (i := 0) (by simp) (by simp; omega)
      have d1 : dAt (strOfNums (beatD m c g d)) 1 = if d then 1 else 0 := by
        rw [hbd]
        exact dAt_str (i := 1) (by simp) (by cases d <;> simp)
      have d2 : dAt (strOfNums (beatD m c g d)) 2 = g / 256 := by
        rw [hbd]; exact dAt_str (i := 2) (by simp) (by simp; omega)
      have d3 : dAt (strOfNums (beatD m c g d)) 3 = g % 256 := by
        rw [hbd]; exact dAt_str (i := 3) (by simp) (by simp; omega)
      unfold beatP
      rw [if_pos ⟨hl, hsz⟩]
      simp only [d0, d1, d2, d3]
      have e1 : m.ref + r - m.ref = r := by omega
      have e2 : g / 256 * 256 + g % 256 = g := by omega
      rw [e1, e2]
      cases d <;> rfl
    unfold parseE
    rw [if_neg (by simp only [hsz]; omega), hbt]
    simp only
    rw [build_of hb ho g d hr hc]
    rw [if_pos ⟨rfl, by simp [frEqB]⟩]
    unfold wantB
    rw [if_pos hl]
  · have hbd : ∀ g d, beatD m c g d = [c] := by
      intro g d
      unfold beatD
      rw [if_neg hl, show c % 256 = c by omega]
    have hsz : (strOfNums [c]).size = 1 := by rw [strOfNums_size]; rfl
    have hbt : beatP m ⟨false, m.ref + r, false, strOfNums [c]⟩ = ⟨r, c, 0, false⟩ := by
      have d0 : dAt (strOfNums [c]) 0 = c := dAt_str (i := 0) (by simp) (by simp; omega)
      unfold beatP
      rw [if_neg (fun h => hl h.1)]
      simp only [d0]
      rw [show m.ref + r - m.ref = r by omega]
    rw [hbd g d]
    unfold parseE
    rw [if_neg (by simp only [hsz]; omega), hbt]
    simp only
    rw [build_of hb ho 0 false hr hc, hbd 0 false]
    rw [if_pos ⟨rfl, by simp [frEqB]⟩]
    unfold wantB
    rw [if_neg hl]
theorem find_none {m : Mat} (hb : isB m = true) (hf : Free m) {r : Int} {s : ByteArray} (hr : 0 ≤ r ∧ r < (m.masters.length : Int)) : findI m ⟨false, m.ref + r, false, s⟩ = -1 := by
  have h1 := (bds_of hb).l1
  have h8 := pure_isref hb
  unfold findI
  simp only [Bool.or_false, Bool.false_eq_true, if_false]
  refine firstI_none (fun j y hj hy => ?_)
  have := hf y (List.mem_of_getElem? hy)
  simp only [beq_eq_false_iff_ne, ne_eq]
  omega
theorem parse_msg {m : Mat} (hb : isB m = true) (hf : Free m) {x : Msg} (hx : x ∈ m.msgs) (s : ByteArray) : (parseE m ⟨false, x.id, false, s⟩).2 = false := by
  have h1 := (bds_of hb).l1
  have h8 := pure_isref hb
  have := hf x hx
  rw [parse_none]
  right
  simp only
  omega
theorem noF_parse {m : Mat} : (parseE m noF).2 = false := by
  rw [parse_none (.inl rfl)]
theorem frame_msg {m : Mat} (hb : isB m = true) (hf : Free m) (k : Int) (s : ByteArray) : (parseE m (frameE m k s).1).2 = false := by
  unfold frameE
  split
  · exact noF_parse
  · rename_i h
    have hk : k.toNat < m.msgs.length := by omega
    have e : m.msgs[k.toNat]? = some m.msgs[k.toNat] := List.getElem?_eq_getElem hk
    rw [e]
    exact parse_msg hb hf (List.getElem_mem hk) s
end Go.Proofs.Ythkhlcigegbpfaa
