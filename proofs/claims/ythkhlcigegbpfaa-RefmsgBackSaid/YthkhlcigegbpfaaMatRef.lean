/- Frame of both texts; Find, Rank, Same of the reference. -/
import Derived.Test.YthkhlcigegbpfaaMatFind
namespace Go.Proofs.Ythkhlcigegbpfaa
set_option linter.unusedVariables false
set_option linter.unusedSimpArgs false
open Go.ChangeShapes Go.WideShapes Go.ChangeAt Go.RowKit Go.Deep

theorem boxF_c {w : World} {b : Nat} {f : Fr} (h : w.heap[b]? = some (boxF f)) : w.cell? ⟨b, 0, none⟩ = some (.bool f.ext) ∧ w.cell? ⟨b, 1, none⟩ = some (.int .u32 f.id) ∧ w.cell? ⟨b, 2, none⟩ = some (.bool f.rtr) ∧ w.cell? ⟨b, 3, none⟩ = some (.string f.data) :=
  ⟨cell_of h 0, cell_of h 1, cell_of h 2, cell_of h 3⟩
def noF : Fr := ⟨false, 0, false, ⟨#[]⟩⟩
section
variable {w : World} {m : Mat} {s1 s2 s3 : Value}
theorem rmat_rank (h : RdM w m s1 s2 s3) (who : Int) : Calls Try.prog 38 #[matV m s1 s2 s3, .int .i64 who] w fun e w' => e = .returned (.int .i64 (rankI m who)) ∧ Below w.heap.size w w' := by
  have hO := (Own.nil_ (Below.refl w.heap.size w) (Nat.le_refl _)).alloc (boxM m s1 s2 s3)
  obtain ⟨a1, p1, e1, r1⟩ := h.r1.shape
  subst e1
  have l1 := r1.len.2
  unfold maxLen at l1
  have R1 := Lib.hid r1
  clear r1 h
  unfold matV
  obtain ⟨c0, c1, c2, c3, c4, c5, c6, c7, c8, c9, c10⟩ := boxM_c hO.get0
  clear c0 c1 c2 c3 c4 c5 c6 c7 c9 c10
  go_enter Try.func38, Try.ntmps38
  go_wp2_with fail
  go_loopw [5] (fun i wr => ∃ k : Nat, i = .int .i64 k ∧ k ≤ m.masters.length ∧ Hid (Clean (fun y => who == y) m.masters k) ∧ Own w.heap.size w [(w.heap.size, boxM m (.slice a1 m.masters.length p1) s2 s3)] wr) (fun i _ => m.masters.length - (intOf i).toNat)
  case atStart => exact ⟨0, rfl, by omega, Lib.hid (Clean.zero _ _), hO⟩
  case round =>
    clear hO c8
    obtain ⟨k, rfl, hk, hcl, hO⟩ := hrel
    have c8 : _ = some (Value.slice a1 m.masters.length p1) := cell_of hO.get0 8
    by_cases hlt : k < m.masters.length
    · obtain ⟨y, b, off, hy, hm, rfl, hb, hc⟩ := (R1.out.keep hO.bel).at_ k hlt
      have e0 := hc 0 _ rfl
      simp only [Nat.mul_one, Nat.add_zero] at e0
      have HY := Lib.hid hy
      clear hc hy
      by_cases hxy : y = who
      · have HH := Lib.hid (firstI_hit (p := fun (z : Int) => who == z) y HY.out hcl.out (by simp [hxy]))
        clear hcl
        subst hxy
        go_wp2
        all_goals first | (exfalso; omega) | (go_ret; exact ⟨ret_int HH.out.symm, hO.bel⟩)
      · have HH := Lib.hid (hcl.out.succ HY.out (by simp; exact fun h => hxy h.symm))
        clear hcl
        go_wp2
        go_roundw
        case rel => exact ⟨k + 1, by go_num, by omega, HH, hO⟩
        case measure => simp [intOf]; omega
    · have HH := Lib.hid (firstI_none (p := fun y => who == y) (l := m.masters) (fun j y hj hy => hcl.out j y (by omega) hy))
      clear hcl
      go_wp2
      all_goals first | (exfalso; omega) | (go_ret; exact ⟨ret_int HH.out.symm, hO.bel⟩)

set_option maxRecDepth 100000 in
theorem rmat_find (h : RdM w m s1 s2 s3) (f : Fr) : Calls Try.prog 36 #[matV m s1 s2 s3, frV f] w fun e w' => e = .returned (.int .i64 (findI m f)) ∧ Below w.heap.size w w' := by
  have hO := ((Own.nil_ (Below.refl w.heap.size w) (Nat.le_refl _)).alloc (boxM m s1 s2 s3)).alloc (boxF f)
  have hsz : ∀ o : Obj, (w.alloc o).heap.size = w.heap.size + 1 := fun o => by simp
  rw [hsz] at hO
  clear hsz
  obtain ⟨a2, p2, e2, r2⟩ := h.r2.shape
  subst e2
  have l1 := r2.len.2
  unfold maxLen at l1
  have R2 := Lib.hid r2
  clear r2 h
  obtain ⟨c0, c1, c2, c3, c4, c5, c6, c7, c8, c9, c10⟩ := boxM_c hO.get1
  clear c0 c1 c2 c3 c4 c5 c6 c7 c8 c10
  obtain ⟨x, hx⟩ : ∃ x : Bool, f.ext = x := ⟨_, rfl⟩
  obtain ⟨z, hz⟩ : ∃ z : Bool, f.rtr = z := ⟨_, rfl⟩
  obtain ⟨fe, fi, fr, fd⟩ := f
  simp only at hx hz
  subst hx hz
  unfold matV frV
  go_enter Try.func36, Try.ntmps36
  go_wp2_with fail
  go_loopw [5] (fun i wr => ∃ k : Nat, i = .int .i64 k ∧ k ≤ m.msgs.length ∧ Hid (Clean (fun y => !fe && !fr && y.id == fi) m.msgs k) ∧ Own w.heap.size w [(w.heap.size + 1, boxF ⟨fe, fi, fr, fd⟩), (w.heap.size, boxM m s1 (.slice a2 m.msgs.length p2) s3)] wr) (fun i _ => m.msgs.length - (intOf i).toNat)
  case atStart => exact ⟨0, rfl, by omega, Lib.hid (Clean.zero _ _), hO⟩
  case round =>
    clear hO c9
    obtain ⟨k, rfl, hk, hcl, hO⟩ := hrel
    have c9 : _ = some (Value.slice a2 m.msgs.length p2) := cell_of hO.get1 9
    obtain ⟨d0, d1, d2, d3⟩ := boxF_c hO.get0
    simp only at d0 d1 d2 d3
    by_cases hlt : k < m.msgs.length
    · obtain ⟨y, b, off, hy, hm, rfl, hb, hc⟩ := (R2.out.keep hO.bel).at_ k hlt
      have e0 := hc 0 _ rfl
      simp only [Nat.add_zero, ← Nat.add_assoc] at e0
      have HY := Lib.hid hy
      clear hc hy
      by_cases hxy : fe = false ∧ fr = false ∧ y.id = fi
      · obtain ⟨rfl, rfl, h3⟩ := hxy
        have HH := Lib.hid (show findI m ⟨false, fi, false, fd⟩ = k from firstI_hit (p := fun (z : Msg) => z.id == fi) y HY.out (fun j y hj hy => by simpa using hcl.out j y hj hy) (by simp [h3]))
        clear hcl
        subst h3
        go_wp2
        go_quiet (fail)
        go_wp2
        all_goals first | (exfalso; omega) | (go_ret; exact ⟨ret_int HH.out.symm, hO.bel.trans (drewN_below _)⟩)
      · have HH := Lib.hid (hcl.out.succ HY.out (by simp; intro a b; simpa [a, b] using hxy))
        clear hcl
        cases fe
        · cases fr
          · have hne : ¬ y.id = fi := by simpa using hxy
            clear hxy
            go_wp2
            go_quiet (fail)
            go_wp2
            go_roundw
            case rel => exact ⟨k + 1, by go_num, by omega, HH, hO.drewN _⟩
            case measure => simp [intOf]; omega
          · clear hxy
            go_wp2
            go_quiet (fail)
            go_wp2
            go_roundw
            case rel => exact ⟨k + 1, by go_num, by omega, HH, hO.drewN _⟩
            case measure => simp [intOf]; omega
        · clear hxy
          go_wp2
          go_quiet (fail)
          go_wp2
          go_roundw
          case rel => exact ⟨k + 1, by go_num, by omega, HH, hO.drewN _⟩
          case measure => simp [intOf]; omega
    · have HH := Lib.hid (show findI m ⟨fe, fi, fr, fd⟩ = -1 by
        unfold findI
        split
        · rfl
        · rename_i hx
          simp at hx
          exact firstI_none (fun j y hj hy => by simpa [hx.1, hx.2] using hcl.out j y (by omega) hy))
      clear hcl
      go_wp2
      all_goals first | (exfalso; omega) | (go_ret; exact ⟨ret_int HH.out.symm, hO.bel⟩)
end
end Go.Proofs.Ythkhlcigegbpfaa
