/- Find, Frame, Rank, Comes of both texts. -/
import Derived.Test.YthkhlcigegbpfaaMatSame
import Derived.Test.YthkhlcigegbpfaaMatComes
namespace Go.Proofs.Ythkhlcigegbpfaa
set_option linter.unusedVariables false
set_option linter.unusedSimpArgs false
open Go.ChangeShapes Go.WideShapes Go.ChangeAt Go.RowKit Go.Deep

def boxF (f : Fr) : Obj := .cells #[.bool f.ext, .int .u32 f.id, .bool f.rtr, .string f.data] 30 (0, 0)
def findI (m : Mat) (f : Fr) : Int := if f.ext || f.rtr then -1 else firstI (fun y => y.id == f.id) m.msgs
def rankI (m : Mat) (who : Int) : Int := firstI (fun y => who == y) m.masters
def frameE (m : Mat) (msg : Int) (data : ByteArray) : Fr × Bool :=
  if msg < 0 ∨ m.msgs.length ≤ msg ∨ 8 < data.size then (⟨false, 0, false, ⟨#[]⟩⟩, false) else (⟨false, (m.msgs[msg.toNat]?.getD ⟨0, 0, false⟩).id, false, data⟩, true)

theorem mat_findF {w : World} {p : Nat} {f : Fr} (hw : w.heap[p]? = some (boxF f)) (x : Msg) :
    Calls Try.prog 56 #[.agg #[.int .u32 x.id, .int .i64 x.owner, .bool x.ev], .pointer (some ⟨p, 0, none⟩)] w fun e w' => e = .returned (.bool (x.id == f.id)) ∧ Below w.heap.size w w' := by
  have hlt := lt_of_heap hw
  have hne : p ≠ w.heap.size := by omega
  have c1 := cell_of hw 1
  simp [boxF] at c1
  go_enter Try.func56, Try.ntmps56
  go_wp2
  go_ret
  exact ⟨ret_bool (by simp [Bool.beq_eq_decide_eq]), (Below.refl _ _).alloc (Nat.le_refl _) _⟩
theorem mat_finds {w : World} {a : Option Addr} {n cap p : Nat} {l : List Msg} {f : Fr} (h : RdL 3 msgC w (.slice a n cap) l) (hw : w.heap[p]? = some (boxF f)) :
    Calls Try.prog 55 #[.slice a n cap, .func (.func 56) #[] #[.pointer (some ⟨p, 0, none⟩)]] w fun e w' => e = .returned (.int .i64 (firstI (fun y => y.id == f.id) l)) ∧ Below w.heap.size w w' := by
  obtain ⟨hn, hc1, hc2⟩ := h.len
  unfold maxLen at hc2
  have H := Lib.hid h
  have HN := Lib.hid hn
  have HW := Lib.hid hw
  have hpl := lt_of_heap hw
  clear h hn hw
  go_enter Try.func55, Try.ntmps55
  go_wp2_with fail
  go_loopw [8] (fun i wr => ∃ k : Nat, i = .int .i64 k ∧ k ≤ n ∧ Hid (Clean (fun y => y.id == f.id) l k) ∧ Below w.heap.size w wr) (fun i _ => n - (intOf i).toNat)
  case atStart => exact ⟨0, rfl, by omega, Lib.hid (Clean.zero _ _), Below.refl _ _⟩
  case round =>
    obtain ⟨k, rfl, hk, hcl, hB⟩ := hrel
    by_cases hlt : k < n
    · obtain ⟨y, b, off, hy, hm, rfl, hb, hc⟩ := (H.out.keep hB).at_ k hlt
      have c0 := hc 0 _ rfl
      have c1 := hc 1 _ rfl
      have c2 := hc 2 _ rfl
      simp only [Nat.add_zero, ← Nat.add_assoc] at c0 c1 c2
      have HY := Lib.hid hy
      have hcw := (hB.block p hpl).trans HW.out
      have HC := Lib.hid hcw
      clear hc hy hcw
      obtain ⟨z, hz⟩ : ∃ z, (y.id == f.id) = z := ⟨_, rfl⟩
      have HF := mat_findF HC.out y
      rw [hz] at HF
      have HF' := Lib.hid HF
      clear HF
      cases z
      · have HH := Lib.hid (hcl.out.succ HY.out hz)
        clear hcl hz
        go_wp2_with fail
        refine HF'.out.mono ?_
        rintro e w' ⟨rfl, hB'⟩
        go_wp2_with fail
        go_roundw
        case rel => exact ⟨k + 1, by go_num, by omega, HH, hB.trans (hB'.mono hB.size)⟩
        case measure => simp [intOf]; omega
      · have HH := Lib.hid (firstI_hit (p := fun (y : Msg) => y.id == f.id) y HY.out hcl.out hz)
        clear hcl hz
        go_wp2_with fail
        refine HF'.out.mono ?_
        rintro e w' ⟨rfl, hB'⟩
        go_wp2_with fail
        go_ret
        exact ⟨ret_int HH.out.symm, hB.trans (hB'.mono hB.size)⟩
    · have HH := Lib.hid (firstI_none (p := fun y => y.id == f.id) (l := l) (fun j y hj hy => hcl.out j y (by have := HN.out; omega) hy))
      clear hcl
      go_wp2
      go_ret
      exact ⟨ret_int HH.out.symm, hB⟩

section
variable {w : World} {m : Mat} {s1 s2 s3 : Value}
theorem mat_find (h : RdM w m s1 s2 s3) (f : Fr) : Calls Try.prog 26 #[matV m s1 s2 s3, frV f] w fun e w' => e = .returned (.int .i64 (findI m f)) ∧ Below w.heap.size w w' := by
  have hO := ((Own.nil_ (Below.refl w.heap.size w) (Nat.le_refl _)).alloc (boxM m s1 s2 s3)).alloc (boxF f)
  have hsz : ∀ o : Obj, (w.alloc o).heap.size = w.heap.size + 1 := fun o => by simp
  rw [hsz] at hO
  clear hsz
  obtain ⟨a2, p2, e2, r2⟩ := h.r2.shape
  subst e2
  have R2 := Lib.hid r2
  clear r2 h
  obtain ⟨c0, c1, c2, c3, c4, c5, c6, c7, c8, c9, c10⟩ := boxM_c hO.get1
  have d0 : _ = some (Value.bool f.ext) := cell_of hO.get0 0
  have d2 : _ = some (Value.bool f.rtr) := cell_of hO.get0 2
  unfold matV frV
  obtain ⟨fe, fi, fr, fd⟩ := f
  simp only at d0 d2
  by_cases hx : fe = true
  · subst hx
    go_enter Try.func26, Try.ntmps26
    go_wp2
    go_ret
    exact ⟨rfl, hO.bel⟩
  · obtain rfl : fe = false := by simpa using hx
    by_cases hy : fr = true
    · subst hy
      go_enter Try.func26, Try.ntmps26
      go_wp2
      go_ret
      exact ⟨rfl, hO.bel⟩
    · obtain rfl : fr = false := by simpa using hy
      go_enter Try.func26, Try.ntmps26
      go_wp2_with fail
      refine (own_below hO (mat_finds (R2.out.keep hO.bel) hO.get0)).mono ?_
      rintro e w' ⟨rfl, hO⟩
      go_wp2_with fail
      go_ret
      exact ⟨rfl, hO.bel⟩
theorem mat_rank (h : RdM w m s1 s2 s3) (who : Int) : Calls Try.prog 37 #[matV m s1 s2 s3, .int .i64 who] w fun e w' => e = .returned (.int .i64 (rankI m who)) ∧ Below w.heap.size w w' := by
  have hO := (Own.nil_ (Below.refl w.heap.size w) (Nat.le_refl _)).alloc (boxM m s1 s2 s3)
  obtain ⟨a1, p1, e1, r1⟩ := h.r1.shape
  subst e1
  have R1 := Lib.hid r1
  clear r1 h
  obtain ⟨c0, c1, c2, c3, c4, c5, c6, c7, c8, c9, c10⟩ := boxM_c hO.get0
  unfold matV
  go_enter Try.func37, Try.ntmps37
  go_wp2_with fail
  refine (mat_index (R1.out.keep hO.bel) who).mono ?_
  rintro e w' ⟨rfl, rfl⟩
  go_wp2_with fail
  go_ret
  exact ⟨rfl, hO.bel⟩
end
end Go.Proofs.Ythkhlcigegbpfaa
