/- The beat as a frame: the reference's Build; what a frame tells. -/
import Derived.Test.YthkhlcigegbpfaaRmsg
namespace Go.Proofs.Ythkhlcigegbpfaa
set_option linter.unusedVariables false
set_option linter.unusedSimpArgs false
open Go.ChangeShapes Go.WideShapes Go.ChangeAt Go.RowKit Go.Deep

set_option maxRecDepth 100000 in
set_option maxHeartbeats 4000000 in
theorem rr_build {w : World} {m : Mat} {s1 s2 s3 : Value} (h : RdM w m s1 s2 s3) (rank cycle at_ : Int) (hr : I64 rank) (hc : I64 cycle) (ha : 0 ≤ at_ ∧ at_ ≤ 65535) (disc : Bool) :
    Calls Try.prog 21 #[matV m s1 s2 s3, .int .i64 rank, .int .i64 cycle, .int .u16 at_, .bool disc] w fun e w' => e = .returned (.tuple #[frV (buildE m rank cycle at_ disc).1, .bool (buildE m rank cycle at_ disc).2]) ∧ Below w.heap.size w w' := by
  have hO := ((Own.nil_ (Below.refl w.heap.size w) (Nat.le_refl _)).alloc (boxM m s1 s2 s3)).alloc (boxF noF)
  obtain ⟨a1, p1, e1, r1⟩ := h.r1.shape
  subst e1
  have l1 := r1.len.2
  unfold maxLen at l1
  have RM := Lib.hid h
  clear r1 h
  obtain ⟨i0, hi0, hi1, hi2, hi3⟩ := info_parts byte_info
  obtain ⟨c0, c1, c2, c3, c4, c5, c6, c7, c8, c9, c10⟩ := boxM_c hO.get1
  have hml := lt_of_heap hO.get1
  simp [boxM] at hml
  obtain ⟨z, hz⟩ : ∃ z, isB m = z := ⟨_, rfl⟩
  have HZ := Lib.hid hz
  clear hz
  unfold matV
  go_enter Try.func21, Try.ntmps21
  unfold boxM at c0 c1 c2 c3 c4 c5 c6 c7 c8 c9 c10
  go_wp2_with fail
  refine (own_below hO (rmat_is (RM.out.keep hO.bel))).mono ?_
  rw [HZ.out]
  rintro e w2 ⟨rfl, hO⟩
  clear c0 c1 c2 c3 c4 c5 c6 c7 c8 c9 c10
  have hms : (w.alloc (boxM m (.slice a1 m.masters.length p1) s2 s3)).heap.size = w.heap.size + 1 := by simp
  rw [hms] at hO
  obtain ⟨c0, c1, c2, c3, c4, c5, c6, c7, c8, c9, c10⟩ := boxM_c hO.get1
  obtain ⟨g0, g1, g2, g3⟩ := boxF_c hO.get0
  have gf0 := free_of hO.get0 0
  have gf1 := free_of hO.get0 1
  have gf2 := free_of hO.get0 2
  have gf3 := free_of hO.get0 3
  have hl0 := lt_of_heap hO.get0
  have hl1 := lt_of_heap hO.get1
  have HO := Lib.hid hO
  clear hO hms
  by_cases hall : z = true ∧ 0 ≤ rank ∧ rank < (m.masters.length : Int) ∧ 0 ≤ cycle ∧ cycle < m.cycles
  rotate_left
  · have HF := Lib.hid (show buildE m rank cycle at_ disc = (noF, false) by
      have hb : buildOk m rank cycle = false := by
        unfold buildOk
        rw [HZ.out]
        cases z
        · rfl
        · simp only [true_and] at hall
          simp [hall]
      unfold buildE
      rw [hb]
      rfl)
    have hbs := hr.bounds
    cases z
    all_goals
      go_wp2
      all_goals first
        | (exfalso; simp at hall; omega)
        | (rw [HF.out]
           have hu := fr_set HO.out.get0 noF
           obtain ⟨r0, r1, r2, r3⟩ := boxF_c hu.blk
           simp only [noF] at r0 r1 r2 r3
           refine bodyPost_ret (v := .tuple #[frV noF, .bool false]) ?_ rfl ⟨rfl, hu.below HO.out.bel (by omega) (by omega)⟩
           simp only [results, Try.results21]
           simp [go_sem, frV, noF, r0, r1, r2, r3])
  · obtain ⟨rfl, h1, h2, h3, h4⟩ := hall
    have HF := Lib.hid (show buildE m rank cycle at_ disc = (⟨false, (m.ref + rank) % 4294967296, false, strOfNums (beatD m cycle at_ disc)⟩, true) by
      have hb : buildOk m rank cycle = true := by
        unfold buildOk
        rw [HZ.out]
        simp [h1, h2, h3, h4]
      unfold buildE
      rw [if_pos hb])
    have h5 : decide (m.cycles ≤ cycle) = false := by simp; omega
    by_cases hlev : m.level = 2
    · cases disc
      · have HD := Lib.hid (show beatD m cycle at_ false = [cycle % 256, 0, at_ / 256, at_ % 256] by unfold beatD; rw [if_pos hlev]; rfl)
        have hcA : ((w2.alloc (.cells #[.int .u8 (cycle % 256)] 5)).alloc (.cells #[.int .u8 0, .int .u8 (at_ / 256), .int .u8 (at_ % 256)] 5)).ownsRow w2.heap.size 5 1 (.slice (some ⟨w2.heap.size, 0, none⟩) 1 1) 1 [.int .u8 (cycle % 256)] :=
          ⟨rfl, .inr ⟨w2.heap.size, 1, #[.int .u8 (cycle % 256)], rfl, Nat.le_refl _, (old_blk _ _ _ (by simp)).trans (new_blk _ _), by decide, by decide, rfl, rfl⟩⟩
        have hcB := World.news_of_block (new_blk2 w2 (.cells #[.int .u8 (cycle % 256)] 5) (.cells #[.int .u8 0, .int .u8 (at_ / 256), .int .u8 (at_ % 256)] 5))
        have HCA := Lib.hid hcA
        have HCB := Lib.hid hcB
        clear hcA hcB
        go_wp2_with (at_builtin; refine wpList_append_own _ rfl _ _ 69 rfl w2.heap.size 5 i0 (.int .u8 0) 1 1 Try.underlying69 hi0 hi1 hi2 hi3 rfl (by decide) (.slice (some ⟨w2.heap.size, 0, none⟩) 1 1) 1 [.int .u8 (cycle % 256)] rfl HCA.out ⟨w2.heap.size + 1, 0, none⟩ 3 3 [.int .u8 0, .int .u8 (at_ / 256), .int .u8 (at_ % 256)] rfl rfl HCB.out (by simp [Value.oneCell']) (by decide) (by decide) (by simp; omega) ?_)
        all_goals try (exfalso; omega)
        intro v' w3 hR hG _
        obtain ⟨_, ⟨_, h0⟩ | ⟨gb, cp, cur, rfl, hgg, hcell, hle, hmx, hsz, htk⟩⟩ := hR
        · omega
        have hB3 : Below w2.heap.size w2 w3 := (((Below.refl _ _).alloc (Nat.le_refl _) _).alloc (by simp) _).trans ⟨hG.os, hG.tape, hG.output, hG.size, fun k hk => hG.block k (by simp; omega) (by simp [Value.ownBlock]; omega)⟩
        have hO3 := HO.out.keep hB3
        have hcv := conv_row (n := 4) (cp := cp) (xs := [cycle % 256, 0, at_ / 256, at_ % 256]) hcell rfl (by simpa using htk)
        clear c0 c1 c2 c3 c4 c5 c6 c7 c8 c9 c10 g0 g1 g2 g3 gf0 gf1 gf2 gf3 hl0 hl1 hG hcell htk
        obtain ⟨c0, c1, c2, c3, c4, c5, c6, c7, c8, c9, c10⟩ := boxM_c hO3.get1
        obtain ⟨g0, g1, g2, g3⟩ := boxF_c hO3.get0
        have gf0 := free_of hO3.get0 0
        have gf1 := free_of hO3.get0 1
        have gf2 := free_of hO3.get0 2
        have gf3 := free_of hO3.get0 3
        have hl0 := lt_of_heap hO3.get0
        have hl1 := lt_of_heap hO3.get1
        have HO3 := Lib.hid hO3
        clear hO3
        go_wp2
        all_goals try (exfalso; omega)
        rw [HF.out, HD.out]
        have hu := fr_set HO3.out.get0 ⟨false, (m.ref + rank) % 4294967296, false, strOfNums [cycle % 256, 0, at_ / 256, at_ % 256]⟩
        obtain ⟨r0, r1, r2, r3⟩ := boxF_c hu.blk
        simp only at r0 r1 r2 r3
        refine bodyPost_ret (v := .tuple #[frV ⟨false, (m.ref + rank) % 4294967296, false, strOfNums [cycle % 256, 0, at_ / 256, at_ % 256]⟩, .bool true]) ?_ rfl ⟨rfl, hu.below HO3.out.bel (by omega) (by have := HO3.out.sz; omega)⟩
        simp only [results, Try.results21]
        simp [go_sem, frV, r0, r1, r2, r3]
      · have HD := Lib.hid (show beatD m cycle at_ true = [cycle % 256, 1, at_ / 256, at_ % 256] by unfold beatD; rw [if_pos hlev]; rfl)
        have hcA : ((w2.alloc (.cells #[.int .u8 (cycle % 256)] 5)).alloc (.cells #[.int .u8 1, .int .u8 (at_ / 256), .int .u8 (at_ % 256)] 5)).ownsRow w2.heap.size 5 1 (.slice (some ⟨w2.heap.size, 0, none⟩) 1 1) 1 [.int .u8 (cycle % 256)] :=
          ⟨rfl, .inr ⟨w2.heap.size, 1, #[.int .u8 (cycle % 256)], rfl, Nat.le_refl _, (old_blk _ _ _ (by simp)).trans (new_blk _ _), by decide, by decide, rfl, rfl⟩⟩
        have hcB := World.news_of_block (new_blk2 w2 (.cells #[.int .u8 (cycle % 256)] 5) (.cells #[.int .u8 1, .int .u8 (at_ / 256), .int .u8 (at_ % 256)] 5))
        have HCA := Lib.hid hcA
        have HCB := Lib.hid hcB
        clear hcA hcB
        go_wp2_with (at_builtin; refine wpList_append_own _ rfl _ _ 69 rfl w2.heap.size 5 i0 (.int .u8 0) 1 1 Try.underlying69 hi0 hi1 hi2 hi3 rfl (by decide) (.slice (some ⟨w2.heap.size, 0, none⟩) 1 1) 1 [.int .u8 (cycle % 256)] rfl HCA.out ⟨w2.heap.size + 1, 0, none⟩ 3 3 [.int .u8 1, .int .u8 (at_ / 256), .int .u8 (at_ % 256)] rfl rfl HCB.out (by simp [Value.oneCell']) (by decide) (by decide) (by simp; omega) ?_)
        all_goals try (exfalso; omega)
        intro v' w3 hR hG _
        obtain ⟨_, ⟨_, h0⟩ | ⟨gb, cp, cur, rfl, hgg, hcell, hle, hmx, hsz, htk⟩⟩ := hR
        · omega
        have hB3 : Below w2.heap.size w2 w3 := (((Below.refl _ _).alloc (Nat.le_refl _) _).alloc (by simp) _).trans ⟨hG.os, hG.tape, hG.output, hG.size, fun k hk => hG.block k (by simp; omega) (by simp [Value.ownBlock]; omega)⟩
        have hO3 := HO.out.keep hB3
        have hcv := conv_row (n := 4) (cp := cp) (xs := [cycle % 256, 1, at_ / 256, at_ % 256]) hcell rfl (by simpa using htk)
        clear c0 c1 c2 c3 c4 c5 c6 c7 c8 c9 c10 g0 g1 g2 g3 gf0 gf1 gf2 gf3 hl0 hl1 hG hcell htk
        obtain ⟨c0, c1, c2, c3, c4, c5, c6, c7, c8, c9, c10⟩ := boxM_c hO3.get1
        obtain ⟨g0, g1, g2, g3⟩ := boxF_c hO3.get0
        have gf0 := free_of hO3.get0 0
        have gf1 := free_of hO3.get0 1
        have gf2 := free_of hO3.get0 2
        have gf3 := free_of hO3.get0 3
        have hl0 := lt_of_heap hO3.get0
        have hl1 := lt_of_heap hO3.get1
        have HO3 := Lib.hid hO3
        clear hO3
        go_wp2
        all_goals try (exfalso; omega)
        rw [HF.out, HD.out]
        have hu := fr_set HO3.out.get0 ⟨false, (m.ref + rank) % 4294967296, false, strOfNums [cycle % 256, 1, at_ / 256, at_ % 256]⟩
        obtain ⟨r0, r1, r2, r3⟩ := boxF_c hu.blk
        simp only at r0 r1 r2 r3
        refine bodyPost_ret (v := .tuple #[frV ⟨false, (m.ref + rank) % 4294967296, false, strOfNums [cycle % 256, 1, at_ / 256, at_ % 256]⟩, .bool true]) ?_ rfl ⟨rfl, hu.below HO3.out.bel (by omega) (by have := HO3.out.sz; omega)⟩
        simp only [results, Try.results21]
        simp [go_sem, frV, r0, r1, r2, r3]
    · have HD := Lib.hid (show beatD m cycle at_ disc = [cycle % 256] by unfold beatD; rw [if_neg hlev])
      have hO3 := HO.out.alloc_ (.cells #[.int .u8 (cycle % 256)] 5)
      have hcv := conv_row (w := w2.alloc (.cells #[.int .u8 (cycle % 256)] 5)) (n := 1) (cp := 1) (xs := [cycle % 256]) (new_blk _ _) rfl rfl
      have HO3 := Lib.hid hO3
      clear hO3
      go_wp2
      all_goals try (exfalso; omega)
      rw [HF.out, HD.out]
      have hu := (fr_set HO.out.get0 ⟨false, (m.ref + rank) % 4294967296, false, strOfNums [cycle % 256]⟩).alloc (.cells #[.int .u8 (cycle % 256)] 5)
      obtain ⟨r0, r1, r2, r3⟩ := boxF_c hu.blk
      simp only at r0 r1 r2 r3
      refine bodyPost_ret (v := .tuple #[frV ⟨false, (m.ref + rank) % 4294967296, false, strOfNums [cycle % 256]⟩, .bool true]) ?_ rfl ⟨rfl, hu.below HO.out.bel (by omega) (by have := HO.out.sz; omega)⟩
      simp only [results, Try.results21]
      simp [go_sem, frV, r0, r1, r2, r3]
/-! ### what a frame tells -/
structure Bt where
  rank : Int
  cycle : Int
  glob : Int
  disc : Bool
def btV (b : Bt) : Value := .agg #[.int .i64 b.rank, .int .i64 b.cycle, .int .u16 b.glob, .bool b.disc]
def boxB (b : Bt) : Obj := .cells #[.int .i64 b.rank, .int .i64 b.cycle, .int .u16 b.glob, .bool b.disc] 36 (0, 0)
def noB : Bt := ⟨0, 0, 0, false⟩
def dAt (s : ByteArray) (i : Nat) : Int := if h : i < s.size then (s[i].toNat : Int) else 0
theorem dAt_of {s : ByteArray} {i : Nat} (h : i < s.size) : (s[i].toNat : Int) = dAt s i := by unfold dAt; rw [dif_pos h]
theorem dAt_bounds (s : ByteArray) (i : Nat) : 0 ≤ dAt s i ∧ dAt s i ≤ 255 := by
  unfold dAt
  split
  · have := s[i].toNat_lt; omega
  · omega
def beatP (m : Mat) (f : Fr) : Bt :=
  if m.level = 2 ∧ f.data.size = 4 then ⟨f.id - m.ref, dAt f.data 0, dAt f.data 2 * 256 + dAt f.data 3, dAt f.data 1 == 1⟩ else ⟨f.id - m.ref, dAt f.data 0, 0, false⟩
def frEqB (a b : Fr) : Bool := a.ext == b.ext && a.id == b.id && a.rtr == b.rtr && decide (a.data = b.data)
def parseE (m : Mat) (f : Fr) : Bt × Bool :=
  if f.data.size = 0 ∨ f.id < m.ref then (noB, false)
  else if (buildE m (beatP m f).rank (beatP m f).cycle (beatP m f).glob (beatP m f).disc).2 = true ∧ frEqB (buildE m (beatP m f).rank (beatP m f).cycle (beatP m f).glob (beatP m f).disc).1 f = true then (beatP m f, true) else (noB, false)
theorem build_snd (m : Mat) (rank cycle at_ : Int) (disc : Bool) : (buildE m rank cycle at_ disc).2 = buildOk m rank cycle := by
  unfold buildE
  split <;> simp_all
theorem beatP_rank (m : Mat) (f : Fr) : (beatP m f).rank = f.id - m.ref := by unfold beatP; split <;> rfl
theorem parse_none {m : Mat} {f : Fr} (h : f.data.size = 0 ∨ f.id < m.ref ∨ (m.masters.length : Int) ≤ f.id - m.ref) : parseE m f = (noB, false) := by
  unfold parseE
  split
  · rfl
  · rename_i hn
    rw [if_neg]
    rintro ⟨h1, _⟩
    rw [build_snd, buildOk, beatP_rank] at h1
    simp at h1
    omega
theorem boxB_c {w : World} {b : Nat} {x : Bt} (h : w.heap[b]? = some (boxB x)) : w.cell? ⟨b, 0, none⟩ = some (.int .i64 x.rank) ∧ w.cell? ⟨b, 1, none⟩ = some (.int .i64 x.cycle) ∧ w.cell? ⟨b, 2, none⟩ = some (.int .u16 x.glob) ∧ w.cell? ⟨b, 3, none⟩ = some (.bool x.disc) :=
  ⟨cell_of h 0, cell_of h 1, cell_of h 2, cell_of h 3⟩
theorem bt_set {w : World} {b : Nat} {f0 : Bt} (h : w.heap[b]? = some (boxB f0)) (f : Bt) : Upd b (boxB f) w ((((w.setCell ⟨b, 0, none⟩ (.int .i64 f.rank)).setCell ⟨b, 1, none⟩ (.int .i64 f.cycle)).setCell ⟨b, 2, none⟩ (.int .u16 f.glob)).setCell ⟨b, 3, none⟩ (.bool f.disc)) :=
  (Upd.setCell 3 (.bool f.disc) (Upd.setCell 2 (.int .u16 f.glob) (Upd.setCell 1 (.int .i64 f.cycle) (Upd.setCell 0 (.int .i64 f.rank) (Upd.refl h))))).of_eq (by simp [boxB])
end Go.Proofs.Ythkhlcigegbpfaa
