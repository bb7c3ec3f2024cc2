/- The reference's messages: Send. -/
import Derived.Test.YtmbhgipoofllfaaRefObj2
namespace Go.Proofs.Ytmbhgipoofllfaa
set_option linter.unusedVariables false
set_option linter.unusedSimpArgs false
open Go.ChangeShapes Go.WideShapes Go.ChangeAt Go.RowKit Go.Deep

section
variable {w : World} {m : Mat} {s1 s2 s3 : Value} {who : Int} {n : Nat} {x : RD} {f g : Int → Option ByteArray}
set_option maxHeartbeats 2000000 in
theorem r_send_none (h : w.heap[x.r]? = some (robO m s1 s2 s3 who n x)) (k : Int) (hk : ¬ (0 ≤ k ∧ k < (n : Int))) (data : ByteArray) :
    Calls Try.prog 35 #[.pointer (some ⟨x.r, 0, none⟩), .int .i64 k, .string data] w fun e w' => e = .returned (.int .i64 145) ∧ Below w.heap.size w w' := by
  have HT := Lib.hid (fun (v : World) => fun hv : v.heap[x.r]? = some (robO m s1 s2 s3 who n x) => r_there hv k (z := false) (by simpa using hk))
  go_enter Try.func35, Try.ntmps35
  go_wp2_with fail
  refine wp_region_held_drew (S := fun v => v.heap[x.r]? = some (robO m s1 s2 s3 who n x) ∧ Below w.heap.size w v) (by kernel_rfl) ⟨h, (Below.refl _ _).drew⟩ (fun hHeld => ?_)
  refine take_op 0 rfl (by kernel_rfl) (by kernel_rfl) (by kernel_rfl) (fun _ _ _ h => h) (by rfl) (by (intro w hSw; (try dsimp only at hSw); go_simp; (try with_reducible rfl))) (by assumption) ?_
  simp only [Act.put, List.setIfInBounds_toArray, List.set_cons_zero, List.set_cons_succ]
  refine take_op 1 rfl (by kernel_rfl) (by kernel_rfl) (by kernel_rfl) (fun _ _ _ h => h) (by rfl) (by (intro w hSw; (try dsimp only at hSw); go_simp; (try with_reducible rfl))) (by assumption) ?_
  simp only [Act.put, List.setIfInBounds_toArray, List.set_cons_zero, List.set_cons_succ]
  refine at_op 2 rfl (by kernel_rfl) (by rfl) (fun K hK => ?_)
  go_simp
  refine (HT.out _ hHeld.1).mono ?_
  rintro e w' ⟨rfl, rfl⟩
  refine hK.out _ _ ?_ (fun hHeld => ?_)
  · exact hHeld
  clear hK K
  try simp only [Act.put, List.setIfInBounds_toArray, List.set_cons_zero, List.set_cons_succ]
  refine take_op 3 rfl (by kernel_rfl) (by kernel_rfl) (by kernel_rfl) (fun _ _ _ h => h) (by rfl) (by (intro w hSw; (try dsimp only at hSw); go_simp; (try with_reducible rfl))) (by assumption) ?_
  simp only [Act.put, List.setIfInBounds_toArray, List.set_cons_zero, List.set_cons_succ]
  refine take_op 4 rfl (by kernel_rfl) (by kernel_rfl) (by kernel_rfl) (fun _ _ _ h => h) (by rfl) (by (intro w hSw; (try dsimp only at hSw); go_simp; (try with_reducible rfl))) (by assumption) ?_
  simp only [Act.put, List.setIfInBounds_toArray, List.set_cons_zero, List.set_cons_succ]
  refine skip_op 5 rfl (by kernel_rfl) (by kernel_rfl) (by kernel_rfl) (fun _ _ _ h => h) (by rfl) (by assumption) ?_
  simp only [Act.put, List.setIfInBounds_toArray, List.set_cons_zero, List.set_cons_succ]
  refine skip_op 6 rfl (by kernel_rfl) (by kernel_rfl) (by kernel_rfl) (fun _ _ _ h => h) (by rfl) (by assumption) ?_
  simp only [Act.put, List.setIfInBounds_toArray, List.set_cons_zero, List.set_cons_succ]
  refine skip_op 7 rfl (by kernel_rfl) (by kernel_rfl) (by kernel_rfl) (fun _ _ _ h => h) (by rfl) (by assumption) ?_
  simp only [Act.put, List.setIfInBounds_toArray, List.set_cons_zero, List.set_cons_succ]
  refine skip_op 8 rfl (by kernel_rfl) (by kernel_rfl) (by kernel_rfl) (fun _ _ _ h => h) (by rfl) (by assumption) ?_
  simp only [Act.put, List.setIfInBounds_toArray, List.set_cons_zero, List.set_cons_succ]
  refine skip_op 9 rfl (by kernel_rfl) (by kernel_rfl) (by kernel_rfl) (fun _ _ _ h => h) (by rfl) (by assumption) ?_
  simp only [Act.put, List.setIfInBounds_toArray, List.set_cons_zero, List.set_cons_succ]
  refine skip_op 10 rfl (by kernel_rfl) (by kernel_rfl) (by kernel_rfl) (fun _ _ _ h => h) (by rfl) (by assumption) ?_
  simp only [Act.put, List.setIfInBounds_toArray, List.set_cons_zero, List.set_cons_succ]
  refine skip_op 11 rfl (by kernel_rfl) (by kernel_rfl) (by kernel_rfl) (fun _ _ _ h => h) (by rfl) (by assumption) ?_
  simp only [Act.put, List.setIfInBounds_toArray, List.set_cons_zero, List.set_cons_succ]
  refine skip_op 12 rfl (by kernel_rfl) (by kernel_rfl) (by kernel_rfl) (fun _ _ _ h => h) (by rfl) (by assumption) ?_
  simp only [Act.put, List.setIfInBounds_toArray, List.set_cons_zero, List.set_cons_succ]
  refine skip_op 13 rfl (by kernel_rfl) (by kernel_rfl) (by kernel_rfl) (fun _ _ _ h => h) (by rfl) (by assumption) ?_
  simp only [Act.put, List.setIfInBounds_toArray, List.set_cons_zero, List.set_cons_succ]
  refine skip_op 14 rfl (by kernel_rfl) (by kernel_rfl) (by kernel_rfl) (fun _ _ _ h => h) (by rfl) (by assumption) ?_
  simp only [Act.put, List.setIfInBounds_toArray, List.set_cons_zero, List.set_cons_succ]
  refine skip_op 15 rfl (by kernel_rfl) (by kernel_rfl) (by kernel_rfl) (fun _ _ _ h => h) (by rfl) (by assumption) ?_
  simp only [Act.put, List.setIfInBounds_toArray, List.set_cons_zero, List.set_cons_succ]
  refine skip_op 16 rfl (by kernel_rfl) (by kernel_rfl) (by kernel_rfl) (fun _ _ _ h => h) (by rfl) (by assumption) ?_
  simp only [Act.put, List.setIfInBounds_toArray, List.set_cons_zero, List.set_cons_succ]
  refine skip_op 17 rfl (by kernel_rfl) (by kernel_rfl) (by kernel_rfl) (fun _ _ _ h => h) (by rfl) (by assumption) ?_
  simp only [Act.put, List.setIfInBounds_toArray, List.set_cons_zero, List.set_cons_succ]
  refine skip_op 18 rfl (by kernel_rfl) (by kernel_rfl) (by kernel_rfl) (fun _ _ _ h => h) (by rfl) (by assumption) ?_
  simp only [Act.put, List.setIfInBounds_toArray, List.set_cons_zero, List.set_cons_succ]
  refine take_op 19 rfl (by kernel_rfl) (by kernel_rfl) (by kernel_rfl) (fun _ _ _ h => h) (by rfl) (by (intro w hSw; (try dsimp only at hSw); go_simp; (try with_reducible rfl))) (by assumption) ?_
  simp only [Act.put, List.setIfInBounds_toArray, List.set_cons_zero, List.set_cons_succ]
  refine wpAnyH_done (by kernel_rfl) ?_ _
  go_wp2
  go_ret
  exact ⟨rfl, hHeld.2⟩
/-- The message's cells, in whatever world. -/
def MsgAt (s2 : Value) (k : Nat) (y : Msg) (w : World) : Prop := ∃ b off ln cp, s2 = .slice (some ⟨b, off, none⟩) ln cp ∧ k < ln ∧ b < w.heap.size ∧ w.cell? ⟨b, off + k * 3, none⟩ = some (.int .u32 y.id) ∧ w.cell? ⟨b, off + k * 3 + 1, none⟩ = some (.int .i64 y.owner) ∧ w.cell? ⟨b, off + k * 3 + 2, none⟩ = some (.bool y.ev)
theorem msgAt_of {w : World} {v : Value} {l : List Msg} {k : Nat} {y : Msg} (h : RdL 3 msgC w v l) (hk : l[k]? = some y) : MsgAt v k y w := by
  obtain ⟨a, cap, e, h1, h2, h3⟩ := h
  obtain ⟨b, off, e2, hb, hc⟩ := h3 k y hk
  subst e2
  refine ⟨b, off, _, _, e, (List.getElem?_eq_some_iff.1 hk).1, hb, ?_, ?_, ?_⟩
  · simpa using hc 0 _ rfl
  · simpa [Nat.add_assoc] using hc 1 _ rfl
  · simpa [Nat.add_assoc] using hc 2 _ rfl
set_option maxHeartbeats 2000000 in
theorem r_send_alien {y : Msg} (h : w.heap[x.r]? = some (robO m s1 s2 s3 who n x)) (k : Nat) (hk : k < n) (hM : MsgAt s2 k y w) (hw : (y.owner == who) = false) (data : ByteArray) :
    Calls Try.prog 35 #[.pointer (some ⟨x.r, 0, none⟩), .int .i64 k, .string data] w fun e w' => e = .returned (.int .i64 145) ∧ Below w.heap.size w w' := by
  obtain ⟨b, off, ln, cp, rfl, hkl, hbb, hc0, hc1, hc2⟩ := hM
  have hkl' : (k : Int) < ln := by omega
  have HT := Lib.hid (fun (v : World) => fun hv : v.heap[x.r]? = some (robO m s1 (.slice (some ⟨b, off, none⟩) ln cp) s3 who n x) => r_there hv (k : Int) (z := true) (by simp; omega))
  go_enter Try.func35, Try.ntmps35
  go_wp2_with fail
  refine wp_region_held_drew (S := fun v => (v.heap[x.r]? = some (robO m s1 (.slice (some ⟨b, off, none⟩) ln cp) s3 who n x) ∧ Below w.heap.size w v) ∧ v.cell? ⟨b, off + k * 3 + 1, none⟩ = some (.int .i64 y.owner)) (by kernel_rfl) ⟨⟨h, (Below.refl _ _).drew⟩, hc1⟩ (fun hHeld => ?_)
  refine take_op 0 rfl (by kernel_rfl) (by kernel_rfl) (by kernel_rfl) (fun _ _ _ h => h) (by rfl) (by (intro w hSw; (try dsimp only at hSw); go_simp; (try with_reducible rfl))) (by assumption) ?_
  simp only [Act.put, List.setIfInBounds_toArray, List.set_cons_zero, List.set_cons_succ]
  refine take_op 1 rfl (by kernel_rfl) (by kernel_rfl) (by kernel_rfl) (fun _ _ _ h => h) (by rfl) (by (intro w hSw; (try dsimp only at hSw); go_simp; (try with_reducible rfl))) (by assumption) ?_
  simp only [Act.put, List.setIfInBounds_toArray, List.set_cons_zero, List.set_cons_succ]
  refine at_op 2 rfl (by kernel_rfl) (by rfl) (fun K hK => ?_)
  go_simp
  refine (HT.out _ hHeld.1.1).mono ?_
  rintro e w' ⟨rfl, rfl⟩
  refine hK.out _ _ ?_ (fun hHeld => ?_)
  · exact hHeld
  clear hK K
  try simp only [Act.put, List.setIfInBounds_toArray, List.set_cons_zero, List.set_cons_succ]
  refine take_op 3 rfl (by kernel_rfl) (by kernel_rfl) (by kernel_rfl) (fun _ _ _ h => h) (by rfl) (by (intro w hSw; (try dsimp only at hSw); go_simp; (try with_reducible rfl))) (by assumption) ?_
  simp only [Act.put, List.setIfInBounds_toArray, List.set_cons_zero, List.set_cons_succ]
  refine take_op 4 rfl (by kernel_rfl) (by kernel_rfl) (by kernel_rfl) (fun _ _ _ h => h) (by rfl) (by (intro w hSw; (try dsimp only at hSw); go_simp; (try with_reducible rfl))) (by assumption) ?_
  simp only [Act.put, List.setIfInBounds_toArray, List.set_cons_zero, List.set_cons_succ]
  refine take_op 5 rfl (by kernel_rfl) (by kernel_rfl) (by kernel_rfl) (fun _ _ _ h => h) (by rfl) (by (intro w hSw; (try dsimp only at hSw); go_simp; (try with_reducible rfl))) (by assumption) ?_
  simp only [Act.put, List.setIfInBounds_toArray, List.set_cons_zero, List.set_cons_succ]
  refine take_op 6 rfl (by kernel_rfl) (by kernel_rfl) (by kernel_rfl) (fun _ _ _ h => h) (by rfl) (by (intro w hSw; (try dsimp only at hSw); go_simp; (try with_reducible rfl))) (by assumption) ?_
  simp only [Act.put, List.setIfInBounds_toArray, List.set_cons_zero, List.set_cons_succ]
  refine take_op 7 rfl (by kernel_rfl) (by kernel_rfl) (by kernel_rfl) (fun _ _ _ h => h) (by rfl) (by (intro w hSw; (try dsimp only at hSw); go_simp; (try with_reducible rfl))) (by assumption) ?_
  simp only [Act.put, List.setIfInBounds_toArray, List.set_cons_zero, List.set_cons_succ]
  refine take_op 8 rfl (by kernel_rfl) (by kernel_rfl) (by kernel_rfl) (fun _ _ _ h => h) (by rfl) (by (intro w hSw; (try dsimp only at hSw); go_simp; (try with_reducible rfl))) (by assumption) ?_
  simp only [Act.put, List.setIfInBounds_toArray, List.set_cons_zero, List.set_cons_succ]
  refine take_op 9 rfl (by kernel_rfl) (by kernel_rfl) (by kernel_rfl) (fun _ _ _ h => h) (by rfl) (by (intro wz hSw; (obtain ⟨⟨hr, -⟩, -⟩ := hSw; obtain ⟨c9, c11, c12, c13, c14, c15, c16⟩ := rob_c hr; have hl := lt_of_heap hr); go_simp; (try with_reducible rfl))) (by assumption) ?_
  simp only [Act.put, List.setIfInBounds_toArray, List.set_cons_zero, List.set_cons_succ]
  refine take_op 10 rfl (by kernel_rfl) (by kernel_rfl) (by kernel_rfl) (fun _ _ _ h => h) (by rfl) (by (intro w hSw; (try dsimp only at hSw); go_simp; (try with_reducible rfl))) (by assumption) ?_
  simp only [Act.put, List.setIfInBounds_toArray, List.set_cons_zero, List.set_cons_succ]
  refine take_op 11 rfl (by kernel_rfl) (by kernel_rfl) (by kernel_rfl) (fun _ _ _ h => h) (by rfl) (by (intro w hSw; (try dsimp only at hSw); go_simp; (try with_reducible rfl))) (by assumption) ?_
  simp only [Act.put, List.setIfInBounds_toArray, List.set_cons_zero, List.set_cons_succ]
  refine take_op 12 rfl (by kernel_rfl) (by kernel_rfl) (by kernel_rfl) (fun _ _ _ h => h) (by rfl) (by (intro w hSw; (try dsimp only at hSw); go_simp; (try with_reducible rfl))) (by assumption) ?_
  simp only [Act.put, List.setIfInBounds_toArray, List.set_cons_zero, List.set_cons_succ]
  refine take_op 13 rfl (by kernel_rfl) (by kernel_rfl) (by kernel_rfl) (fun _ _ _ h => h) (by rfl) (by (intro wz hSw; (obtain ⟨-, hcc⟩ := hSw; have hl := World.block_lt_of_cell? wz _ hcc); go_simp; (try with_reducible rfl))) (by assumption) ?_
  simp only [Act.put, List.setIfInBounds_toArray, List.set_cons_zero, List.set_cons_succ]
  refine take_op 14 rfl (by kernel_rfl) (by kernel_rfl) (by kernel_rfl) (fun _ _ _ h => h) (by rfl) (by (intro w hSw; (try dsimp only at hSw); go_simp; (try with_reducible rfl))) (by assumption) ?_
  simp only [Act.put, List.setIfInBounds_toArray, List.set_cons_zero, List.set_cons_succ]
  refine take_op 15 rfl (by kernel_rfl) (by kernel_rfl) (by kernel_rfl) (fun _ _ _ h => h) (by rfl) (by (intro w hSw; (try dsimp only at hSw); go_simp; (try with_reducible rfl))) (by assumption) ?_
  simp only [Act.put, List.setIfInBounds_toArray, List.set_cons_zero, List.set_cons_succ]
  refine take_op 16 rfl (by kernel_rfl) (by kernel_rfl) (by kernel_rfl) (fun _ _ _ h => h) (by rfl) (by (intro w hSw; (try dsimp only at hSw); go_simp; (try with_reducible rfl))) (by assumption) ?_
  simp only [Act.put, List.setIfInBounds_toArray, List.set_cons_zero, List.set_cons_succ]
  refine take_op 17 rfl (by kernel_rfl) (by kernel_rfl) (by kernel_rfl) (fun _ _ _ h => h) (by rfl) (by (intro wz hSw; (obtain ⟨⟨hr, -⟩, -⟩ := hSw; obtain ⟨c9, c11, c12, c13, c14, c15, c16⟩ := rob_c hr; have hl := lt_of_heap hr); go_simp; (try with_reducible rfl))) (by assumption) ?_
  simp only [Act.put, List.setIfInBounds_toArray, List.set_cons_zero, List.set_cons_succ]
  refine take_op 18 rfl (by kernel_rfl) (by kernel_rfl) (by kernel_rfl) (fun _ _ _ h => h) (by rfl) (by (intro w hSw; (try dsimp only at hSw); go_simp; (try with_reducible rfl))) (by assumption) ?_
  simp only [Act.put, List.setIfInBounds_toArray, List.set_cons_zero, List.set_cons_succ]
  refine take_op 19 rfl (by kernel_rfl) (by kernel_rfl) (by kernel_rfl) (fun _ _ _ h => h) (by rfl) (by (intro w hSw; (try dsimp only at hSw); go_simp; (try with_reducible rfl))) (by assumption) ?_
  simp only [Act.put, List.setIfInBounds_toArray, List.set_cons_zero, List.set_cons_succ]
  refine wpAnyH_done (by kernel_rfl) ?_ _
  go_wp2
  go_ret
  exact ⟨rfl, hHeld.1.2⟩
set_option maxHeartbeats 2000000 in
theorem r_send_form {y : Msg} (h : w.heap[x.r]? = some (robO m s1 s2 s3 who n x)) (k : Nat) (hk : k < n) (hM : MsgAt s2 k y w) (hw : (y.owner == who) = true) (data : ByteArray) (hd : 8 < data.size) :
    Calls Try.prog 35 #[.pointer (some ⟨x.r, 0, none⟩), .int .i64 k, .string data] w fun e w' => e = .returned (.int .i64 12) ∧ Below w.heap.size w w' := by
  obtain ⟨b, off, ln, cp, rfl, hkl, hbb, hc0, hc1, hc2⟩ := hM
  have hkl' : (k : Int) < ln := by omega
  have HT := Lib.hid (fun (v : World) => fun hv : v.heap[x.r]? = some (robO m s1 (.slice (some ⟨b, off, none⟩) ln cp) s3 who n x) => r_there hv (k : Int) (z := true) (by simp; omega))
  have hd1 : (8 : Int) < data.size := by omega
  go_enter Try.func35, Try.ntmps35
  go_wp2_with fail
  refine wp_region_held_drew (S := fun v => (v.heap[x.r]? = some (robO m s1 (.slice (some ⟨b, off, none⟩) ln cp) s3 who n x) ∧ v = w.drew) ∧ v.cell? ⟨b, off + k * 3 + 1, none⟩ = some (.int .i64 y.owner)) (by kernel_rfl) ⟨⟨h, rfl⟩, hc1⟩ (fun hHeld => ?_)
  refine take_op 0 rfl (by kernel_rfl) (by kernel_rfl) (by kernel_rfl) (fun _ _ _ h => h) (by rfl) (by (intro w hSw; (try dsimp only at hSw); go_simp; (try with_reducible rfl))) (by assumption) ?_
  simp only [Act.put, List.setIfInBounds_toArray, List.set_cons_zero, List.set_cons_succ]
  refine take_op 1 rfl (by kernel_rfl) (by kernel_rfl) (by kernel_rfl) (fun _ _ _ h => h) (by rfl) (by (intro w hSw; (try dsimp only at hSw); go_simp; (try with_reducible rfl))) (by assumption) ?_
  simp only [Act.put, List.setIfInBounds_toArray, List.set_cons_zero, List.set_cons_succ]
  refine at_op 2 rfl (by kernel_rfl) (by rfl) (fun K hK => ?_)
  go_simp
  refine (HT.out _ hHeld.1.1).mono ?_
  rintro e w' ⟨rfl, rfl⟩
  refine hK.out _ _ ?_ (fun hHeld => ?_)
  · exact hHeld
  clear hK K
  try simp only [Act.put, List.setIfInBounds_toArray, List.set_cons_zero, List.set_cons_succ]
  refine take_op 3 rfl (by kernel_rfl) (by kernel_rfl) (by kernel_rfl) (fun _ _ _ h => h) (by rfl) (by (intro w hSw; (try dsimp only at hSw); go_simp; (try with_reducible rfl))) (by assumption) ?_
  simp only [Act.put, List.setIfInBounds_toArray, List.set_cons_zero, List.set_cons_succ]
  refine take_op 4 rfl (by kernel_rfl) (by kernel_rfl) (by kernel_rfl) (fun _ _ _ h => h) (by rfl) (by (intro w hSw; (try dsimp only at hSw); go_simp; (try with_reducible rfl))) (by assumption) ?_
  simp only [Act.put, List.setIfInBounds_toArray, List.set_cons_zero, List.set_cons_succ]
  refine take_op 5 rfl (by kernel_rfl) (by kernel_rfl) (by kernel_rfl) (fun _ _ _ h => h) (by rfl) (by (intro w hSw; (try dsimp only at hSw); go_simp; (try with_reducible rfl))) (by assumption) ?_
  simp only [Act.put, List.setIfInBounds_toArray, List.set_cons_zero, List.set_cons_succ]
  refine take_op 6 rfl (by kernel_rfl) (by kernel_rfl) (by kernel_rfl) (fun _ _ _ h => h) (by rfl) (by (intro w hSw; (try dsimp only at hSw); go_simp; (try with_reducible rfl))) (by assumption) ?_
  simp only [Act.put, List.setIfInBounds_toArray, List.set_cons_zero, List.set_cons_succ]
  refine take_op 7 rfl (by kernel_rfl) (by kernel_rfl) (by kernel_rfl) (fun _ _ _ h => h) (by rfl) (by (intro w hSw; (try dsimp only at hSw); go_simp; (try with_reducible rfl))) (by assumption) ?_
  simp only [Act.put, List.setIfInBounds_toArray, List.set_cons_zero, List.set_cons_succ]
  refine take_op 8 rfl (by kernel_rfl) (by kernel_rfl) (by kernel_rfl) (fun _ _ _ h => h) (by rfl) (by (intro w hSw; (try dsimp only at hSw); go_simp; (try with_reducible rfl))) (by assumption) ?_
  simp only [Act.put, List.setIfInBounds_toArray, List.set_cons_zero, List.set_cons_succ]
  refine take_op 9 rfl (by kernel_rfl) (by kernel_rfl) (by kernel_rfl) (fun _ _ _ h => h) (by rfl) (by (intro wz hSw; (obtain ⟨⟨hr, -⟩, -⟩ := hSw; obtain ⟨c9, c11, c12, c13, c14, c15, c16⟩ := rob_c hr; have hl := lt_of_heap hr); go_simp; (try with_reducible rfl))) (by assumption) ?_
  simp only [Act.put, List.setIfInBounds_toArray, List.set_cons_zero, List.set_cons_succ]
  refine take_op 10 rfl (by kernel_rfl) (by kernel_rfl) (by kernel_rfl) (fun _ _ _ h => h) (by rfl) (by (intro w hSw; (try dsimp only at hSw); go_simp; (try with_reducible rfl))) (by assumption) ?_
  simp only [Act.put, List.setIfInBounds_toArray, List.set_cons_zero, List.set_cons_succ]
  refine take_op 11 rfl (by kernel_rfl) (by kernel_rfl) (by kernel_rfl) (fun _ _ _ h => h) (by rfl) (by (intro w hSw; (try dsimp only at hSw); go_simp; (try with_reducible rfl))) (by assumption) ?_
  simp only [Act.put, List.setIfInBounds_toArray, List.set_cons_zero, List.set_cons_succ]
  refine take_op 12 rfl (by kernel_rfl) (by kernel_rfl) (by kernel_rfl) (fun _ _ _ h => h) (by rfl) (by (intro w hSw; (try dsimp only at hSw); go_simp; (try with_reducible rfl))) (by assumption) ?_
  simp only [Act.put, List.setIfInBounds_toArray, List.set_cons_zero, List.set_cons_succ]
  refine take_op 13 rfl (by kernel_rfl) (by kernel_rfl) (by kernel_rfl) (fun _ _ _ h => h) (by rfl) (by (intro wz hSw; (obtain ⟨-, hcc⟩ := hSw; have hl := World.block_lt_of_cell? wz _ hcc); go_simp; (try with_reducible rfl))) (by assumption) ?_
  simp only [Act.put, List.setIfInBounds_toArray, List.set_cons_zero, List.set_cons_succ]
  refine take_op 14 rfl (by kernel_rfl) (by kernel_rfl) (by kernel_rfl) (fun _ _ _ h => h) (by rfl) (by (intro w hSw; (try dsimp only at hSw); go_simp; (try with_reducible rfl))) (by assumption) ?_
  simp only [Act.put, List.setIfInBounds_toArray, List.set_cons_zero, List.set_cons_succ]
  refine take_op 15 rfl (by kernel_rfl) (by kernel_rfl) (by kernel_rfl) (fun _ _ _ h => h) (by rfl) (by (intro w hSw; (try dsimp only at hSw); go_simp; (try with_reducible rfl))) (by assumption) ?_
  simp only [Act.put, List.setIfInBounds_toArray, List.set_cons_zero, List.set_cons_succ]
  refine take_op 16 rfl (by kernel_rfl) (by kernel_rfl) (by kernel_rfl) (fun _ _ _ h => h) (by rfl) (by (intro w hSw; (try dsimp only at hSw); go_simp; (try with_reducible rfl))) (by assumption) ?_
  simp only [Act.put, List.setIfInBounds_toArray, List.set_cons_zero, List.set_cons_succ]
  refine take_op 17 rfl (by kernel_rfl) (by kernel_rfl) (by kernel_rfl) (fun _ _ _ h => h) (by rfl) (by (intro wz hSw; (obtain ⟨⟨hr, -⟩, -⟩ := hSw; obtain ⟨c9, c11, c12, c13, c14, c15, c16⟩ := rob_c hr; have hl := lt_of_heap hr); go_simp; (try with_reducible rfl))) (by assumption) ?_
  simp only [Act.put, List.setIfInBounds_toArray, List.set_cons_zero, List.set_cons_succ]
  refine take_op 18 rfl (by kernel_rfl) (by kernel_rfl) (by kernel_rfl) (fun _ _ _ h => h) (by rfl) (by (intro w hSw; (try dsimp only at hSw); go_simp; (try with_reducible rfl))) (by assumption) ?_
  simp only [Act.put, List.setIfInBounds_toArray, List.set_cons_zero, List.set_cons_succ]
  refine take_op 19 rfl (by kernel_rfl) (by kernel_rfl) (by kernel_rfl) (fun _ _ _ h => h) (by rfl) (by (intro w hSw; (try dsimp only at hSw); go_simp; (try with_reducible rfl))) (by assumption) ?_
  simp only [Act.put, List.setIfInBounds_toArray, List.set_cons_zero, List.set_cons_succ]
  refine wpAnyH_done (by kernel_rfl) ?_ _
  obtain ⟨c9, c11, c12, c13, c14, c15, c16⟩ := rob_c h
  have hl := lt_of_heap h
  go_wp2
  all_goals try (exfalso; omega)
  go_ret
  exact ⟨rfl, (Below.refl _ _).drew⟩
set_option maxHeartbeats 2000000 in
theorem r_send_event {y : Msg} {Q : Ending → World → Prop} (h : w.heap[x.r]? = some (robO m s1 s2 s3 who n x)) (k : Nat) (hk : k < n) (hM : MsgAt s2 k y w) (hw : (y.owner == who) = true) (data : ByteArray) (hd : data.size ≤ 8) (he : y.ev = true) {z : Int}
    (hP : Calls Try.prog 21 #[.pointer (some ⟨x.bq, 0, none⟩), .int .i64 k, .string data] w.drew fun e w' => e = .returned (.int .i64 z) ∧ Q e w') :
    Calls Try.prog 35 #[.pointer (some ⟨x.r, 0, none⟩), .int .i64 k, .string data] w fun e w' => e = .returned (.int .i64 z) ∧ Q e w' := by
  obtain ⟨b, off, ln, cp, rfl, hkl, hbb, hc0, hc1, hc2⟩ := hM
  have hkl' : (k : Int) < ln := by omega
  have HT := Lib.hid (fun (v : World) => fun hv : v.heap[x.r]? = some (robO m s1 (.slice (some ⟨b, off, none⟩) ln cp) s3 who n x) => r_there hv (k : Int) (z := true) (by simp; omega))
  have hd1 : (data.size : Int) ≤ 8 := by omega
  have HP := Lib.hid hP
  rw [he] at hc2
  go_enter Try.func35, Try.ntmps35
  go_wp2_with fail
  refine wp_region_held_drew (S := fun v => (v.heap[x.r]? = some (robO m s1 (.slice (some ⟨b, off, none⟩) ln cp) s3 who n x) ∧ v = w.drew) ∧ v.cell? ⟨b, off + k * 3 + 1, none⟩ = some (.int .i64 y.owner)) (by kernel_rfl) ⟨⟨h, rfl⟩, hc1⟩ (fun hHeld => ?_)
  refine take_op 0 rfl (by kernel_rfl) (by kernel_rfl) (by kernel_rfl) (fun _ _ _ h => h) (by rfl) (by (intro w hSw; (try dsimp only at hSw); go_simp; (try with_reducible rfl))) (by assumption) ?_
  simp only [Act.put, List.setIfInBounds_toArray, List.set_cons_zero, List.set_cons_succ]
  refine take_op 1 rfl (by kernel_rfl) (by kernel_rfl) (by kernel_rfl) (fun _ _ _ h => h) (by rfl) (by (intro w hSw; (try dsimp only at hSw); go_simp; (try with_reducible rfl))) (by assumption) ?_
  simp only [Act.put, List.setIfInBounds_toArray, List.set_cons_zero, List.set_cons_succ]
  refine at_op 2 rfl (by kernel_rfl) (by rfl) (fun K hK => ?_)
  go_simp
  refine (HT.out _ hHeld.1.1).mono ?_
  rintro e w' ⟨rfl, rfl⟩
  refine hK.out _ _ ?_ (fun hHeld => ?_)
  · exact hHeld
  clear hK K
  try simp only [Act.put, List.setIfInBounds_toArray, List.set_cons_zero, List.set_cons_succ]
  refine take_op 3 rfl (by kernel_rfl) (by kernel_rfl) (by kernel_rfl) (fun _ _ _ h => h) (by rfl) (by (intro w hSw; (try dsimp only at hSw); go_simp; (try with_reducible rfl))) (by assumption) ?_
  simp only [Act.put, List.setIfInBounds_toArray, List.set_cons_zero, List.set_cons_succ]
  refine take_op 4 rfl (by kernel_rfl) (by kernel_rfl) (by kernel_rfl) (fun _ _ _ h => h) (by rfl) (by (intro w hSw; (try dsimp only at hSw); go_simp; (try with_reducible rfl))) (by assumption) ?_
  simp only [Act.put, List.setIfInBounds_toArray, List.set_cons_zero, List.set_cons_succ]
  refine take_op 5 rfl (by kernel_rfl) (by kernel_rfl) (by kernel_rfl) (fun _ _ _ h => h) (by rfl) (by (intro w hSw; (try dsimp only at hSw); go_simp; (try with_reducible rfl))) (by assumption) ?_
  simp only [Act.put, List.setIfInBounds_toArray, List.set_cons_zero, List.set_cons_succ]
  refine take_op 6 rfl (by kernel_rfl) (by kernel_rfl) (by kernel_rfl) (fun _ _ _ h => h) (by rfl) (by (intro w hSw; (try dsimp only at hSw); go_simp; (try with_reducible rfl))) (by assumption) ?_
  simp only [Act.put, List.setIfInBounds_toArray, List.set_cons_zero, List.set_cons_succ]
  refine take_op 7 rfl (by kernel_rfl) (by kernel_rfl) (by kernel_rfl) (fun _ _ _ h => h) (by rfl) (by (intro w hSw; (try dsimp only at hSw); go_simp; (try with_reducible rfl))) (by assumption) ?_
  simp only [Act.put, List.setIfInBounds_toArray, List.set_cons_zero, List.set_cons_succ]
  refine take_op 8 rfl (by kernel_rfl) (by kernel_rfl) (by kernel_rfl) (fun _ _ _ h => h) (by rfl) (by (intro w hSw; (try dsimp only at hSw); go_simp; (try with_reducible rfl))) (by assumption) ?_
  simp only [Act.put, List.setIfInBounds_toArray, List.set_cons_zero, List.set_cons_succ]
  refine take_op 9 rfl (by kernel_rfl) (by kernel_rfl) (by kernel_rfl) (fun _ _ _ h => h) (by rfl) (by (intro wz hSw; (obtain ⟨⟨hr, -⟩, -⟩ := hSw; obtain ⟨c9, c11, c12, c13, c14, c15, c16⟩ := rob_c hr; have hl := lt_of_heap hr); go_simp; (try with_reducible rfl))) (by assumption) ?_
  simp only [Act.put, List.setIfInBounds_toArray, List.set_cons_zero, List.set_cons_succ]
  refine take_op 10 rfl (by kernel_rfl) (by kernel_rfl) (by kernel_rfl) (fun _ _ _ h => h) (by rfl) (by (intro w hSw; (try dsimp only at hSw); go_simp; (try with_reducible rfl))) (by assumption) ?_
  simp only [Act.put, List.setIfInBounds_toArray, List.set_cons_zero, List.set_cons_succ]
  refine take_op 11 rfl (by kernel_rfl) (by kernel_rfl) (by kernel_rfl) (fun _ _ _ h => h) (by rfl) (by (intro w hSw; (try dsimp only at hSw); go_simp; (try with_reducible rfl))) (by assumption) ?_
  simp only [Act.put, List.setIfInBounds_toArray, List.set_cons_zero, List.set_cons_succ]
  refine take_op 12 rfl (by kernel_rfl) (by kernel_rfl) (by kernel_rfl) (fun _ _ _ h => h) (by rfl) (by (intro w hSw; (try dsimp only at hSw); go_simp; (try with_reducible rfl))) (by assumption) ?_
  simp only [Act.put, List.setIfInBounds_toArray, List.set_cons_zero, List.set_cons_succ]
  refine take_op 13 rfl (by kernel_rfl) (by kernel_rfl) (by kernel_rfl) (fun _ _ _ h => h) (by rfl) (by (intro wz hSw; (obtain ⟨-, hcc⟩ := hSw; have hl := World.block_lt_of_cell? wz _ hcc); go_simp; (try with_reducible rfl))) (by assumption) ?_
  simp only [Act.put, List.setIfInBounds_toArray, List.set_cons_zero, List.set_cons_succ]
  refine take_op 14 rfl (by kernel_rfl) (by kernel_rfl) (by kernel_rfl) (fun _ _ _ h => h) (by rfl) (by (intro w hSw; (try dsimp only at hSw); go_simp; (try with_reducible rfl))) (by assumption) ?_
  simp only [Act.put, List.setIfInBounds_toArray, List.set_cons_zero, List.set_cons_succ]
  refine take_op 15 rfl (by kernel_rfl) (by kernel_rfl) (by kernel_rfl) (fun _ _ _ h => h) (by rfl) (by (intro w hSw; (try dsimp only at hSw); go_simp; (try with_reducible rfl))) (by assumption) ?_
  simp only [Act.put, List.setIfInBounds_toArray, List.set_cons_zero, List.set_cons_succ]
  refine take_op 16 rfl (by kernel_rfl) (by kernel_rfl) (by kernel_rfl) (fun _ _ _ h => h) (by rfl) (by (intro w hSw; (try dsimp only at hSw); go_simp; (try with_reducible rfl))) (by assumption) ?_
  simp only [Act.put, List.setIfInBounds_toArray, List.set_cons_zero, List.set_cons_succ]
  refine take_op 17 rfl (by kernel_rfl) (by kernel_rfl) (by kernel_rfl) (fun _ _ _ h => h) (by rfl) (by (intro wz hSw; (obtain ⟨⟨hr, -⟩, -⟩ := hSw; obtain ⟨c9, c11, c12, c13, c14, c15, c16⟩ := rob_c hr; have hl := lt_of_heap hr); go_simp; (try with_reducible rfl))) (by assumption) ?_
  simp only [Act.put, List.setIfInBounds_toArray, List.set_cons_zero, List.set_cons_succ]
  refine take_op 18 rfl (by kernel_rfl) (by kernel_rfl) (by kernel_rfl) (fun _ _ _ h => h) (by rfl) (by (intro w hSw; (try dsimp only at hSw); go_simp; (try with_reducible rfl))) (by assumption) ?_
  simp only [Act.put, List.setIfInBounds_toArray, List.set_cons_zero, List.set_cons_succ]
  refine take_op 19 rfl (by kernel_rfl) (by kernel_rfl) (by kernel_rfl) (fun _ _ _ h => h) (by rfl) (by (intro w hSw; (try dsimp only at hSw); go_simp; (try with_reducible rfl))) (by assumption) ?_
  simp only [Act.put, List.setIfInBounds_toArray, List.set_cons_zero, List.set_cons_succ]
  refine wpAnyH_done (by kernel_rfl) ?_ _
  obtain ⟨c9, c11, c12, c13, c14, c15, c16⟩ := rob_c h
  have hl := lt_of_heap h
  go_wp2_with fail
  all_goals try (exfalso; omega)
  refine HP.out.mono ?_
  rintro e w' ⟨rfl, hQ⟩
  have HQ := Lib.hid hQ
  clear hQ
  go_wp2
  go_ret
  exact ⟨rfl, HQ.out⟩
set_option maxHeartbeats 2000000 in
theorem r_send_state {y : Msg} (h : w.heap[x.r]? = some (robO m s1 s2 s3 who n x)) (hs : w.heap[x.bo]? = some (strO n f)) (hh : w.heap[x.bh]? = some (booO n f)) (hn1 : x.r ≠ x.bo) (hn2 : x.r ≠ x.bh) (hn3 : x.bo ≠ x.bh)
    (k : Nat) (hk : k < n) (hM : MsgAt s2 k y w) (hw : (y.owner == who) = true) (data : ByteArray) (hd : data.size ≤ 8) (he : y.ev = false) :
    Calls Try.prog 35 #[.pointer (some ⟨x.r, 0, none⟩), .int .i64 k, .string data] w fun e w' => e = .returned (.int .i64 0) ∧ Upd2 x.bo x.bh (strO n (setF f k data)) (booO n (setF f k data)) w w' := by
  obtain ⟨b, off, ln, cp, rfl, hkl, hbb, hc0, hc1, hc2⟩ := hM
  have hkl' : (k : Int) < ln := by omega
  have HT := Lib.hid (fun (v : World) => fun hv : v.heap[x.r]? = some (robO m s1 (.slice (some ⟨b, off, none⟩) ln cp) s3 who n x) => r_there hv (k : Int) (z := true) (by simp; omega))
  have hd1 : (data.size : Int) ≤ 8 := by omega
  have hjn : (k : Int) < n := by omega
  have hj0 : (0 : Int) ≤ k := by omega
  rw [he] at hc2
  go_enter Try.func35, Try.ntmps35
  go_wp2_with fail
  refine wp_region_held_drew (S := fun v => (v.heap[x.r]? = some (robO m s1 (.slice (some ⟨b, off, none⟩) ln cp) s3 who n x) ∧ v = w.drew) ∧ v.cell? ⟨b, off + k * 3 + 1, none⟩ = some (.int .i64 y.owner)) (by kernel_rfl) ⟨⟨h, rfl⟩, hc1⟩ (fun hHeld => ?_)
  refine take_op 0 rfl (by kernel_rfl) (by kernel_rfl) (by kernel_rfl) (fun _ _ _ h => h) (by rfl) (by (intro w hSw; (try dsimp only at hSw); go_simp; (try with_reducible rfl))) (by assumption) ?_
  simp only [Act.put, List.setIfInBounds_toArray, List.set_cons_zero, List.set_cons_succ]
  refine take_op 1 rfl (by kernel_rfl) (by kernel_rfl) (by kernel_rfl) (fun _ _ _ h => h) (by rfl) (by (intro w hSw; (try dsimp only at hSw); go_simp; (try with_reducible rfl))) (by assumption) ?_
  simp only [Act.put, List.setIfInBounds_toArray, List.set_cons_zero, List.set_cons_succ]
  refine at_op 2 rfl (by kernel_rfl) (by rfl) (fun K hK => ?_)
  go_simp
  refine (HT.out _ hHeld.1.1).mono ?_
  rintro e w' ⟨rfl, rfl⟩
  refine hK.out _ _ ?_ (fun hHeld => ?_)
  · exact hHeld
  clear hK K
  try simp only [Act.put, List.setIfInBounds_toArray, List.set_cons_zero, List.set_cons_succ]
  refine take_op 3 rfl (by kernel_rfl) (by kernel_rfl) (by kernel_rfl) (fun _ _ _ h => h) (by rfl) (by (intro w hSw; (try dsimp only at hSw); go_simp; (try with_reducible rfl))) (by assumption) ?_
  simp only [Act.put, List.setIfInBounds_toArray, List.set_cons_zero, List.set_cons_succ]
  refine take_op 4 rfl (by kernel_rfl) (by kernel_rfl) (by kernel_rfl) (fun _ _ _ h => h) (by rfl) (by (intro w hSw; (try dsimp only at hSw); go_simp; (try with_reducible rfl))) (by assumption) ?_
  simp only [Act.put, List.setIfInBounds_toArray, List.set_cons_zero, List.set_cons_succ]
  refine take_op 5 rfl (by kernel_rfl) (by kernel_rfl) (by kernel_rfl) (fun _ _ _ h => h) (by rfl) (by (intro w hSw; (try dsimp only at hSw); go_simp; (try with_reducible rfl))) (by assumption) ?_
  simp only [Act.put, List.setIfInBounds_toArray, List.set_cons_zero, List.set_cons_succ]
  refine take_op 6 rfl (by kernel_rfl) (by kernel_rfl) (by kernel_rfl) (fun _ _ _ h => h) (by rfl) (by (intro w hSw; (try dsimp only at hSw); go_simp; (try with_reducible rfl))) (by assumption) ?_
  simp only [Act.put, List.setIfInBounds_toArray, List.set_cons_zero, List.set_cons_succ]
  refine take_op 7 rfl (by kernel_rfl) (by kernel_rfl) (by kernel_rfl) (fun _ _ _ h => h) (by rfl) (by (intro w hSw; (try dsimp only at hSw); go_simp; (try with_reducible rfl))) (by assumption) ?_
  simp only [Act.put, List.setIfInBounds_toArray, List.set_cons_zero, List.set_cons_succ]
  refine take_op 8 rfl (by kernel_rfl) (by kernel_rfl) (by kernel_rfl) (fun _ _ _ h => h) (by rfl) (by (intro w hSw; (try dsimp only at hSw); go_simp; (try with_reducible rfl))) (by assumption) ?_
  simp only [Act.put, List.setIfInBounds_toArray, List.set_cons_zero, List.set_cons_succ]
  refine take_op 9 rfl (by kernel_rfl) (by kernel_rfl) (by kernel_rfl) (fun _ _ _ h => h) (by rfl) (by (intro wz hSw; (obtain ⟨⟨hr, -⟩, -⟩ := hSw; obtain ⟨c9, c11, c12, c13, c14, c15, c16⟩ := rob_c hr; have hl := lt_of_heap hr); go_simp; (try with_reducible rfl))) (by assumption) ?_
  simp only [Act.put, List.setIfInBounds_toArray, List.set_cons_zero, List.set_cons_succ]
  refine take_op 10 rfl (by kernel_rfl) (by kernel_rfl) (by kernel_rfl) (fun _ _ _ h => h) (by rfl) (by (intro w hSw; (try dsimp only at hSw); go_simp; (try with_reducible rfl))) (by assumption) ?_
  simp only [Act.put, List.setIfInBounds_toArray, List.set_cons_zero, List.set_cons_succ]
  refine take_op 11 rfl (by kernel_rfl) (by kernel_rfl) (by kernel_rfl) (fun _ _ _ h => h) (by rfl) (by (intro w hSw; (try dsimp only at hSw); go_simp; (try with_reducible rfl))) (by assumption) ?_
  simp only [Act.put, List.setIfInBounds_toArray, List.set_cons_zero, List.set_cons_succ]
  refine take_op 12 rfl (by kernel_rfl) (by kernel_rfl) (by kernel_rfl) (fun _ _ _ h => h) (by rfl) (by (intro w hSw; (try dsimp only at hSw); go_simp; (try with_reducible rfl))) (by assumption) ?_
  simp only [Act.put, List.setIfInBounds_toArray, List.set_cons_zero, List.set_cons_succ]
  refine take_op 13 rfl (by kernel_rfl) (by kernel_rfl) (by kernel_rfl) (fun _ _ _ h => h) (by rfl) (by (intro wz hSw; (obtain ⟨-, hcc⟩ := hSw; have hl := World.block_lt_of_cell? wz _ hcc); go_simp; (try with_reducible rfl))) (by assumption) ?_
  simp only [Act.put, List.setIfInBounds_toArray, List.set_cons_zero, List.set_cons_succ]
  refine take_op 14 rfl (by kernel_rfl) (by kernel_rfl) (by kernel_rfl) (fun _ _ _ h => h) (by rfl) (by (intro w hSw; (try dsimp only at hSw); go_simp; (try with_reducible rfl))) (by assumption) ?_
  simp only [Act.put, List.setIfInBounds_toArray, List.set_cons_zero, List.set_cons_succ]
  refine take_op 15 rfl (by kernel_rfl) (by kernel_rfl) (by kernel_rfl) (fun _ _ _ h => h) (by rfl) (by (intro w hSw; (try dsimp only at hSw); go_simp; (try with_reducible rfl))) (by assumption) ?_
  simp only [Act.put, List.setIfInBounds_toArray, List.set_cons_zero, List.set_cons_succ]
  refine take_op 16 rfl (by kernel_rfl) (by kernel_rfl) (by kernel_rfl) (fun _ _ _ h => h) (by rfl) (by (intro w hSw; (try dsimp only at hSw); go_simp; (try with_reducible rfl))) (by assumption) ?_
  simp only [Act.put, List.setIfInBounds_toArray, List.set_cons_zero, List.set_cons_succ]
  refine take_op 17 rfl (by kernel_rfl) (by kernel_rfl) (by kernel_rfl) (fun _ _ _ h => h) (by rfl) (by (intro wz hSw; (obtain ⟨⟨hr, -⟩, -⟩ := hSw; obtain ⟨c9, c11, c12, c13, c14, c15, c16⟩ := rob_c hr; have hl := lt_of_heap hr); go_simp; (try with_reducible rfl))) (by assumption) ?_
  simp only [Act.put, List.setIfInBounds_toArray, List.set_cons_zero, List.set_cons_succ]
  refine take_op 18 rfl (by kernel_rfl) (by kernel_rfl) (by kernel_rfl) (fun _ _ _ h => h) (by rfl) (by (intro w hSw; (try dsimp only at hSw); go_simp; (try with_reducible rfl))) (by assumption) ?_
  simp only [Act.put, List.setIfInBounds_toArray, List.set_cons_zero, List.set_cons_succ]
  refine take_op 19 rfl (by kernel_rfl) (by kernel_rfl) (by kernel_rfl) (fun _ _ _ h => h) (by rfl) (by (intro w hSw; (try dsimp only at hSw); go_simp; (try with_reducible rfl))) (by assumption) ?_
  simp only [Act.put, List.setIfInBounds_toArray, List.set_cons_zero, List.set_cons_succ]
  refine wpAnyH_done (by kernel_rfl) ?_ _
  obtain ⟨c9, c11, c12, c13, c14, c15, c16⟩ := rob_c h
  have hl := lt_of_heap h
  go_wp2_with fail
  all_goals try (exfalso; omega)
  clear hHeld c9 c11 c12 c13 c14 c15 c16
  refine wp_region_held_drew (S := fun v => v.heap[x.r]? = some (robO m s1 (.slice (some ⟨b, off, none⟩) ln cp) s3 who n x)) (by kernel_rfl) h (fun hHeld => ?_)
  refine take_op 0 rfl (by kernel_rfl) (by kernel_rfl) (by kernel_rfl) (fun _ _ _ h => h) (by rfl) (by (intro w hSw; (try dsimp only at hSw); go_simp; (try with_reducible rfl))) (by assumption) ?_
  simp only [Act.put, List.setIfInBounds_toArray, List.set_cons_zero, List.set_cons_succ]
  refine take_op 1 rfl (by kernel_rfl) (by kernel_rfl) (by kernel_rfl) (fun _ _ _ h => h) (by rfl) (by (intro w hSw; (try dsimp only at hSw); go_simp; (try with_reducible rfl))) (by assumption) ?_
  simp only [Act.put, List.setIfInBounds_toArray, List.set_cons_zero, List.set_cons_succ]
  refine take_op 2 rfl (by kernel_rfl) (by kernel_rfl) (by kernel_rfl) (fun _ _ _ h => h) (by rfl) (by (intro w hSw; (try dsimp only at hSw); go_simp; (try with_reducible rfl))) (by assumption) ?_
  simp only [Act.put, List.setIfInBounds_toArray, List.set_cons_zero, List.set_cons_succ]
  refine take_op 3 rfl (by kernel_rfl) (by kernel_rfl) (by kernel_rfl) (fun _ _ _ h => h) (by rfl) (by (intro wz hSw; (obtain ⟨c9, c11, c12, c13, c14, c15, c16⟩ := rob_c hSw; have hl := lt_of_heap hSw); go_simp; (try with_reducible rfl))) (by assumption) ?_
  simp only [Act.put, List.setIfInBounds_toArray, List.set_cons_zero, List.set_cons_succ]
  refine take_op 4 rfl (by kernel_rfl) (by kernel_rfl) (by kernel_rfl) (fun _ _ _ h => h) (by rfl) (by (intro w hSw; (try dsimp only at hSw); go_simp; (try with_reducible rfl))) (by assumption) ?_
  simp only [Act.put, List.setIfInBounds_toArray, List.set_cons_zero, List.set_cons_succ]
  refine take_op 5 rfl (by kernel_rfl) (by kernel_rfl) (by kernel_rfl) (fun _ _ _ h => h) (by rfl) (by (intro w hSw; (try dsimp only at hSw); go_simp; (try with_reducible rfl))) (by assumption) ?_
  simp only [Act.put, List.setIfInBounds_toArray, List.set_cons_zero, List.set_cons_succ]
  refine take_op 6 rfl (by kernel_rfl) (by kernel_rfl) (by kernel_rfl) (fun _ _ _ h => h) (by rfl) (by (intro w hSw; (try dsimp only at hSw); go_simp; (try with_reducible rfl))) (by assumption) ?_
  simp only [Act.put, List.setIfInBounds_toArray, List.set_cons_zero, List.set_cons_succ]
  refine take_op 7 rfl (by kernel_rfl) (by kernel_rfl) (by kernel_rfl) (fun _ _ _ h => h) (by rfl) (by (intro w hSw; (try dsimp only at hSw); go_simp; (try with_reducible rfl))) (by assumption) ?_
  simp only [Act.put, List.setIfInBounds_toArray, List.set_cons_zero, List.set_cons_succ]
  refine take_op 8 rfl (by kernel_rfl) (by kernel_rfl) (by kernel_rfl) (fun _ _ _ h => h) (by rfl) (by (intro wz hSw; (obtain ⟨c9, c11, c12, c13, c14, c15, c16⟩ := rob_c hSw; have hl := lt_of_heap hSw); go_simp; (try with_reducible rfl))) (by assumption) ?_
  simp only [Act.put, List.setIfInBounds_toArray, List.set_cons_zero, List.set_cons_succ]
  refine take_op 9 rfl (by kernel_rfl) (by kernel_rfl) (by kernel_rfl) (fun _ _ _ h => h) (by rfl) (by (intro w hSw; (try dsimp only at hSw); go_simp; (try with_reducible rfl))) (by assumption) ?_
  simp only [Act.put, List.setIfInBounds_toArray, List.set_cons_zero, List.set_cons_succ]
  refine take_op 10 rfl (by kernel_rfl) (by kernel_rfl) (by kernel_rfl) (fun _ _ _ h => h) (by rfl) (by (intro w hSw; (try dsimp only at hSw); go_simp; (try with_reducible rfl))) (by assumption) ?_
  simp only [Act.put, List.setIfInBounds_toArray, List.set_cons_zero, List.set_cons_succ]
  refine take_op 11 rfl (by kernel_rfl) (by kernel_rfl) (by kernel_rfl) (fun _ _ _ h => h) (by rfl) (by (intro w hSw; (try dsimp only at hSw); go_simp; (try with_reducible rfl))) (by assumption) ?_
  simp only [Act.put, List.setIfInBounds_toArray, List.set_cons_zero, List.set_cons_succ]
  have hs1 : w.drew.drew.heap[x.bo]? = some (strO n f) := hs
  have hh1 : w.drew.drew.heap[x.bh]? = some (booO n f) := hh
  obtain ⟨a0, a1, a2⟩ := strO_at hs1 hk
  obtain ⟨g0, g1, g2⟩ := strO_at hs hk
  refine at_op 12 rfl (by kernel_rfl) (by rfl) (fun K hK => ?_)
  go_simp
  have hu1 := strO_set (Upd.setCell k (.string data) (Upd.refl hs1))
  have hr1 := (hu1.other x.r (lt_of_heap hHeld) hn1).trans hHeld
  have hh2 := (hu1.other x.bh (lt_of_heap hh1) (fun e => hn3 e.symm)).trans hh1
  have HU1 := Lib.hid hu1
  clear a0 a1 a2 g0 g1 g2 hu1 hs1 hh1 hHeld
  refine hK.out _ _ ?_ (fun hHeld => ?_)
  · exact hr1
  clear hK K
  try simp only [Act.put, List.setIfInBounds_toArray, List.set_cons_zero, List.set_cons_succ]
  obtain ⟨b0, b1, b2⟩ := booO_at hh2 hk
  obtain ⟨e0, e1, e2⟩ := booO_at hh hk
  refine take_op 13 rfl (by kernel_rfl) (by kernel_rfl) (by kernel_rfl) (fun _ _ _ h => h) (by rfl) (by (intro w hSw; (try dsimp only at hSw); go_simp; (try with_reducible rfl))) (by assumption) ?_
  simp only [Act.put, List.setIfInBounds_toArray, List.set_cons_zero, List.set_cons_succ]
  refine at_op 14 rfl (by kernel_rfl) (by rfl) (fun K hK => ?_)
  go_simp
  have hu2 := booO_set (s := data) (Upd.setCell k (.bool true) (Upd.refl hh2))
  have hr2 := (hu2.other x.r (lt_of_heap hHeld) hn2).trans hHeld
  have HU2 := Lib.hid hu2
  clear b0 b1 b2 e0 e1 e2 hu2 hh2 hHeld hr1
  refine hK.out _ _ ?_ (fun hHeld => ?_)
  · exact hr2
  clear hK K
  try simp only [Act.put, List.setIfInBounds_toArray, List.set_cons_zero, List.set_cons_succ]
  refine wpAnyH_done (by kernel_rfl) ?_ _
  go_wp2
  go_ret
  exact ⟨rfl, _, HU1.out.undrew.undrew, HU2.out⟩
end
end Go.Proofs.Ytmbhgipoofllfaa
