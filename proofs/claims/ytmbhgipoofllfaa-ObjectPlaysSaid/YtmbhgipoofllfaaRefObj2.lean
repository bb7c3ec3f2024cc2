/- The reference's messages: what it takes in; Sent; Send. -/
import Derived.Test.YtmbhgipoofllfaaRefObj
namespace Go.Proofs.Ytmbhgipoofllfaa
set_option linter.unusedVariables false
set_option linter.unusedSimpArgs false
open Go.ChangeShapes Go.WideShapes Go.ChangeAt Go.RowKit Go.Deep

/-- Two rows turned, one behind the other. -/
def Upd2 (b c : Nat) (o p : Obj) (w w' : World) : Prop := ∃ w1, Upd b o w w1 ∧ Upd c p w1 w'
theorem Upd.undrew {b : Nat} {o : Obj} {w w' : World} (h : Upd b o w.drew w') : Upd b o w w' := ⟨h.os, h.tape, h.output, h.size, h.blk, h.other⟩
section
variable {w : World} {m : Mat} {s1 s2 s3 : Value} {who : Int} {n : Nat} {x : RD} {f g : Int → Option ByteArray}
theorem r_take_no (h : w.heap[x.r]? = some (robO m s1 s2 s3 who n x)) (k : Int) (hk : ¬ (0 ≤ k ∧ k < (n : Int))) (data : ByteArray) :
    Calls Try.prog 37 #[.pointer (some ⟨x.r, 0, none⟩), .int .i64 k, .string data] w fun e w' => (∃ v, e = .returned v) ∧ w' = w := by
  have HT := Lib.hid (r_there h k (z := false) (by simpa using hk))
  go_enter Try.func37, Try.ntmps37
  go_wp2_with fail
  refine HT.out.mono ?_
  rintro e w' ⟨rfl, rfl⟩
  go_wp2
  first | go_end0 | (refine bodyPost_ret (results_none rfl _ _ _) rfl ?_) | refine bodyPost_end (results_none rfl _ _ _) rfl ?_
  exact ⟨⟨_, rfl⟩, rfl⟩
theorem r_take_yes (h : w.heap[x.r]? = some (robO m s1 s2 s3 who n x)) (hs : w.heap[x.bc]? = some (strO n f)) (hh : w.heap[x.bg]? = some (booO n f)) (hn1 : x.r ≠ x.bc) (hn2 : x.r ≠ x.bg) (hn3 : x.bc ≠ x.bg) (j : Nat) (hj : j < n) (data : ByteArray) :
    Calls Try.prog 37 #[.pointer (some ⟨x.r, 0, none⟩), .int .i64 j, .string data] w fun e w' => (∃ v, e = .returned v) ∧ Upd2 x.bc x.bg (strO n (setF f j data)) (booO n (setF f j data)) w w' := by
  have HT := Lib.hid (r_there h (j : Int) (z := true) (by simp; omega))
  have hjn : (j : Int) < n := by omega
  have hj0 : (0 : Int) ≤ j := by omega
  go_enter Try.func37, Try.ntmps37
  go_wp2_with fail
  refine HT.out.mono ?_
  rintro e w' ⟨rfl, rfl⟩
  go_wp2_with fail
  refine wp_region_held_drew (S := fun v => v.heap[x.r]? = some (robO m s1 s2 s3 who n x)) (by kernel_rfl) h (fun hHeld => ?_)
  refine take_op 0 rfl (by kernel_rfl) (by kernel_rfl) (by kernel_rfl) (fun _ _ _ h => h) (by rfl) (by (intro w hSw; (try dsimp only at hSw); go_simp; (try with_reducible rfl))) (by assumption) ?_
  simp only [Act.put, List.setIfInBounds_toArray, List.set_cons_zero, List.set_cons_succ]
  refine take_op 1 rfl (by kernel_rfl) (by kernel_rfl) (by kernel_rfl) (fun _ _ _ h => h) (by rfl) (by (intro w hSw; (try dsimp only at hSw); go_simp; (try with_reducible rfl))) (by assumption) ?_
  simp only [Act.put, List.setIfInBounds_toArray, List.set_cons_zero, List.set_cons_succ]
  refine take_op 2 rfl (by kernel_rfl) (by kernel_rfl) (by kernel_rfl) (fun _ _ _ h => h) (by rfl) (by (intro w hSw; (try dsimp only at hSw); go_simp; (try with_reducible rfl))) (by assumption) ?_
  simp only [Act.put, List.setIfInBounds_toArray, List.set_cons_zero, List.set_cons_succ]
  refine take_op 3 rfl (by kernel_rfl) (by kernel_rfl) (by kernel_rfl) (fun _ _ _ h => h) (by rfl) (by (intro wz hSw; (obtain ⟨c9, c11, c12, c13, c14, c15, c16⟩ := rob_c hSw; have hl := lt_of_heap hSw); go_simp; (try with_reducible rfl))) (by assumption) ?_
  simp only [Act.put, List.setIfInBounds_toArray, List.set_cons_zero, List.set_cons_succ]
  refine take_op 4 rfl (by kernel_rfl) (by kernel_rfl) (by kernel_rfl) (fun _ _ _ h => h) (by rfl) (by (intro w hSw; (try dsimp only at hSw); go_simp; (try with_reducible rfl))) (by assumption) ?_
  simp only [Act.put, List.setIfInBounds_toArray, List.set_cons_zero, List.set_cons_succ]
  refine take_op 5 rfl (by kernel_rfl) (by kernel_rfl) (by kernel_rfl) (fun _ _ _ h => h) (by rfl) (by (intro w hSw; (try dsimp only at hSw); go_simp; (try with_reducible rfl))) (by assumption) ?_
  simp only [Act.put, List.setIfInBounds_toArray, List.set_cons_zero, List.set_cons_succ]
  refine take_op 6 rfl (by kernel_rfl) (by kernel_rfl) (by kernel_rfl) (fun _ _ _ h => h) (by rfl) (by (intro w hSw; (try dsimp only at hSw); go_simp; (try with_reducible rfl))) (by assumption) ?_
  simp only [Act.put, List.setIfInBounds_toArray, List.set_cons_zero, List.set_cons_succ]
  refine take_op 7 rfl (by kernel_rfl) (by kernel_rfl) (by kernel_rfl) (fun _ _ _ h => h) (by rfl) (by (intro w hSw; (try dsimp only at hSw); go_simp; (try with_reducible rfl))) (by assumption) ?_
  simp only [Act.put, List.setIfInBounds_toArray, List.set_cons_zero, List.set_cons_succ]
  refine take_op 8 rfl (by kernel_rfl) (by kernel_rfl) (by kernel_rfl) (fun _ _ _ h => h) (by rfl) (by (intro wz hSw; (obtain ⟨c9, c11, c12, c13, c14, c15, c16⟩ := rob_c hSw; have hl := lt_of_heap hSw); go_simp; (try with_reducible rfl))) (by assumption) ?_
  simp only [Act.put, List.setIfInBounds_toArray, List.set_cons_zero, List.set_cons_succ]
  refine take_op 9 rfl (by kernel_rfl) (by kernel_rfl) (by kernel_rfl) (fun _ _ _ h => h) (by rfl) (by (intro w hSw; (try dsimp only at hSw); go_simp; (try with_reducible rfl))) (by assumption) ?_
  simp only [Act.put, List.setIfInBounds_toArray, List.set_cons_zero, List.set_cons_succ]
  refine take_op 10 rfl (by kernel_rfl) (by kernel_rfl) (by kernel_rfl) (fun _ _ _ h => h) (by rfl) (by (intro w hSw; (try dsimp only at hSw); go_simp; (try with_reducible rfl))) (by assumption) ?_
  simp only [Act.put, List.setIfInBounds_toArray, List.set_cons_zero, List.set_cons_succ]
  refine take_op 11 rfl (by kernel_rfl) (by kernel_rfl) (by kernel_rfl) (fun _ _ _ h => h) (by rfl) (by (intro w hSw; (try dsimp only at hSw); go_simp; (try with_reducible rfl))) (by assumption) ?_
  simp only [Act.put, List.setIfInBounds_toArray, List.set_cons_zero, List.set_cons_succ]
  have hs1 : w'.drew.heap[x.bc]? = some (strO n f) := hs
  have hh1 : w'.drew.heap[x.bg]? = some (booO n f) := hh
  obtain ⟨a0, a1, a2⟩ := strO_at hs1 hj
  refine at_op 12 rfl (by kernel_rfl) (by rfl) (fun K hK => ?_)
  go_simp
  have hu1 := strO_set (Upd.setCell j (.string data) (Upd.refl hs1))
  have hr1 := (hu1.other x.r (lt_of_heap hHeld) hn1).trans hHeld
  have hh2 := (hu1.other x.bg (lt_of_heap hh1) (fun e => hn3 e.symm)).trans hh1
  have HU1 := Lib.hid hu1
  clear a0 a1 a2 hu1 hs1 hh1 hHeld
  refine hK.out _ _ ?_ (fun hHeld => ?_)
  · exact hr1
  clear hK K
  try simp only [Act.put, List.setIfInBounds_toArray, List.set_cons_zero, List.set_cons_succ]
  obtain ⟨b0, b1, b2⟩ := booO_at hh2 hj
  obtain ⟨e0, e1, e2⟩ := booO_at hh hj
  refine take_op 13 rfl (by kernel_rfl) (by kernel_rfl) (by kernel_rfl) (fun _ _ _ h => h) (by rfl) (by (intro w hSw; (try dsimp only at hSw); go_simp; (try with_reducible rfl))) (by assumption) ?_
  simp only [Act.put, List.setIfInBounds_toArray, List.set_cons_zero, List.set_cons_succ]
  refine at_op 14 rfl (by kernel_rfl) (by rfl) (fun K hK => ?_)
  go_simp
  have hu2 := booO_set (s := data) (Upd.setCell j (.bool true) (Upd.refl hh2))
  have hr2 := (hu2.other x.r (lt_of_heap hHeld) hn2).trans hHeld
  have HU2 := Lib.hid hu2
  clear b0 b1 b2 e0 e1 e2 hu2 hh2 hHeld hr1
  refine hK.out _ _ ?_ (fun hHeld => ?_)
  · exact hr2
  clear hK K
  try simp only [Act.put, List.setIfInBounds_toArray, List.set_cons_zero, List.set_cons_succ]
  refine wpAnyH_done (by kernel_rfl) ?_ _
  go_wp2
  first | go_end0 | (refine bodyPost_ret (results_none rfl _ _ _) rfl ?_) | refine bodyPost_end (results_none rfl _ _ _) rfl ?_
  exact ⟨⟨_, rfl⟩, _, HU1.out.undrew, HU2.out⟩
/-- Sent: the queue's Take is called where the first one that waits is this message. -/
theorem r_sent_no {room : Int} {v : Value} {l : List Ev} (h : w.heap[x.r]? = some (robO m s1 s2 s3 who n x)) (hb : w.heap[x.bq]? = some (rqO room v)) (hE : EvS w v l) (h4 : l.length ≤ 4) (k : Int) (hk : ∀ y t, l = y :: t → (y.msg == k) = false) :
    Calls Try.prog 36 #[.pointer (some ⟨x.r, 0, none⟩), .int .i64 k] w fun e w' => (∃ v, e = .returned v) ∧ w' = w := by
  obtain ⟨c9, c11, c12, c13, c14, c15, c16⟩ := rob_c h
  have hl := lt_of_heap h
  have q0 := cell_of hb 1
  simp [rqO] at q0
  have hlq := lt_of_heap hb
  rcases hE with ⟨rfl, rfl⟩ | ⟨g, cp, rfl, hcp, hc⟩
  · clear h hb hk
    go_enter Try.func36, Try.ntmps36
    go_wp2
    first | go_end0 | (refine bodyPost_ret (results_none rfl _ _ _) rfl ?_) | refine bodyPost_end (results_none rfl _ _ _) rfl ?_
    exact ⟨⟨_, rfl⟩, rfl⟩
  · cases l with
    | nil =>
      clear h hb hk hc
      go_enter Try.func36, Try.ntmps36
      go_wp2
      first | go_end0 | (refine bodyPost_ret (results_none rfl _ _ _) rfl ?_) | refine bodyPost_end (results_none rfl _ _ _) rfl ?_
      exact ⟨⟨_, rfl⟩, rfl⟩
    | cons y t =>
      obtain ⟨d0, d1⟩ := hc 0 y rfl
      simp at d0
      have hlg := World.block_lt_of_cell? w _ d0
      have hy := hk y t rfl
      have hlen : (0 : Int) < ((y :: t).length : Nat) := by simp
      clear h hb hk hc d1
      go_enter Try.func36, Try.ntmps36
      go_wp2
      first | go_end0 | (refine bodyPost_ret (results_none rfl _ _ _) rfl ?_) | refine bodyPost_end (results_none rfl _ _ _) rfl ?_
      exact ⟨⟨_, rfl⟩, rfl⟩
theorem r_sent_yes {room : Int} {v : Value} {y : Ev} {t : List Ev} {Q : World → Prop} (h : w.heap[x.r]? = some (robO m s1 s2 s3 who n x)) (hb : w.heap[x.bq]? = some (rqO room v)) (hE : EvS w v (y :: t)) (h4 : (y :: t).length ≤ 4) (k : Int) (hk : (y.msg == k) = true)
    (hT : Calls Try.prog 22 #[.pointer (some ⟨x.bq, 0, none⟩)] w fun e w' => (∃ v, e = .returned v) ∧ Q w') :
    Calls Try.prog 36 #[.pointer (some ⟨x.r, 0, none⟩), .int .i64 k] w fun e w' => (∃ v, e = .returned v) ∧ Q w' := by
  obtain ⟨c9, c11, c12, c13, c14, c15, c16⟩ := rob_c h
  have hl := lt_of_heap h
  have q0 := cell_of hb 1
  simp [rqO] at q0
  have hlq := lt_of_heap hb
  have HT := Lib.hid hT
  rcases hE with ⟨_, e⟩ | ⟨g, cp, rfl, hcp, hc⟩
  · cases e
  · obtain ⟨d0, d1⟩ := hc 0 y rfl
    simp at d0
    have hlg := World.block_lt_of_cell? w _ d0
    have hlen : (0 : Int) < ((y :: t).length : Nat) := by simp
    clear h hb hc d1 hT
    go_enter Try.func36, Try.ntmps36
    go_wp2_with fail
    refine HT.out.mono ?_
    rintro e w' ⟨⟨u, rfl⟩, hQ⟩
    have HQ := Lib.hid hQ
    clear hQ
    go_wp2
    first | go_end0 | (refine bodyPost_ret (results_none rfl _ _ _) rfl ?_) | refine bodyPost_end (results_none rfl _ _ _) rfl ?_
    exact ⟨⟨_, rfl⟩, HQ.out⟩
end
end Go.Proofs.Ytmbhgipoofllfaa
