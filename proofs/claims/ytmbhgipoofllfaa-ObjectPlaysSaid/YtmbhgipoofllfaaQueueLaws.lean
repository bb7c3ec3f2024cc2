/- The queue's contracts over the call's own blocks; what 'known' says; the laws that call New, Put, Take, Len, Head, All. -/
import Derived.Test.YtmbhgipoofllfaaQueue
import Derived.Test.YtmbhgipoofllfaaOwn
import Derived.Test.YtmbhgipoofllfaaFrame
namespace Go.Proofs.Ytmbhgipoofllfaa
set_option linter.unusedVariables false
set_option linter.unusedSimpArgs false
open Go.ChangeShapes Go.WideShapes Go.ChangeAt Go.RowKit Go.Deep

section
variable {P : Program} {f : FuncId} {args : Array Value} {B c q : Nat} {w0 w : World} {o : Obj} {O : Nat → Nat → Obj} {L : List (Nat × Obj)} {x y z : Nat × Obj} {v : Value}
theorem own_ex0 (h : Own B w0 ((c, o) :: L) w) (k : Calls P f args w fun e w' => ∃ s r, e = .returned v ∧ Upd c (O s r) w w') : Calls P f args w fun e w' => ∃ s r, e = .returned v ∧ Own B w0 ((c, O s r) :: L) w' :=
  k.mono fun _ _ ⟨s, r, he, u⟩ => ⟨s, r, he, h.upd0 u⟩
theorem own_ex1 (h : Own B w0 (x :: (c, o) :: L) w) (k : Calls P f args w fun e w' => ∃ s r, e = .returned v ∧ Upd c (O s r) w w') : Calls P f args w fun e w' => ∃ s r, e = .returned v ∧ Own B w0 (x :: (c, O s r) :: L) w' :=
  k.mono fun _ _ ⟨s, r, he, u⟩ => ⟨s, r, he, h.upd1 u⟩
theorem own_ex2 (h : Own B w0 (x :: y :: (c, o) :: L) w) (k : Calls P f args w fun e w' => ∃ s r, e = .returned v ∧ Upd c (O s r) w w') : Calls P f args w fun e w' => ∃ s r, e = .returned v ∧ Own B w0 (x :: y :: (c, O s r) :: L) w' :=
  k.mono fun _ _ ⟨s, r, he, u⟩ => ⟨s, r, he, h.upd2 u⟩
theorem own_ex3 (h : Own B w0 (x :: y :: z :: (c, o) :: L) w) (k : Calls P f args w fun e w' => ∃ s r, e = .returned v ∧ Upd c (O s r) w w') : Calls P f args w fun e w' => ∃ s r, e = .returned v ∧ Own B w0 (x :: y :: z :: (c, O s r) :: L) w' :=
  k.mono fun _ _ ⟨s, r, he, u⟩ => ⟨s, r, he, h.upd3 u⟩
end
theorem Own.add2 {B b b' : Nat} {w0 w w' : World} {o o' : Obj} {L : List (Nat × Obj)} (h : Own B w0 L w) (hb : Below w.heap.size w w') (hl : w.heap.size ≤ b) (hk : w'.heap[b]? = some o) (hl' : w.heap.size ≤ b') (hk' : w'.heap[b']? = some o') (hn : b ≠ b') :
    Own B w0 ((b', o') :: (b, o) :: L) w' := by
  have k := h.add hb hl hk
  have k' := h.add hb hl' hk'
  refine ⟨k.bel, k.sz, ?_, ?_⟩
  · have h1 := k.nd
    have h2 := k'.nd
    simp only [List.map_cons, List.nodup_cons, List.mem_cons] at h1 h2 ⊢
    exact ⟨fun e => e.elim (fun e => hn e.symm) h2.1, h1⟩
  · intro d u hm
    rcases List.mem_cons.1 hm with e | hm
    · exact k'.all d u (e ▸ List.mem_cons_self ..)
    · exact k.all d u hm
theorem own_addq {B : Nat} {w0 w : World} {L : List (Nat × Obj)} (n : Int) (h : Own B w0 L w) :
    Calls Try.prog 13 #[.int .i64 n] w fun e w' => ∃ q c, e = .returned (.pointer (some ⟨q, 0, none⟩)) ∧ Own B w0 ((c, chaO (min (max n 1) 4).toNat [] 0 0) :: (q, queO c) :: L) w' :=
  (que_new n w).mono fun _ _ ⟨q, c, he, hq, hc, hb, hl, hl', hn⟩ => ⟨q, c, he, h.add2 hb hl hq hl' hc hn⟩

section
variable {w : World} {q c cap s r : Nat} {l : List Ev}
theorem que_put' (hq : w.heap[q]? = some (queO c)) (hc : w.heap[c]? = some (chaO cap l s r)) (msg : Int) (data : ByteArray) (hroom : l.length < cap) :
    Calls Try.prog 14 #[.pointer (some ⟨q, 0, none⟩), .int .i64 msg, .string data] w fun e w' => ∃ s' r', e = .returned (.int .i64 0) ∧ Upd c (chaO cap (l ++ [⟨msg, data⟩]) s' r') w w' :=
  (que_put hq hc msg data hroom).mono fun _ _ ⟨he, hu⟩ => ⟨_, _, he, hu⟩
theorem que_take' {ev : Ev} (hq : w.heap[q]? = some (queO c)) (hc : w.heap[c]? = some (chaO cap (ev :: l) s r)) :
    Calls Try.prog 16 #[.pointer (some ⟨q, 0, none⟩)] w fun e w' => ∃ s' r', e = .returned (.tuple #[.agg #[.int .i64 ev.msg, .string ev.data], .int .i64 0]) ∧ Upd c (chaO cap l s' r') w w' :=
  (que_take hq hc).mono fun _ _ ⟨he, hu⟩ => ⟨_, _, he, hu⟩
theorem que_takeNone' (hq : w.heap[q]? = some (queO c)) (hc : w.heap[c]? = some (chaO cap [] s r)) :
    Calls Try.prog 16 #[.pointer (some ⟨q, 0, none⟩)] w fun e w' => ∃ s' r', e = .returned (.tuple #[.agg #[.int .i64 0, .string ⟨#[]⟩], .int .i64 171]) ∧ Upd c (chaO cap [] s' r') w w' :=
  (que_takeNone hq hc).mono fun _ _ ⟨he, hu⟩ => ⟨_, _, he, hu⟩
theorem que_head' {x : Ev} (hq : w.heap[q]? = some (queO c)) (hc : w.heap[c]? = some (chaO cap (x :: l) s r)) (hl : (x :: l).length ≤ cap) (h4 : cap ≤ 4) :
    Calls Try.prog 17 #[.pointer (some ⟨q, 0, none⟩)] w fun e w' => ∃ s' r', e = .returned (.tuple #[.agg #[.int .i64 x.msg, .string x.data], .bool true]) ∧ Upd c (chaO cap (x :: l) s' r') w w' := que_head hq hc hl h4
theorem que_headNone' (hq : w.heap[q]? = some (queO c)) (hc : w.heap[c]? = some (chaO cap [] s r)) (h4 : cap ≤ 4) :
    Calls Try.prog 17 #[.pointer (some ⟨q, 0, none⟩)] w fun e w' => ∃ s' r', e = .returned (.tuple #[.agg #[.int .i64 0, .string ⟨#[]⟩], .bool false]) ∧ Upd c (chaO cap [] s' r') w w' := que_head hq hc (by simp) h4
end

theorem no_held : Try.prog.stoodInHeld 29 = false := by kernel_rfl
theorem no_guard : Try.prog.eqGuardType Try.prog.depth 29 = false := by kernel_rfl

set_option maxRecDepth 100000 in
set_option maxHeartbeats 1000000 in
theorem queue_known (w : World) : Calls Try.prog 12 #[] w fun e w' => e = .returned (.bool true) ∧ Below w.heap.size w w' := by
  have hp := no_held
  have hg := no_guard
  have hcap : (min (max (1 : Int) 1) 4).toNat = 1 := by decide
  go_enter Try.func12, Try.ntmps12
  go_wp2_with fail
  refine (own_addq 1 (Own.nil_ (Below.refl _ _) (Nat.le_refl w.heap.size))).mono ?_
  rintro e w1 ⟨q, c, rfl, hO⟩
  rw [hcap] at hO
  go_wp2_with fail
  refine (own_ex0 hO (que_put' hO.get1 hO.get0 _ _ (by decide))).mono ?_
  rintro e w2 ⟨s, r, rfl, hO⟩
  go_wp2_with fail
  refine (own_same hO (que_full hO.get1 hO.get0 _ _ (by decide))).mono ?_
  rintro e w3 ⟨rfl, hO⟩
  go_wp2_with fail
  refine (own_same hO (que_len hO.get1 hO.get0)).mono ?_
  rintro e w4 ⟨rfl, hO⟩
  go_wp2_with fail
  simp only [List.nil_append] at hO
  refine (own_ex0 hO (que_head' hO.get1 hO.get0 (by decide) (by decide))).mono ?_
  rintro e w5 ⟨s, r, rfl, hO⟩
  go_wp2_with fail
  replace hO := hO.alloc (.cells #[.int .i64 3, .string ⟨#[97]⟩] 29)
  refine (own_ex1 hO (que_take' hO.get2 hO.get1)).mono ?_
  rintro e w6 ⟨s, r, rfl, hO⟩
  go_wp2_with fail
  replace hO := hO.alloc (.cells #[.int .i64 3, .string ⟨#[97]⟩] 29)
  refine (own_ex2 hO (que_takeNone' hO.get3 hO.get2)).mono ?_
  rintro e w7 ⟨s, r, rfl, hO⟩
  go_wp2_with fail
  replace hO := hO.alloc_ (.cells #[.int .i64 0, .string ⟨#[]⟩] 29)
  refine (own_ex2 hO (que_headNone' hO.get3 hO.get2 (by decide))).mono ?_
  rintro e w8 ⟨s, r, rfl, hO⟩
  have x0 := cell_of hO.get0 0
  have x1 := cell_of hO.get0 1
  have y0 := cell_of hO.get1 0
  have y1 := cell_of hO.get1 1
  simp at x0 x1 y0 y1
  have lx := lt_of_heap hO.get0
  have ly := lt_of_heap hO.get1
  go_wp2
  go_ret
  exact ⟨rfl, (hO.alloc_ _).bel⟩

theorem Own.more {B g : Nat} {w0 w : World} {o : Obj} {L : List (Nat × Obj)} (h : Own B w0 L w) (hg : w.heap[g]? = some o) (hB : B ≤ g) (hn : ∀ b u, (b, u) ∈ L → b ≠ g) : Own B w0 ((g, o) :: L) w := by
  refine ⟨h.bel, h.sz, ?_, ?_⟩
  · simp only [List.map_cons, List.nodup_cons]
    refine ⟨fun hm => ?_, h.nd⟩
    obtain ⟨⟨b', o'⟩, hm', e⟩ := List.mem_map.1 hm
    exact hn b' o' hm' e
  · intro b' o' hm
    rcases List.mem_cons.1 hm with e | hm
    · simp only [Prod.mk.injEq] at e
      obtain ⟨rfl, rfl⟩ := e
      exact ⟨hB, hg⟩
    · exact h.all b' o' hm
/-- All of a queue that holds something: a slice of the call's own. -/
theorem own_all {B c q cap s r : Nat} {w0 w : World} {l : List Ev} {L : List (Nat × Obj)} (h : Own B w0 ((c, chaO cap l s r) :: L) w) (hq : w.heap[q]? = some (queO c)) (hl : l.length ≤ cap) (h4 : cap ≤ 4) (hne : l ≠ []) :
    Calls Try.prog 18 #[.pointer (some ⟨q, 0, none⟩)] w fun e w' => ∃ s' r' g cp cur, e = .returned (.slice (some ⟨g, 0, none⟩) l.length cp) ∧ l.length ≤ cp ∧
      Own B w0 ((g, .cells cur 29 (0, 0)) :: (c, chaO cap l s' r') :: L) w' ∧ ∀ j, j < l.length * 2 → cur[j]? = (evCells l)[j]? := by
  refine (que_all0 hq h.get0 hl h4).mono ?_
  rintro e w' ⟨v, s', r', he, hU, hR⟩
  obtain ⟨hl2, ⟨rfl, h0⟩ | ⟨g, cp, cur, rfl, hg, hcur, hn, hcm, hcs, htk⟩⟩ := hR
  · exact absurd (List.eq_nil_of_length_eq_zero h0) hne
  · refine ⟨s', r', g, cp, cur, he, hn, (h.upd0 hU).more hcur (Nat.le_trans h.sz hg) ?_, ?_⟩
    · intro b u hm
      have : b < w.heap.size := by
        rcases List.mem_cons.1 hm with e | hm
        · simp only [Prod.mk.injEq] at e
          rw [e.1]
          exact lt_of_heap h.get0
        · exact lt_of_heap (h.all b u (List.mem_cons_of_mem _ hm)).2
      omega
    · intro j hj
      rw [← htk, List.getElem?_take_of_lt hj]
      simp

def evs (n : Nat) : List Ev := (List.range n).map fun i : Nat => (⟨(i : Int), ⟨#[]⟩⟩ : Ev)
theorem evs_len (n : Nat) : (evs n).length = n := by simp [evs]
theorem evs_succ (n : Nat) : evs (n + 1) = evs n ++ [⟨n, ⟨#[]⟩⟩] := by simp [evs, List.range_succ]

set_option maxRecDepth 100000 in
set_option maxHeartbeats 1000000 in
theorem QueueRooms_walk (a0 : Int) (w0 : (Lit.int .i64 a0).wf = true) (w : World) : Holds 5 #[.int .i64 a0] w := by
  clear w0
  obtain ⟨cap, hcap⟩ : ∃ cap : Nat, (cap : Int) = max 1 (min a0 4) := ⟨(max 1 (min a0 4)).toNat, by omega⟩
  have hc2 : (min (max a0 1) 4).toNat = cap := by omega
  have h1 : 1 ≤ cap := by omega
  have h4 : cap ≤ 4 := by omega
  have HC := Lib.hid hcap
  clear hcap
  unfold Holds
  go_enter Try.func5, Try.ntmps5
  go_wp2_with fail
  refine (queue_known _).mono ?_
  rintro e w1 ⟨rfl, hb⟩
  go_wp2_with fail
  refine (own_addq a0 (Own.nil_ hb hb.size)).mono ?_
  rintro e w2 ⟨q, c, rfl, hO⟩
  rw [hc2] at hO
  clear hb hc2
  go_wp2_with fail
  all_goals
    go_loopw [5, 6] (fun n i wr => ∃ (k s r : Nat), i = .int .i64 k ∧ k ≤ 10 ∧ n = .int .i64 (min k cap : Nat) ∧ Own w.heap.size w [(c, chaO cap (evs (min k cap)) s r), (q, queO c)] wr) (fun _ i _ => 10 - (intOf i).toNat)
    case atStart => exact ⟨0, _, _, rfl, by omega, by simp, by simpa [evs] using hO⟩
    case round =>
      clear hO
      obtain ⟨k, s, r, rfl, hk, rfl, hO⟩ := hrel
      by_cases hlt : k < 10
      · by_cases hr : k < cap
        · have e1 : min k cap = k := by omega
          have e2 : min (k + 1) cap = k + 1 := by omega
          rw [e1] at hO
          go_wp2_with fail
          refine (own_ex0 hO (que_put' hO.get1 hO.get0 _ _ (by rw [evs_len]; exact hr))).mono ?_
          rintro e w3 ⟨s, r, rfl, hO⟩
          rw [← evs_succ] at hO
          go_wp2_with fail
          go_roundw
          case rel => exact ⟨k + 1, s, r, by go_num, by omega, by rw [e2]; go_num, by rw [e2]; exact hO⟩
          case measure => simp [intOf]; omega
        · have e1 : min k cap = cap := by omega
          have e2 : min (k + 1) cap = cap := by omega
          rw [e1] at hO
          go_wp2_with fail
          refine (own_same hO (que_full hO.get1 hO.get0 _ _ (by rw [evs_len]; omega))).mono ?_
          rintro e w3 ⟨rfl, hO⟩
          go_wp2_with fail
          go_roundw
          case rel => exact ⟨k + 1, s, r, by go_num, by omega, by rw [e2], by rw [e2]; exact hO⟩
          case measure => simp [intOf]; omega
      · have e1 : min k cap = cap := by omega
        rw [e1] at hO
        obtain ⟨n, hn⟩ : ∃ n, cap = n + 1 := ⟨cap - 1, by omega⟩
        have hne : evs cap ≠ [] := by rw [hn]; simp [evs]
        have HN := Lib.hid hn
        clear hn
        go_wp2_with fail
        refine (own_all hO hO.get1 (by rw [evs_len]; omega) h4 hne).mono ?_
        rintro e w3 ⟨s, r, g, cp, cur, rfl, hcp, hO, hcur⟩
        rw [evs_len]
        have g0 := (cell_of hO.get0 0).trans (hcur 0 (by rw [evs_len]; omega))
        have gf := free_of hO.get0 0
        have e0 : (evCells (evs cap))[0]? = some (.int .i64 0) := by rw [HN.out]; simp [evs, evCells, List.range_succ_eq_map]
        rw [e0] at g0
        go_wp2_with fail
        replace hO := (hO.upd0 (Upd.setCell 0 (.int .i64 77) (Upd.refl hO.get0))).drop
        have ehd : headOf (evs cap) = (⟨0, ⟨#[]⟩⟩, true) := by rw [HN.out]; simp [evs, headOf, List.range_succ_eq_map]
        have K := que_head hO.get1 hO.get0 (by rw [evs_len]; omega) h4
        rw [ehd] at K
        refine (own_ex0 hO K).mono ?_
        clear K
        rintro e w4 ⟨s, r, rfl, hO⟩
        simp only [evV]
        have hcv := HC.out
        first
          | have hv : (cap : Int) = 4 := by omega
          | have hv : (cap : Int) = a0 := by omega
          | have hv : (cap : Int) = 1 := by omega
        clear hcv
        go_wp2_with fail
        replace hO := hO.alloc (.cells #[.int .i64 0, .string ⟨#[]⟩] 29)
        refine (own_same hO (que_len hO.get2 hO.get1)).mono ?_
        rintro e w5 ⟨rfl, hO⟩
        rw [evs_len]
        have x0 := cell_of hO.get0 0
        simp at x0
        go_wp2
        go_ret
        exact ⟨rfl, hO.bel⟩

set_option maxRecDepth 100000 in
theorem QueueRooms_lifted (os : Os) (started : os.Started) (H : Type) (enc : TypeId × Value → H) :
    ReturnsInHanded {} Try.checked os 5 .any (Rows.queueRoomsSpec.pre6 enc Try.prog Try.f5 [] false) (Rows.queueRoomsSpec.post enc Try.prog Try.f5 false true false false) := by
  refine law_lifted (n := 1) os started H enc (by kernel_rfl) Try.func5 rfl rfl (hts_of (by kernel_rfl)) rfl (fun ds h => match ds, h with | [_], _ => rfl)
    (ChangeSpec.witness6 (enc := enc) (C := Try.checked) false ⟨#[], #[.int .i64 0], []⟩ 8 (by kernel_rfl) (by kernel_rfl) (by kernel_rfl) (by kernel_rfl)) ?_
  intro W base args ds p hval hA
  rw [Try.params5] at hA hval
  obtain ⟨v0, vs0, d0, ds0, p0, q0, hargs, rfl, rfl, h0, r0⟩ := trodAll_cons hA
  obtain ⟨rfl, rfl, rfl⟩ := trodAll_nil r0
  obtain rfl : args = #[v0] := by cases args; simp_all
  obtain ⟨a0, rfl, rfl, rfl, w0⟩ := open_int Try.underlying3 (hval 0 _ v0 rfl rfl) h0
  exact QueueRooms_walk a0 w0 W 

theorem QueueRooms_over : Rows.queueRoomsRow.holds Try.pinned (OpenSpec.ofChange Rows.queueRoomsSpec) :=
  OpenClaim.holds_of_wide 5 Try.f5 rfl rfl rfl rfl rfl rfl rfl ⟨rfl, rfl, rfl, rfl, rfl⟩ rfl rfl rfl rfl rfl (by kernel_rfl) Try.func5 (by kernel_rfl)
    (of_decide_eq_true (by kernel_rfl)) (by unfold Func.isWrapper; first | (rw [if_pos (by decide +kernel)]; kernel_rfl) | (rw [if_neg (by decide +kernel)]; exact ⟨rfl, rfl⟩))
    (fun os started H enc _ => QueueRooms_lifted os started H enc)
theorem QueueRooms_holds : Rows.QueueRoomsSaid := QueueRooms_over
#print axioms QueueRooms_holds
end Go.Proofs.Ytmbhgipoofllfaa
