/- ObjectPlays: every row of messages sent, confirmed, come: what each tells; behind each what is there of each message. No conditions. -/
import Derived.Test.YtmbhgipoofllfaaObjPair3
import Derived.Test.YtmbhgipoofllfaaOwnRow
namespace Go.Proofs.Ytmbhgipoofllfaa
set_option linter.unusedVariables false
set_option linter.unusedSimpArgs false
open Go.ChangeShapes Go.WideShapes Go.ChangeAt Go.RowKit Go.Deep

def ostepKs : List FK := [.int .i64, .int .i64, .str]
def plM (ms : List Msg) : Mat := ⟨0, 0, 0, 0, 0, 0, 0, 0, [], ms, []⟩
theorem plM_ok {ms : List Msg} (h : ∀ z ∈ ms, z.Ok) : (plM ms).Ok := by
  have z : I64 0 := by decide
  refine ⟨z, z, z, z, z, z, z, (by decide : U32 0), ?_, h, ?_⟩
  · intro x hx; simp [plM] at hx
  · intro x hx; simp [plM] at hx
theorem i64_pred {j : Nat} (h : j ≤ 100000) : I64 ((j : Int) - 1) := by
  simp [I64, Lit.wf, IntKind.min, IntKind.max, IntKind.signed, IntKind.bits]
  omega
theorem pair_c {d : OD} {x : RD} {t1 t2 t3 : Value} {X : List (Nat × Obj)} {w0 u : World} {l : List Ev} {n1 n2 b : Nat} {f g f' g' : Int → Option ByteArray} {p : Int} {q : ByteArray} {T : TypeId} {v : Value} {G : List (Nat × Obj)}
    (h : ObjS d (((b, .cells #[.int .i64 p, .string q] T (0, 0)) :: (X ++ refL d.m d.who t1 t2 t3 x f' g' ++ (x.bq, rqO 4 v) :: G))) w0 u l n1 f n2 g) :
    u.cell? ⟨x.r, 16, none⟩ = some (.pointer (some ⟨x.bq, 0, none⟩)) ∧ u.cell? ⟨x.bq, 1, none⟩ = some v ∧ u.cell? ⟨b, 0, none⟩ = some (.int .i64 p) ∧ u.cell? ⟨b, 1, none⟩ = some (.string q) :=
  ⟨cell_of (h.get (x := (x.r, robO d.m t1 t2 t3 d.who d.m.msgs.length x)) (by simp [refL])) 16, cell_of (h.get (x := (x.bq, rqO 4 v)) (by simp)) 1, cell_of (h.get (x := (b, .cells #[.int .i64 p, .string q] T (0, 0))) (by simp)) 0, cell_of (h.get (x := (b, .cells #[.int .i64 p, .string q] T (0, 0))) (by simp)) 1⟩
def otherS : ByteArray := ⟨#[111, 116, 104, 101, 114]⟩
set_option maxRecDepth 100000 in
set_option maxHeartbeats 8000000 in
theorem ObjectPlays_core (ms : List Msg) (v0 : Value) (who : Int) (a : Option Addr) (len cap : Nat) (w : World) (h0 : RdL 3 msgC w v0 ms) (hok : ∀ z ∈ ms, z.Ok) (hs : IsStructs ostepKs w a len cap) :
    Holds 11 #[v0, .int .i64 who, .slice a len cap] w := by
  obtain ⟨a', cap', e1, r0⟩ := h0.shape
  subst e1
  have l0 := r0.len.2
  unfold maxLen at l0
  have R0 := Lib.hid r0
  have OK := Lib.hid (plM_ok hok)
  have SS := Lib.hid hs.2
  have hs1 := hs.1
  unfold maxLen at hs1
  clear r0 h0 hok hs
  unfold Holds
  go_enter Try.func11, Try.ntmps11
  go_wp2_with fail
  refine (known18 _).mono ?_
  rintro e w1 ⟨rfl, hB1⟩
  by_cases h12 : ms.length ≤ 12 ∧ len ≤ 40
  rotate_left
  · go_wp2
    all_goals first | (exfalso; omega) | (go_ret; exact ⟨rfl, hB1⟩)
  obtain ⟨h12, h40⟩ := h12
  have HB1 := Lib.hid hB1
  clear hB1
  go_wp2_with fail
  all_goals try (exfalso; omega)
  have hbx : (w1.alloc (boxM (plM ms) (.slice none 0 0) (.slice a' ms.length cap') (.slice none 0 0))).heap[w1.heap.size]? = some (boxM (plM ms) (.slice none 0 0) (.slice a' ms.length cap') (.slice none 0 0)) := new_blk _ _
  have HBA := Lib.hid (HB1.out.trans (((Below.refl w1.heap.size w1).alloc (Nat.le_refl _) (boxM (plM ms) (.slice none 0 0) (.slice a' ms.length cap') (.slice none 0 0))).mono HB1.out.size))
  have RM := Lib.hid (show RdM (w1.alloc (boxM (plM ms) (.slice none 0 0) (.slice a' ms.length cap') (.slice none 0 0))).drew (plM ms) (.slice none 0 0) (.slice a' ms.length cap') (.slice none 0 0) from ⟨OK.out, rdL_nil, R0.out.keep HBA.out.drew, rdL_nil⟩)
  refine wp_region_held_drew (S := fun v => v.heap[w1.heap.size]? = some (boxM (plM ms) (.slice none 0 0) (.slice a' ms.length cap') (.slice none 0 0))) (by kernel_rfl) hbx (fun hHeld => ?_)
  clear hbx
  refine take_op 0 rfl (by kernel_rfl) (by kernel_rfl) (by kernel_rfl) (fun _ _ _ h => h) (by rfl) (by (intro wz hSw; (obtain ⟨c0, c1, c2, c3, c4, c5, c6, c7, c8, c9, c10⟩ := boxM_c hSw; have hl := lt_of_heap hSw); go_simp; (try with_reducible rfl))) (by assumption) ?_
  simp only [Act.put, List.setIfInBounds_toArray, List.set_cons_zero, List.set_cons_succ]
  refine take_op 3 rfl (by kernel_rfl) (by kernel_rfl) (by kernel_rfl) (fun _ _ _ h => h) (by rfl) (by (intro wz hSw; (obtain ⟨c0, c1, c2, c3, c4, c5, c6, c7, c8, c9, c10⟩ := boxM_c hSw; have hl := lt_of_heap hSw); go_simp; (try with_reducible rfl))) (by assumption) ?_
  simp only [Act.put, List.setIfInBounds_toArray, List.set_cons_zero, List.set_cons_succ]
  refine take_op 1 rfl (by kernel_rfl) (by kernel_rfl) (by kernel_rfl) (fun _ _ _ h => h) (by rfl) (by (intro w hSw; (try dsimp only at hSw); go_simp; (try with_reducible rfl))) (by assumption) ?_
  simp only [Act.put, List.setIfInBounds_toArray, List.set_cons_zero, List.set_cons_succ]
  refine take_op 4 rfl (by kernel_rfl) (by kernel_rfl) (by kernel_rfl) (fun _ _ _ h => h) (by rfl) (by (intro w hSw; (try dsimp only at hSw); go_simp; (try with_reducible rfl))) (by assumption) ?_
  simp only [Act.put, List.setIfInBounds_toArray, List.set_cons_zero, List.set_cons_succ]
  refine at_op 2 rfl (by kernel_rfl) (by rfl) (fun K hK => ?_)
  go_simp
  refine (s_new RM.out ⟨by simp [plM], by simp [plM]; omega, by simp [plM]⟩ who).mono ?_
  rintro e w3 ⟨d, w0, rfl, hB2, hm, hw, hS⟩
  have hB3 := hB2.trans (hS.bel.mono hB2.size)
  have hbx3 := (hB3.block w1.heap.size (lt_of_heap hHeld)).trans hHeld
  have HBW := Lib.hid (HBA.out.drew.trans (hB2.mono HBA.out.size))
  clear hHeld
  refine hK.out _ _ ?_ (fun hHeld => ?_)
  · exact hbx3
  clear hK K
  try simp only [Act.put, List.setIfInBounds_toArray, List.set_cons_zero, List.set_cons_succ]
  refine at_op 5 rfl (by kernel_rfl) (by rfl) (fun K hK => ?_)
  go_simp
  refine (r_new (RM.out.keep hB3) (by simp [plM]; omega) who).mono ?_
  rintro e w4 ⟨x, rfl, hR⟩
  have hbx4 := (hR.bel.block w1.heap.size (lt_of_heap hbx3)).trans hbx3
  refine hK.out _ _ ?_ (fun hHeld => ?_)
  · exact hbx4
  clear hK K
  try simp only [Act.put, List.setIfInBounds_toArray, List.set_cons_zero, List.set_cons_succ]
  refine take_op 6 rfl (by kernel_rfl) (by kernel_rfl) (by kernel_rfl) (fun _ _ _ h => h) (by rfl) (by (intro w hSw; (try dsimp only at hSw); go_simp; (try with_reducible rfl))) (by assumption) ?_
  simp only [Act.put, List.setIfInBounds_toArray, List.set_cons_zero, List.set_cons_succ]
  refine take_op 7 rfl (by kernel_rfl) (by kernel_rfl) (by kernel_rfl) (fun _ _ _ h => h) (by rfl) (by (intro w hSw; (try dsimp only at hSw); go_simp; (try with_reducible rfl))) (by assumption) ?_
  simp only [Act.put, List.setIfInBounds_toArray, List.set_cons_zero, List.set_cons_succ]
  refine wpAnyH_done (by kernel_rfl) ?_ _
  rw [← hm, ← hw] at hR
  have hT := Two.begin (w3 := w4) hS hR (show RdL 3 msgC w0 (.slice a' ms.length cap') d.m.msgs by rw [hm]; exact R0.out.keep HBW.out)
  clear hbx3 hbx4 hHeld hB3 hB2 hR hS hm hw
  go_wp2_with fail
  go_loopw [10] (fun vi wr => ∃ (k n1 n2 : Nat) (l : List Ev) (f g : Int → Option ByteArray), vi = .int .i64 k ∧ k ≤ len ∧ n1 ≤ k ∧ n2 ≤ k ∧ EvAll d.m l ∧ OutN d.m f ∧ OutN d.m g ∧ Two d x (.slice none 0 0) (.slice a' ms.length cap') (.slice none 0 0) [] w0 wr l n1 f n2 g l f g) (fun i _ => len - (intOf i).toNat)
  case atStart => exact ⟨0, 0, 0, [], _, _, rfl, by omega, by omega, by omega, evAll_nil _, outN_none _, outN_none _, hT⟩
  case round =>
    clear hT
    obtain ⟨k, n1, n2, l, f, g, rfl, hk, hn1, hn2, hev, hof, hog, hT⟩ := hrel
    have EV := Lib.hid hev
    have OF := Lib.hid hof
    have OG := Lib.hid hog
    clear hev hof hog
    by_cases hlt : k < len
    · have hlt' : (k : Int) < len := by omega
      obtain ⟨bb, off, ea, hbl, hf⟩ := SS.out k hlt
      obtain ⟨u0, hc0, wh, rfl, hw0⟩ := hf 0 (.int .i64) rfl
      obtain ⟨u1, hc1, mg, rfl, hw1⟩ := hf 1 (.int .i64) rfl
      obtain ⟨u2, hc2, dt, rfl, hw2⟩ := hf 2 .str rfl
      simp only [ostepKs, List.length_cons, List.length_nil, Nat.zero_add, Nat.reduceAdd, Nat.add_zero] at hc0 hc1 hc2
      clear hf
      subst ea
      have hBk := HBW.out.trans (hT.bel.mono HBW.out.size)
      have C0 := hBk.cell (p := ⟨bb, off + k * 3, none⟩) hbl
      have C1 := hBk.cell (p := ⟨bb, off + (k * 3 + 1), none⟩) hbl
      have C2 := hBk.cell (p := ⟨bb, off + (k * 3 + 2), none⟩) hbl
      rw [hc0] at C0
      rw [hc1] at C1
      rw [hc2] at C2
      simp only [← Nat.add_assoc] at C1 C2
      clear hc0 hc1 hc2
      rcases Nat.lt_or_ge 40 dt.size with hdt | hdt
      · go_wp2
        all_goals first | (exfalso; omega) | (go_ret; exact ⟨rfl, hBk.alloc hBk.size _⟩)
      have hT := hT.alloc (.cells #[.int .i64 wh, .int .i64 mg, .string dt] 78)
      go_wp2_with fail
      all_goals try (exfalso; omega)
      refine (t_copy hT).mono ?_
      rintro e w2 ⟨dc, s, r, p1, p2, rfl, hcm, hcw, hp1, hp2, hcr, hl4, hT⟩
      clear C0 C1 C2 hcm hcw
      have hb := hT.get (p := (wr.heap.size, .cells #[.int .i64 wh, .int .i64 mg, .string dt] 78 (0, 0))) (by simp)
      have B0 := cell_of hb 0
      have B1 := cell_of hb 1
      have B2 := cell_of hb 2
      simp at B0 B1 B2
      clear hb
      rcases (show wh ≤ 2 ∨ wh = 3 ∨ (¬ wh ≤ 2 ∧ ¬ wh = 3) by omega) with hwh | hwh | ⟨hwh, hwh3⟩
      · as_aux_lemma =>
        have hT := hT.keep ((Below.refl _ _).drew)
        go_wp2_with fail
        obtain ⟨z, hz⟩ : ∃ z, sendE d.m d.who l mg dt = z := ⟨_, rfl⟩
        obtain ⟨l2, hl2⟩ : ∃ l2, sendL d.m d.who l mg dt = l2 := ⟨_, rfl⟩
        obtain ⟨f2, hf2⟩ : ∃ f2, sendF d.m d.who f mg dt = f2 := ⟨_, rfl⟩
        refine wp_region_held_drew (S := fun v => v.cell? ⟨wr.heap.size, 1, none⟩ = some (.int .i64 mg) ∧ v.cell? ⟨wr.heap.size, 2, none⟩ = some (.string dt)) (by kernel_rfl) ⟨cell_of (hT.get (p := (wr.heap.size, (.cells #[.int .i64 wh, .int .i64 mg, .string dt] 78 (0, 0)))) (by simp)) 1, cell_of (hT.get (p := (wr.heap.size, (.cells #[.int .i64 wh, .int .i64 mg, .string dt] 78 (0, 0)))) (by simp)) 2⟩ (fun hHeld => ?_)
        refine take_op 0 rfl (by kernel_rfl) (by kernel_rfl) (by kernel_rfl) (fun _ _ _ h => h) (by rfl) (by (intro w hSw; (try dsimp only at hSw); go_simp; (try with_reducible rfl))) (by assumption) ?_
        simp only [Act.put, List.setIfInBounds_toArray, List.set_cons_zero, List.set_cons_succ]
        refine take_op 1 rfl (by kernel_rfl) (by kernel_rfl) (by kernel_rfl) (fun _ _ _ h => h) (by rfl) (by (intro w hSw; (try dsimp only at hSw); go_simp; (try with_reducible rfl))) (by assumption) ?_
        simp only [Act.put, List.setIfInBounds_toArray, List.set_cons_zero, List.set_cons_succ]
        refine take_op 2 rfl (by kernel_rfl) (by kernel_rfl) (by kernel_rfl) (fun _ _ _ h => h) (by rfl) (by (intro w hSw; (try dsimp only at hSw); go_simp; (try with_reducible rfl))) (by assumption) ?_
        simp only [Act.put, List.setIfInBounds_toArray, List.set_cons_zero, List.set_cons_succ]
        refine take_op 3 rfl (by kernel_rfl) (by kernel_rfl) (by kernel_rfl) (fun _ _ _ h => h) (by rfl) (by (intro w hSw; (try dsimp only at hSw); go_simp; (try with_reducible rfl))) (by assumption) ?_
        simp only [Act.put, List.setIfInBounds_toArray, List.set_cons_zero, List.set_cons_succ]
        refine take_op 4 rfl (by kernel_rfl) (by kernel_rfl) (by kernel_rfl) (fun _ _ _ h => h) (by rfl) (by (intro w hSw; (try dsimp only at hSw); go_simp; (try with_reducible rfl))) (by assumption) ?_
        simp only [Act.put, List.setIfInBounds_toArray, List.set_cons_zero, List.set_cons_succ]
        refine take_op 6 rfl (by kernel_rfl) (by kernel_rfl) (by kernel_rfl) (fun _ _ _ h => h) (by rfl) (by (intro w hSw; (try dsimp only at hSw); go_simp; (try with_reducible rfl))) (by assumption) ?_
        simp only [Act.put, List.setIfInBounds_toArray, List.set_cons_zero, List.set_cons_succ]
        refine take_op 7 rfl (by kernel_rfl) (by kernel_rfl) (by kernel_rfl) (fun _ _ _ h => h) (by rfl) (by (intro w hSw; (try dsimp only at hSw); go_simp; (try with_reducible rfl))) (by assumption) ?_
        simp only [Act.put, List.setIfInBounds_toArray, List.set_cons_zero, List.set_cons_succ]
        refine take_op 8 rfl (by kernel_rfl) (by kernel_rfl) (by kernel_rfl) (fun _ _ _ h => h) (by rfl) (by (intro w hSw; (try dsimp only at hSw); go_simp; (try with_reducible rfl))) (by assumption) ?_
        simp only [Act.put, List.setIfInBounds_toArray, List.set_cons_zero, List.set_cons_succ]
        refine take_op 9 rfl (by kernel_rfl) (by kernel_rfl) (by kernel_rfl) (fun _ _ _ h => h) (by rfl) (by (intro w hSw; (try dsimp only at hSw); go_simp; (try with_reducible rfl))) (by assumption) ?_
        simp only [Act.put, List.setIfInBounds_toArray, List.set_cons_zero, List.set_cons_succ]
        refine take_op 10 rfl (by kernel_rfl) (by kernel_rfl) (by kernel_rfl) (fun _ _ _ h => h) (by rfl) (by (intro w hSw; (try dsimp only at hSw); go_simp; (try with_reducible rfl))) (by assumption) ?_
        simp only [Act.put, List.setIfInBounds_toArray, List.set_cons_zero, List.set_cons_succ]
        refine at_op 5 rfl (by kernel_rfl) (by rfl) (fun K hK => ?_)
        go_simp
        refine (t_send hT mg hw1 dt (by unfold maxLen; omega)).mono ?_
        rintro e w5 ⟨rfl, n, hn, hT⟩
        rw [hz]
        rw [hl2, hf2] at hT
        refine hK.out _ _ ?_ (fun hHeld => ?_)
        · exact ⟨cell_of (hT.get (p := (wr.heap.size, (.cells #[.int .i64 wh, .int .i64 mg, .string dt] 78 (0, 0)))) (by simp)) 1, cell_of (hT.get (p := (wr.heap.size, (.cells #[.int .i64 wh, .int .i64 mg, .string dt] 78 (0, 0)))) (by simp)) 2⟩
        clear hK K
        try simp only [Act.put, List.setIfInBounds_toArray, List.set_cons_zero, List.set_cons_succ]
        refine at_op 11 rfl (by kernel_rfl) (by rfl) (fun K hK => ?_)
        go_simp
        refine (r_send_any hT mg dt).mono ?_
        rintro e w6 ⟨rfl, hT⟩
        rw [hz]
        rw [hl2, hf2] at hT
        refine hK.out _ _ ?_ (fun hHeld => ?_)
        · exact ⟨cell_of (hT.get (p := (wr.heap.size, (.cells #[.int .i64 wh, .int .i64 mg, .string dt] 78 (0, 0)))) (by simp)) 1, cell_of (hT.get (p := (wr.heap.size, (.cells #[.int .i64 wh, .int .i64 mg, .string dt] 78 (0, 0)))) (by simp)) 2⟩
        clear hK K
        try simp only [Act.put, List.setIfInBounds_toArray, List.set_cons_zero, List.set_cons_succ]
        refine take_op 12 rfl (by kernel_rfl) (by kernel_rfl) (by kernel_rfl) (fun _ _ _ h => h) (by rfl) (by (intro w hSw; (try dsimp only at hSw); go_simp; (try with_reducible rfl))) (by assumption) ?_
        simp only [Act.put, List.setIfInBounds_toArray, List.set_cons_zero, List.set_cons_succ]
        refine wpAnyH_done (by kernel_rfl) ?_ _
        have HP := Lib.hid (show ∃ l2 m1 f2 m2 g2, m1 ≤ k + 1 ∧ m2 ≤ k + 1 ∧ EvAll d.m l2 ∧ OutN d.m f2 ∧ OutN d.m g2 ∧ Two d x (.slice none 0 0) (.slice a' ms.length cap') (.slice none 0 0) (dB dc l s r p1 p2 ++ [(wr.heap.size, (.cells #[.int .i64 wh, .int .i64 mg, .string dt] 78 (0, 0)))]) w0 w6 l2 m1 f2 m2 g2 l2 f2 g2 from ⟨l2, n, f2, n2, g, by omega, by omega, hl2 ▸ EV.out.sendL, hf2 ▸ OF.out.sendF, OG.out, hT⟩)
        clear hT hHeld hz hl2 hf2

        obtain ⟨l2, m1, f2, m2, g2, hm1, hm2, ev2, of2, og2, hT⟩ := HP.out
        clear HP
        go_wp2_with fail
        refine (t_side (R := fun e => ∃ v, e = .returned v) (F := 27) (args := #[.pointer (some ⟨dc.o, 0, none⟩), .int .i64 0, .string otherS]) (fun E hE => (s_send_any hE 0 (by decide) otherS (by unfold maxLen; omega)).mono (by rintro e w' ⟨he, n, hn, hS⟩; exact ⟨⟨_, he⟩, _, n, _, _, _, hn, by omega, hS⟩)) hT hp1 hp2 hcr hl4).mono ?_
        rintro e w7 ⟨⟨v7, rfl⟩, lc, s7, r7, q1, q2, k1, fc, k2, gc, hk1, hk2, hp1, hp2, hcr, hl4, hT⟩
        go_wp2_with fail
        refine (t_side (R := fun e => ∃ v, e = .returned v) (F := 31) (args := #[.pointer (some ⟨dc.o, 0, none⟩), .int .i64 0, .string otherS]) (fun E hE => (s_got_any hE 0 (by decide) otherS (by unfold maxLen; omega) (by decide)).mono (by rintro e w' ⟨he, n, hn, hS⟩; exact ⟨he, _, _, _, n, _, by omega, hn, hS⟩)) hT hp1 hp2 hcr hl4).mono ?_
        rintro e w8 ⟨⟨v7, rfl⟩, lc, s7, r7, q1, q2, k1, fc, k2, gc, hk1, hk2, hp1, hp2, hcr, hl4, hT⟩
        replace hT := hT.dropL
        clear hp1 hp2 hcr hl4
        go_wp2_with fail
        obtain ⟨v, G, hS, hR, hl4', hrd⟩ := hT
        rcases l2 with _ | ⟨y, l2⟩
        · refine (s_event hS).mono ?_
          rintro e w9 ⟨rfl, hS⟩
          simp only [headOf, evV]
          rcases hR with ⟨rfl, _, rfl⟩ | ⟨gb, cp, go, rfl, hcp, rfl, hgo⟩
          · have HR := Lib.hid (show Rds [] (.slice none 0 0) [] from .inl ⟨rfl, rfl, rfl⟩)
            as_aux_lemma =>
              go_wp2_with fail
              have hS1 := (hS.alloc (.cells #[.int .i64 0, .string ⟨#[]⟩] 29)).keep ((Below.refl _ _).drew)
              refine wp_region_held_drew (S := fun u => u.cell? ⟨x.r, 16, none⟩ = some (.pointer (some ⟨x.bq, 0, none⟩)) ∧ u.cell? ⟨x.bq, 1, none⟩ = some (.slice none 0 0) ∧ u.cell? ⟨w9.heap.size, 0, none⟩ = some (.int .i64 0) ∧ u.cell? ⟨w9.heap.size, 1, none⟩ = some (.string ⟨#[]⟩)) (by kernel_rfl) (pair_c hS1) (fun hHeld => ?_)
              refine take_op 0 rfl (by kernel_rfl) (by kernel_rfl) (by kernel_rfl) (fun _ _ _ h => h) (by rfl) (by (intro w hSw; (try dsimp only at hSw); go_simp; (try with_reducible rfl))) (by assumption) ?_
              simp only [Act.put, List.setIfInBounds_toArray, List.set_cons_zero, List.set_cons_succ]
              refine take_op 2 rfl (by kernel_rfl) (by kernel_rfl) (by kernel_rfl) (fun _ _ _ h => h) (by rfl) (by (intro w hSw; (try dsimp only at hSw); go_simp; (try with_reducible rfl))) (by assumption) ?_
              simp only [Act.put, List.setIfInBounds_toArray, List.set_cons_zero, List.set_cons_succ]
              refine take_op 3 rfl (by kernel_rfl) (by kernel_rfl) (by kernel_rfl) (fun _ _ _ h => h) (by rfl) (by (intro w hSw; (try dsimp only at hSw); go_simp; (try with_reducible rfl))) (by assumption) ?_
              simp only [Act.put, List.setIfInBounds_toArray, List.set_cons_zero, List.set_cons_succ]
              refine take_op 4 rfl (by kernel_rfl) (by kernel_rfl) (by kernel_rfl) (fun _ _ _ h => h) (by rfl) (by (intro w hSw; (try dsimp only at hSw); go_simp; (try with_reducible rfl))) (by assumption) ?_
              simp only [Act.put, List.setIfInBounds_toArray, List.set_cons_zero, List.set_cons_succ]
              refine take_op 5 rfl (by kernel_rfl) (by kernel_rfl) (by kernel_rfl) (fun _ _ _ h => h) (by rfl) (by (intro w hSw; (try dsimp only at hSw); go_simp; (try with_reducible rfl))) (by assumption) ?_
              simp only [Act.put, List.setIfInBounds_toArray, List.set_cons_zero, List.set_cons_succ]
              refine take_op 6 rfl (by kernel_rfl) (by kernel_rfl) (by kernel_rfl) (fun _ _ _ h => h) (by rfl) (by (intro w hSw; (try dsimp only at hSw); go_simp; (try with_reducible rfl))) (by assumption) ?_
              simp only [Act.put, List.setIfInBounds_toArray, List.set_cons_zero, List.set_cons_succ]
              refine take_op 7 rfl (by kernel_rfl) (by kernel_rfl) (by kernel_rfl) (fun _ _ _ h => h) (by rfl) (by (intro w hSw; (try dsimp only at hSw); go_simp; (try with_reducible rfl))) (by assumption) ?_
              simp only [Act.put, List.setIfInBounds_toArray, List.set_cons_zero, List.set_cons_succ]
              refine take_op 8 rfl (by kernel_rfl) (by kernel_rfl) (by kernel_rfl) (fun _ _ _ h => h) (by rfl) (by (intro w hSw; (try dsimp only at hSw); go_simp; (try with_reducible rfl))) (by assumption) ?_
              simp only [Act.put, List.setIfInBounds_toArray, List.set_cons_zero, List.set_cons_succ]
              refine take_op 9 rfl (by kernel_rfl) (by kernel_rfl) (by kernel_rfl) (fun _ _ _ h => h) (by rfl) (by (intro w hSw; (try dsimp only at hSw); go_simp; (try with_reducible rfl))) (by assumption) ?_
              simp only [Act.put, List.setIfInBounds_toArray, List.set_cons_zero, List.set_cons_succ]
              refine at_op 1 rfl (by kernel_rfl) (by rfl) (fun K hK => ?_)
              go_simp
              refine (s_waiting hS1).mono ?_
              rintro e w10 ⟨rfl, hS2⟩
              simp only [List.length_cons, List.length_nil, Int.natCast_add, Int.natCast_one, Int.natCast_zero]
              refine hK.out _ _ ?_ (fun hHeld => ?_)
              · exact pair_c hS2
              clear hK K
              try simp only [Act.put, List.setIfInBounds_toArray, List.set_cons_zero, List.set_cons_succ]
              refine take_op 10 rfl (by kernel_rfl) (by kernel_rfl) (by kernel_rfl) (fun _ _ _ h => h) (by rfl) (by (intro w hSw; (try dsimp only at hSw); go_simp; (try with_reducible rfl))) (by assumption) ?_
              simp only [Act.put, List.setIfInBounds_toArray, List.set_cons_zero, List.set_cons_succ]
              refine take_op 11 rfl (by kernel_rfl) (by kernel_rfl) (by kernel_rfl) (fun _ _ _ h => h) (by rfl) (by (intro w hSw; (try dsimp only at hSw); go_simp; (try with_reducible rfl))) (by assumption) ?_
              simp only [Act.put, List.setIfInBounds_toArray, List.set_cons_zero, List.set_cons_succ]
              refine take_op 12 rfl (by kernel_rfl) (by kernel_rfl) (by kernel_rfl) (fun _ _ _ h => h) (by rfl) (by (intro w hSw; (try dsimp only at hSw); go_simp; (try with_reducible rfl))) (by assumption) ?_
              simp only [Act.put, List.setIfInBounds_toArray, List.set_cons_zero, List.set_cons_succ]
              refine take_op 13 rfl (by kernel_rfl) (by kernel_rfl) (by kernel_rfl) (fun _ _ _ h => h) (by rfl) (by (intro w hSw; (try dsimp only at hSw); go_simp; (try with_reducible rfl))) (by assumption) ?_
              simp only [Act.put, List.setIfInBounds_toArray, List.set_cons_zero, List.set_cons_succ]
              refine take_op 14 rfl (by kernel_rfl) (by kernel_rfl) (by kernel_rfl) (fun _ _ _ h => h) (by rfl) (by (intro w hSw; (try dsimp only at hSw); go_simp; (try with_reducible rfl))) (by assumption) ?_
              simp only [Act.put, List.setIfInBounds_toArray, List.set_cons_zero, List.set_cons_succ]
              refine take_op 15 rfl (by kernel_rfl) (by kernel_rfl) (by kernel_rfl) (fun _ _ _ h => h) (by rfl) (by (intro w hSw; (try dsimp only at hSw); go_simp; (try with_reducible rfl))) (by assumption) ?_
              simp only [Act.put, List.setIfInBounds_toArray, List.set_cons_zero, List.set_cons_succ]
              refine take_op 16 rfl (by kernel_rfl) (by kernel_rfl) (by kernel_rfl) (fun _ _ _ h => h) (by rfl) (by (intro w hSw; (try dsimp only at hSw); go_simp; (try with_reducible rfl))) (by assumption) ?_
              simp only [Act.put, List.setIfInBounds_toArray, List.set_cons_zero, List.set_cons_succ]
              refine take_op 17 rfl (by kernel_rfl) (by kernel_rfl) (by kernel_rfl) (fun _ _ _ h => h) (by rfl) (by (intro w hSw; (try dsimp only at hSw); go_simp; (try with_reducible rfl))) (by assumption) ?_
              simp only [Act.put, List.setIfInBounds_toArray, List.set_cons_zero, List.set_cons_succ]
              refine take_op 18 rfl (by kernel_rfl) (by kernel_rfl) (by kernel_rfl) (fun _ _ _ h => h) (by rfl) (by (intro w hSw; (try dsimp only at hSw); go_simp; (try with_reducible rfl))) (by assumption) ?_
              simp only [Act.put, List.setIfInBounds_toArray, List.set_cons_zero, List.set_cons_succ]
              refine take_op 19 rfl (by kernel_rfl) (by kernel_rfl) (by kernel_rfl) (fun _ _ _ h => h) (by rfl) (by (intro w hSw; (try dsimp only at hSw); go_simp; (try with_reducible rfl))) (by assumption) ?_
              simp only [Act.put, List.setIfInBounds_toArray, List.set_cons_zero, List.set_cons_succ]
              refine take_op 20 rfl (by kernel_rfl) (by kernel_rfl) (by kernel_rfl) (fun _ _ _ h => h) (by rfl) (by (intro w hSw; (try dsimp only at hSw); go_simp; (try with_reducible rfl))) (by assumption) ?_
              simp only [Act.put, List.setIfInBounds_toArray, List.set_cons_zero, List.set_cons_succ]
              refine take_op 21 rfl (by kernel_rfl) (by kernel_rfl) (by kernel_rfl) (fun _ _ _ h => h) (by rfl) (by (intro w hSw; (try dsimp only at hSw); go_simp; (try with_reducible rfl))) (by assumption) ?_
              simp only [Act.put, List.setIfInBounds_toArray, List.set_cons_zero, List.set_cons_succ]
              refine take_op 22 rfl (by kernel_rfl) (by kernel_rfl) (by kernel_rfl) (fun _ _ _ h => h) (by rfl) (by (intro w hSw; (try dsimp only at hSw); go_simp; (try with_reducible rfl))) (by assumption) ?_
              simp only [Act.put, List.setIfInBounds_toArray, List.set_cons_zero, List.set_cons_succ]
              refine take_op 23 rfl (by kernel_rfl) (by kernel_rfl) (by kernel_rfl) (fun _ _ _ h => h) (by rfl) (by (intro w hSw; (try dsimp only at hSw); go_simp; (try with_reducible rfl))) (by assumption) ?_
              simp only [Act.put, List.setIfInBounds_toArray, List.set_cons_zero, List.set_cons_succ]
              refine take_op 24 rfl (by kernel_rfl) (by kernel_rfl) (by kernel_rfl) (fun _ _ _ h => h) (by rfl) (by (intro w hSw; (try dsimp only at hSw); go_simp; (try with_reducible rfl))) (by assumption) ?_
              simp only [Act.put, List.setIfInBounds_toArray, List.set_cons_zero, List.set_cons_succ]
              refine take_op 25 rfl (by kernel_rfl) (by kernel_rfl) (by kernel_rfl) (fun _ _ _ h => h) (by rfl) (by (intro w hSw; (try dsimp only at hSw); go_simp; (try with_reducible rfl))) (by assumption) ?_
              simp only [Act.put, List.setIfInBounds_toArray, List.set_cons_zero, List.set_cons_succ]
              refine take_op 26 rfl (by kernel_rfl) (by kernel_rfl) (by kernel_rfl) (fun _ _ _ h => h) (by rfl) (by (intro w hSw; (try dsimp only at hSw); go_simp; (try with_reducible rfl))) (by assumption) ?_
              simp only [Act.put, List.setIfInBounds_toArray, List.set_cons_zero, List.set_cons_succ]
              refine skip_op 27 rfl (by kernel_rfl) (by kernel_rfl) (by kernel_rfl) (fun _ _ _ h => h) (by rfl) (by assumption) ?_
              simp only [Act.put, List.setIfInBounds_toArray, List.set_cons_zero, List.set_cons_succ]
              refine skip_op 28 rfl (by kernel_rfl) (by kernel_rfl) (by kernel_rfl) (fun _ _ _ h => h) (by rfl) (by assumption) ?_
              simp only [Act.put, List.setIfInBounds_toArray, List.set_cons_zero, List.set_cons_succ]
              refine skip_op 29 rfl (by kernel_rfl) (by kernel_rfl) (by kernel_rfl) (fun _ _ _ h => h) (by rfl) (by assumption) ?_
              simp only [Act.put, List.setIfInBounds_toArray, List.set_cons_zero, List.set_cons_succ]
              refine skip_op 30 rfl (by kernel_rfl) (by kernel_rfl) (by kernel_rfl) (fun _ _ _ h => h) (by rfl) (by assumption) ?_
              simp only [Act.put, List.setIfInBounds_toArray, List.set_cons_zero, List.set_cons_succ]
              refine skip_op 31 rfl (by kernel_rfl) (by kernel_rfl) (by kernel_rfl) (fun _ _ _ h => h) (by rfl) (by assumption) ?_
              simp only [Act.put, List.setIfInBounds_toArray, List.set_cons_zero, List.set_cons_succ]
              refine skip_op 32 rfl (by kernel_rfl) (by kernel_rfl) (by kernel_rfl) (fun _ _ _ h => h) (by rfl) (by assumption) ?_
              simp only [Act.put, List.setIfInBounds_toArray, List.set_cons_zero, List.set_cons_succ]
              refine skip_op 33 rfl (by kernel_rfl) (by kernel_rfl) (by kernel_rfl) (fun _ _ _ h => h) (by rfl) (by assumption) ?_
              simp only [Act.put, List.setIfInBounds_toArray, List.set_cons_zero, List.set_cons_succ]
              refine skip_op 34 rfl (by kernel_rfl) (by kernel_rfl) (by kernel_rfl) (fun _ _ _ h => h) (by rfl) (by assumption) ?_
              simp only [Act.put, List.setIfInBounds_toArray, List.set_cons_zero, List.set_cons_succ]
              refine skip_op 35 rfl (by kernel_rfl) (by kernel_rfl) (by kernel_rfl) (fun _ _ _ h => h) (by rfl) (by assumption) ?_
              simp only [Act.put, List.setIfInBounds_toArray, List.set_cons_zero, List.set_cons_succ]
              refine skip_op 36 rfl (by kernel_rfl) (by kernel_rfl) (by kernel_rfl) (fun _ _ _ h => h) (by rfl) (by assumption) ?_
              simp only [Act.put, List.setIfInBounds_toArray, List.set_cons_zero, List.set_cons_succ]
              refine skip_op 37 rfl (by kernel_rfl) (by kernel_rfl) (by kernel_rfl) (fun _ _ _ h => h) (by rfl) (by assumption) ?_
              simp only [Act.put, List.setIfInBounds_toArray, List.set_cons_zero, List.set_cons_succ]
              refine take_op 38 rfl (by kernel_rfl) (by kernel_rfl) (by kernel_rfl) (fun _ _ _ h => h) (by rfl) (by (intro w hSw; (try dsimp only at hSw); go_simp; (try with_reducible rfl))) (by assumption) ?_
              simp only [Act.put, List.setIfInBounds_toArray, List.set_cons_zero, List.set_cons_succ]
              refine take_op 39 rfl (by kernel_rfl) (by kernel_rfl) (by kernel_rfl) (fun _ _ _ h => h) (by rfl) (by (intro w hSw; (try dsimp only at hSw); go_simp; (try with_reducible rfl))) (by assumption) ?_
              simp only [Act.put, List.setIfInBounds_toArray, List.set_cons_zero, List.set_cons_succ]
              refine wpAnyH_done (by kernel_rfl) ?_ _
              have hT : Two d x (.slice none 0 0) (.slice a' ms.length cap') (.slice none 0 0) [] w0 w10 [] m1 f2 m2 g2 [] f2 g2 := Two.dropL (L := [(w9.heap.size, _), (wr.heap.size, _)]) ⟨_, _, hS2, HR.out, hl4', hrd⟩
              clear hS hS1 hS2 hHeld
              go_wp2_with fail
              go_loopw [15] (fun vj wj => ∃ j : Nat, vj = .int .i64 ((j : Int) - 1) ∧ j ≤ ms.length + 2 ∧ Two d x (.slice none 0 0) (.slice a' ms.length cap') (.slice none 0 0) [] w0 wj [] m1 f2 m2 g2 [] f2 g2) (fun vj _ => (ms.length + 2) - ((intOf vj) + 1).toNat)
              case atStart => exact ⟨0, by first | rfl | simp, by omega, hT⟩
              case round =>
                clear hT
                obtain ⟨j, rfl, hj, hT⟩ := hrel
                by_cases hjl : j ≤ ms.length + 1
                · have hjl' : (j : Int) - 1 ≤ ms.length := by omega
                  have hji : I64 ((j : Int) - 1) := i64_pred (by omega)
                  obtain ⟨ya, hya⟩ : ∃ y, (f2 ((j : Int) - 1)).getD ⟨#[]⟩ = y := ⟨_, rfl⟩
                  obtain ⟨za, hza⟩ : ∃ z, (f2 ((j : Int) - 1)).isSome = z := ⟨_, rfl⟩
                  obtain ⟨yb, hyb⟩ : ∃ y, (g2 ((j : Int) - 1)).getD ⟨#[]⟩ = y := ⟨_, rfl⟩
                  obtain ⟨zb, hzb⟩ : ∃ z, (g2 ((j : Int) - 1)).isSome = z := ⟨_, rfl⟩
                  have HYA := Lib.hid hya
                  have HZA := Lib.hid hza
                  have HYB := Lib.hid hyb
                  have HZB := Lib.hid hzb
                  clear hya hza hyb hzb
                  go_wp2_with fail
                  refine (t_state hT _ hji HYA.out HZA.out).mono ?_
                  rintro e w11 ⟨rfl, hT⟩
                  go_wp2_with fail
                  refine (t_rstate hT of2 _ HYA.out HZA.out).mono ?_
                  rintro e w12 ⟨rfl, hT⟩
                  go_wp2_with fail
                  refine (t_read hT _ hji HYB.out HZB.out).mono ?_
                  rintro e w13 ⟨rfl, hT⟩
                  go_wp2_with fail
                  refine (t_rread hT og2 _ HYB.out HZB.out).mono ?_
                  rintro e w14 ⟨rfl, hT⟩
                  go_wp2_with fail
                  go_roundw
                  case rel => exact ⟨j + 1, by first | go_num | (simp; omega), by omega, hT⟩
                  case measure => (simp [intOf]; try omega)
                · have hjl' : (ms.length : Int) < (j : Int) - 1 := by omega
                  go_wp2_with fail
                  go_roundw
                  case rel => exact ⟨k + 1, m1, m2, _, f2, g2, by go_num, by omega, by omega, by omega, ev2, of2, og2, hT⟩
                  case measure => (simp [intOf]; try omega)
          · have HR := Lib.hid (show Rds [(gb, go)] (.slice (some ⟨gb, 0, none⟩) 0 cp) [] from .inr ⟨gb, cp, go, rfl, hcp, rfl, hgo⟩)
            clear hgo
            as_aux_lemma =>
              go_wp2_with fail
              have hS1 := (hS.alloc (.cells #[.int .i64 0, .string ⟨#[]⟩] 29)).keep ((Below.refl _ _).drew)
              refine wp_region_held_drew (S := fun u => u.cell? ⟨x.r, 16, none⟩ = some (.pointer (some ⟨x.bq, 0, none⟩)) ∧ u.cell? ⟨x.bq, 1, none⟩ = some (.slice (some ⟨gb, 0, none⟩) 0 cp) ∧ u.cell? ⟨w9.heap.size, 0, none⟩ = some (.int .i64 0) ∧ u.cell? ⟨w9.heap.size, 1, none⟩ = some (.string ⟨#[]⟩)) (by kernel_rfl) (pair_c hS1) (fun hHeld => ?_)
              refine take_op 0 rfl (by kernel_rfl) (by kernel_rfl) (by kernel_rfl) (fun _ _ _ h => h) (by rfl) (by (intro w hSw; (try dsimp only at hSw); go_simp; (try with_reducible rfl))) (by assumption) ?_
              simp only [Act.put, List.setIfInBounds_toArray, List.set_cons_zero, List.set_cons_succ]
              refine take_op 2 rfl (by kernel_rfl) (by kernel_rfl) (by kernel_rfl) (fun _ _ _ h => h) (by rfl) (by (intro w hSw; (try dsimp only at hSw); go_simp; (try with_reducible rfl))) (by assumption) ?_
              simp only [Act.put, List.setIfInBounds_toArray, List.set_cons_zero, List.set_cons_succ]
              refine take_op 3 rfl (by kernel_rfl) (by kernel_rfl) (by kernel_rfl) (fun _ _ _ h => h) (by rfl) (by (intro w hSw; (try dsimp only at hSw); go_simp; (try with_reducible rfl))) (by assumption) ?_
              simp only [Act.put, List.setIfInBounds_toArray, List.set_cons_zero, List.set_cons_succ]
              refine take_op 4 rfl (by kernel_rfl) (by kernel_rfl) (by kernel_rfl) (fun _ _ _ h => h) (by rfl) (by (intro w hSw; (try dsimp only at hSw); go_simp; (try with_reducible rfl))) (by assumption) ?_
              simp only [Act.put, List.setIfInBounds_toArray, List.set_cons_zero, List.set_cons_succ]
              refine take_op 5 rfl (by kernel_rfl) (by kernel_rfl) (by kernel_rfl) (fun _ _ _ h => h) (by rfl) (by (intro w hSw; (try dsimp only at hSw); go_simp; (try with_reducible rfl))) (by assumption) ?_
              simp only [Act.put, List.setIfInBounds_toArray, List.set_cons_zero, List.set_cons_succ]
              refine take_op 6 rfl (by kernel_rfl) (by kernel_rfl) (by kernel_rfl) (fun _ _ _ h => h) (by rfl) (by (intro w hSw; (try dsimp only at hSw); go_simp; (try with_reducible rfl))) (by assumption) ?_
              simp only [Act.put, List.setIfInBounds_toArray, List.set_cons_zero, List.set_cons_succ]
              refine take_op 7 rfl (by kernel_rfl) (by kernel_rfl) (by kernel_rfl) (fun _ _ _ h => h) (by rfl) (by (intro w hSw; (try dsimp only at hSw); go_simp; (try with_reducible rfl))) (by assumption) ?_
              simp only [Act.put, List.setIfInBounds_toArray, List.set_cons_zero, List.set_cons_succ]
              refine take_op 8 rfl (by kernel_rfl) (by kernel_rfl) (by kernel_rfl) (fun _ _ _ h => h) (by rfl) (by (intro w hSw; (try dsimp only at hSw); go_simp; (try with_reducible rfl))) (by assumption) ?_
              simp only [Act.put, List.setIfInBounds_toArray, List.set_cons_zero, List.set_cons_succ]
              refine take_op 9 rfl (by kernel_rfl) (by kernel_rfl) (by kernel_rfl) (fun _ _ _ h => h) (by rfl) (by (intro w hSw; (try dsimp only at hSw); go_simp; (try with_reducible rfl))) (by assumption) ?_
              simp only [Act.put, List.setIfInBounds_toArray, List.set_cons_zero, List.set_cons_succ]
              refine at_op 1 rfl (by kernel_rfl) (by rfl) (fun K hK => ?_)
              go_simp
              refine (s_waiting hS1).mono ?_
              rintro e w10 ⟨rfl, hS2⟩
              simp only [List.length_cons, List.length_nil, Int.natCast_add, Int.natCast_one, Int.natCast_zero]
              refine hK.out _ _ ?_ (fun hHeld => ?_)
              · exact pair_c hS2
              clear hK K
              try simp only [Act.put, List.setIfInBounds_toArray, List.set_cons_zero, List.set_cons_succ]
              refine take_op 10 rfl (by kernel_rfl) (by kernel_rfl) (by kernel_rfl) (fun _ _ _ h => h) (by rfl) (by (intro w hSw; (try dsimp only at hSw); go_simp; (try with_reducible rfl))) (by assumption) ?_
              simp only [Act.put, List.setIfInBounds_toArray, List.set_cons_zero, List.set_cons_succ]
              refine take_op 11 rfl (by kernel_rfl) (by kernel_rfl) (by kernel_rfl) (fun _ _ _ h => h) (by rfl) (by (intro w hSw; (try dsimp only at hSw); go_simp; (try with_reducible rfl))) (by assumption) ?_
              simp only [Act.put, List.setIfInBounds_toArray, List.set_cons_zero, List.set_cons_succ]
              refine take_op 12 rfl (by kernel_rfl) (by kernel_rfl) (by kernel_rfl) (fun _ _ _ h => h) (by rfl) (by (intro w hSw; (try dsimp only at hSw); go_simp; (try with_reducible rfl))) (by assumption) ?_
              simp only [Act.put, List.setIfInBounds_toArray, List.set_cons_zero, List.set_cons_succ]
              refine take_op 13 rfl (by kernel_rfl) (by kernel_rfl) (by kernel_rfl) (fun _ _ _ h => h) (by rfl) (by (intro w hSw; (try dsimp only at hSw); go_simp; (try with_reducible rfl))) (by assumption) ?_
              simp only [Act.put, List.setIfInBounds_toArray, List.set_cons_zero, List.set_cons_succ]
              refine take_op 14 rfl (by kernel_rfl) (by kernel_rfl) (by kernel_rfl) (fun _ _ _ h => h) (by rfl) (by (intro w hSw; (try dsimp only at hSw); go_simp; (try with_reducible rfl))) (by assumption) ?_
              simp only [Act.put, List.setIfInBounds_toArray, List.set_cons_zero, List.set_cons_succ]
              refine take_op 15 rfl (by kernel_rfl) (by kernel_rfl) (by kernel_rfl) (fun _ _ _ h => h) (by rfl) (by (intro w hSw; (try dsimp only at hSw); go_simp; (try with_reducible rfl))) (by assumption) ?_
              simp only [Act.put, List.setIfInBounds_toArray, List.set_cons_zero, List.set_cons_succ]
              refine take_op 16 rfl (by kernel_rfl) (by kernel_rfl) (by kernel_rfl) (fun _ _ _ h => h) (by rfl) (by (intro w hSw; (try dsimp only at hSw); go_simp; (try with_reducible rfl))) (by assumption) ?_
              simp only [Act.put, List.setIfInBounds_toArray, List.set_cons_zero, List.set_cons_succ]
              refine take_op 17 rfl (by kernel_rfl) (by kernel_rfl) (by kernel_rfl) (fun _ _ _ h => h) (by rfl) (by (intro w hSw; (try dsimp only at hSw); go_simp; (try with_reducible rfl))) (by assumption) ?_
              simp only [Act.put, List.setIfInBounds_toArray, List.set_cons_zero, List.set_cons_succ]
              refine take_op 18 rfl (by kernel_rfl) (by kernel_rfl) (by kernel_rfl) (fun _ _ _ h => h) (by rfl) (by (intro w hSw; (try dsimp only at hSw); go_simp; (try with_reducible rfl))) (by assumption) ?_
              simp only [Act.put, List.setIfInBounds_toArray, List.set_cons_zero, List.set_cons_succ]
              refine take_op 19 rfl (by kernel_rfl) (by kernel_rfl) (by kernel_rfl) (fun _ _ _ h => h) (by rfl) (by (intro w hSw; (try dsimp only at hSw); go_simp; (try with_reducible rfl))) (by assumption) ?_
              simp only [Act.put, List.setIfInBounds_toArray, List.set_cons_zero, List.set_cons_succ]
              refine take_op 20 rfl (by kernel_rfl) (by kernel_rfl) (by kernel_rfl) (fun _ _ _ h => h) (by rfl) (by (intro w hSw; (try dsimp only at hSw); go_simp; (try with_reducible rfl))) (by assumption) ?_
              simp only [Act.put, List.setIfInBounds_toArray, List.set_cons_zero, List.set_cons_succ]
              refine take_op 21 rfl (by kernel_rfl) (by kernel_rfl) (by kernel_rfl) (fun _ _ _ h => h) (by rfl) (by (intro w hSw; (try dsimp only at hSw); go_simp; (try with_reducible rfl))) (by assumption) ?_
              simp only [Act.put, List.setIfInBounds_toArray, List.set_cons_zero, List.set_cons_succ]
              refine take_op 22 rfl (by kernel_rfl) (by kernel_rfl) (by kernel_rfl) (fun _ _ _ h => h) (by rfl) (by (intro w hSw; (try dsimp only at hSw); go_simp; (try with_reducible rfl))) (by assumption) ?_
              simp only [Act.put, List.setIfInBounds_toArray, List.set_cons_zero, List.set_cons_succ]
              refine take_op 23 rfl (by kernel_rfl) (by kernel_rfl) (by kernel_rfl) (fun _ _ _ h => h) (by rfl) (by (intro w hSw; (try dsimp only at hSw); go_simp; (try with_reducible rfl))) (by assumption) ?_
              simp only [Act.put, List.setIfInBounds_toArray, List.set_cons_zero, List.set_cons_succ]
              refine take_op 24 rfl (by kernel_rfl) (by kernel_rfl) (by kernel_rfl) (fun _ _ _ h => h) (by rfl) (by (intro w hSw; (try dsimp only at hSw); go_simp; (try with_reducible rfl))) (by assumption) ?_
              simp only [Act.put, List.setIfInBounds_toArray, List.set_cons_zero, List.set_cons_succ]
              refine take_op 25 rfl (by kernel_rfl) (by kernel_rfl) (by kernel_rfl) (fun _ _ _ h => h) (by rfl) (by (intro w hSw; (try dsimp only at hSw); go_simp; (try with_reducible rfl))) (by assumption) ?_
              simp only [Act.put, List.setIfInBounds_toArray, List.set_cons_zero, List.set_cons_succ]
              refine take_op 26 rfl (by kernel_rfl) (by kernel_rfl) (by kernel_rfl) (fun _ _ _ h => h) (by rfl) (by (intro w hSw; (try dsimp only at hSw); go_simp; (try with_reducible rfl))) (by assumption) ?_
              simp only [Act.put, List.setIfInBounds_toArray, List.set_cons_zero, List.set_cons_succ]
              refine skip_op 27 rfl (by kernel_rfl) (by kernel_rfl) (by kernel_rfl) (fun _ _ _ h => h) (by rfl) (by assumption) ?_
              simp only [Act.put, List.setIfInBounds_toArray, List.set_cons_zero, List.set_cons_succ]
              refine skip_op 28 rfl (by kernel_rfl) (by kernel_rfl) (by kernel_rfl) (fun _ _ _ h => h) (by rfl) (by assumption) ?_
              simp only [Act.put, List.setIfInBounds_toArray, List.set_cons_zero, List.set_cons_succ]
              refine skip_op 29 rfl (by kernel_rfl) (by kernel_rfl) (by kernel_rfl) (fun _ _ _ h => h) (by rfl) (by assumption) ?_
              simp only [Act.put, List.setIfInBounds_toArray, List.set_cons_zero, List.set_cons_succ]
              refine skip_op 30 rfl (by kernel_rfl) (by kernel_rfl) (by kernel_rfl) (fun _ _ _ h => h) (by rfl) (by assumption) ?_
              simp only [Act.put, List.setIfInBounds_toArray, List.set_cons_zero, List.set_cons_succ]
              refine skip_op 31 rfl (by kernel_rfl) (by kernel_rfl) (by kernel_rfl) (fun _ _ _ h => h) (by rfl) (by assumption) ?_
              simp only [Act.put, List.setIfInBounds_toArray, List.set_cons_zero, List.set_cons_succ]
              refine skip_op 32 rfl (by kernel_rfl) (by kernel_rfl) (by kernel_rfl) (fun _ _ _ h => h) (by rfl) (by assumption) ?_
              simp only [Act.put, List.setIfInBounds_toArray, List.set_cons_zero, List.set_cons_succ]
              refine skip_op 33 rfl (by kernel_rfl) (by kernel_rfl) (by kernel_rfl) (fun _ _ _ h => h) (by rfl) (by assumption) ?_
              simp only [Act.put, List.setIfInBounds_toArray, List.set_cons_zero, List.set_cons_succ]
              refine skip_op 34 rfl (by kernel_rfl) (by kernel_rfl) (by kernel_rfl) (fun _ _ _ h => h) (by rfl) (by assumption) ?_
              simp only [Act.put, List.setIfInBounds_toArray, List.set_cons_zero, List.set_cons_succ]
              refine skip_op 35 rfl (by kernel_rfl) (by kernel_rfl) (by kernel_rfl) (fun _ _ _ h => h) (by rfl) (by assumption) ?_
              simp only [Act.put, List.setIfInBounds_toArray, List.set_cons_zero, List.set_cons_succ]
              refine skip_op 36 rfl (by kernel_rfl) (by kernel_rfl) (by kernel_rfl) (fun _ _ _ h => h) (by rfl) (by assumption) ?_
              simp only [Act.put, List.setIfInBounds_toArray, List.set_cons_zero, List.set_cons_succ]
              refine skip_op 37 rfl (by kernel_rfl) (by kernel_rfl) (by kernel_rfl) (fun _ _ _ h => h) (by rfl) (by assumption) ?_
              simp only [Act.put, List.setIfInBounds_toArray, List.set_cons_zero, List.set_cons_succ]
              refine take_op 38 rfl (by kernel_rfl) (by kernel_rfl) (by kernel_rfl) (fun _ _ _ h => h) (by rfl) (by (intro w hSw; (try dsimp only at hSw); go_simp; (try with_reducible rfl))) (by assumption) ?_
              simp only [Act.put, List.setIfInBounds_toArray, List.set_cons_zero, List.set_cons_succ]
              refine take_op 39 rfl (by kernel_rfl) (by kernel_rfl) (by kernel_rfl) (fun _ _ _ h => h) (by rfl) (by (intro w hSw; (try dsimp only at hSw); go_simp; (try with_reducible rfl))) (by assumption) ?_
              simp only [Act.put, List.setIfInBounds_toArray, List.set_cons_zero, List.set_cons_succ]
              refine wpAnyH_done (by kernel_rfl) ?_ _
              have hT : Two d x (.slice none 0 0) (.slice a' ms.length cap') (.slice none 0 0) [] w0 w10 [] m1 f2 m2 g2 [] f2 g2 := Two.dropL (L := [(w9.heap.size, _), (wr.heap.size, _)]) ⟨_, _, hS2, HR.out, hl4', hrd⟩
              clear hS hS1 hS2 hHeld
              go_wp2_with fail
              go_loopw [15] (fun vj wj => ∃ j : Nat, vj = .int .i64 ((j : Int) - 1) ∧ j ≤ ms.length + 2 ∧ Two d x (.slice none 0 0) (.slice a' ms.length cap') (.slice none 0 0) [] w0 wj [] m1 f2 m2 g2 [] f2 g2) (fun vj _ => (ms.length + 2) - ((intOf vj) + 1).toNat)
              case atStart => exact ⟨0, by first | rfl | simp, by omega, hT⟩
              case round =>
                clear hT
                obtain ⟨j, rfl, hj, hT⟩ := hrel
                by_cases hjl : j ≤ ms.length + 1
                · have hjl' : (j : Int) - 1 ≤ ms.length := by omega
                  have hji : I64 ((j : Int) - 1) := i64_pred (by omega)
                  obtain ⟨ya, hya⟩ : ∃ y, (f2 ((j : Int) - 1)).getD ⟨#[]⟩ = y := ⟨_, rfl⟩
                  obtain ⟨za, hza⟩ : ∃ z, (f2 ((j : Int) - 1)).isSome = z := ⟨_, rfl⟩
                  obtain ⟨yb, hyb⟩ : ∃ y, (g2 ((j : Int) - 1)).getD ⟨#[]⟩ = y := ⟨_, rfl⟩
                  obtain ⟨zb, hzb⟩ : ∃ z, (g2 ((j : Int) - 1)).isSome = z := ⟨_, rfl⟩
                  have HYA := Lib.hid hya
                  have HZA := Lib.hid hza
                  have HYB := Lib.hid hyb
                  have HZB := Lib.hid hzb
                  clear hya hza hyb hzb
                  go_wp2_with fail
                  refine (t_state hT _ hji HYA.out HZA.out).mono ?_
                  rintro e w11 ⟨rfl, hT⟩
                  go_wp2_with fail
                  refine (t_rstate hT of2 _ HYA.out HZA.out).mono ?_
                  rintro e w12 ⟨rfl, hT⟩
                  go_wp2_with fail
                  refine (t_read hT _ hji HYB.out HZB.out).mono ?_
                  rintro e w13 ⟨rfl, hT⟩
                  go_wp2_with fail
                  refine (t_rread hT og2 _ HYB.out HZB.out).mono ?_
                  rintro e w14 ⟨rfl, hT⟩
                  go_wp2_with fail
                  go_roundw
                  case rel => exact ⟨j + 1, by first | go_num | (simp; omega), by omega, hT⟩
                  case measure => (simp [intOf]; try omega)
                · have hjl' : (ms.length : Int) < (j : Int) - 1 := by omega
                  go_wp2_with fail
                  go_roundw
                  case rel => exact ⟨k + 1, m1, m2, _, f2, g2, by go_num, by omega, by omega, by omega, ev2, of2, og2, hT⟩
                  case measure => (simp [intOf]; try omega)
        · refine (s_event hS).mono ?_
          rintro e w9 ⟨rfl, hS⟩
          simp only [headOf, evV]
          rcases hR with ⟨_, hh, _⟩ | ⟨gb, cp, go, rfl, hcp, rfl, hgo⟩
          · cases hh
          have HR := Lib.hid (show Rds [(gb, go)] (.slice (some ⟨gb, 0, none⟩) (y :: l2).length cp) (y :: l2) from .inr ⟨gb, cp, go, rfl, hcp, rfl, hgo⟩)
          have HE := Lib.hid (fun (w' : World) (h : w'.heap[gb]? = some go) => hgo w' h 0 y rfl)
          simp at hcp
          clear hgo
          as_aux_lemma =>
            go_wp2_with fail
            have hS1 := (hS.alloc (.cells #[.int .i64 y.msg, .string y.data] 29)).keep ((Below.refl _ _).drew)
            refine wp_region_held_drew (S := fun u => u.cell? ⟨x.r, 16, none⟩ = some (.pointer (some ⟨x.bq, 0, none⟩)) ∧ u.cell? ⟨x.bq, 1, none⟩ = some (.slice (some ⟨gb, 0, none⟩) (l2.length + 1) cp) ∧ u.cell? ⟨w9.heap.size, 0, none⟩ = some (.int .i64 y.msg) ∧ u.cell? ⟨w9.heap.size, 1, none⟩ = some (.string y.data) ∧ u.cell? ⟨gb, 0, none⟩ = some (.int .i64 y.msg) ∧ u.cell? ⟨gb, 1, none⟩ = some (.string y.data)) (by kernel_rfl) (⟨(pair_c hS1).1, (pair_c hS1).2.1, (pair_c hS1).2.2.1, (pair_c hS1).2.2.2, (HE.out _ (hS1.get (x := (gb, go)) (by simp))).1, (HE.out _ (hS1.get (x := (gb, go)) (by simp))).2⟩) (fun hHeld => ?_)
            refine take_op 0 rfl (by kernel_rfl) (by kernel_rfl) (by kernel_rfl) (fun _ _ _ h => h) (by rfl) (by (intro w hSw; (try dsimp only at hSw); go_simp; (try with_reducible rfl))) (by assumption) ?_
            simp only [Act.put, List.setIfInBounds_toArray, List.set_cons_zero, List.set_cons_succ]
            refine take_op 2 rfl (by kernel_rfl) (by kernel_rfl) (by kernel_rfl) (fun _ _ _ h => h) (by rfl) (by (intro w hSw; (try dsimp only at hSw); go_simp; (try with_reducible rfl))) (by assumption) ?_
            simp only [Act.put, List.setIfInBounds_toArray, List.set_cons_zero, List.set_cons_succ]
            refine take_op 3 rfl (by kernel_rfl) (by kernel_rfl) (by kernel_rfl) (fun _ _ _ h => h) (by rfl) (by (intro w hSw; (try dsimp only at hSw); go_simp; (try with_reducible rfl))) (by assumption) ?_
            simp only [Act.put, List.setIfInBounds_toArray, List.set_cons_zero, List.set_cons_succ]
            refine take_op 4 rfl (by kernel_rfl) (by kernel_rfl) (by kernel_rfl) (fun _ _ _ h => h) (by rfl) (by (intro w hSw; (try dsimp only at hSw); go_simp; (try with_reducible rfl))) (by assumption) ?_
            simp only [Act.put, List.setIfInBounds_toArray, List.set_cons_zero, List.set_cons_succ]
            refine take_op 5 rfl (by kernel_rfl) (by kernel_rfl) (by kernel_rfl) (fun _ _ _ h => h) (by rfl) (by (intro w hSw; (try dsimp only at hSw); go_simp; (try with_reducible rfl))) (by assumption) ?_
            simp only [Act.put, List.setIfInBounds_toArray, List.set_cons_zero, List.set_cons_succ]
            refine take_op 6 rfl (by kernel_rfl) (by kernel_rfl) (by kernel_rfl) (fun _ _ _ h => h) (by rfl) (by (intro w hSw; (try dsimp only at hSw); go_simp; (try with_reducible rfl))) (by assumption) ?_
            simp only [Act.put, List.setIfInBounds_toArray, List.set_cons_zero, List.set_cons_succ]
            refine take_op 7 rfl (by kernel_rfl) (by kernel_rfl) (by kernel_rfl) (fun _ _ _ h => h) (by rfl) (by (intro w hSw; (try dsimp only at hSw); go_simp; (try with_reducible rfl))) (by assumption) ?_
            simp only [Act.put, List.setIfInBounds_toArray, List.set_cons_zero, List.set_cons_succ]
            refine take_op 8 rfl (by kernel_rfl) (by kernel_rfl) (by kernel_rfl) (fun _ _ _ h => h) (by rfl) (by (intro w hSw; (try dsimp only at hSw); go_simp; (try with_reducible rfl))) (by assumption) ?_
            simp only [Act.put, List.setIfInBounds_toArray, List.set_cons_zero, List.set_cons_succ]
            refine take_op 9 rfl (by kernel_rfl) (by kernel_rfl) (by kernel_rfl) (fun _ _ _ h => h) (by rfl) (by (intro w hSw; (try dsimp only at hSw); go_simp; (try with_reducible rfl))) (by assumption) ?_
            simp only [Act.put, List.setIfInBounds_toArray, List.set_cons_zero, List.set_cons_succ]
            refine at_op 1 rfl (by kernel_rfl) (by rfl) (fun K hK => ?_)
            go_simp
            refine (s_waiting hS1).mono ?_
            rintro e w10 ⟨rfl, hS2⟩
            simp only [List.length_cons, List.length_nil, Int.natCast_add, Int.natCast_one, Int.natCast_zero]
            refine hK.out _ _ ?_ (fun hHeld => ?_)
            · exact ⟨(pair_c hS2).1, (pair_c hS2).2.1, (pair_c hS2).2.2.1, (pair_c hS2).2.2.2, (HE.out _ (hS2.get (x := (gb, go)) (by simp))).1, (HE.out _ (hS2.get (x := (gb, go)) (by simp))).2⟩
            clear hK K
            try simp only [Act.put, List.setIfInBounds_toArray, List.set_cons_zero, List.set_cons_succ]
            refine take_op 10 rfl (by kernel_rfl) (by kernel_rfl) (by kernel_rfl) (fun _ _ _ h => h) (by rfl) (by (intro w hSw; (try dsimp only at hSw); go_simp; (try with_reducible rfl))) (by assumption) ?_
            simp only [Act.put, List.setIfInBounds_toArray, List.set_cons_zero, List.set_cons_succ]
            refine take_op 11 rfl (by kernel_rfl) (by kernel_rfl) (by kernel_rfl) (fun _ _ _ h => h) (by rfl) (by (intro w hSw; (try dsimp only at hSw); go_simp; (try with_reducible rfl))) (by assumption) ?_
            simp only [Act.put, List.setIfInBounds_toArray, List.set_cons_zero, List.set_cons_succ]
            refine take_op 12 rfl (by kernel_rfl) (by kernel_rfl) (by kernel_rfl) (fun _ _ _ h => h) (by rfl) (by (intro w hSw; (try dsimp only at hSw); go_simp; (try with_reducible rfl))) (by assumption) ?_
            simp only [Act.put, List.setIfInBounds_toArray, List.set_cons_zero, List.set_cons_succ]
            refine take_op 13 rfl (by kernel_rfl) (by kernel_rfl) (by kernel_rfl) (fun _ _ _ h => h) (by rfl) (by (intro w hSw; (try dsimp only at hSw); go_simp; (try with_reducible rfl))) (by assumption) ?_
            simp only [Act.put, List.setIfInBounds_toArray, List.set_cons_zero, List.set_cons_succ]
            refine take_op 14 rfl (by kernel_rfl) (by kernel_rfl) (by kernel_rfl) (fun _ _ _ h => h) (by rfl) (by (intro w hSw; (try dsimp only at hSw); go_simp; (try with_reducible rfl))) (by assumption) ?_
            simp only [Act.put, List.setIfInBounds_toArray, List.set_cons_zero, List.set_cons_succ]
            refine take_op 15 rfl (by kernel_rfl) (by kernel_rfl) (by kernel_rfl) (fun _ _ _ h => h) (by rfl) (by (intro w hSw; (try dsimp only at hSw); go_simp; (try with_reducible rfl))) (by assumption) ?_
            simp only [Act.put, List.setIfInBounds_toArray, List.set_cons_zero, List.set_cons_succ]
            refine take_op 16 rfl (by kernel_rfl) (by kernel_rfl) (by kernel_rfl) (fun _ _ _ h => h) (by rfl) (by (intro w hSw; (try dsimp only at hSw); go_simp; (try with_reducible rfl))) (by assumption) ?_
            simp only [Act.put, List.setIfInBounds_toArray, List.set_cons_zero, List.set_cons_succ]
            refine take_op 17 rfl (by kernel_rfl) (by kernel_rfl) (by kernel_rfl) (fun _ _ _ h => h) (by rfl) (by (intro w hSw; (try dsimp only at hSw); go_simp; (try with_reducible rfl))) (by assumption) ?_
            simp only [Act.put, List.setIfInBounds_toArray, List.set_cons_zero, List.set_cons_succ]
            refine take_op 18 rfl (by kernel_rfl) (by kernel_rfl) (by kernel_rfl) (fun _ _ _ h => h) (by rfl) (by (intro w hSw; (try dsimp only at hSw); go_simp; (try with_reducible rfl))) (by assumption) ?_
            simp only [Act.put, List.setIfInBounds_toArray, List.set_cons_zero, List.set_cons_succ]
            refine take_op 19 rfl (by kernel_rfl) (by kernel_rfl) (by kernel_rfl) (fun _ _ _ h => h) (by rfl) (by (intro w hSw; (try dsimp only at hSw); go_simp; (try with_reducible rfl))) (by assumption) ?_
            simp only [Act.put, List.setIfInBounds_toArray, List.set_cons_zero, List.set_cons_succ]
            refine take_op 20 rfl (by kernel_rfl) (by kernel_rfl) (by kernel_rfl) (fun _ _ _ h => h) (by rfl) (by (intro w hSw; (try dsimp only at hSw); go_simp; (try with_reducible rfl))) (by assumption) ?_
            simp only [Act.put, List.setIfInBounds_toArray, List.set_cons_zero, List.set_cons_succ]
            refine take_op 21 rfl (by kernel_rfl) (by kernel_rfl) (by kernel_rfl) (fun _ _ _ h => h) (by rfl) (by (intro w hSw; (try dsimp only at hSw); go_simp; (try with_reducible rfl))) (by assumption) ?_
            simp only [Act.put, List.setIfInBounds_toArray, List.set_cons_zero, List.set_cons_succ]
            refine take_op 22 rfl (by kernel_rfl) (by kernel_rfl) (by kernel_rfl) (fun _ _ _ h => h) (by rfl) (by (intro w hSw; (try dsimp only at hSw); go_simp; (try with_reducible rfl))) (by assumption) ?_
            simp only [Act.put, List.setIfInBounds_toArray, List.set_cons_zero, List.set_cons_succ]
            refine take_op 23 rfl (by kernel_rfl) (by kernel_rfl) (by kernel_rfl) (fun _ _ _ h => h) (by rfl) (by (intro w hSw; (try dsimp only at hSw); go_simp; (try with_reducible rfl))) (by assumption) ?_
            simp only [Act.put, List.setIfInBounds_toArray, List.set_cons_zero, List.set_cons_succ]
            refine take_op 24 rfl (by kernel_rfl) (by kernel_rfl) (by kernel_rfl) (fun _ _ _ h => h) (by rfl) (by (intro w hSw; (try dsimp only at hSw); go_simp; (try with_reducible rfl))) (by assumption) ?_
            simp only [Act.put, List.setIfInBounds_toArray, List.set_cons_zero, List.set_cons_succ]
            refine take_op 25 rfl (by kernel_rfl) (by kernel_rfl) (by kernel_rfl) (fun _ _ _ h => h) (by rfl) (by (intro w hSw; (try dsimp only at hSw); go_simp; (try with_reducible rfl))) (by assumption) ?_
            simp only [Act.put, List.setIfInBounds_toArray, List.set_cons_zero, List.set_cons_succ]
            refine take_op 26 rfl (by kernel_rfl) (by kernel_rfl) (by kernel_rfl) (fun _ _ _ h => h) (by rfl) (by (intro w hSw; (try dsimp only at hSw); go_simp; (try with_reducible rfl))) (by assumption) ?_
            simp only [Act.put, List.setIfInBounds_toArray, List.set_cons_zero, List.set_cons_succ]
            refine take_op 27 rfl (by kernel_rfl) (by kernel_rfl) (by kernel_rfl) (fun _ _ _ h => h) (by rfl) (by (intro w hSw; (try dsimp only at hSw); go_simp; (try with_reducible rfl))) (by assumption) ?_
            simp only [Act.put, List.setIfInBounds_toArray, List.set_cons_zero, List.set_cons_succ]
            refine take_op 28 rfl (by kernel_rfl) (by kernel_rfl) (by kernel_rfl) (fun _ _ _ h => h) (by rfl) (by (intro w hSw; (try dsimp only at hSw); go_simp; (try with_reducible rfl))) (by assumption) ?_
            simp only [Act.put, List.setIfInBounds_toArray, List.set_cons_zero, List.set_cons_succ]
            refine take_op 29 rfl (by kernel_rfl) (by kernel_rfl) (by kernel_rfl) (fun _ _ _ h => h) (by rfl) (by (intro w hSw; (try dsimp only at hSw); go_simp; (try with_reducible rfl))) (by assumption) ?_
            simp only [Act.put, List.setIfInBounds_toArray, List.set_cons_zero, List.set_cons_succ]
            refine take_op 30 rfl (by kernel_rfl) (by kernel_rfl) (by kernel_rfl) (fun _ _ _ h => h) (by rfl) (by (intro w hSw; (try dsimp only at hSw); go_simp; (try with_reducible rfl))) (by assumption) ?_
            simp only [Act.put, List.setIfInBounds_toArray, List.set_cons_zero, List.set_cons_succ]
            refine take_op 31 rfl (by kernel_rfl) (by kernel_rfl) (by kernel_rfl) (fun _ _ _ h => h) (by rfl) (by (intro w hSw; (try dsimp only at hSw); go_simp; (try with_reducible rfl))) (by assumption) ?_
            simp only [Act.put, List.setIfInBounds_toArray, List.set_cons_zero, List.set_cons_succ]
            refine take_op 32 rfl (by kernel_rfl) (by kernel_rfl) (by kernel_rfl) (fun _ _ _ h => h) (by rfl) (by (intro w hSw; (try dsimp only at hSw); go_simp; (try with_reducible rfl))) (by assumption) ?_
            simp only [Act.put, List.setIfInBounds_toArray, List.set_cons_zero, List.set_cons_succ]
            refine take_op 33 rfl (by kernel_rfl) (by kernel_rfl) (by kernel_rfl) (fun _ _ _ h => h) (by rfl) (by (intro w hSw; (try dsimp only at hSw); go_simp; (try with_reducible rfl))) (by assumption) ?_
            simp only [Act.put, List.setIfInBounds_toArray, List.set_cons_zero, List.set_cons_succ]
            refine take_op 34 rfl (by kernel_rfl) (by kernel_rfl) (by kernel_rfl) (fun _ _ _ h => h) (by rfl) (by (intro w hSw; (try dsimp only at hSw); go_simp; (try with_reducible rfl))) (by assumption) ?_
            simp only [Act.put, List.setIfInBounds_toArray, List.set_cons_zero, List.set_cons_succ]
            refine take_op 35 rfl (by kernel_rfl) (by kernel_rfl) (by kernel_rfl) (fun _ _ _ h => h) (by rfl) (by (intro w hSw; (try dsimp only at hSw); go_simp; (try with_reducible rfl))) (by assumption) ?_
            simp only [Act.put, List.setIfInBounds_toArray, List.set_cons_zero, List.set_cons_succ]
            refine take_op 36 rfl (by kernel_rfl) (by kernel_rfl) (by kernel_rfl) (fun _ _ _ h => h) (by rfl) (by (intro w hSw; (try dsimp only at hSw); go_simp; (try with_reducible rfl))) (by assumption) ?_
            simp only [Act.put, List.setIfInBounds_toArray, List.set_cons_zero, List.set_cons_succ]
            refine take_op 37 rfl (by kernel_rfl) (by kernel_rfl) (by kernel_rfl) (fun _ _ _ h => h) (by rfl) (by (intro w hSw; (try dsimp only at hSw); go_simp; (try with_reducible rfl))) (by assumption) ?_
            simp only [Act.put, List.setIfInBounds_toArray, List.set_cons_zero, List.set_cons_succ]
            refine take_op 38 rfl (by kernel_rfl) (by kernel_rfl) (by kernel_rfl) (fun _ _ _ h => h) (by rfl) (by (intro w hSw; (try dsimp only at hSw); go_simp; (try with_reducible rfl))) (by assumption) ?_
            simp only [Act.put, List.setIfInBounds_toArray, List.set_cons_zero, List.set_cons_succ]
            refine take_op 39 rfl (by kernel_rfl) (by kernel_rfl) (by kernel_rfl) (fun _ _ _ h => h) (by rfl) (by (intro w hSw; (try dsimp only at hSw); go_simp; (try with_reducible rfl))) (by assumption) ?_
            simp only [Act.put, List.setIfInBounds_toArray, List.set_cons_zero, List.set_cons_succ]
            refine wpAnyH_done (by kernel_rfl) ?_ _
            have hT : Two d x (.slice none 0 0) (.slice a' ms.length cap') (.slice none 0 0) [] w0 w10 (y :: l2) m1 f2 m2 g2 (y :: l2) f2 g2 := Two.dropL (L := [(w9.heap.size, _), (wr.heap.size, _)]) ⟨_, _, hS2, HR.out, hl4', hrd⟩
            clear hS hS1 hS2 hHeld
            go_wp2_with fail
            go_loopw [15] (fun vj wj => ∃ j : Nat, vj = .int .i64 ((j : Int) - 1) ∧ j ≤ ms.length + 2 ∧ Two d x (.slice none 0 0) (.slice a' ms.length cap') (.slice none 0 0) [] w0 wj (y :: l2) m1 f2 m2 g2 (y :: l2) f2 g2) (fun vj _ => (ms.length + 2) - ((intOf vj) + 1).toNat)
            case atStart => exact ⟨0, by first | rfl | simp, by omega, hT⟩
            case round =>
              clear hT
              obtain ⟨j, rfl, hj, hT⟩ := hrel
              by_cases hjl : j ≤ ms.length + 1
              · have hjl' : (j : Int) - 1 ≤ ms.length := by omega
                have hji : I64 ((j : Int) - 1) := i64_pred (by omega)
                obtain ⟨ya, hya⟩ : ∃ y, (f2 ((j : Int) - 1)).getD ⟨#[]⟩ = y := ⟨_, rfl⟩
                obtain ⟨za, hza⟩ : ∃ z, (f2 ((j : Int) - 1)).isSome = z := ⟨_, rfl⟩
                obtain ⟨yb, hyb⟩ : ∃ y, (g2 ((j : Int) - 1)).getD ⟨#[]⟩ = y := ⟨_, rfl⟩
                obtain ⟨zb, hzb⟩ : ∃ z, (g2 ((j : Int) - 1)).isSome = z := ⟨_, rfl⟩
                have HYA := Lib.hid hya
                have HZA := Lib.hid hza
                have HYB := Lib.hid hyb
                have HZB := Lib.hid hzb
                clear hya hza hyb hzb
                go_wp2_with fail
                refine (t_state hT _ hji HYA.out HZA.out).mono ?_
                rintro e w11 ⟨rfl, hT⟩
                go_wp2_with fail
                refine (t_rstate hT of2 _ HYA.out HZA.out).mono ?_
                rintro e w12 ⟨rfl, hT⟩
                go_wp2_with fail
                refine (t_read hT _ hji HYB.out HZB.out).mono ?_
                rintro e w13 ⟨rfl, hT⟩
                go_wp2_with fail
                refine (t_rread hT og2 _ HYB.out HZB.out).mono ?_
                rintro e w14 ⟨rfl, hT⟩
                go_wp2_with fail
                go_roundw
                case rel => exact ⟨j + 1, by first | go_num | (simp; omega), by omega, hT⟩
                case measure => (simp [intOf]; try omega)
              · have hjl' : (ms.length : Int) < (j : Int) - 1 := by omega
                go_wp2_with fail
                go_roundw
                case rel => exact ⟨k + 1, m1, m2, _, f2, g2, by go_num, by omega, by omega, by omega, ev2, of2, og2, hT⟩
                case measure => (simp [intOf]; try omega)
      · as_aux_lemma =>
        obtain ⟨l2, hl2⟩ : ∃ l2, sentL l mg = l2 := ⟨_, rfl⟩
        go_wp2_with fail
        refine (t_sent hT mg hw1).mono ?_
        rintro e w5 ⟨⟨v5, rfl⟩, hT⟩
        rw [sentP_eq EV.out, hl2] at hT
        have hb := hT.get (p := (wr.heap.size, (.cells #[.int .i64 wh, .int .i64 mg, .string dt] 78 (0, 0)))) (by simp)
        have D0 := cell_of hb 0
        have D1 := cell_of hb 1
        have D2 := cell_of hb 2
        simp at D0 D1 D2
        clear hb B0 B1 B2
        go_wp2_with fail
        refine (r_sent_any hT mg).mono ?_
        rintro e w6 ⟨⟨v6, rfl⟩, hT⟩
        rw [hl2] at hT
        have HP := Lib.hid (show ∃ l2 m1 f2 m2 g2, m1 ≤ k + 1 ∧ m2 ≤ k + 1 ∧ EvAll d.m l2 ∧ OutN d.m f2 ∧ OutN d.m g2 ∧ Two d x (.slice none 0 0) (.slice a' ms.length cap') (.slice none 0 0) (dB dc l s r p1 p2 ++ [(wr.heap.size, (.cells #[.int .i64 wh, .int .i64 mg, .string dt] 78 (0, 0)))]) w0 w6 l2 m1 f2 m2 g2 l2 f2 g2 from ⟨l2, n1, f, n2, g, by omega, by omega, hl2 ▸ EV.out.sentL, OF.out, OG.out, hT⟩)
        clear hT hl2 D0 D1 D2

        obtain ⟨l2, m1, f2, m2, g2, hm1, hm2, ev2, of2, og2, hT⟩ := HP.out
        clear HP
        go_wp2_with fail
        refine (t_side (R := fun e => ∃ v, e = .returned v) (F := 27) (args := #[.pointer (some ⟨dc.o, 0, none⟩), .int .i64 0, .string otherS]) (fun E hE => (s_send_any hE 0 (by decide) otherS (by unfold maxLen; omega)).mono (by rintro e w' ⟨he, n, hn, hS⟩; exact ⟨⟨_, he⟩, _, n, _, _, _, hn, by omega, hS⟩)) hT hp1 hp2 hcr hl4).mono ?_
        rintro e w7 ⟨⟨v7, rfl⟩, lc, s7, r7, q1, q2, k1, fc, k2, gc, hk1, hk2, hp1, hp2, hcr, hl4, hT⟩
        go_wp2_with fail
        refine (t_side (R := fun e => ∃ v, e = .returned v) (F := 31) (args := #[.pointer (some ⟨dc.o, 0, none⟩), .int .i64 0, .string otherS]) (fun E hE => (s_got_any hE 0 (by decide) otherS (by unfold maxLen; omega) (by decide)).mono (by rintro e w' ⟨he, n, hn, hS⟩; exact ⟨he, _, _, _, n, _, by omega, hn, hS⟩)) hT hp1 hp2 hcr hl4).mono ?_
        rintro e w8 ⟨⟨v7, rfl⟩, lc, s7, r7, q1, q2, k1, fc, k2, gc, hk1, hk2, hp1, hp2, hcr, hl4, hT⟩
        replace hT := hT.dropL
        clear hp1 hp2 hcr hl4
        go_wp2_with fail
        obtain ⟨v, G, hS, hR, hl4', hrd⟩ := hT
        rcases l2 with _ | ⟨y, l2⟩
        · refine (s_event hS).mono ?_
          rintro e w9 ⟨rfl, hS⟩
          simp only [headOf, evV]
          rcases hR with ⟨rfl, _, rfl⟩ | ⟨gb, cp, go, rfl, hcp, rfl, hgo⟩
          · have HR := Lib.hid (show Rds [] (.slice none 0 0) [] from .inl ⟨rfl, rfl, rfl⟩)
            as_aux_lemma =>
              go_wp2_with fail
              have hS1 := (hS.alloc (.cells #[.int .i64 0, .string ⟨#[]⟩] 29)).keep ((Below.refl _ _).drew)
              refine wp_region_held_drew (S := fun u => u.cell? ⟨x.r, 16, none⟩ = some (.pointer (some ⟨x.bq, 0, none⟩)) ∧ u.cell? ⟨x.bq, 1, none⟩ = some (.slice none 0 0) ∧ u.cell? ⟨w9.heap.size, 0, none⟩ = some (.int .i64 0) ∧ u.cell? ⟨w9.heap.size, 1, none⟩ = some (.string ⟨#[]⟩)) (by kernel_rfl) (pair_c hS1) (fun hHeld => ?_)
              refine take_op 0 rfl (by kernel_rfl) (by kernel_rfl) (by kernel_rfl) (fun _ _ _ h => h) (by rfl) (by (intro w hSw; (try dsimp only at hSw); go_simp; (try with_reducible rfl))) (by assumption) ?_
              simp only [Act.put, List.setIfInBounds_toArray, List.set_cons_zero, List.set_cons_succ]
              refine take_op 2 rfl (by kernel_rfl) (by kernel_rfl) (by kernel_rfl) (fun _ _ _ h => h) (by rfl) (by (intro w hSw; (try dsimp only at hSw); go_simp; (try with_reducible rfl))) (by assumption) ?_
              simp only [Act.put, List.setIfInBounds_toArray, List.set_cons_zero, List.set_cons_succ]
              refine take_op 3 rfl (by kernel_rfl) (by kernel_rfl) (by kernel_rfl) (fun _ _ _ h => h) (by rfl) (by (intro w hSw; (try dsimp only at hSw); go_simp; (try with_reducible rfl))) (by assumption) ?_
              simp only [Act.put, List.setIfInBounds_toArray, List.set_cons_zero, List.set_cons_succ]
              refine take_op 4 rfl (by kernel_rfl) (by kernel_rfl) (by kernel_rfl) (fun _ _ _ h => h) (by rfl) (by (intro w hSw; (try dsimp only at hSw); go_simp; (try with_reducible rfl))) (by assumption) ?_
              simp only [Act.put, List.setIfInBounds_toArray, List.set_cons_zero, List.set_cons_succ]
              refine take_op 5 rfl (by kernel_rfl) (by kernel_rfl) (by kernel_rfl) (fun _ _ _ h => h) (by rfl) (by (intro w hSw; (try dsimp only at hSw); go_simp; (try with_reducible rfl))) (by assumption) ?_
              simp only [Act.put, List.setIfInBounds_toArray, List.set_cons_zero, List.set_cons_succ]
              refine take_op 6 rfl (by kernel_rfl) (by kernel_rfl) (by kernel_rfl) (fun _ _ _ h => h) (by rfl) (by (intro w hSw; (try dsimp only at hSw); go_simp; (try with_reducible rfl))) (by assumption) ?_
              simp only [Act.put, List.setIfInBounds_toArray, List.set_cons_zero, List.set_cons_succ]
              refine take_op 7 rfl (by kernel_rfl) (by kernel_rfl) (by kernel_rfl) (fun _ _ _ h => h) (by rfl) (by (intro w hSw; (try dsimp only at hSw); go_simp; (try with_reducible rfl))) (by assumption) ?_
              simp only [Act.put, List.setIfInBounds_toArray, List.set_cons_zero, List.set_cons_succ]
              refine take_op 8 rfl (by kernel_rfl) (by kernel_rfl) (by kernel_rfl) (fun _ _ _ h => h) (by rfl) (by (intro w hSw; (try dsimp only at hSw); go_simp; (try with_reducible rfl))) (by assumption) ?_
              simp only [Act.put, List.setIfInBounds_toArray, List.set_cons_zero, List.set_cons_succ]
              refine take_op 9 rfl (by kernel_rfl) (by kernel_rfl) (by kernel_rfl) (fun _ _ _ h => h) (by rfl) (by (intro w hSw; (try dsimp only at hSw); go_simp; (try with_reducible rfl))) (by assumption) ?_
              simp only [Act.put, List.setIfInBounds_toArray, List.set_cons_zero, List.set_cons_succ]
              refine at_op 1 rfl (by kernel_rfl) (by rfl) (fun K hK => ?_)
              go_simp
              refine (s_waiting hS1).mono ?_
              rintro e w10 ⟨rfl, hS2⟩
              simp only [List.length_cons, List.length_nil, Int.natCast_add, Int.natCast_one, Int.natCast_zero]
              refine hK.out _ _ ?_ (fun hHeld => ?_)
              · exact pair_c hS2
              clear hK K
              try simp only [Act.put, List.setIfInBounds_toArray, List.set_cons_zero, List.set_cons_succ]
              refine take_op 10 rfl (by kernel_rfl) (by kernel_rfl) (by kernel_rfl) (fun _ _ _ h => h) (by rfl) (by (intro w hSw; (try dsimp only at hSw); go_simp; (try with_reducible rfl))) (by assumption) ?_
              simp only [Act.put, List.setIfInBounds_toArray, List.set_cons_zero, List.set_cons_succ]
              refine take_op 11 rfl (by kernel_rfl) (by kernel_rfl) (by kernel_rfl) (fun _ _ _ h => h) (by rfl) (by (intro w hSw; (try dsimp only at hSw); go_simp; (try with_reducible rfl))) (by assumption) ?_
              simp only [Act.put, List.setIfInBounds_toArray, List.set_cons_zero, List.set_cons_succ]
              refine take_op 12 rfl (by kernel_rfl) (by kernel_rfl) (by kernel_rfl) (fun _ _ _ h => h) (by rfl) (by (intro w hSw; (try dsimp only at hSw); go_simp; (try with_reducible rfl))) (by assumption) ?_
              simp only [Act.put, List.setIfInBounds_toArray, List.set_cons_zero, List.set_cons_succ]
              refine take_op 13 rfl (by kernel_rfl) (by kernel_rfl) (by kernel_rfl) (fun _ _ _ h => h) (by rfl) (by (intro w hSw; (try dsimp only at hSw); go_simp; (try with_reducible rfl))) (by assumption) ?_
              simp only [Act.put, List.setIfInBounds_toArray, List.set_cons_zero, List.set_cons_succ]
              refine take_op 14 rfl (by kernel_rfl) (by kernel_rfl) (by kernel_rfl) (fun _ _ _ h => h) (by rfl) (by (intro w hSw; (try dsimp only at hSw); go_simp; (try with_reducible rfl))) (by assumption) ?_
              simp only [Act.put, List.setIfInBounds_toArray, List.set_cons_zero, List.set_cons_succ]
              refine take_op 15 rfl (by kernel_rfl) (by kernel_rfl) (by kernel_rfl) (fun _ _ _ h => h) (by rfl) (by (intro w hSw; (try dsimp only at hSw); go_simp; (try with_reducible rfl))) (by assumption) ?_
              simp only [Act.put, List.setIfInBounds_toArray, List.set_cons_zero, List.set_cons_succ]
              refine take_op 16 rfl (by kernel_rfl) (by kernel_rfl) (by kernel_rfl) (fun _ _ _ h => h) (by rfl) (by (intro w hSw; (try dsimp only at hSw); go_simp; (try with_reducible rfl))) (by assumption) ?_
              simp only [Act.put, List.setIfInBounds_toArray, List.set_cons_zero, List.set_cons_succ]
              refine take_op 17 rfl (by kernel_rfl) (by kernel_rfl) (by kernel_rfl) (fun _ _ _ h => h) (by rfl) (by (intro w hSw; (try dsimp only at hSw); go_simp; (try with_reducible rfl))) (by assumption) ?_
              simp only [Act.put, List.setIfInBounds_toArray, List.set_cons_zero, List.set_cons_succ]
              refine take_op 18 rfl (by kernel_rfl) (by kernel_rfl) (by kernel_rfl) (fun _ _ _ h => h) (by rfl) (by (intro w hSw; (try dsimp only at hSw); go_simp; (try with_reducible rfl))) (by assumption) ?_
              simp only [Act.put, List.setIfInBounds_toArray, List.set_cons_zero, List.set_cons_succ]
              refine take_op 19 rfl (by kernel_rfl) (by kernel_rfl) (by kernel_rfl) (fun _ _ _ h => h) (by rfl) (by (intro w hSw; (try dsimp only at hSw); go_simp; (try with_reducible rfl))) (by assumption) ?_
              simp only [Act.put, List.setIfInBounds_toArray, List.set_cons_zero, List.set_cons_succ]
              refine take_op 20 rfl (by kernel_rfl) (by kernel_rfl) (by kernel_rfl) (fun _ _ _ h => h) (by rfl) (by (intro w hSw; (try dsimp only at hSw); go_simp; (try with_reducible rfl))) (by assumption) ?_
              simp only [Act.put, List.setIfInBounds_toArray, List.set_cons_zero, List.set_cons_succ]
              refine take_op 21 rfl (by kernel_rfl) (by kernel_rfl) (by kernel_rfl) (fun _ _ _ h => h) (by rfl) (by (intro w hSw; (try dsimp only at hSw); go_simp; (try with_reducible rfl))) (by assumption) ?_
              simp only [Act.put, List.setIfInBounds_toArray, List.set_cons_zero, List.set_cons_succ]
              refine take_op 22 rfl (by kernel_rfl) (by kernel_rfl) (by kernel_rfl) (fun _ _ _ h => h) (by rfl) (by (intro w hSw; (try dsimp only at hSw); go_simp; (try with_reducible rfl))) (by assumption) ?_
              simp only [Act.put, List.setIfInBounds_toArray, List.set_cons_zero, List.set_cons_succ]
              refine take_op 23 rfl (by kernel_rfl) (by kernel_rfl) (by kernel_rfl) (fun _ _ _ h => h) (by rfl) (by (intro w hSw; (try dsimp only at hSw); go_simp; (try with_reducible rfl))) (by assumption) ?_
              simp only [Act.put, List.setIfInBounds_toArray, List.set_cons_zero, List.set_cons_succ]
              refine take_op 24 rfl (by kernel_rfl) (by kernel_rfl) (by kernel_rfl) (fun _ _ _ h => h) (by rfl) (by (intro w hSw; (try dsimp only at hSw); go_simp; (try with_reducible rfl))) (by assumption) ?_
              simp only [Act.put, List.setIfInBounds_toArray, List.set_cons_zero, List.set_cons_succ]
              refine take_op 25 rfl (by kernel_rfl) (by kernel_rfl) (by kernel_rfl) (fun _ _ _ h => h) (by rfl) (by (intro w hSw; (try dsimp only at hSw); go_simp; (try with_reducible rfl))) (by assumption) ?_
              simp only [Act.put, List.setIfInBounds_toArray, List.set_cons_zero, List.set_cons_succ]
              refine take_op 26 rfl (by kernel_rfl) (by kernel_rfl) (by kernel_rfl) (fun _ _ _ h => h) (by rfl) (by (intro w hSw; (try dsimp only at hSw); go_simp; (try with_reducible rfl))) (by assumption) ?_
              simp only [Act.put, List.setIfInBounds_toArray, List.set_cons_zero, List.set_cons_succ]
              refine skip_op 27 rfl (by kernel_rfl) (by kernel_rfl) (by kernel_rfl) (fun _ _ _ h => h) (by rfl) (by assumption) ?_
              simp only [Act.put, List.setIfInBounds_toArray, List.set_cons_zero, List.set_cons_succ]
              refine skip_op 28 rfl (by kernel_rfl) (by kernel_rfl) (by kernel_rfl) (fun _ _ _ h => h) (by rfl) (by assumption) ?_
              simp only [Act.put, List.setIfInBounds_toArray, List.set_cons_zero, List.set_cons_succ]
              refine skip_op 29 rfl (by kernel_rfl) (by kernel_rfl) (by kernel_rfl) (fun _ _ _ h => h) (by rfl) (by assumption) ?_
              simp only [Act.put, List.setIfInBounds_toArray, List.set_cons_zero, List.set_cons_succ]
              refine skip_op 30 rfl (by kernel_rfl) (by kernel_rfl) (by kernel_rfl) (fun _ _ _ h => h) (by rfl) (by assumption) ?_
              simp only [Act.put, List.setIfInBounds_toArray, List.set_cons_zero, List.set_cons_succ]
              refine skip_op 31 rfl (by kernel_rfl) (by kernel_rfl) (by kernel_rfl) (fun _ _ _ h => h) (by rfl) (by assumption) ?_
              simp only [Act.put, List.setIfInBounds_toArray, List.set_cons_zero, List.set_cons_succ]
              refine skip_op 32 rfl (by kernel_rfl) (by kernel_rfl) (by kernel_rfl) (fun _ _ _ h => h) (by rfl) (by assumption) ?_
              simp only [Act.put, List.setIfInBounds_toArray, List.set_cons_zero, List.set_cons_succ]
              refine skip_op 33 rfl (by kernel_rfl) (by kernel_rfl) (by kernel_rfl) (fun _ _ _ h => h) (by rfl) (by assumption) ?_
              simp only [Act.put, List.setIfInBounds_toArray, List.set_cons_zero, List.set_cons_succ]
              refine skip_op 34 rfl (by kernel_rfl) (by kernel_rfl) (by kernel_rfl) (fun _ _ _ h => h) (by rfl) (by assumption) ?_
              simp only [Act.put, List.setIfInBounds_toArray, List.set_cons_zero, List.set_cons_succ]
              refine skip_op 35 rfl (by kernel_rfl) (by kernel_rfl) (by kernel_rfl) (fun _ _ _ h => h) (by rfl) (by assumption) ?_
              simp only [Act.put, List.setIfInBounds_toArray, List.set_cons_zero, List.set_cons_succ]
              refine skip_op 36 rfl (by kernel_rfl) (by kernel_rfl) (by kernel_rfl) (fun _ _ _ h => h) (by rfl) (by assumption) ?_
              simp only [Act.put, List.setIfInBounds_toArray, List.set_cons_zero, List.set_cons_succ]
              refine skip_op 37 rfl (by kernel_rfl) (by kernel_rfl) (by kernel_rfl) (fun _ _ _ h => h) (by rfl) (by assumption) ?_
              simp only [Act.put, List.setIfInBounds_toArray, List.set_cons_zero, List.set_cons_succ]
              refine take_op 38 rfl (by kernel_rfl) (by kernel_rfl) (by kernel_rfl) (fun _ _ _ h => h) (by rfl) (by (intro w hSw; (try dsimp only at hSw); go_simp; (try with_reducible rfl))) (by assumption) ?_
              simp only [Act.put, List.setIfInBounds_toArray, List.set_cons_zero, List.set_cons_succ]
              refine take_op 39 rfl (by kernel_rfl) (by kernel_rfl) (by kernel_rfl) (fun _ _ _ h => h) (by rfl) (by (intro w hSw; (try dsimp only at hSw); go_simp; (try with_reducible rfl))) (by assumption) ?_
              simp only [Act.put, List.setIfInBounds_toArray, List.set_cons_zero, List.set_cons_succ]
              refine wpAnyH_done (by kernel_rfl) ?_ _
              have hT : Two d x (.slice none 0 0) (.slice a' ms.length cap') (.slice none 0 0) [] w0 w10 [] m1 f2 m2 g2 [] f2 g2 := Two.dropL (L := [(w9.heap.size, _), (wr.heap.size, _)]) ⟨_, _, hS2, HR.out, hl4', hrd⟩
              clear hS hS1 hS2 hHeld
              go_wp2_with fail
              go_loopw [15] (fun vj wj => ∃ j : Nat, vj = .int .i64 ((j : Int) - 1) ∧ j ≤ ms.length + 2 ∧ Two d x (.slice none 0 0) (.slice a' ms.length cap') (.slice none 0 0) [] w0 wj [] m1 f2 m2 g2 [] f2 g2) (fun vj _ => (ms.length + 2) - ((intOf vj) + 1).toNat)
              case atStart => exact ⟨0, by first | rfl | simp, by omega, hT⟩
              case round =>
                clear hT
                obtain ⟨j, rfl, hj, hT⟩ := hrel
                by_cases hjl : j ≤ ms.length + 1
                · have hjl' : (j : Int) - 1 ≤ ms.length := by omega
                  have hji : I64 ((j : Int) - 1) := i64_pred (by omega)
                  obtain ⟨ya, hya⟩ : ∃ y, (f2 ((j : Int) - 1)).getD ⟨#[]⟩ = y := ⟨_, rfl⟩
                  obtain ⟨za, hza⟩ : ∃ z, (f2 ((j : Int) - 1)).isSome = z := ⟨_, rfl⟩
                  obtain ⟨yb, hyb⟩ : ∃ y, (g2 ((j : Int) - 1)).getD ⟨#[]⟩ = y := ⟨_, rfl⟩
                  obtain ⟨zb, hzb⟩ : ∃ z, (g2 ((j : Int) - 1)).isSome = z := ⟨_, rfl⟩
                  have HYA := Lib.hid hya
                  have HZA := Lib.hid hza
                  have HYB := Lib.hid hyb
                  have HZB := Lib.hid hzb
                  clear hya hza hyb hzb
                  go_wp2_with fail
                  refine (t_state hT _ hji HYA.out HZA.out).mono ?_
                  rintro e w11 ⟨rfl, hT⟩
                  go_wp2_with fail
                  refine (t_rstate hT of2 _ HYA.out HZA.out).mono ?_
                  rintro e w12 ⟨rfl, hT⟩
                  go_wp2_with fail
                  refine (t_read hT _ hji HYB.out HZB.out).mono ?_
                  rintro e w13 ⟨rfl, hT⟩
                  go_wp2_with fail
                  refine (t_rread hT og2 _ HYB.out HZB.out).mono ?_
                  rintro e w14 ⟨rfl, hT⟩
                  go_wp2_with fail
                  go_roundw
                  case rel => exact ⟨j + 1, by first | go_num | (simp; omega), by omega, hT⟩
                  case measure => (simp [intOf]; try omega)
                · have hjl' : (ms.length : Int) < (j : Int) - 1 := by omega
                  go_wp2_with fail
                  go_roundw
                  case rel => exact ⟨k + 1, m1, m2, _, f2, g2, by go_num, by omega, by omega, by omega, ev2, of2, og2, hT⟩
                  case measure => (simp [intOf]; try omega)
          · have HR := Lib.hid (show Rds [(gb, go)] (.slice (some ⟨gb, 0, none⟩) 0 cp) [] from .inr ⟨gb, cp, go, rfl, hcp, rfl, hgo⟩)
            clear hgo
            as_aux_lemma =>
              go_wp2_with fail
              have hS1 := (hS.alloc (.cells #[.int .i64 0, .string ⟨#[]⟩] 29)).keep ((Below.refl _ _).drew)
              refine wp_region_held_drew (S := fun u => u.cell? ⟨x.r, 16, none⟩ = some (.pointer (some ⟨x.bq, 0, none⟩)) ∧ u.cell? ⟨x.bq, 1, none⟩ = some (.slice (some ⟨gb, 0, none⟩) 0 cp) ∧ u.cell? ⟨w9.heap.size, 0, none⟩ = some (.int .i64 0) ∧ u.cell? ⟨w9.heap.size, 1, none⟩ = some (.string ⟨#[]⟩)) (by kernel_rfl) (pair_c hS1) (fun hHeld => ?_)
              refine take_op 0 rfl (by kernel_rfl) (by kernel_rfl) (by kernel_rfl) (fun _ _ _ h => h) (by rfl) (by (intro w hSw; (try dsimp only at hSw); go_simp; (try with_reducible rfl))) (by assumption) ?_
              simp only [Act.put, List.setIfInBounds_toArray, List.set_cons_zero, List.set_cons_succ]
              refine take_op 2 rfl (by kernel_rfl) (by kernel_rfl) (by kernel_rfl) (fun _ _ _ h => h) (by rfl) (by (intro w hSw; (try dsimp only at hSw); go_simp; (try with_reducible rfl))) (by assumption) ?_
              simp only [Act.put, List.setIfInBounds_toArray, List.set_cons_zero, List.set_cons_succ]
              refine take_op 3 rfl (by kernel_rfl) (by kernel_rfl) (by kernel_rfl) (fun _ _ _ h => h) (by rfl) (by (intro w hSw; (try dsimp only at hSw); go_simp; (try with_reducible rfl))) (by assumption) ?_
              simp only [Act.put, List.setIfInBounds_toArray, List.set_cons_zero, List.set_cons_succ]
              refine take_op 4 rfl (by kernel_rfl) (by kernel_rfl) (by kernel_rfl) (fun _ _ _ h => h) (by rfl) (by (intro w hSw; (try dsimp only at hSw); go_simp; (try with_reducible rfl))) (by assumption) ?_
              simp only [Act.put, List.setIfInBounds_toArray, List.set_cons_zero, List.set_cons_succ]
              refine take_op 5 rfl (by kernel_rfl) (by kernel_rfl) (by kernel_rfl) (fun _ _ _ h => h) (by rfl) (by (intro w hSw; (try dsimp only at hSw); go_simp; (try with_reducible rfl))) (by assumption) ?_
              simp only [Act.put, List.setIfInBounds_toArray, List.set_cons_zero, List.set_cons_succ]
              refine take_op 6 rfl (by kernel_rfl) (by kernel_rfl) (by kernel_rfl) (fun _ _ _ h => h) (by rfl) (by (intro w hSw; (try dsimp only at hSw); go_simp; (try with_reducible rfl))) (by assumption) ?_
              simp only [Act.put, List.setIfInBounds_toArray, List.set_cons_zero, List.set_cons_succ]
              refine take_op 7 rfl (by kernel_rfl) (by kernel_rfl) (by kernel_rfl) (fun _ _ _ h => h) (by rfl) (by (intro w hSw; (try dsimp only at hSw); go_simp; (try with_reducible rfl))) (by assumption) ?_
              simp only [Act.put, List.setIfInBounds_toArray, List.set_cons_zero, List.set_cons_succ]
              refine take_op 8 rfl (by kernel_rfl) (by kernel_rfl) (by kernel_rfl) (fun _ _ _ h => h) (by rfl) (by (intro w hSw; (try dsimp only at hSw); go_simp; (try with_reducible rfl))) (by assumption) ?_
              simp only [Act.put, List.setIfInBounds_toArray, List.set_cons_zero, List.set_cons_succ]
              refine take_op 9 rfl (by kernel_rfl) (by kernel_rfl) (by kernel_rfl) (fun _ _ _ h => h) (by rfl) (by (intro w hSw; (try dsimp only at hSw); go_simp; (try with_reducible rfl))) (by assumption) ?_
              simp only [Act.put, List.setIfInBounds_toArray, List.set_cons_zero, List.set_cons_succ]
              refine at_op 1 rfl (by kernel_rfl) (by rfl) (fun K hK => ?_)
              go_simp
              refine (s_waiting hS1).mono ?_
              rintro e w10 ⟨rfl, hS2⟩
              simp only [List.length_cons, List.length_nil, Int.natCast_add, Int.natCast_one, Int.natCast_zero]
              refine hK.out _ _ ?_ (fun hHeld => ?_)
              · exact pair_c hS2
              clear hK K
              try simp only [Act.put, List.setIfInBounds_toArray, List.set_cons_zero, List.set_cons_succ]
              refine take_op 10 rfl (by kernel_rfl) (by kernel_rfl) (by kernel_rfl) (fun _ _ _ h => h) (by rfl) (by (intro w hSw; (try dsimp only at hSw); go_simp; (try with_reducible rfl))) (by assumption) ?_
              simp only [Act.put, List.setIfInBounds_toArray, List.set_cons_zero, List.set_cons_succ]
              refine take_op 11 rfl (by kernel_rfl) (by kernel_rfl) (by kernel_rfl) (fun _ _ _ h => h) (by rfl) (by (intro w hSw; (try dsimp only at hSw); go_simp; (try with_reducible rfl))) (by assumption) ?_
              simp only [Act.put, List.setIfInBounds_toArray, List.set_cons_zero, List.set_cons_succ]
              refine take_op 12 rfl (by kernel_rfl) (by kernel_rfl) (by kernel_rfl) (fun _ _ _ h => h) (by rfl) (by (intro w hSw; (try dsimp only at hSw); go_simp; (try with_reducible rfl))) (by assumption) ?_
              simp only [Act.put, List.setIfInBounds_toArray, List.set_cons_zero, List.set_cons_succ]
              refine take_op 13 rfl (by kernel_rfl) (by kernel_rfl) (by kernel_rfl) (fun _ _ _ h => h) (by rfl) (by (intro w hSw; (try dsimp only at hSw); go_simp; (try with_reducible rfl))) (by assumption) ?_
              simp only [Act.put, List.setIfInBounds_toArray, List.set_cons_zero, List.set_cons_succ]
              refine take_op 14 rfl (by kernel_rfl) (by kernel_rfl) (by kernel_rfl) (fun _ _ _ h => h) (by rfl) (by (intro w hSw; (try dsimp only at hSw); go_simp; (try with_reducible rfl))) (by assumption) ?_
              simp only [Act.put, List.setIfInBounds_toArray, List.set_cons_zero, List.set_cons_succ]
              refine take_op 15 rfl (by kernel_rfl) (by kernel_rfl) (by kernel_rfl) (fun _ _ _ h => h) (by rfl) (by (intro w hSw; (try dsimp only at hSw); go_simp; (try with_reducible rfl))) (by assumption) ?_
              simp only [Act.put, List.setIfInBounds_toArray, List.set_cons_zero, List.set_cons_succ]
              refine take_op 16 rfl (by kernel_rfl) (by kernel_rfl) (by kernel_rfl) (fun _ _ _ h => h) (by rfl) (by (intro w hSw; (try dsimp only at hSw); go_simp; (try with_reducible rfl))) (by assumption) ?_
              simp only [Act.put, List.setIfInBounds_toArray, List.set_cons_zero, List.set_cons_succ]
              refine take_op 17 rfl (by kernel_rfl) (by kernel_rfl) (by kernel_rfl) (fun _ _ _ h => h) (by rfl) (by (intro w hSw; (try dsimp only at hSw); go_simp; (try with_reducible rfl))) (by assumption) ?_
              simp only [Act.put, List.setIfInBounds_toArray, List.set_cons_zero, List.set_cons_succ]
              refine take_op 18 rfl (by kernel_rfl) (by kernel_rfl) (by kernel_rfl) (fun _ _ _ h => h) (by rfl) (by (intro w hSw; (try dsimp only at hSw); go_simp; (try with_reducible rfl))) (by assumption) ?_
              simp only [Act.put, List.setIfInBounds_toArray, List.set_cons_zero, List.set_cons_succ]
              refine take_op 19 rfl (by kernel_rfl) (by kernel_rfl) (by kernel_rfl) (fun _ _ _ h => h) (by rfl) (by (intro w hSw; (try dsimp only at hSw); go_simp; (try with_reducible rfl))) (by assumption) ?_
              simp only [Act.put, List.setIfInBounds_toArray, List.set_cons_zero, List.set_cons_succ]
              refine take_op 20 rfl (by kernel_rfl) (by kernel_rfl) (by kernel_rfl) (fun _ _ _ h => h) (by rfl) (by (intro w hSw; (try dsimp only at hSw); go_simp; (try with_reducible rfl))) (by assumption) ?_
              simp only [Act.put, List.setIfInBounds_toArray, List.set_cons_zero, List.set_cons_succ]
              refine take_op 21 rfl (by kernel_rfl) (by kernel_rfl) (by kernel_rfl) (fun _ _ _ h => h) (by rfl) (by (intro w hSw; (try dsimp only at hSw); go_simp; (try with_reducible rfl))) (by assumption) ?_
              simp only [Act.put, List.setIfInBounds_toArray, List.set_cons_zero, List.set_cons_succ]
              refine take_op 22 rfl (by kernel_rfl) (by kernel_rfl) (by kernel_rfl) (fun _ _ _ h => h) (by rfl) (by (intro w hSw; (try dsimp only at hSw); go_simp; (try with_reducible rfl))) (by assumption) ?_
              simp only [Act.put, List.setIfInBounds_toArray, List.set_cons_zero, List.set_cons_succ]
              refine take_op 23 rfl (by kernel_rfl) (by kernel_rfl) (by kernel_rfl) (fun _ _ _ h => h) (by rfl) (by (intro w hSw; (try dsimp only at hSw); go_simp; (try with_reducible rfl))) (by assumption) ?_
              simp only [Act.put, List.setIfInBounds_toArray, List.set_cons_zero, List.set_cons_succ]
              refine take_op 24 rfl (by kernel_rfl) (by kernel_rfl) (by kernel_rfl) (fun _ _ _ h => h) (by rfl) (by (intro w hSw; (try dsimp only at hSw); go_simp; (try with_reducible rfl))) (by assumption) ?_
              simp only [Act.put, List.setIfInBounds_toArray, List.set_cons_zero, List.set_cons_succ]
              refine take_op 25 rfl (by kernel_rfl) (by kernel_rfl) (by kernel_rfl) (fun _ _ _ h => h) (by rfl) (by (intro w hSw; (try dsimp only at hSw); go_simp; (try with_reducible rfl))) (by assumption) ?_
              simp only [Act.put, List.setIfInBounds_toArray, List.set_cons_zero, List.set_cons_succ]
              refine take_op 26 rfl (by kernel_rfl) (by kernel_rfl) (by kernel_rfl) (fun _ _ _ h => h) (by rfl) (by (intro w hSw; (try dsimp only at hSw); go_simp; (try with_reducible rfl))) (by assumption) ?_
              simp only [Act.put, List.setIfInBounds_toArray, List.set_cons_zero, List.set_cons_succ]
              refine skip_op 27 rfl (by kernel_rfl) (by kernel_rfl) (by kernel_rfl) (fun _ _ _ h => h) (by rfl) (by assumption) ?_
              simp only [Act.put, List.setIfInBounds_toArray, List.set_cons_zero, List.set_cons_succ]
              refine skip_op 28 rfl (by kernel_rfl) (by kernel_rfl) (by kernel_rfl) (fun _ _ _ h => h) (by rfl) (by assumption) ?_
              simp only [Act.put, List.setIfInBounds_toArray, List.set_cons_zero, List.set_cons_succ]
              refine skip_op 29 rfl (by kernel_rfl) (by kernel_rfl) (by kernel_rfl) (fun _ _ _ h => h) (by rfl) (by assumption) ?_
              simp only [Act.put, List.setIfInBounds_toArray, List.set_cons_zero, List.set_cons_succ]
              refine skip_op 30 rfl (by kernel_rfl) (by kernel_rfl) (by kernel_rfl) (fun _ _ _ h => h) (by rfl) (by assumption) ?_
              simp only [Act.put, List.setIfInBounds_toArray, List.set_cons_zero, List.set_cons_succ]
              refine skip_op 31 rfl (by kernel_rfl) (by kernel_rfl) (by kernel_rfl) (fun _ _ _ h => h) (by rfl) (by assumption) ?_
              simp only [Act.put, List.setIfInBounds_toArray, List.set_cons_zero, List.set_cons_succ]
              refine skip_op 32 rfl (by kernel_rfl) (by kernel_rfl) (by kernel_rfl) (fun _ _ _ h => h) (by rfl) (by assumption) ?_
              simp only [Act.put, List.setIfInBounds_toArray, List.set_cons_zero, List.set_cons_succ]
              refine skip_op 33 rfl (by kernel_rfl) (by kernel_rfl) (by kernel_rfl) (fun _ _ _ h => h) (by rfl) (by assumption) ?_
              simp only [Act.put, List.setIfInBounds_toArray, List.set_cons_zero, List.set_cons_succ]
              refine skip_op 34 rfl (by kernel_rfl) (by kernel_rfl) (by kernel_rfl) (fun _ _ _ h => h) (by rfl) (by assumption) ?_
              simp only [Act.put, List.setIfInBounds_toArray, List.set_cons_zero, List.set_cons_succ]
              refine skip_op 35 rfl (by kernel_rfl) (by kernel_rfl) (by kernel_rfl) (fun _ _ _ h => h) (by rfl) (by assumption) ?_
              simp only [Act.put, List.setIfInBounds_toArray, List.set_cons_zero, List.set_cons_succ]
              refine skip_op 36 rfl (by kernel_rfl) (by kernel_rfl) (by kernel_rfl) (fun _ _ _ h => h) (by rfl) (by assumption) ?_
              simp only [Act.put, List.setIfInBounds_toArray, List.set_cons_zero, List.set_cons_succ]
              refine skip_op 37 rfl (by kernel_rfl) (by kernel_rfl) (by kernel_rfl) (fun _ _ _ h => h) (by rfl) (by assumption) ?_
              simp only [Act.put, List.setIfInBounds_toArray, List.set_cons_zero, List.set_cons_succ]
              refine take_op 38 rfl (by kernel_rfl) (by kernel_rfl) (by kernel_rfl) (fun _ _ _ h => h) (by rfl) (by (intro w hSw; (try dsimp only at hSw); go_simp; (try with_reducible rfl))) (by assumption) ?_
              simp only [Act.put, List.setIfInBounds_toArray, List.set_cons_zero, List.set_cons_succ]
              refine take_op 39 rfl (by kernel_rfl) (by kernel_rfl) (by kernel_rfl) (fun _ _ _ h => h) (by rfl) (by (intro w hSw; (try dsimp only at hSw); go_simp; (try with_reducible rfl))) (by assumption) ?_
              simp only [Act.put, List.setIfInBounds_toArray, List.set_cons_zero, List.set_cons_succ]
              refine wpAnyH_done (by kernel_rfl) ?_ _
              have hT : Two d x (.slice none 0 0) (.slice a' ms.length cap') (.slice none 0 0) [] w0 w10 [] m1 f2 m2 g2 [] f2 g2 := Two.dropL (L := [(w9.heap.size, _), (wr.heap.size, _)]) ⟨_, _, hS2, HR.out, hl4', hrd⟩
              clear hS hS1 hS2 hHeld
              go_wp2_with fail
              go_loopw [15] (fun vj wj => ∃ j : Nat, vj = .int .i64 ((j : Int) - 1) ∧ j ≤ ms.length + 2 ∧ Two d x (.slice none 0 0) (.slice a' ms.length cap') (.slice none 0 0) [] w0 wj [] m1 f2 m2 g2 [] f2 g2) (fun vj _ => (ms.length + 2) - ((intOf vj) + 1).toNat)
              case atStart => exact ⟨0, by first | rfl | simp, by omega, hT⟩
              case round =>
                clear hT
                obtain ⟨j, rfl, hj, hT⟩ := hrel
                by_cases hjl : j ≤ ms.length + 1
                · have hjl' : (j : Int) - 1 ≤ ms.length := by omega
                  have hji : I64 ((j : Int) - 1) := i64_pred (by omega)
                  obtain ⟨ya, hya⟩ : ∃ y, (f2 ((j : Int) - 1)).getD ⟨#[]⟩ = y := ⟨_, rfl⟩
                  obtain ⟨za, hza⟩ : ∃ z, (f2 ((j : Int) - 1)).isSome = z := ⟨_, rfl⟩
                  obtain ⟨yb, hyb⟩ : ∃ y, (g2 ((j : Int) - 1)).getD ⟨#[]⟩ = y := ⟨_, rfl⟩
                  obtain ⟨zb, hzb⟩ : ∃ z, (g2 ((j : Int) - 1)).isSome = z := ⟨_, rfl⟩
                  have HYA := Lib.hid hya
                  have HZA := Lib.hid hza
                  have HYB := Lib.hid hyb
                  have HZB := Lib.hid hzb
                  clear hya hza hyb hzb
                  go_wp2_with fail
                  refine (t_state hT _ hji HYA.out HZA.out).mono ?_
                  rintro e w11 ⟨rfl, hT⟩
                  go_wp2_with fail
                  refine (t_rstate hT of2 _ HYA.out HZA.out).mono ?_
                  rintro e w12 ⟨rfl, hT⟩
                  go_wp2_with fail
                  refine (t_read hT _ hji HYB.out HZB.out).mono ?_
                  rintro e w13 ⟨rfl, hT⟩
                  go_wp2_with fail
                  refine (t_rread hT og2 _ HYB.out HZB.out).mono ?_
                  rintro e w14 ⟨rfl, hT⟩
                  go_wp2_with fail
                  go_roundw
                  case rel => exact ⟨j + 1, by first | go_num | (simp; omega), by omega, hT⟩
                  case measure => (simp [intOf]; try omega)
                · have hjl' : (ms.length : Int) < (j : Int) - 1 := by omega
                  go_wp2_with fail
                  go_roundw
                  case rel => exact ⟨k + 1, m1, m2, _, f2, g2, by go_num, by omega, by omega, by omega, ev2, of2, og2, hT⟩
                  case measure => (simp [intOf]; try omega)
        · refine (s_event hS).mono ?_
          rintro e w9 ⟨rfl, hS⟩
          simp only [headOf, evV]
          rcases hR with ⟨_, hh, _⟩ | ⟨gb, cp, go, rfl, hcp, rfl, hgo⟩
          · cases hh
          have HR := Lib.hid (show Rds [(gb, go)] (.slice (some ⟨gb, 0, none⟩) (y :: l2).length cp) (y :: l2) from .inr ⟨gb, cp, go, rfl, hcp, rfl, hgo⟩)
          have HE := Lib.hid (fun (w' : World) (h : w'.heap[gb]? = some go) => hgo w' h 0 y rfl)
          simp at hcp
          clear hgo
          as_aux_lemma =>
            go_wp2_with fail
            have hS1 := (hS.alloc (.cells #[.int .i64 y.msg, .string y.data] 29)).keep ((Below.refl _ _).drew)
            refine wp_region_held_drew (S := fun u => u.cell? ⟨x.r, 16, none⟩ = some (.pointer (some ⟨x.bq, 0, none⟩)) ∧ u.cell? ⟨x.bq, 1, none⟩ = some (.slice (some ⟨gb, 0, none⟩) (l2.length + 1) cp) ∧ u.cell? ⟨w9.heap.size, 0, none⟩ = some (.int .i64 y.msg) ∧ u.cell? ⟨w9.heap.size, 1, none⟩ = some (.string y.data) ∧ u.cell? ⟨gb, 0, none⟩ = some (.int .i64 y.msg) ∧ u.cell? ⟨gb, 1, none⟩ = some (.string y.data)) (by kernel_rfl) (⟨(pair_c hS1).1, (pair_c hS1).2.1, (pair_c hS1).2.2.1, (pair_c hS1).2.2.2, (HE.out _ (hS1.get (x := (gb, go)) (by simp))).1, (HE.out _ (hS1.get (x := (gb, go)) (by simp))).2⟩) (fun hHeld => ?_)
            refine take_op 0 rfl (by kernel_rfl) (by kernel_rfl) (by kernel_rfl) (fun _ _ _ h => h) (by rfl) (by (intro w hSw; (try dsimp only at hSw); go_simp; (try with_reducible rfl))) (by assumption) ?_
            simp only [Act.put, List.setIfInBounds_toArray, List.set_cons_zero, List.set_cons_succ]
            refine take_op 2 rfl (by kernel_rfl) (by kernel_rfl) (by kernel_rfl) (fun _ _ _ h => h) (by rfl) (by (intro w hSw; (try dsimp only at hSw); go_simp; (try with_reducible rfl))) (by assumption) ?_
            simp only [Act.put, List.setIfInBounds_toArray, List.set_cons_zero, List.set_cons_succ]
            refine take_op 3 rfl (by kernel_rfl) (by kernel_rfl) (by kernel_rfl) (fun _ _ _ h => h) (by rfl) (by (intro w hSw; (try dsimp only at hSw); go_simp; (try with_reducible rfl))) (by assumption) ?_
            simp only [Act.put, List.setIfInBounds_toArray, List.set_cons_zero, List.set_cons_succ]
            refine take_op 4 rfl (by kernel_rfl) (by kernel_rfl) (by kernel_rfl) (fun _ _ _ h => h) (by rfl) (by (intro w hSw; (try dsimp only at hSw); go_simp; (try with_reducible rfl))) (by assumption) ?_
            simp only [Act.put, List.setIfInBounds_toArray, List.set_cons_zero, List.set_cons_succ]
            refine take_op 5 rfl (by kernel_rfl) (by kernel_rfl) (by kernel_rfl) (fun _ _ _ h => h) (by rfl) (by (intro w hSw; (try dsimp only at hSw); go_simp; (try with_reducible rfl))) (by assumption) ?_
            simp only [Act.put, List.setIfInBounds_toArray, List.set_cons_zero, List.set_cons_succ]
            refine take_op 6 rfl (by kernel_rfl) (by kernel_rfl) (by kernel_rfl) (fun _ _ _ h => h) (by rfl) (by (intro w hSw; (try dsimp only at hSw); go_simp; (try with_reducible rfl))) (by assumption) ?_
            simp only [Act.put, List.setIfInBounds_toArray, List.set_cons_zero, List.set_cons_succ]
            refine take_op 7 rfl (by kernel_rfl) (by kernel_rfl) (by kernel_rfl) (fun _ _ _ h => h) (by rfl) (by (intro w hSw; (try dsimp only at hSw); go_simp; (try with_reducible rfl))) (by assumption) ?_
            simp only [Act.put, List.setIfInBounds_toArray, List.set_cons_zero, List.set_cons_succ]
            refine take_op 8 rfl (by kernel_rfl) (by kernel_rfl) (by kernel_rfl) (fun _ _ _ h => h) (by rfl) (by (intro w hSw; (try dsimp only at hSw); go_simp; (try with_reducible rfl))) (by assumption) ?_
            simp only [Act.put, List.setIfInBounds_toArray, List.set_cons_zero, List.set_cons_succ]
            refine take_op 9 rfl (by kernel_rfl) (by kernel_rfl) (by kernel_rfl) (fun _ _ _ h => h) (by rfl) (by (intro w hSw; (try dsimp only at hSw); go_simp; (try with_reducible rfl))) (by assumption) ?_
            simp only [Act.put, List.setIfInBounds_toArray, List.set_cons_zero, List.set_cons_succ]
            refine at_op 1 rfl (by kernel_rfl) (by rfl) (fun K hK => ?_)
            go_simp
            refine (s_waiting hS1).mono ?_
            rintro e w10 ⟨rfl, hS2⟩
            simp only [List.length_cons, List.length_nil, Int.natCast_add, Int.natCast_one, Int.natCast_zero]
            refine hK.out _ _ ?_ (fun hHeld => ?_)
            · exact ⟨(pair_c hS2).1, (pair_c hS2).2.1, (pair_c hS2).2.2.1, (pair_c hS2).2.2.2, (HE.out _ (hS2.get (x := (gb, go)) (by simp))).1, (HE.out _ (hS2.get (x := (gb, go)) (by simp))).2⟩
            clear hK K
            try simp only [Act.put, List.setIfInBounds_toArray, List.set_cons_zero, List.set_cons_succ]
            refine take_op 10 rfl (by kernel_rfl) (by kernel_rfl) (by kernel_rfl) (fun _ _ _ h => h) (by rfl) (by (intro w hSw; (try dsimp only at hSw); go_simp; (try with_reducible rfl))) (by assumption) ?_
            simp only [Act.put, List.setIfInBounds_toArray, List.set_cons_zero, List.set_cons_succ]
            refine take_op 11 rfl (by kernel_rfl) (by kernel_rfl) (by kernel_rfl) (fun _ _ _ h => h) (by rfl) (by (intro w hSw; (try dsimp only at hSw); go_simp; (try with_reducible rfl))) (by assumption) ?_
            simp only [Act.put, List.setIfInBounds_toArray, List.set_cons_zero, List.set_cons_succ]
            refine take_op 12 rfl (by kernel_rfl) (by kernel_rfl) (by kernel_rfl) (fun _ _ _ h => h) (by rfl) (by (intro w hSw; (try dsimp only at hSw); go_simp; (try with_reducible rfl))) (by assumption) ?_
            simp only [Act.put, List.setIfInBounds_toArray, List.set_cons_zero, List.set_cons_succ]
            refine take_op 13 rfl (by kernel_rfl) (by kernel_rfl) (by kernel_rfl) (fun _ _ _ h => h) (by rfl) (by (intro w hSw; (try dsimp only at hSw); go_simp; (try with_reducible rfl))) (by assumption) ?_
            simp only [Act.put, List.setIfInBounds_toArray, List.set_cons_zero, List.set_cons_succ]
            refine take_op 14 rfl (by kernel_rfl) (by kernel_rfl) (by kernel_rfl) (fun _ _ _ h => h) (by rfl) (by (intro w hSw; (try dsimp only at hSw); go_simp; (try with_reducible rfl))) (by assumption) ?_
            simp only [Act.put, List.setIfInBounds_toArray, List.set_cons_zero, List.set_cons_succ]
            refine take_op 15 rfl (by kernel_rfl) (by kernel_rfl) (by kernel_rfl) (fun _ _ _ h => h) (by rfl) (by (intro w hSw; (try dsimp only at hSw); go_simp; (try with_reducible rfl))) (by assumption) ?_
            simp only [Act.put, List.setIfInBounds_toArray, List.set_cons_zero, List.set_cons_succ]
            refine take_op 16 rfl (by kernel_rfl) (by kernel_rfl) (by kernel_rfl) (fun _ _ _ h => h) (by rfl) (by (intro w hSw; (try dsimp only at hSw); go_simp; (try with_reducible rfl))) (by assumption) ?_
            simp only [Act.put, List.setIfInBounds_toArray, List.set_cons_zero, List.set_cons_succ]
            refine take_op 17 rfl (by kernel_rfl) (by kernel_rfl) (by kernel_rfl) (fun _ _ _ h => h) (by rfl) (by (intro w hSw; (try dsimp only at hSw); go_simp; (try with_reducible rfl))) (by assumption) ?_
            simp only [Act.put, List.setIfInBounds_toArray, List.set_cons_zero, List.set_cons_succ]
            refine take_op 18 rfl (by kernel_rfl) (by kernel_rfl) (by kernel_rfl) (fun _ _ _ h => h) (by rfl) (by (intro w hSw; (try dsimp only at hSw); go_simp; (try with_reducible rfl))) (by assumption) ?_
            simp only [Act.put, List.setIfInBounds_toArray, List.set_cons_zero, List.set_cons_succ]
            refine take_op 19 rfl (by kernel_rfl) (by kernel_rfl) (by kernel_rfl) (fun _ _ _ h => h) (by rfl) (by (intro w hSw; (try dsimp only at hSw); go_simp; (try with_reducible rfl))) (by assumption) ?_
            simp only [Act.put, List.setIfInBounds_toArray, List.set_cons_zero, List.set_cons_succ]
            refine take_op 20 rfl (by kernel_rfl) (by kernel_rfl) (by kernel_rfl) (fun _ _ _ h => h) (by rfl) (by (intro w hSw; (try dsimp only at hSw); go_simp; (try with_reducible rfl))) (by assumption) ?_
            simp only [Act.put, List.setIfInBounds_toArray, List.set_cons_zero, List.set_cons_succ]
            refine take_op 21 rfl (by kernel_rfl) (by kernel_rfl) (by kernel_rfl) (fun _ _ _ h => h) (by rfl) (by (intro w hSw; (try dsimp only at hSw); go_simp; (try with_reducible rfl))) (by assumption) ?_
            simp only [Act.put, List.setIfInBounds_toArray, List.set_cons_zero, List.set_cons_succ]
            refine take_op 22 rfl (by kernel_rfl) (by kernel_rfl) (by kernel_rfl) (fun _ _ _ h => h) (by rfl) (by (intro w hSw; (try dsimp only at hSw); go_simp; (try with_reducible rfl))) (by assumption) ?_
            simp only [Act.put, List.setIfInBounds_toArray, List.set_cons_zero, List.set_cons_succ]
            refine take_op 23 rfl (by kernel_rfl) (by kernel_rfl) (by kernel_rfl) (fun _ _ _ h => h) (by rfl) (by (intro w hSw; (try dsimp only at hSw); go_simp; (try with_reducible rfl))) (by assumption) ?_
            simp only [Act.put, List.setIfInBounds_toArray, List.set_cons_zero, List.set_cons_succ]
            refine take_op 24 rfl (by kernel_rfl) (by kernel_rfl) (by kernel_rfl) (fun _ _ _ h => h) (by rfl) (by (intro w hSw; (try dsimp only at hSw); go_simp; (try with_reducible rfl))) (by assumption) ?_
            simp only [Act.put, List.setIfInBounds_toArray, List.set_cons_zero, List.set_cons_succ]
            refine take_op 25 rfl (by kernel_rfl) (by kernel_rfl) (by kernel_rfl) (fun _ _ _ h => h) (by rfl) (by (intro w hSw; (try dsimp only at hSw); go_simp; (try with_reducible rfl))) (by assumption) ?_
            simp only [Act.put, List.setIfInBounds_toArray, List.set_cons_zero, List.set_cons_succ]
            refine take_op 26 rfl (by kernel_rfl) (by kernel_rfl) (by kernel_rfl) (fun _ _ _ h => h) (by rfl) (by (intro w hSw; (try dsimp only at hSw); go_simp; (try with_reducible rfl))) (by assumption) ?_
            simp only [Act.put, List.setIfInBounds_toArray, List.set_cons_zero, List.set_cons_succ]
            refine take_op 27 rfl (by kernel_rfl) (by kernel_rfl) (by kernel_rfl) (fun _ _ _ h => h) (by rfl) (by (intro w hSw; (try dsimp only at hSw); go_simp; (try with_reducible rfl))) (by assumption) ?_
            simp only [Act.put, List.setIfInBounds_toArray, List.set_cons_zero, List.set_cons_succ]
            refine take_op 28 rfl (by kernel_rfl) (by kernel_rfl) (by kernel_rfl) (fun _ _ _ h => h) (by rfl) (by (intro w hSw; (try dsimp only at hSw); go_simp; (try with_reducible rfl))) (by assumption) ?_
            simp only [Act.put, List.setIfInBounds_toArray, List.set_cons_zero, List.set_cons_succ]
            refine take_op 29 rfl (by kernel_rfl) (by kernel_rfl) (by kernel_rfl) (fun _ _ _ h => h) (by rfl) (by (intro w hSw; (try dsimp only at hSw); go_simp; (try with_reducible rfl))) (by assumption) ?_
            simp only [Act.put, List.setIfInBounds_toArray, List.set_cons_zero, List.set_cons_succ]
            refine take_op 30 rfl (by kernel_rfl) (by kernel_rfl) (by kernel_rfl) (fun _ _ _ h => h) (by rfl) (by (intro w hSw; (try dsimp only at hSw); go_simp; (try with_reducible rfl))) (by assumption) ?_
            simp only [Act.put, List.setIfInBounds_toArray, List.set_cons_zero, List.set_cons_succ]
            refine take_op 31 rfl (by kernel_rfl) (by kernel_rfl) (by kernel_rfl) (fun _ _ _ h => h) (by rfl) (by (intro w hSw; (try dsimp only at hSw); go_simp; (try with_reducible rfl))) (by assumption) ?_
            simp only [Act.put, List.setIfInBounds_toArray, List.set_cons_zero, List.set_cons_succ]
            refine take_op 32 rfl (by kernel_rfl) (by kernel_rfl) (by kernel_rfl) (fun _ _ _ h => h) (by rfl) (by (intro w hSw; (try dsimp only at hSw); go_simp; (try with_reducible rfl))) (by assumption) ?_
            simp only [Act.put, List.setIfInBounds_toArray, List.set_cons_zero, List.set_cons_succ]
            refine take_op 33 rfl (by kernel_rfl) (by kernel_rfl) (by kernel_rfl) (fun _ _ _ h => h) (by rfl) (by (intro w hSw; (try dsimp only at hSw); go_simp; (try with_reducible rfl))) (by assumption) ?_
            simp only [Act.put, List.setIfInBounds_toArray, List.set_cons_zero, List.set_cons_succ]
            refine take_op 34 rfl (by kernel_rfl) (by kernel_rfl) (by kernel_rfl) (fun _ _ _ h => h) (by rfl) (by (intro w hSw; (try dsimp only at hSw); go_simp; (try with_reducible rfl))) (by assumption) ?_
            simp only [Act.put, List.setIfInBounds_toArray, List.set_cons_zero, List.set_cons_succ]
            refine take_op 35 rfl (by kernel_rfl) (by kernel_rfl) (by kernel_rfl) (fun _ _ _ h => h) (by rfl) (by (intro w hSw; (try dsimp only at hSw); go_simp; (try with_reducible rfl))) (by assumption) ?_
            simp only [Act.put, List.setIfInBounds_toArray, List.set_cons_zero, List.set_cons_succ]
            refine take_op 36 rfl (by kernel_rfl) (by kernel_rfl) (by kernel_rfl) (fun _ _ _ h => h) (by rfl) (by (intro w hSw; (try dsimp only at hSw); go_simp; (try with_reducible rfl))) (by assumption) ?_
            simp only [Act.put, List.setIfInBounds_toArray, List.set_cons_zero, List.set_cons_succ]
            refine take_op 37 rfl (by kernel_rfl) (by kernel_rfl) (by kernel_rfl) (fun _ _ _ h => h) (by rfl) (by (intro w hSw; (try dsimp only at hSw); go_simp; (try with_reducible rfl))) (by assumption) ?_
            simp only [Act.put, List.setIfInBounds_toArray, List.set_cons_zero, List.set_cons_succ]
            refine take_op 38 rfl (by kernel_rfl) (by kernel_rfl) (by kernel_rfl) (fun _ _ _ h => h) (by rfl) (by (intro w hSw; (try dsimp only at hSw); go_simp; (try with_reducible rfl))) (by assumption) ?_
            simp only [Act.put, List.setIfInBounds_toArray, List.set_cons_zero, List.set_cons_succ]
            refine take_op 39 rfl (by kernel_rfl) (by kernel_rfl) (by kernel_rfl) (fun _ _ _ h => h) (by rfl) (by (intro w hSw; (try dsimp only at hSw); go_simp; (try with_reducible rfl))) (by assumption) ?_
            simp only [Act.put, List.setIfInBounds_toArray, List.set_cons_zero, List.set_cons_succ]
            refine wpAnyH_done (by kernel_rfl) ?_ _
            have hT : Two d x (.slice none 0 0) (.slice a' ms.length cap') (.slice none 0 0) [] w0 w10 (y :: l2) m1 f2 m2 g2 (y :: l2) f2 g2 := Two.dropL (L := [(w9.heap.size, _), (wr.heap.size, _)]) ⟨_, _, hS2, HR.out, hl4', hrd⟩
            clear hS hS1 hS2 hHeld
            go_wp2_with fail
            go_loopw [15] (fun vj wj => ∃ j : Nat, vj = .int .i64 ((j : Int) - 1) ∧ j ≤ ms.length + 2 ∧ Two d x (.slice none 0 0) (.slice a' ms.length cap') (.slice none 0 0) [] w0 wj (y :: l2) m1 f2 m2 g2 (y :: l2) f2 g2) (fun vj _ => (ms.length + 2) - ((intOf vj) + 1).toNat)
            case atStart => exact ⟨0, by first | rfl | simp, by omega, hT⟩
            case round =>
              clear hT
              obtain ⟨j, rfl, hj, hT⟩ := hrel
              by_cases hjl : j ≤ ms.length + 1
              · have hjl' : (j : Int) - 1 ≤ ms.length := by omega
                have hji : I64 ((j : Int) - 1) := i64_pred (by omega)
                obtain ⟨ya, hya⟩ : ∃ y, (f2 ((j : Int) - 1)).getD ⟨#[]⟩ = y := ⟨_, rfl⟩
                obtain ⟨za, hza⟩ : ∃ z, (f2 ((j : Int) - 1)).isSome = z := ⟨_, rfl⟩
                obtain ⟨yb, hyb⟩ : ∃ y, (g2 ((j : Int) - 1)).getD ⟨#[]⟩ = y := ⟨_, rfl⟩
                obtain ⟨zb, hzb⟩ : ∃ z, (g2 ((j : Int) - 1)).isSome = z := ⟨_, rfl⟩
                have HYA := Lib.hid hya
                have HZA := Lib.hid hza
                have HYB := Lib.hid hyb
                have HZB := Lib.hid hzb
                clear hya hza hyb hzb
                go_wp2_with fail
                refine (t_state hT _ hji HYA.out HZA.out).mono ?_
                rintro e w11 ⟨rfl, hT⟩
                go_wp2_with fail
                refine (t_rstate hT of2 _ HYA.out HZA.out).mono ?_
                rintro e w12 ⟨rfl, hT⟩
                go_wp2_with fail
                refine (t_read hT _ hji HYB.out HZB.out).mono ?_
                rintro e w13 ⟨rfl, hT⟩
                go_wp2_with fail
                refine (t_rread hT og2 _ HYB.out HZB.out).mono ?_
                rintro e w14 ⟨rfl, hT⟩
                go_wp2_with fail
                go_roundw
                case rel => exact ⟨j + 1, by first | go_num | (simp; omega), by omega, hT⟩
                case measure => (simp [intOf]; try omega)
              · have hjl' : (ms.length : Int) < (j : Int) - 1 := by omega
                go_wp2_with fail
                go_roundw
                case rel => exact ⟨k + 1, m1, m2, _, f2, g2, by go_num, by omega, by omega, by omega, ev2, of2, og2, hT⟩
                case measure => (simp [intOf]; try omega)
      · as_aux_lemma =>
        obtain ⟨g2, hg2⟩ : ∃ g2, gotF d.m g mg dt = g2 := ⟨_, rfl⟩
        go_wp2_with fail
        all_goals try (exfalso; omega)
        refine (t_got hT mg hw1 dt (by unfold maxLen; omega) hw2).mono ?_
        rintro e w5 ⟨⟨v5, rfl⟩, n, hn, hT⟩
        rw [hg2] at hT
        have hb := hT.get (p := (wr.heap.size, (.cells #[.int .i64 wh, .int .i64 mg, .string dt] 78 (0, 0)))) (by simp)
        have D0 := cell_of hb 0
        have D1 := cell_of hb 1
        have D2 := cell_of hb 2
        simp at D0 D1 D2
        clear hb B0 B1 B2
        go_wp2_with fail
        refine (r_take_any hT mg dt).mono ?_
        rintro e w6 ⟨⟨v6, rfl⟩, hT⟩
        rw [hg2] at hT
        have HP := Lib.hid (show ∃ l2 m1 f2 m2 g2, m1 ≤ k + 1 ∧ m2 ≤ k + 1 ∧ EvAll d.m l2 ∧ OutN d.m f2 ∧ OutN d.m g2 ∧ Two d x (.slice none 0 0) (.slice a' ms.length cap') (.slice none 0 0) (dB dc l s r p1 p2 ++ [(wr.heap.size, (.cells #[.int .i64 wh, .int .i64 mg, .string dt] 78 (0, 0)))]) w0 w6 l2 m1 f2 m2 g2 l2 f2 g2 from ⟨l, n1, f, n, g2, by omega, by omega, EV.out, OF.out, hg2 ▸ OG.out.gotF, hT⟩)
        clear hT hg2 D0 D1 D2

        obtain ⟨l2, m1, f2, m2, g2, hm1, hm2, ev2, of2, og2, hT⟩ := HP.out
        clear HP
        go_wp2_with fail
        refine (t_side (R := fun e => ∃ v, e = .returned v) (F := 27) (args := #[.pointer (some ⟨dc.o, 0, none⟩), .int .i64 0, .string otherS]) (fun E hE => (s_send_any hE 0 (by decide) otherS (by unfold maxLen; omega)).mono (by rintro e w' ⟨he, n, hn, hS⟩; exact ⟨⟨_, he⟩, _, n, _, _, _, hn, by omega, hS⟩)) hT hp1 hp2 hcr hl4).mono ?_
        rintro e w7 ⟨⟨v7, rfl⟩, lc, s7, r7, q1, q2, k1, fc, k2, gc, hk1, hk2, hp1, hp2, hcr, hl4, hT⟩
        go_wp2_with fail
        refine (t_side (R := fun e => ∃ v, e = .returned v) (F := 31) (args := #[.pointer (some ⟨dc.o, 0, none⟩), .int .i64 0, .string otherS]) (fun E hE => (s_got_any hE 0 (by decide) otherS (by unfold maxLen; omega) (by decide)).mono (by rintro e w' ⟨he, n, hn, hS⟩; exact ⟨he, _, _, _, n, _, by omega, hn, hS⟩)) hT hp1 hp2 hcr hl4).mono ?_
        rintro e w8 ⟨⟨v7, rfl⟩, lc, s7, r7, q1, q2, k1, fc, k2, gc, hk1, hk2, hp1, hp2, hcr, hl4, hT⟩
        replace hT := hT.dropL
        clear hp1 hp2 hcr hl4
        go_wp2_with fail
        obtain ⟨v, G, hS, hR, hl4', hrd⟩ := hT
        rcases l2 with _ | ⟨y, l2⟩
        · refine (s_event hS).mono ?_
          rintro e w9 ⟨rfl, hS⟩
          simp only [headOf, evV]
          rcases hR with ⟨rfl, _, rfl⟩ | ⟨gb, cp, go, rfl, hcp, rfl, hgo⟩
          · have HR := Lib.hid (show Rds [] (.slice none 0 0) [] from .inl ⟨rfl, rfl, rfl⟩)
            as_aux_lemma =>
              go_wp2_with fail
              have hS1 := (hS.alloc (.cells #[.int .i64 0, .string ⟨#[]⟩] 29)).keep ((Below.refl _ _).drew)
              refine wp_region_held_drew (S := fun u => u.cell? ⟨x.r, 16, none⟩ = some (.pointer (some ⟨x.bq, 0, none⟩)) ∧ u.cell? ⟨x.bq, 1, none⟩ = some (.slice none 0 0) ∧ u.cell? ⟨w9.heap.size, 0, none⟩ = some (.int .i64 0) ∧ u.cell? ⟨w9.heap.size, 1, none⟩ = some (.string ⟨#[]⟩)) (by kernel_rfl) (pair_c hS1) (fun hHeld => ?_)
              refine take_op 0 rfl (by kernel_rfl) (by kernel_rfl) (by kernel_rfl) (fun _ _ _ h => h) (by rfl) (by (intro w hSw; (try dsimp only at hSw); go_simp; (try with_reducible rfl))) (by assumption) ?_
              simp only [Act.put, List.setIfInBounds_toArray, List.set_cons_zero, List.set_cons_succ]
              refine take_op 2 rfl (by kernel_rfl) (by kernel_rfl) (by kernel_rfl) (fun _ _ _ h => h) (by rfl) (by (intro w hSw; (try dsimp only at hSw); go_simp; (try with_reducible rfl))) (by assumption) ?_
              simp only [Act.put, List.setIfInBounds_toArray, List.set_cons_zero, List.set_cons_succ]
              refine take_op 3 rfl (by kernel_rfl) (by kernel_rfl) (by kernel_rfl) (fun _ _ _ h => h) (by rfl) (by (intro w hSw; (try dsimp only at hSw); go_simp; (try with_reducible rfl))) (by assumption) ?_
              simp only [Act.put, List.setIfInBounds_toArray, List.set_cons_zero, List.set_cons_succ]
              refine take_op 4 rfl (by kernel_rfl) (by kernel_rfl) (by kernel_rfl) (fun _ _ _ h => h) (by rfl) (by (intro w hSw; (try dsimp only at hSw); go_simp; (try with_reducible rfl))) (by assumption) ?_
              simp only [Act.put, List.setIfInBounds_toArray, List.set_cons_zero, List.set_cons_succ]
              refine take_op 5 rfl (by kernel_rfl) (by kernel_rfl) (by kernel_rfl) (fun _ _ _ h => h) (by rfl) (by (intro w hSw; (try dsimp only at hSw); go_simp; (try with_reducible rfl))) (by assumption) ?_
              simp only [Act.put, List.setIfInBounds_toArray, List.set_cons_zero, List.set_cons_succ]
              refine take_op 6 rfl (by kernel_rfl) (by kernel_rfl) (by kernel_rfl) (fun _ _ _ h => h) (by rfl) (by (intro w hSw; (try dsimp only at hSw); go_simp; (try with_reducible rfl))) (by assumption) ?_
              simp only [Act.put, List.setIfInBounds_toArray, List.set_cons_zero, List.set_cons_succ]
              refine take_op 7 rfl (by kernel_rfl) (by kernel_rfl) (by kernel_rfl) (fun _ _ _ h => h) (by rfl) (by (intro w hSw; (try dsimp only at hSw); go_simp; (try with_reducible rfl))) (by assumption) ?_
              simp only [Act.put, List.setIfInBounds_toArray, List.set_cons_zero, List.set_cons_succ]
              refine take_op 8 rfl (by kernel_rfl) (by kernel_rfl) (by kernel_rfl) (fun _ _ _ h => h) (by rfl) (by (intro w hSw; (try dsimp only at hSw); go_simp; (try with_reducible rfl))) (by assumption) ?_
              simp only [Act.put, List.setIfInBounds_toArray, List.set_cons_zero, List.set_cons_succ]
              refine take_op 9 rfl (by kernel_rfl) (by kernel_rfl) (by kernel_rfl) (fun _ _ _ h => h) (by rfl) (by (intro w hSw; (try dsimp only at hSw); go_simp; (try with_reducible rfl))) (by assumption) ?_
              simp only [Act.put, List.setIfInBounds_toArray, List.set_cons_zero, List.set_cons_succ]
              refine at_op 1 rfl (by kernel_rfl) (by rfl) (fun K hK => ?_)
              go_simp
              refine (s_waiting hS1).mono ?_
              rintro e w10 ⟨rfl, hS2⟩
              simp only [List.length_cons, List.length_nil, Int.natCast_add, Int.natCast_one, Int.natCast_zero]
              refine hK.out _ _ ?_ (fun hHeld => ?_)
              · exact pair_c hS2
              clear hK K
              try simp only [Act.put, List.setIfInBounds_toArray, List.set_cons_zero, List.set_cons_succ]
              refine take_op 10 rfl (by kernel_rfl) (by kernel_rfl) (by kernel_rfl) (fun _ _ _ h => h) (by rfl) (by (intro w hSw; (try dsimp only at hSw); go_simp; (try with_reducible rfl))) (by assumption) ?_
              simp only [Act.put, List.setIfInBounds_toArray, List.set_cons_zero, List.set_cons_succ]
              refine take_op 11 rfl (by kernel_rfl) (by kernel_rfl) (by kernel_rfl) (fun _ _ _ h => h) (by rfl) (by (intro w hSw; (try dsimp only at hSw); go_simp; (try with_reducible rfl))) (by assumption) ?_
              simp only [Act.put, List.setIfInBounds_toArray, List.set_cons_zero, List.set_cons_succ]
              refine take_op 12 rfl (by kernel_rfl) (by kernel_rfl) (by kernel_rfl) (fun _ _ _ h => h) (by rfl) (by (intro w hSw; (try dsimp only at hSw); go_simp; (try with_reducible rfl))) (by assumption) ?_
              simp only [Act.put, List.setIfInBounds_toArray, List.set_cons_zero, List.set_cons_succ]
              refine take_op 13 rfl (by kernel_rfl) (by kernel_rfl) (by kernel_rfl) (fun _ _ _ h => h) (by rfl) (by (intro w hSw; (try dsimp only at hSw); go_simp; (try with_reducible rfl))) (by assumption) ?_
              simp only [Act.put, List.setIfInBounds_toArray, List.set_cons_zero, List.set_cons_succ]
              refine take_op 14 rfl (by kernel_rfl) (by kernel_rfl) (by kernel_rfl) (fun _ _ _ h => h) (by rfl) (by (intro w hSw; (try dsimp only at hSw); go_simp; (try with_reducible rfl))) (by assumption) ?_
              simp only [Act.put, List.setIfInBounds_toArray, List.set_cons_zero, List.set_cons_succ]
              refine take_op 15 rfl (by kernel_rfl) (by kernel_rfl) (by kernel_rfl) (fun _ _ _ h => h) (by rfl) (by (intro w hSw; (try dsimp only at hSw); go_simp; (try with_reducible rfl))) (by assumption) ?_
              simp only [Act.put, List.setIfInBounds_toArray, List.set_cons_zero, List.set_cons_succ]
              refine take_op 16 rfl (by kernel_rfl) (by kernel_rfl) (by kernel_rfl) (fun _ _ _ h => h) (by rfl) (by (intro w hSw; (try dsimp only at hSw); go_simp; (try with_reducible rfl))) (by assumption) ?_
              simp only [Act.put, List.setIfInBounds_toArray, List.set_cons_zero, List.set_cons_succ]
              refine take_op 17 rfl (by kernel_rfl) (by kernel_rfl) (by kernel_rfl) (fun _ _ _ h => h) (by rfl) (by (intro w hSw; (try dsimp only at hSw); go_simp; (try with_reducible rfl))) (by assumption) ?_
              simp only [Act.put, List.setIfInBounds_toArray, List.set_cons_zero, List.set_cons_succ]
              refine take_op 18 rfl (by kernel_rfl) (by kernel_rfl) (by kernel_rfl) (fun _ _ _ h => h) (by rfl) (by (intro w hSw; (try dsimp only at hSw); go_simp; (try with_reducible rfl))) (by assumption) ?_
              simp only [Act.put, List.setIfInBounds_toArray, List.set_cons_zero, List.set_cons_succ]
              refine take_op 19 rfl (by kernel_rfl) (by kernel_rfl) (by kernel_rfl) (fun _ _ _ h => h) (by rfl) (by (intro w hSw; (try dsimp only at hSw); go_simp; (try with_reducible rfl))) (by assumption) ?_
              simp only [Act.put, List.setIfInBounds_toArray, List.set_cons_zero, List.set_cons_succ]
              refine take_op 20 rfl (by kernel_rfl) (by kernel_rfl) (by kernel_rfl) (fun _ _ _ h => h) (by rfl) (by (intro w hSw; (try dsimp only at hSw); go_simp; (try with_reducible rfl))) (by assumption) ?_
              simp only [Act.put, List.setIfInBounds_toArray, List.set_cons_zero, List.set_cons_succ]
              refine take_op 21 rfl (by kernel_rfl) (by kernel_rfl) (by kernel_rfl) (fun _ _ _ h => h) (by rfl) (by (intro w hSw; (try dsimp only at hSw); go_simp; (try with_reducible rfl))) (by assumption) ?_
              simp only [Act.put, List.setIfInBounds_toArray, List.set_cons_zero, List.set_cons_succ]
              refine take_op 22 rfl (by kernel_rfl) (by kernel_rfl) (by kernel_rfl) (fun _ _ _ h => h) (by rfl) (by (intro w hSw; (try dsimp only at hSw); go_simp; (try with_reducible rfl))) (by assumption) ?_
              simp only [Act.put, List.setIfInBounds_toArray, List.set_cons_zero, List.set_cons_succ]
              refine take_op 23 rfl (by kernel_rfl) (by kernel_rfl) (by kernel_rfl) (fun _ _ _ h => h) (by rfl) (by (intro w hSw; (try dsimp only at hSw); go_simp; (try with_reducible rfl))) (by assumption) ?_
              simp only [Act.put, List.setIfInBounds_toArray, List.set_cons_zero, List.set_cons_succ]
              refine take_op 24 rfl (by kernel_rfl) (by kernel_rfl) (by kernel_rfl) (fun _ _ _ h => h) (by rfl) (by (intro w hSw; (try dsimp only at hSw); go_simp; (try with_reducible rfl))) (by assumption) ?_
              simp only [Act.put, List.setIfInBounds_toArray, List.set_cons_zero, List.set_cons_succ]
              refine take_op 25 rfl (by kernel_rfl) (by kernel_rfl) (by kernel_rfl) (fun _ _ _ h => h) (by rfl) (by (intro w hSw; (try dsimp only at hSw); go_simp; (try with_reducible rfl))) (by assumption) ?_
              simp only [Act.put, List.setIfInBounds_toArray, List.set_cons_zero, List.set_cons_succ]
              refine take_op 26 rfl (by kernel_rfl) (by kernel_rfl) (by kernel_rfl) (fun _ _ _ h => h) (by rfl) (by (intro w hSw; (try dsimp only at hSw); go_simp; (try with_reducible rfl))) (by assumption) ?_
              simp only [Act.put, List.setIfInBounds_toArray, List.set_cons_zero, List.set_cons_succ]
              refine skip_op 27 rfl (by kernel_rfl) (by kernel_rfl) (by kernel_rfl) (fun _ _ _ h => h) (by rfl) (by assumption) ?_
              simp only [Act.put, List.setIfInBounds_toArray, List.set_cons_zero, List.set_cons_succ]
              refine skip_op 28 rfl (by kernel_rfl) (by kernel_rfl) (by kernel_rfl) (fun _ _ _ h => h) (by rfl) (by assumption) ?_
              simp only [Act.put, List.setIfInBounds_toArray, List.set_cons_zero, List.set_cons_succ]
              refine skip_op 29 rfl (by kernel_rfl) (by kernel_rfl) (by kernel_rfl) (fun _ _ _ h => h) (by rfl) (by assumption) ?_
              simp only [Act.put, List.setIfInBounds_toArray, List.set_cons_zero, List.set_cons_succ]
              refine skip_op 30 rfl (by kernel_rfl) (by kernel_rfl) (by kernel_rfl) (fun _ _ _ h => h) (by rfl) (by assumption) ?_
              simp only [Act.put, List.setIfInBounds_toArray, List.set_cons_zero, List.set_cons_succ]
              refine skip_op 31 rfl (by kernel_rfl) (by kernel_rfl) (by kernel_rfl) (fun _ _ _ h => h) (by rfl) (by assumption) ?_
              simp only [Act.put, List.setIfInBounds_toArray, List.set_cons_zero, List.set_cons_succ]
              refine skip_op 32 rfl (by kernel_rfl) (by kernel_rfl) (by kernel_rfl) (fun _ _ _ h => h) (by rfl) (by assumption) ?_
              simp only [Act.put, List.setIfInBounds_toArray, List.set_cons_zero, List.set_cons_succ]
              refine skip_op 33 rfl (by kernel_rfl) (by kernel_rfl) (by kernel_rfl) (fun _ _ _ h => h) (by rfl) (by assumption) ?_
              simp only [Act.put, List.setIfInBounds_toArray, List.set_cons_zero, List.set_cons_succ]
              refine skip_op 34 rfl (by kernel_rfl) (by kernel_rfl) (by kernel_rfl) (fun _ _ _ h => h) (by rfl) (by assumption) ?_
              simp only [Act.put, List.setIfInBounds_toArray, List.set_cons_zero, List.set_cons_succ]
              refine skip_op 35 rfl (by kernel_rfl) (by kernel_rfl) (by kernel_rfl) (fun _ _ _ h => h) (by rfl) (by assumption) ?_
              simp only [Act.put, List.setIfInBounds_toArray, List.set_cons_zero, List.set_cons_succ]
              refine skip_op 36 rfl (by kernel_rfl) (by kernel_rfl) (by kernel_rfl) (fun _ _ _ h => h) (by rfl) (by assumption) ?_
              simp only [Act.put, List.setIfInBounds_toArray, List.set_cons_zero, List.set_cons_succ]
              refine skip_op 37 rfl (by kernel_rfl) (by kernel_rfl) (by kernel_rfl) (fun _ _ _ h => h) (by rfl) (by assumption) ?_
              simp only [Act.put, List.setIfInBounds_toArray, List.set_cons_zero, List.set_cons_succ]
              refine take_op 38 rfl (by kernel_rfl) (by kernel_rfl) (by kernel_rfl) (fun _ _ _ h => h) (by rfl) (by (intro w hSw; (try dsimp only at hSw); go_simp; (try with_reducible rfl))) (by assumption) ?_
              simp only [Act.put, List.setIfInBounds_toArray, List.set_cons_zero, List.set_cons_succ]
              refine take_op 39 rfl (by kernel_rfl) (by kernel_rfl) (by kernel_rfl) (fun _ _ _ h => h) (by rfl) (by (intro w hSw; (try dsimp only at hSw); go_simp; (try with_reducible rfl))) (by assumption) ?_
              simp only [Act.put, List.setIfInBounds_toArray, List.set_cons_zero, List.set_cons_succ]
              refine wpAnyH_done (by kernel_rfl) ?_ _
              have hT : Two d x (.slice none 0 0) (.slice a' ms.length cap') (.slice none 0 0) [] w0 w10 [] m1 f2 m2 g2 [] f2 g2 := Two.dropL (L := [(w9.heap.size, _), (wr.heap.size, _)]) ⟨_, _, hS2, HR.out, hl4', hrd⟩
              clear hS hS1 hS2 hHeld
              go_wp2_with fail
              go_loopw [15] (fun vj wj => ∃ j : Nat, vj = .int .i64 ((j : Int) - 1) ∧ j ≤ ms.length + 2 ∧ Two d x (.slice none 0 0) (.slice a' ms.length cap') (.slice none 0 0) [] w0 wj [] m1 f2 m2 g2 [] f2 g2) (fun vj _ => (ms.length + 2) - ((intOf vj) + 1).toNat)
              case atStart => exact ⟨0, by first | rfl | simp, by omega, hT⟩
              case round =>
                clear hT
                obtain ⟨j, rfl, hj, hT⟩ := hrel
                by_cases hjl : j ≤ ms.length + 1
                · have hjl' : (j : Int) - 1 ≤ ms.length := by omega
                  have hji : I64 ((j : Int) - 1) := i64_pred (by omega)
                  obtain ⟨ya, hya⟩ : ∃ y, (f2 ((j : Int) - 1)).getD ⟨#[]⟩ = y := ⟨_, rfl⟩
                  obtain ⟨za, hza⟩ : ∃ z, (f2 ((j : Int) - 1)).isSome = z := ⟨_, rfl⟩
                  obtain ⟨yb, hyb⟩ : ∃ y, (g2 ((j : Int) - 1)).getD ⟨#[]⟩ = y := ⟨_, rfl⟩
                  obtain ⟨zb, hzb⟩ : ∃ z, (g2 ((j : Int) - 1)).isSome = z := ⟨_, rfl⟩
                  have HYA := Lib.hid hya
                  have HZA := Lib.hid hza
                  have HYB := Lib.hid hyb
                  have HZB := Lib.hid hzb
                  clear hya hza hyb hzb
                  go_wp2_with fail
                  refine (t_state hT _ hji HYA.out HZA.out).mono ?_
                  rintro e w11 ⟨rfl, hT⟩
                  go_wp2_with fail
                  refine (t_rstate hT of2 _ HYA.out HZA.out).mono ?_
                  rintro e w12 ⟨rfl, hT⟩
                  go_wp2_with fail
                  refine (t_read hT _ hji HYB.out HZB.out).mono ?_
                  rintro e w13 ⟨rfl, hT⟩
                  go_wp2_with fail
                  refine (t_rread hT og2 _ HYB.out HZB.out).mono ?_
                  rintro e w14 ⟨rfl, hT⟩
                  go_wp2_with fail
                  go_roundw
                  case rel => exact ⟨j + 1, by first | go_num | (simp; omega), by omega, hT⟩
                  case measure => (simp [intOf]; try omega)
                · have hjl' : (ms.length : Int) < (j : Int) - 1 := by omega
                  go_wp2_with fail
                  go_roundw
                  case rel => exact ⟨k + 1, m1, m2, _, f2, g2, by go_num, by omega, by omega, by omega, ev2, of2, og2, hT⟩
                  case measure => (simp [intOf]; try omega)
          · have HR := Lib.hid (show Rds [(gb, go)] (.slice (some ⟨gb, 0, none⟩) 0 cp) [] from .inr ⟨gb, cp, go, rfl, hcp, rfl, hgo⟩)
            clear hgo
            as_aux_lemma =>
              go_wp2_with fail
              have hS1 := (hS.alloc (.cells #[.int .i64 0, .string ⟨#[]⟩] 29)).keep ((Below.refl _ _).drew)
              refine wp_region_held_drew (S := fun u => u.cell? ⟨x.r, 16, none⟩ = some (.pointer (some ⟨x.bq, 0, none⟩)) ∧ u.cell? ⟨x.bq, 1, none⟩ = some (.slice (some ⟨gb, 0, none⟩) 0 cp) ∧ u.cell? ⟨w9.heap.size, 0, none⟩ = some (.int .i64 0) ∧ u.cell? ⟨w9.heap.size, 1, none⟩ = some (.string ⟨#[]⟩)) (by kernel_rfl) (pair_c hS1) (fun hHeld => ?_)
              refine take_op 0 rfl (by kernel_rfl) (by kernel_rfl) (by kernel_rfl) (fun _ _ _ h => h) (by rfl) (by (intro w hSw; (try dsimp only at hSw); go_simp; (try with_reducible rfl))) (by assumption) ?_
              simp only [Act.put, List.setIfInBounds_toArray, List.set_cons_zero, List.set_cons_succ]
              refine take_op 2 rfl (by kernel_rfl) (by kernel_rfl) (by kernel_rfl) (fun _ _ _ h => h) (by rfl) (by (intro w hSw; (try dsimp only at hSw); go_simp; (try with_reducible rfl))) (by assumption) ?_
              simp only [Act.put, List.setIfInBounds_toArray, List.set_cons_zero, List.set_cons_succ]
              refine take_op 3 rfl (by kernel_rfl) (by kernel_rfl) (by kernel_rfl) (fun _ _ _ h => h) (by rfl) (by (intro w hSw; (try dsimp only at hSw); go_simp; (try with_reducible rfl))) (by assumption) ?_
              simp only [Act.put, List.setIfInBounds_toArray, List.set_cons_zero, List.set_cons_succ]
              refine take_op 4 rfl (by kernel_rfl) (by kernel_rfl) (by kernel_rfl) (fun _ _ _ h => h) (by rfl) (by (intro w hSw; (try dsimp only at hSw); go_simp; (try with_reducible rfl))) (by assumption) ?_
              simp only [Act.put, List.setIfInBounds_toArray, List.set_cons_zero, List.set_cons_succ]
              refine take_op 5 rfl (by kernel_rfl) (by kernel_rfl) (by kernel_rfl) (fun _ _ _ h => h) (by rfl) (by (intro w hSw; (try dsimp only at hSw); go_simp; (try with_reducible rfl))) (by assumption) ?_
              simp only [Act.put, List.setIfInBounds_toArray, List.set_cons_zero, List.set_cons_succ]
              refine take_op 6 rfl (by kernel_rfl) (by kernel_rfl) (by kernel_rfl) (fun _ _ _ h => h) (by rfl) (by (intro w hSw; (try dsimp only at hSw); go_simp; (try with_reducible rfl))) (by assumption) ?_
              simp only [Act.put, List.setIfInBounds_toArray, List.set_cons_zero, List.set_cons_succ]
              refine take_op 7 rfl (by kernel_rfl) (by kernel_rfl) (by kernel_rfl) (fun _ _ _ h => h) (by rfl) (by (intro w hSw; (try dsimp only at hSw); go_simp; (try with_reducible rfl))) (by assumption) ?_
              simp only [Act.put, List.setIfInBounds_toArray, List.set_cons_zero, List.set_cons_succ]
              refine take_op 8 rfl (by kernel_rfl) (by kernel_rfl) (by kernel_rfl) (fun _ _ _ h => h) (by rfl) (by (intro w hSw; (try dsimp only at hSw); go_simp; (try with_reducible rfl))) (by assumption) ?_
              simp only [Act.put, List.setIfInBounds_toArray, List.set_cons_zero, List.set_cons_succ]
              refine take_op 9 rfl (by kernel_rfl) (by kernel_rfl) (by kernel_rfl) (fun _ _ _ h => h) (by rfl) (by (intro w hSw; (try dsimp only at hSw); go_simp; (try with_reducible rfl))) (by assumption) ?_
              simp only [Act.put, List.setIfInBounds_toArray, List.set_cons_zero, List.set_cons_succ]
              refine at_op 1 rfl (by kernel_rfl) (by rfl) (fun K hK => ?_)
              go_simp
              refine (s_waiting hS1).mono ?_
              rintro e w10 ⟨rfl, hS2⟩
              simp only [List.length_cons, List.length_nil, Int.natCast_add, Int.natCast_one, Int.natCast_zero]
              refine hK.out _ _ ?_ (fun hHeld => ?_)
              · exact pair_c hS2
              clear hK K
              try simp only [Act.put, List.setIfInBounds_toArray, List.set_cons_zero, List.set_cons_succ]
              refine take_op 10 rfl (by kernel_rfl) (by kernel_rfl) (by kernel_rfl) (fun _ _ _ h => h) (by rfl) (by (intro w hSw; (try dsimp only at hSw); go_simp; (try with_reducible rfl))) (by assumption) ?_
              simp only [Act.put, List.setIfInBounds_toArray, List.set_cons_zero, List.set_cons_succ]
              refine take_op 11 rfl (by kernel_rfl) (by kernel_rfl) (by kernel_rfl) (fun _ _ _ h => h) (by rfl) (by (intro w hSw; (try dsimp only at hSw); go_simp; (try with_reducible rfl))) (by assumption) ?_
              simp only [Act.put, List.setIfInBounds_toArray, List.set_cons_zero, List.set_cons_succ]
              refine take_op 12 rfl (by kernel_rfl) (by kernel_rfl) (by kernel_rfl) (fun _ _ _ h => h) (by rfl) (by (intro w hSw; (try dsimp only at hSw); go_simp; (try with_reducible rfl))) (by assumption) ?_
              simp only [Act.put, List.setIfInBounds_toArray, List.set_cons_zero, List.set_cons_succ]
              refine take_op 13 rfl (by kernel_rfl) (by kernel_rfl) (by kernel_rfl) (fun _ _ _ h => h) (by rfl) (by (intro w hSw; (try dsimp only at hSw); go_simp; (try with_reducible rfl))) (by assumption) ?_
              simp only [Act.put, List.setIfInBounds_toArray, List.set_cons_zero, List.set_cons_succ]
              refine take_op 14 rfl (by kernel_rfl) (by kernel_rfl) (by kernel_rfl) (fun _ _ _ h => h) (by rfl) (by (intro w hSw; (try dsimp only at hSw); go_simp; (try with_reducible rfl))) (by assumption) ?_
              simp only [Act.put, List.setIfInBounds_toArray, List.set_cons_zero, List.set_cons_succ]
              refine take_op 15 rfl (by kernel_rfl) (by kernel_rfl) (by kernel_rfl) (fun _ _ _ h => h) (by rfl) (by (intro w hSw; (try dsimp only at hSw); go_simp; (try with_reducible rfl))) (by assumption) ?_
              simp only [Act.put, List.setIfInBounds_toArray, List.set_cons_zero, List.set_cons_succ]
              refine take_op 16 rfl (by kernel_rfl) (by kernel_rfl) (by kernel_rfl) (fun _ _ _ h => h) (by rfl) (by (intro w hSw; (try dsimp only at hSw); go_simp; (try with_reducible rfl))) (by assumption) ?_
              simp only [Act.put, List.setIfInBounds_toArray, List.set_cons_zero, List.set_cons_succ]
              refine take_op 17 rfl (by kernel_rfl) (by kernel_rfl) (by kernel_rfl) (fun _ _ _ h => h) (by rfl) (by (intro w hSw; (try dsimp only at hSw); go_simp; (try with_reducible rfl))) (by assumption) ?_
              simp only [Act.put, List.setIfInBounds_toArray, List.set_cons_zero, List.set_cons_succ]
              refine take_op 18 rfl (by kernel_rfl) (by kernel_rfl) (by kernel_rfl) (fun _ _ _ h => h) (by rfl) (by (intro w hSw; (try dsimp only at hSw); go_simp; (try with_reducible rfl))) (by assumption) ?_
              simp only [Act.put, List.setIfInBounds_toArray, List.set_cons_zero, List.set_cons_succ]
              refine take_op 19 rfl (by kernel_rfl) (by kernel_rfl) (by kernel_rfl) (fun _ _ _ h => h) (by rfl) (by (intro w hSw; (try dsimp only at hSw); go_simp; (try with_reducible rfl))) (by assumption) ?_
              simp only [Act.put, List.setIfInBounds_toArray, List.set_cons_zero, List.set_cons_succ]
              refine take_op 20 rfl (by kernel_rfl) (by kernel_rfl) (by kernel_rfl) (fun _ _ _ h => h) (by rfl) (by (intro w hSw; (try dsimp only at hSw); go_simp; (try with_reducible rfl))) (by assumption) ?_
              simp only [Act.put, List.setIfInBounds_toArray, List.set_cons_zero, List.set_cons_succ]
              refine take_op 21 rfl (by kernel_rfl) (by kernel_rfl) (by kernel_rfl) (fun _ _ _ h => h) (by rfl) (by (intro w hSw; (try dsimp only at hSw); go_simp; (try with_reducible rfl))) (by assumption) ?_
              simp only [Act.put, List.setIfInBounds_toArray, List.set_cons_zero, List.set_cons_succ]
              refine take_op 22 rfl (by kernel_rfl) (by kernel_rfl) (by kernel_rfl) (fun _ _ _ h => h) (by rfl) (by (intro w hSw; (try dsimp only at hSw); go_simp; (try with_reducible rfl))) (by assumption) ?_
              simp only [Act.put, List.setIfInBounds_toArray, List.set_cons_zero, List.set_cons_succ]
              refine take_op 23 rfl (by kernel_rfl) (by kernel_rfl) (by kernel_rfl) (fun _ _ _ h => h) (by rfl) (by (intro w hSw; (try dsimp only at hSw); go_simp; (try with_reducible rfl))) (by assumption) ?_
              simp only [Act.put, List.setIfInBounds_toArray, List.set_cons_zero, List.set_cons_succ]
              refine take_op 24 rfl (by kernel_rfl) (by kernel_rfl) (by kernel_rfl) (fun _ _ _ h => h) (by rfl) (by (intro w hSw; (try dsimp only at hSw); go_simp; (try with_reducible rfl))) (by assumption) ?_
              simp only [Act.put, List.setIfInBounds_toArray, List.set_cons_zero, List.set_cons_succ]
              refine take_op 25 rfl (by kernel_rfl) (by kernel_rfl) (by kernel_rfl) (fun _ _ _ h => h) (by rfl) (by (intro w hSw; (try dsimp only at hSw); go_simp; (try with_reducible rfl))) (by assumption) ?_
              simp only [Act.put, List.setIfInBounds_toArray, List.set_cons_zero, List.set_cons_succ]
              refine take_op 26 rfl (by kernel_rfl) (by kernel_rfl) (by kernel_rfl) (fun _ _ _ h => h) (by rfl) (by (intro w hSw; (try dsimp only at hSw); go_simp; (try with_reducible rfl))) (by assumption) ?_
              simp only [Act.put, List.setIfInBounds_toArray, List.set_cons_zero, List.set_cons_succ]
              refine skip_op 27 rfl (by kernel_rfl) (by kernel_rfl) (by kernel_rfl) (fun _ _ _ h => h) (by rfl) (by assumption) ?_
              simp only [Act.put, List.setIfInBounds_toArray, List.set_cons_zero, List.set_cons_succ]
              refine skip_op 28 rfl (by kernel_rfl) (by kernel_rfl) (by kernel_rfl) (fun _ _ _ h => h) (by rfl) (by assumption) ?_
              simp only [Act.put, List.setIfInBounds_toArray, List.set_cons_zero, List.set_cons_succ]
              refine skip_op 29 rfl (by kernel_rfl) (by kernel_rfl) (by kernel_rfl) (fun _ _ _ h => h) (by rfl) (by assumption) ?_
              simp only [Act.put, List.setIfInBounds_toArray, List.set_cons_zero, List.set_cons_succ]
              refine skip_op 30 rfl (by kernel_rfl) (by kernel_rfl) (by kernel_rfl) (fun _ _ _ h => h) (by rfl) (by assumption) ?_
              simp only [Act.put, List.setIfInBounds_toArray, List.set_cons_zero, List.set_cons_succ]
              refine skip_op 31 rfl (by kernel_rfl) (by kernel_rfl) (by kernel_rfl) (fun _ _ _ h => h) (by rfl) (by assumption) ?_
              simp only [Act.put, List.setIfInBounds_toArray, List.set_cons_zero, List.set_cons_succ]
              refine skip_op 32 rfl (by kernel_rfl) (by kernel_rfl) (by kernel_rfl) (fun _ _ _ h => h) (by rfl) (by assumption) ?_
              simp only [Act.put, List.setIfInBounds_toArray, List.set_cons_zero, List.set_cons_succ]
              refine skip_op 33 rfl (by kernel_rfl) (by kernel_rfl) (by kernel_rfl) (fun _ _ _ h => h) (by rfl) (by assumption) ?_
              simp only [Act.put, List.setIfInBounds_toArray, List.set_cons_zero, List.set_cons_succ]
              refine skip_op 34 rfl (by kernel_rfl) (by kernel_rfl) (by kernel_rfl) (fun _ _ _ h => h) (by rfl) (by assumption) ?_
              simp only [Act.put, List.setIfInBounds_toArray, List.set_cons_zero, List.set_cons_succ]
              refine skip_op 35 rfl (by kernel_rfl) (by kernel_rfl) (by kernel_rfl) (fun _ _ _ h => h) (by rfl) (by assumption) ?_
              simp only [Act.put, List.setIfInBounds_toArray, List.set_cons_zero, List.set_cons_succ]
              refine skip_op 36 rfl (by kernel_rfl) (by kernel_rfl) (by kernel_rfl) (fun _ _ _ h => h) (by rfl) (by assumption) ?_
              simp only [Act.put, List.setIfInBounds_toArray, List.set_cons_zero, List.set_cons_succ]
              refine skip_op 37 rfl (by kernel_rfl) (by kernel_rfl) (by kernel_rfl) (fun _ _ _ h => h) (by rfl) (by assumption) ?_
              simp only [Act.put, List.setIfInBounds_toArray, List.set_cons_zero, List.set_cons_succ]
              refine take_op 38 rfl (by kernel_rfl) (by kernel_rfl) (by kernel_rfl) (fun _ _ _ h => h) (by rfl) (by (intro w hSw; (try dsimp only at hSw); go_simp; (try with_reducible rfl))) (by assumption) ?_
              simp only [Act.put, List.setIfInBounds_toArray, List.set_cons_zero, List.set_cons_succ]
              refine take_op 39 rfl (by kernel_rfl) (by kernel_rfl) (by kernel_rfl) (fun _ _ _ h => h) (by rfl) (by (intro w hSw; (try dsimp only at hSw); go_simp; (try with_reducible rfl))) (by assumption) ?_
              simp only [Act.put, List.setIfInBounds_toArray, List.set_cons_zero, List.set_cons_succ]
              refine wpAnyH_done (by kernel_rfl) ?_ _
              have hT : Two d x (.slice none 0 0) (.slice a' ms.length cap') (.slice none 0 0) [] w0 w10 [] m1 f2 m2 g2 [] f2 g2 := Two.dropL (L := [(w9.heap.size, _), (wr.heap.size, _)]) ⟨_, _, hS2, HR.out, hl4', hrd⟩
              clear hS hS1 hS2 hHeld
              go_wp2_with fail
              go_loopw [15] (fun vj wj => ∃ j : Nat, vj = .int .i64 ((j : Int) - 1) ∧ j ≤ ms.length + 2 ∧ Two d x (.slice none 0 0) (.slice a' ms.length cap') (.slice none 0 0) [] w0 wj [] m1 f2 m2 g2 [] f2 g2) (fun vj _ => (ms.length + 2) - ((intOf vj) + 1).toNat)
              case atStart => exact ⟨0, by first | rfl | simp, by omega, hT⟩
              case round =>
                clear hT
                obtain ⟨j, rfl, hj, hT⟩ := hrel
                by_cases hjl : j ≤ ms.length + 1
                · have hjl' : (j : Int) - 1 ≤ ms.length := by omega
                  have hji : I64 ((j : Int) - 1) := i64_pred (by omega)
                  obtain ⟨ya, hya⟩ : ∃ y, (f2 ((j : Int) - 1)).getD ⟨#[]⟩ = y := ⟨_, rfl⟩
                  obtain ⟨za, hza⟩ : ∃ z, (f2 ((j : Int) - 1)).isSome = z := ⟨_, rfl⟩
                  obtain ⟨yb, hyb⟩ : ∃ y, (g2 ((j : Int) - 1)).getD ⟨#[]⟩ = y := ⟨_, rfl⟩
                  obtain ⟨zb, hzb⟩ : ∃ z, (g2 ((j : Int) - 1)).isSome = z := ⟨_, rfl⟩
                  have HYA := Lib.hid hya
                  have HZA := Lib.hid hza
                  have HYB := Lib.hid hyb
                  have HZB := Lib.hid hzb
                  clear hya hza hyb hzb
                  go_wp2_with fail
                  refine (t_state hT _ hji HYA.out HZA.out).mono ?_
                  rintro e w11 ⟨rfl, hT⟩
                  go_wp2_with fail
                  refine (t_rstate hT of2 _ HYA.out HZA.out).mono ?_
                  rintro e w12 ⟨rfl, hT⟩
                  go_wp2_with fail
                  refine (t_read hT _ hji HYB.out HZB.out).mono ?_
                  rintro e w13 ⟨rfl, hT⟩
                  go_wp2_with fail
                  refine (t_rread hT og2 _ HYB.out HZB.out).mono ?_
                  rintro e w14 ⟨rfl, hT⟩
                  go_wp2_with fail
                  go_roundw
                  case rel => exact ⟨j + 1, by first | go_num | (simp; omega), by omega, hT⟩
                  case measure => (simp [intOf]; try omega)
                · have hjl' : (ms.length : Int) < (j : Int) - 1 := by omega
                  go_wp2_with fail
                  go_roundw
                  case rel => exact ⟨k + 1, m1, m2, _, f2, g2, by go_num, by omega, by omega, by omega, ev2, of2, og2, hT⟩
                  case measure => (simp [intOf]; try omega)
        · refine (s_event hS).mono ?_
          rintro e w9 ⟨rfl, hS⟩
          simp only [headOf, evV]
          rcases hR with ⟨_, hh, _⟩ | ⟨gb, cp, go, rfl, hcp, rfl, hgo⟩
          · cases hh
          have HR := Lib.hid (show Rds [(gb, go)] (.slice (some ⟨gb, 0, none⟩) (y :: l2).length cp) (y :: l2) from .inr ⟨gb, cp, go, rfl, hcp, rfl, hgo⟩)
          have HE := Lib.hid (fun (w' : World) (h : w'.heap[gb]? = some go) => hgo w' h 0 y rfl)
          simp at hcp
          clear hgo
          as_aux_lemma =>
            go_wp2_with fail
            have hS1 := (hS.alloc (.cells #[.int .i64 y.msg, .string y.data] 29)).keep ((Below.refl _ _).drew)
            refine wp_region_held_drew (S := fun u => u.cell? ⟨x.r, 16, none⟩ = some (.pointer (some ⟨x.bq, 0, none⟩)) ∧ u.cell? ⟨x.bq, 1, none⟩ = some (.slice (some ⟨gb, 0, none⟩) (l2.length + 1) cp) ∧ u.cell? ⟨w9.heap.size, 0, none⟩ = some (.int .i64 y.msg) ∧ u.cell? ⟨w9.heap.size, 1, none⟩ = some (.string y.data) ∧ u.cell? ⟨gb, 0, none⟩ = some (.int .i64 y.msg) ∧ u.cell? ⟨gb, 1, none⟩ = some (.string y.data)) (by kernel_rfl) (⟨(pair_c hS1).1, (pair_c hS1).2.1, (pair_c hS1).2.2.1, (pair_c hS1).2.2.2, (HE.out _ (hS1.get (x := (gb, go)) (by simp))).1, (HE.out _ (hS1.get (x := (gb, go)) (by simp))).2⟩) (fun hHeld => ?_)
            refine take_op 0 rfl (by kernel_rfl) (by kernel_rfl) (by kernel_rfl) (fun _ _ _ h => h) (by rfl) (by (intro w hSw; (try dsimp only at hSw); go_simp; (try with_reducible rfl))) (by assumption) ?_
            simp only [Act.put, List.setIfInBounds_toArray, List.set_cons_zero, List.set_cons_succ]
            refine take_op 2 rfl (by kernel_rfl) (by kernel_rfl) (by kernel_rfl) (fun _ _ _ h => h) (by rfl) (by (intro w hSw; (try dsimp only at hSw); go_simp; (try with_reducible rfl))) (by assumption) ?_
            simp only [Act.put, List.setIfInBounds_toArray, List.set_cons_zero, List.set_cons_succ]
            refine take_op 3 rfl (by kernel_rfl) (by kernel_rfl) (by kernel_rfl) (fun _ _ _ h => h) (by rfl) (by (intro w hSw; (try dsimp only at hSw); go_simp; (try with_reducible rfl))) (by assumption) ?_
            simp only [Act.put, List.setIfInBounds_toArray, List.set_cons_zero, List.set_cons_succ]
            refine take_op 4 rfl (by kernel_rfl) (by kernel_rfl) (by kernel_rfl) (fun _ _ _ h => h) (by rfl) (by (intro w hSw; (try dsimp only at hSw); go_simp; (try with_reducible rfl))) (by assumption) ?_
            simp only [Act.put, List.setIfInBounds_toArray, List.set_cons_zero, List.set_cons_succ]
            refine take_op 5 rfl (by kernel_rfl) (by kernel_rfl) (by kernel_rfl) (fun _ _ _ h => h) (by rfl) (by (intro w hSw; (try dsimp only at hSw); go_simp; (try with_reducible rfl))) (by assumption) ?_
            simp only [Act.put, List.setIfInBounds_toArray, List.set_cons_zero, List.set_cons_succ]
            refine take_op 6 rfl (by kernel_rfl) (by kernel_rfl) (by kernel_rfl) (fun _ _ _ h => h) (by rfl) (by (intro w hSw; (try dsimp only at hSw); go_simp; (try with_reducible rfl))) (by assumption) ?_
            simp only [Act.put, List.setIfInBounds_toArray, List.set_cons_zero, List.set_cons_succ]
            refine take_op 7 rfl (by kernel_rfl) (by kernel_rfl) (by kernel_rfl) (fun _ _ _ h => h) (by rfl) (by (intro w hSw; (try dsimp only at hSw); go_simp; (try with_reducible rfl))) (by assumption) ?_
            simp only [Act.put, List.setIfInBounds_toArray, List.set_cons_zero, List.set_cons_succ]
            refine take_op 8 rfl (by kernel_rfl) (by kernel_rfl) (by kernel_rfl) (fun _ _ _ h => h) (by rfl) (by (intro w hSw; (try dsimp only at hSw); go_simp; (try with_reducible rfl))) (by assumption) ?_
            simp only [Act.put, List.setIfInBounds_toArray, List.set_cons_zero, List.set_cons_succ]
            refine take_op 9 rfl (by kernel_rfl) (by kernel_rfl) (by kernel_rfl) (fun _ _ _ h => h) (by rfl) (by (intro w hSw; (try dsimp only at hSw); go_simp; (try with_reducible rfl))) (by assumption) ?_
            simp only [Act.put, List.setIfInBounds_toArray, List.set_cons_zero, List.set_cons_succ]
            refine at_op 1 rfl (by kernel_rfl) (by rfl) (fun K hK => ?_)
            go_simp
            refine (s_waiting hS1).mono ?_
            rintro e w10 ⟨rfl, hS2⟩
            simp only [List.length_cons, List.length_nil, Int.natCast_add, Int.natCast_one, Int.natCast_zero]
            refine hK.out _ _ ?_ (fun hHeld => ?_)
            · exact ⟨(pair_c hS2).1, (pair_c hS2).2.1, (pair_c hS2).2.2.1, (pair_c hS2).2.2.2, (HE.out _ (hS2.get (x := (gb, go)) (by simp))).1, (HE.out _ (hS2.get (x := (gb, go)) (by simp))).2⟩
            clear hK K
            try simp only [Act.put, List.setIfInBounds_toArray, List.set_cons_zero, List.set_cons_succ]
            refine take_op 10 rfl (by kernel_rfl) (by kernel_rfl) (by kernel_rfl) (fun _ _ _ h => h) (by rfl) (by (intro w hSw; (try dsimp only at hSw); go_simp; (try with_reducible rfl))) (by assumption) ?_
            simp only [Act.put, List.setIfInBounds_toArray, List.set_cons_zero, List.set_cons_succ]
            refine take_op 11 rfl (by kernel_rfl) (by kernel_rfl) (by kernel_rfl) (fun _ _ _ h => h) (by rfl) (by (intro w hSw; (try dsimp only at hSw); go_simp; (try with_reducible rfl))) (by assumption) ?_
            simp only [Act.put, List.setIfInBounds_toArray, List.set_cons_zero, List.set_cons_succ]
            refine take_op 12 rfl (by kernel_rfl) (by kernel_rfl) (by kernel_rfl) (fun _ _ _ h => h) (by rfl) (by (intro w hSw; (try dsimp only at hSw); go_simp; (try with_reducible rfl))) (by assumption) ?_
            simp only [Act.put, List.setIfInBounds_toArray, List.set_cons_zero, List.set_cons_succ]
            refine take_op 13 rfl (by kernel_rfl) (by kernel_rfl) (by kernel_rfl) (fun _ _ _ h => h) (by rfl) (by (intro w hSw; (try dsimp only at hSw); go_simp; (try with_reducible rfl))) (by assumption) ?_
            simp only [Act.put, List.setIfInBounds_toArray, List.set_cons_zero, List.set_cons_succ]
            refine take_op 14 rfl (by kernel_rfl) (by kernel_rfl) (by kernel_rfl) (fun _ _ _ h => h) (by rfl) (by (intro w hSw; (try dsimp only at hSw); go_simp; (try with_reducible rfl))) (by assumption) ?_
            simp only [Act.put, List.setIfInBounds_toArray, List.set_cons_zero, List.set_cons_succ]
            refine take_op 15 rfl (by kernel_rfl) (by kernel_rfl) (by kernel_rfl) (fun _ _ _ h => h) (by rfl) (by (intro w hSw; (try dsimp only at hSw); go_simp; (try with_reducible rfl))) (by assumption) ?_
            simp only [Act.put, List.setIfInBounds_toArray, List.set_cons_zero, List.set_cons_succ]
            refine take_op 16 rfl (by kernel_rfl) (by kernel_rfl) (by kernel_rfl) (fun _ _ _ h => h) (by rfl) (by (intro w hSw; (try dsimp only at hSw); go_simp; (try with_reducible rfl))) (by assumption) ?_
            simp only [Act.put, List.setIfInBounds_toArray, List.set_cons_zero, List.set_cons_succ]
            refine take_op 17 rfl (by kernel_rfl) (by kernel_rfl) (by kernel_rfl) (fun _ _ _ h => h) (by rfl) (by (intro w hSw; (try dsimp only at hSw); go_simp; (try with_reducible rfl))) (by assumption) ?_
            simp only [Act.put, List.setIfInBounds_toArray, List.set_cons_zero, List.set_cons_succ]
            refine take_op 18 rfl (by kernel_rfl) (by kernel_rfl) (by kernel_rfl) (fun _ _ _ h => h) (by rfl) (by (intro w hSw; (try dsimp only at hSw); go_simp; (try with_reducible rfl))) (by assumption) ?_
            simp only [Act.put, List.setIfInBounds_toArray, List.set_cons_zero, List.set_cons_succ]
            refine take_op 19 rfl (by kernel_rfl) (by kernel_rfl) (by kernel_rfl) (fun _ _ _ h => h) (by rfl) (by (intro w hSw; (try dsimp only at hSw); go_simp; (try with_reducible rfl))) (by assumption) ?_
            simp only [Act.put, List.setIfInBounds_toArray, List.set_cons_zero, List.set_cons_succ]
            refine take_op 20 rfl (by kernel_rfl) (by kernel_rfl) (by kernel_rfl) (fun _ _ _ h => h) (by rfl) (by (intro w hSw; (try dsimp only at hSw); go_simp; (try with_reducible rfl))) (by assumption) ?_
            simp only [Act.put, List.setIfInBounds_toArray, List.set_cons_zero, List.set_cons_succ]
            refine take_op 21 rfl (by kernel_rfl) (by kernel_rfl) (by kernel_rfl) (fun _ _ _ h => h) (by rfl) (by (intro w hSw; (try dsimp only at hSw); go_simp; (try with_reducible rfl))) (by assumption) ?_
            simp only [Act.put, List.setIfInBounds_toArray, List.set_cons_zero, List.set_cons_succ]
            refine take_op 22 rfl (by kernel_rfl) (by kernel_rfl) (by kernel_rfl) (fun _ _ _ h => h) (by rfl) (by (intro w hSw; (try dsimp only at hSw); go_simp; (try with_reducible rfl))) (by assumption) ?_
            simp only [Act.put, List.setIfInBounds_toArray, List.set_cons_zero, List.set_cons_succ]
            refine take_op 23 rfl (by kernel_rfl) (by kernel_rfl) (by kernel_rfl) (fun _ _ _ h => h) (by rfl) (by (intro w hSw; (try dsimp only at hSw); go_simp; (try with_reducible rfl))) (by assumption) ?_
            simp only [Act.put, List.setIfInBounds_toArray, List.set_cons_zero, List.set_cons_succ]
            refine take_op 24 rfl (by kernel_rfl) (by kernel_rfl) (by kernel_rfl) (fun _ _ _ h => h) (by rfl) (by (intro w hSw; (try dsimp only at hSw); go_simp; (try with_reducible rfl))) (by assumption) ?_
            simp only [Act.put, List.setIfInBounds_toArray, List.set_cons_zero, List.set_cons_succ]
            refine take_op 25 rfl (by kernel_rfl) (by kernel_rfl) (by kernel_rfl) (fun _ _ _ h => h) (by rfl) (by (intro w hSw; (try dsimp only at hSw); go_simp; (try with_reducible rfl))) (by assumption) ?_
            simp only [Act.put, List.setIfInBounds_toArray, List.set_cons_zero, List.set_cons_succ]
            refine take_op 26 rfl (by kernel_rfl) (by kernel_rfl) (by kernel_rfl) (fun _ _ _ h => h) (by rfl) (by (intro w hSw; (try dsimp only at hSw); go_simp; (try with_reducible rfl))) (by assumption) ?_
            simp only [Act.put, List.setIfInBounds_toArray, List.set_cons_zero, List.set_cons_succ]
            refine take_op 27 rfl (by kernel_rfl) (by kernel_rfl) (by kernel_rfl) (fun _ _ _ h => h) (by rfl) (by (intro w hSw; (try dsimp only at hSw); go_simp; (try with_reducible rfl))) (by assumption) ?_
            simp only [Act.put, List.setIfInBounds_toArray, List.set_cons_zero, List.set_cons_succ]
            refine take_op 28 rfl (by kernel_rfl) (by kernel_rfl) (by kernel_rfl) (fun _ _ _ h => h) (by rfl) (by (intro w hSw; (try dsimp only at hSw); go_simp; (try with_reducible rfl))) (by assumption) ?_
            simp only [Act.put, List.setIfInBounds_toArray, List.set_cons_zero, List.set_cons_succ]
            refine take_op 29 rfl (by kernel_rfl) (by kernel_rfl) (by kernel_rfl) (fun _ _ _ h => h) (by rfl) (by (intro w hSw; (try dsimp only at hSw); go_simp; (try with_reducible rfl))) (by assumption) ?_
            simp only [Act.put, List.setIfInBounds_toArray, List.set_cons_zero, List.set_cons_succ]
            refine take_op 30 rfl (by kernel_rfl) (by kernel_rfl) (by kernel_rfl) (fun _ _ _ h => h) (by rfl) (by (intro w hSw; (try dsimp only at hSw); go_simp; (try with_reducible rfl))) (by assumption) ?_
            simp only [Act.put, List.setIfInBounds_toArray, List.set_cons_zero, List.set_cons_succ]
            refine take_op 31 rfl (by kernel_rfl) (by kernel_rfl) (by kernel_rfl) (fun _ _ _ h => h) (by rfl) (by (intro w hSw; (try dsimp only at hSw); go_simp; (try with_reducible rfl))) (by assumption) ?_
            simp only [Act.put, List.setIfInBounds_toArray, List.set_cons_zero, List.set_cons_succ]
            refine take_op 32 rfl (by kernel_rfl) (by kernel_rfl) (by kernel_rfl) (fun _ _ _ h => h) (by rfl) (by (intro w hSw; (try dsimp only at hSw); go_simp; (try with_reducible rfl))) (by assumption) ?_
            simp only [Act.put, List.setIfInBounds_toArray, List.set_cons_zero, List.set_cons_succ]
            refine take_op 33 rfl (by kernel_rfl) (by kernel_rfl) (by kernel_rfl) (fun _ _ _ h => h) (by rfl) (by (intro w hSw; (try dsimp only at hSw); go_simp; (try with_reducible rfl))) (by assumption) ?_
            simp only [Act.put, List.setIfInBounds_toArray, List.set_cons_zero, List.set_cons_succ]
            refine take_op 34 rfl (by kernel_rfl) (by kernel_rfl) (by kernel_rfl) (fun _ _ _ h => h) (by rfl) (by (intro w hSw; (try dsimp only at hSw); go_simp; (try with_reducible rfl))) (by assumption) ?_
            simp only [Act.put, List.setIfInBounds_toArray, List.set_cons_zero, List.set_cons_succ]
            refine take_op 35 rfl (by kernel_rfl) (by kernel_rfl) (by kernel_rfl) (fun _ _ _ h => h) (by rfl) (by (intro w hSw; (try dsimp only at hSw); go_simp; (try with_reducible rfl))) (by assumption) ?_
            simp only [Act.put, List.setIfInBounds_toArray, List.set_cons_zero, List.set_cons_succ]
            refine take_op 36 rfl (by kernel_rfl) (by kernel_rfl) (by kernel_rfl) (fun _ _ _ h => h) (by rfl) (by (intro w hSw; (try dsimp only at hSw); go_simp; (try with_reducible rfl))) (by assumption) ?_
            simp only [Act.put, List.setIfInBounds_toArray, List.set_cons_zero, List.set_cons_succ]
            refine take_op 37 rfl (by kernel_rfl) (by kernel_rfl) (by kernel_rfl) (fun _ _ _ h => h) (by rfl) (by (intro w hSw; (try dsimp only at hSw); go_simp; (try with_reducible rfl))) (by assumption) ?_
            simp only [Act.put, List.setIfInBounds_toArray, List.set_cons_zero, List.set_cons_succ]
            refine take_op 38 rfl (by kernel_rfl) (by kernel_rfl) (by kernel_rfl) (fun _ _ _ h => h) (by rfl) (by (intro w hSw; (try dsimp only at hSw); go_simp; (try with_reducible rfl))) (by assumption) ?_
            simp only [Act.put, List.setIfInBounds_toArray, List.set_cons_zero, List.set_cons_succ]
            refine take_op 39 rfl (by kernel_rfl) (by kernel_rfl) (by kernel_rfl) (fun _ _ _ h => h) (by rfl) (by (intro w hSw; (try dsimp only at hSw); go_simp; (try with_reducible rfl))) (by assumption) ?_
            simp only [Act.put, List.setIfInBounds_toArray, List.set_cons_zero, List.set_cons_succ]
            refine wpAnyH_done (by kernel_rfl) ?_ _
            have hT : Two d x (.slice none 0 0) (.slice a' ms.length cap') (.slice none 0 0) [] w0 w10 (y :: l2) m1 f2 m2 g2 (y :: l2) f2 g2 := Two.dropL (L := [(w9.heap.size, _), (wr.heap.size, _)]) ⟨_, _, hS2, HR.out, hl4', hrd⟩
            clear hS hS1 hS2 hHeld
            go_wp2_with fail
            go_loopw [15] (fun vj wj => ∃ j : Nat, vj = .int .i64 ((j : Int) - 1) ∧ j ≤ ms.length + 2 ∧ Two d x (.slice none 0 0) (.slice a' ms.length cap') (.slice none 0 0) [] w0 wj (y :: l2) m1 f2 m2 g2 (y :: l2) f2 g2) (fun vj _ => (ms.length + 2) - ((intOf vj) + 1).toNat)
            case atStart => exact ⟨0, by first | rfl | simp, by omega, hT⟩
            case round =>
              clear hT
              obtain ⟨j, rfl, hj, hT⟩ := hrel
              by_cases hjl : j ≤ ms.length + 1
              · have hjl' : (j : Int) - 1 ≤ ms.length := by omega
                have hji : I64 ((j : Int) - 1) := i64_pred (by omega)
                obtain ⟨ya, hya⟩ : ∃ y, (f2 ((j : Int) - 1)).getD ⟨#[]⟩ = y := ⟨_, rfl⟩
                obtain ⟨za, hza⟩ : ∃ z, (f2 ((j : Int) - 1)).isSome = z := ⟨_, rfl⟩
                obtain ⟨yb, hyb⟩ : ∃ y, (g2 ((j : Int) - 1)).getD ⟨#[]⟩ = y := ⟨_, rfl⟩
                obtain ⟨zb, hzb⟩ : ∃ z, (g2 ((j : Int) - 1)).isSome = z := ⟨_, rfl⟩
                have HYA := Lib.hid hya
                have HZA := Lib.hid hza
                have HYB := Lib.hid hyb
                have HZB := Lib.hid hzb
                clear hya hza hyb hzb
                go_wp2_with fail
                refine (t_state hT _ hji HYA.out HZA.out).mono ?_
                rintro e w11 ⟨rfl, hT⟩
                go_wp2_with fail
                refine (t_rstate hT of2 _ HYA.out HZA.out).mono ?_
                rintro e w12 ⟨rfl, hT⟩
                go_wp2_with fail
                refine (t_read hT _ hji HYB.out HZB.out).mono ?_
                rintro e w13 ⟨rfl, hT⟩
                go_wp2_with fail
                refine (t_rread hT og2 _ HYB.out HZB.out).mono ?_
                rintro e w14 ⟨rfl, hT⟩
                go_wp2_with fail
                go_roundw
                case rel => exact ⟨j + 1, by first | go_num | (simp; omega), by omega, hT⟩
                case measure => (simp [intOf]; try omega)
              · have hjl' : (ms.length : Int) < (j : Int) - 1 := by omega
                go_wp2_with fail
                go_roundw
                case rel => exact ⟨k + 1, m1, m2, _, f2, g2, by go_num, by omega, by omega, by omega, ev2, of2, og2, hT⟩
                case measure => (simp [intOf]; try omega)
    · go_wp2
      go_ret
      exact ⟨rfl, HBW.out.trans (hT.bel.mono HBW.out.size)⟩
theorem ObjectPlays_walk {H : Type} {enc : TypeId × Value → H} {base : Nat} {d0 d2 : DataW H} {p0 p2 : List MemPlace} (v0 : Value) (who : Int) (v2 : Value) (hw : (Lit.int .i64 who).wf = true) (W : World)
    (hv0 : Value.okWide Try.prog W .any base 59 v0) (h0 : DataW.Trod enc Try.prog W 0 (fun _ => true) true 59 v0 d0 p0)
    (hv2 : Value.okWide Try.prog W .any base 75 v2) (h2 : DataW.Trod enc Try.prog W 0 (fun _ => true) true 75 v2 d2 p2) :
    Holds 11 #[v0, .int .i64 who, v2] W := by
  obtain ⟨a, len, cap, rfl⟩ := okWide_slice Try.underlying59 hv0
  obtain ⟨fuel, hf⟩ := h0
  obtain ⟨l, hr, hok⟩ := rdMsgs_of (v := .slice a len cap) (by simpa [Value.cells] using hf)
  obtain ⟨a2, len2, cap2, rfl⟩ := okWide_slice Try.underlying75 hv2
  have hs : IsStructs ostepKs W a2 len2 cap2 := by
    refine isStructs_of Try.underlying75 Try.underlying78 (by kernel_rfl) (by kernel_rfl) rfl (by decide) ?_ h2
    intro j κ f hj hf
    match j, hj, hf with
    | 0, hj, hf => cases hj; cases hf; exact Try.underlying3
    | 1, hj, hf => cases hj; cases hf; exact Try.underlying3
    | 2, hj, hf => cases hj; cases hf; exact Try.underlying9
    | n + 3, hj, hf => simp [ostepKs] at hj
  exact ObjectPlays_core l _ who a2 len2 cap2 W hr hok hs

set_option maxRecDepth 100000 in
theorem ObjectPlays_lifted (os : Os) (started : os.Started) (H : Type) (enc : TypeId × Value → H) :
    ReturnsInHanded {} Try.checked os 11 .any (Rows.objectPlaysSpec.pre6 enc Try.prog Try.f11 [] false) (Rows.objectPlaysSpec.post enc Try.prog Try.f11 false true false false) := by
  refine law_lifted (n := 3) os started H enc (by kernel_rfl) Try.func11 rfl rfl (hts_of (by kernel_rfl)) rfl (fun ds h => match ds, h with | [_, _, _], _ => rfl)
    (ChangeSpec.witness6 (enc := enc) (C := Try.checked) false ⟨#[], #[.slice none 0 0, .int .i64 0, .slice none 0 0], []⟩ 8 (by kernel_rfl) (by kernel_rfl) (by kernel_rfl) (by kernel_rfl)) ?_
  intro W base args ds p hval hA
  rw [Try.params11] at hA hval
  obtain ⟨v0, vs0, d0, ds0, p0, q0, hargs, rfl, rfl, h0, r0⟩ := trodAll_cons hA
  obtain ⟨v1, vs1, d1, ds1, p1, q1, rfl, rfl, rfl, h1, r1⟩ := trodAll_cons r0
  obtain ⟨v2, vs2, d2, ds2, p2, q2, rfl, rfl, rfl, h2, r2⟩ := trodAll_cons r1
  obtain ⟨rfl, rfl, rfl⟩ := trodAll_nil r2
  obtain rfl : args = #[v0, v1, v2] := by cases args; simp_all
  obtain ⟨a1, rfl, rfl, rfl, w1⟩ := open_int Try.underlying3 (hval 1 _ v1 rfl rfl) h1
  exact ObjectPlays_walk v0 a1 v2 w1 W (hval 0 _ v0 rfl rfl) h0 (hval 2 _ v2 rfl rfl) h2

theorem ObjectPlays_over : Rows.objectPlaysRow.holds Try.pinned (OpenSpec.ofChange Rows.objectPlaysSpec) :=
  OpenClaim.holds_of_wide 11 Try.f11 rfl rfl rfl rfl rfl rfl rfl ⟨rfl, rfl, rfl, rfl, rfl⟩ rfl rfl rfl rfl rfl (by kernel_rfl) Try.func11 (by kernel_rfl)
    (of_decide_eq_true (by kernel_rfl)) (by unfold Func.isWrapper; first | (rw [if_pos (by decide +kernel)]; kernel_rfl) | (rw [if_neg (by decide +kernel)]; exact ⟨rfl, rfl⟩))
    (fun os started H enc _ => ObjectPlays_lifted os started H enc)
theorem ObjectPlays_holds : Rows.ObjectPlaysSaid := ObjectPlays_over
#print axioms ObjectPlays_holds
end Go.Proofs.Ytmbhgipoofllfaa
