/- Same of the reference. -/
import Derived.Test.YthkhlcigegbpfaaMatRef
namespace Go.Proofs.Ythkhlcigegbpfaa
set_option linter.unusedVariables false
set_option linter.unusedSimpArgs false
open Go.ChangeShapes Go.WideShapes Go.ChangeAt Go.RowKit Go.Deep

set_option maxRecDepth 100000 in
set_option maxHeartbeats 4000000 in
theorem rmat_same_eq {w : World} {a : Mat} {bm : List Int} {bs : List Msg} {bw : List Win} {s1 s2 s3 t1 t2 t3 : Value} (ha : RdM w a s1 s2 s3) (hb : RdM w (⟨a.level, a.nodes, a.cycles, a.length, a.enable, a.unit, a.init, a.ref, bm, bs, bw⟩ : Mat) t1 t2 t3)
    (n1 : a.masters.length = bm.length) (n2 : a.msgs.length = bs.length) (n3 : a.wins.length = bw.length) :
    Calls Try.prog 35 #[matV a s1 s2 s3, matV (⟨a.level, a.nodes, a.cycles, a.length, a.enable, a.unit, a.init, a.ref, bm, bs, bw⟩ : Mat) t1 t2 t3] w fun e w' => e = .returned (.bool (sameB a (⟨a.level, a.nodes, a.cycles, a.length, a.enable, a.unit, a.init, a.ref, bm, bs, bw⟩ : Mat))) ∧ Below w.heap.size w w' := by
  have hp := held53
  have hg := guard53
  have hp' := held56
  have hg' := guard56
  have hO := ((Own.nil_ (Below.refl w.heap.size w) (Nat.le_refl _)).alloc (boxM a s1 s2 s3)).alloc (boxM (⟨a.level, a.nodes, a.cycles, a.length, a.enable, a.unit, a.init, a.ref, bm, bs, bw⟩ : Mat) t1 t2 t3)
  obtain ⟨a1, p1, e1, r1⟩ := ha.r1.shape
  obtain ⟨a2, p2, e2, r2⟩ := ha.r2.shape
  obtain ⟨a3, p3, e3, r3⟩ := ha.r3.shape
  obtain ⟨b1, q1, f1, u1⟩ := hb.r1.shape
  obtain ⟨b2, q2, f2, u2⟩ := hb.r2.shape
  obtain ⟨b3, q3, f3, u3⟩ := hb.r3.shape
  subst e1 e2 e3 f1 f2 f3
  clear ha hb
  have hsz : ∀ o : Obj, (w.alloc o).heap.size = w.heap.size + 1 := fun o => by simp
  rw [hsz] at hO
  clear hsz
  have l1 := r1.len.2
  have l2 := r2.len.2
  have l3 := r3.len.2
  have m1 := u1.len.2
  have m2 := u2.len.2
  have m3 := u3.len.2
  unfold maxLen at l1 l2 l3 m1 m2 m3
  have R1 := Lib.hid r1
  have R2 := Lib.hid r2
  have R3 := Lib.hid r3
  have U1 := Lib.hid u1
  have U2 := Lib.hid u2
  have U3 := Lib.hid u3
  clear r1 r2 r3 u1 u2 u3
  obtain ⟨c0, c1, c2, c3, c4, c5, c6, c7, c8, c9, c10⟩ := boxM_c hO.get1
  obtain ⟨d0, d1, d2, d3, d4, d5, d6, d7, d8, d9, d10⟩ := boxM_c hO.get0
  simp only at d0 d1 d2 d3 d4 d5 d6 d7 U1 U2 U3 m1 m2 m3 d8 d9 d10
  have E0 := Lib.hid (show headEq a (⟨a.level, a.nodes, a.cycles, a.length, a.enable, a.unit, a.init, a.ref, bm, bs, bw⟩ : Mat) = true by simp [headEq])
  have n1' : (bm.length : Int) ≤ a.masters.length ∧ (a.masters.length : Int) ≤ bm.length := by omega
  have n2' : (bs.length : Int) ≤ a.msgs.length ∧ (a.msgs.length : Int) ≤ bs.length := by omega
  have n3' : (bw.length : Int) ≤ a.wins.length ∧ (a.wins.length : Int) ≤ bw.length := by omega
  clear n1 n2 n3
  unfold matV
  go_enter Try.func35, Try.ntmps35
  go_wp2
  all_goals try (exfalso; omega)
  clear c0 c1 c2 c3 c4 c5 c6 c7 c8 c9 c10 d0 d1 d2 d3 d4 d5 d6 d7 d8 d9 d10
  go_loopw [5] (fun i wr => ∃ k : Nat, i = .int .i64 k ∧ k ≤ a.masters.length ∧ Hid (Alike2 (fun (x y : Int) => x == y) a.masters bm k) ∧ Own w.heap.size w [(w.heap.size + 1, boxM (⟨a.level, a.nodes, a.cycles, a.length, a.enable, a.unit, a.init, a.ref, bm, bs, bw⟩ : Mat) (.slice b1 bm.length q1) (.slice b2 bs.length q2) (.slice b3 bw.length q3)), (w.heap.size, boxM a (.slice a1 a.masters.length p1) (.slice a2 a.msgs.length p2) (.slice a3 a.wins.length p3))] wr) (fun i _ => a.masters.length - (intOf i).toNat)
  case atStart => exact ⟨0, rfl, by omega, Lib.hid (Alike2.zero _ _ _), hO⟩
  case round =>
    clear hO
    obtain ⟨k, rfl, hk, hcl, hO⟩ := hrel
    have ca : _ = some (Value.slice a1 a.masters.length p1) := cell_of hO.get1 8
    have cb : _ = some (Value.slice b1 bm.length q1) := cell_of hO.get0 8
    by_cases hlt : k < a.masters.length
    · obtain ⟨x, bb, off, hx, _, rfl, hb, hc⟩ := (R1.out.keep hO.bel).at_ k hlt
      obtain ⟨y, bb', off', hy, _, rfl, hb', hc'⟩ := (U1.out.keep hO.bel).at_ k (by omega)
      have e0 := hc 0 _ rfl
      have d0 := hc' 0 _ rfl
      simp only [Nat.mul_one, Nat.add_zero] at e0 d0
      have HX := Lib.hid hx
      have HY := Lib.hid hy
      clear hc hc' hx hy
      have hkb : (k : Int) < (bm.length : Int) := by omega
      by_cases hxy : x = y
      · have HC := Lib.hid (hcl.out.succ HX.out HY.out (by simp [hxy]))
        clear hcl
        subst hxy
        go_wp2
        go_quiet (fail)
        go_wp2
        go_roundw
        case rel => exact ⟨k + 1, by go_num, by omega, HC, hO.drewN _⟩
        case measure => simp [intOf]; omega
      · skip
        have HF := Lib.hid (show sameB a (⟨a.level, a.nodes, a.cycles, a.length, a.enable, a.unit, a.init, a.ref, bm, bs, bw⟩ : Mat) = false by
          have := eqL_false (p := (fun (x y : Int) => x == y)) HX.out HY.out (by simp [hxy])
          unfold sameB
          simp only [show eqL (· == ·) a.masters bm = false from this, Bool.and_false, Bool.false_and])
        clear hcl
        go_wp2
        go_quiet (fail)
        go_wp2
        all_goals first | (exfalso; omega) | (go_ret; exact ⟨ret_bool HF.out.symm, (hO.drewN _).bel⟩)
    · have E1 := Lib.hid (hcl.out.eqL (by omega) (by omega))
      clear hcl
      go_wp2
      clear ca cb
      go_loopw [6] (fun i wr => ∃ k : Nat, i = .int .i64 k ∧ k ≤ a.msgs.length ∧ Hid (Alike2 msgEq a.msgs bs k) ∧ Own w.heap.size w [(w.heap.size + 1, boxM (⟨a.level, a.nodes, a.cycles, a.length, a.enable, a.unit, a.init, a.ref, bm, bs, bw⟩ : Mat) (.slice b1 bm.length q1) (.slice b2 bs.length q2) (.slice b3 bw.length q3)), (w.heap.size, boxM a (.slice a1 a.masters.length p1) (.slice a2 a.msgs.length p2) (.slice a3 a.wins.length p3))] wr) (fun i _ => a.msgs.length - (intOf i).toNat)
      case atStart => exact ⟨0, rfl, by omega, Lib.hid (Alike2.zero _ _ _), hO⟩
      case round =>
        clear hO
        obtain ⟨k, rfl, hk, hcl, hO⟩ := hrel
        have ca : _ = some (Value.slice a2 a.msgs.length p2) := cell_of hO.get1 9
        have cb : _ = some (Value.slice b2 bs.length q2) := cell_of hO.get0 9
        by_cases hlt : k < a.msgs.length
        · obtain ⟨x, bb, off, hx, _, rfl, hb, hc⟩ := (R2.out.keep hO.bel).at_ k hlt
          obtain ⟨y, bb', off', hy, _, rfl, hb', hc'⟩ := (U2.out.keep hO.bel).at_ k (by omega)
          have e0 := hc 0 _ rfl
          have d0 := hc' 0 _ rfl
          have e1 := hc 1 _ rfl
          have d1 := hc' 1 _ rfl
          have e2 := hc 2 _ rfl
          have d2 := hc' 2 _ rfl
          simp only [Nat.add_zero, ← Nat.add_assoc] at e0 d0 e1 d1 e2 d2
          have HX := Lib.hid hx
          have HY := Lib.hid hy
          clear hc hc' hx hy
          have hkb : (k : Int) < (bs.length : Int) := by omega
          by_cases hxy : msgEq x y = true
          · have HC := Lib.hid (hcl.out.succ HX.out HY.out hxy)
            clear hcl
            have hnq := neq_msg x y
            rw [hxy] at hnq
            go_wp2
            go_quiet (fail)
            go_wp2
            go_roundw
            case rel => exact ⟨k + 1, by go_num, by omega, HC, hO.drewN _⟩
            case measure => simp [intOf]; omega
          · replace hxy : msgEq x y = false := by simpa using hxy
            have HF := Lib.hid (show sameB a (⟨a.level, a.nodes, a.cycles, a.length, a.enable, a.unit, a.init, a.ref, bm, bs, bw⟩ : Mat) = false by
              have := eqL_false (p := msgEq) HX.out HY.out hxy
              unfold sameB
              simp only [this, Bool.and_false, Bool.false_and])
            clear hcl
            have hnq := neq_msg x y
            rw [hxy] at hnq
            go_wp2
            go_quiet (fail)
            go_wp2
            all_goals first | (exfalso; omega) | (go_ret; exact ⟨ret_bool HF.out.symm, (hO.drewN _).bel⟩)
        · have E2 := Lib.hid (hcl.out.eqL (by omega) (by omega))
          clear hcl
          go_wp2
          clear ca cb
          go_loopw [7] (fun i wr => ∃ k : Nat, i = .int .i64 k ∧ k ≤ a.wins.length ∧ Hid (Alike2 winEq a.wins bw k) ∧ Own w.heap.size w [(w.heap.size + 1, boxM (⟨a.level, a.nodes, a.cycles, a.length, a.enable, a.unit, a.init, a.ref, bm, bs, bw⟩ : Mat) (.slice b1 bm.length q1) (.slice b2 bs.length q2) (.slice b3 bw.length q3)), (w.heap.size, boxM a (.slice a1 a.masters.length p1) (.slice a2 a.msgs.length p2) (.slice a3 a.wins.length p3))] wr) (fun i _ => a.wins.length - (intOf i).toNat)
          case atStart => exact ⟨0, rfl, by omega, Lib.hid (Alike2.zero _ _ _), hO⟩
          case round =>
            clear hO
            obtain ⟨k, rfl, hk, hcl, hO⟩ := hrel
            have ca : _ = some (Value.slice a3 a.wins.length p3) := cell_of hO.get1 10
            have cb : _ = some (Value.slice b3 bw.length q3) := cell_of hO.get0 10
            by_cases hlt : k < a.wins.length
            · obtain ⟨x, bb, off, hx, _, rfl, hb, hc⟩ := (R3.out.keep hO.bel).at_ k hlt
              obtain ⟨y, bb', off', hy, _, rfl, hb', hc'⟩ := (U3.out.keep hO.bel).at_ k (by omega)
              have e0 := hc 0 _ rfl
              have d0 := hc' 0 _ rfl
              have e1 := hc 1 _ rfl
              have d1 := hc' 1 _ rfl
              have e2 := hc 2 _ rfl
              have d2 := hc' 2 _ rfl
              have e3 := hc 3 _ rfl
              have d3 := hc' 3 _ rfl
              have e4 := hc 4 _ rfl
              have d4 := hc' 4 _ rfl
              have e5 := hc 5 _ rfl
              have d5 := hc' 5 _ rfl
              simp only [Nat.add_zero, ← Nat.add_assoc] at e0 d0 e1 d1 e2 d2 e3 d3 e4 d4 e5 d5
              have HX := Lib.hid hx
              have HY := Lib.hid hy
              clear hc hc' hx hy
              have hkb : (k : Int) < (bw.length : Int) := by omega
              by_cases hxy : winEq x y = true
              · have HC := Lib.hid (hcl.out.succ HX.out HY.out hxy)
                clear hcl
                have hnq := neq_win x y
                rw [hxy] at hnq
                go_wp2
                go_quiet (fail)
                go_wp2
                go_roundw
                case rel => exact ⟨k + 1, by go_num, by omega, HC, hO.drewN _⟩
                case measure => simp [intOf]; omega
              · replace hxy : winEq x y = false := by simpa using hxy
                have HF := Lib.hid (show sameB a (⟨a.level, a.nodes, a.cycles, a.length, a.enable, a.unit, a.init, a.ref, bm, bs, bw⟩ : Mat) = false by
                  have := eqL_false (p := winEq) HX.out HY.out hxy
                  unfold sameB
                  simp only [this, Bool.and_false, Bool.false_and])
                clear hcl
                have hnq := neq_win x y
                rw [hxy] at hnq
                go_wp2
                go_quiet (fail)
                go_wp2
                all_goals first | (exfalso; omega) | (go_ret; exact ⟨ret_bool HF.out.symm, (hO.drewN _).bel⟩)
            · have E3 := Lib.hid (hcl.out.eqL (by omega) (by omega))
              clear hcl
              have HF := Lib.hid (show sameB a (⟨a.level, a.nodes, a.cycles, a.length, a.enable, a.unit, a.init, a.ref, bm, bs, bw⟩ : Mat) = true by
                unfold sameB
                simp only [E0.out, show eqL (· == ·) a.masters bm = true from E1.out, E2.out, E3.out, Bool.and_true])
              go_wp2
              all_goals first | (exfalso; omega) | (go_ret; exact ⟨ret_bool HF.out.symm, hO.bel⟩)

set_option maxRecDepth 100000 in
set_option maxHeartbeats 4000000 in
theorem rmat_same {w : World} {a b : Mat} {s1 s2 s3 t1 t2 t3 : Value} (ha : RdM w a s1 s2 s3) (hb : RdM w b t1 t2 t3) :
    Calls Try.prog 35 #[matV a s1 s2 s3, matV b t1 t2 t3] w fun e w' => e = .returned (.bool (sameB a b)) ∧ Below w.heap.size w w' := by
  by_cases hh : a.level = b.level ∧ a.nodes = b.nodes ∧ a.cycles = b.cycles ∧ a.length = b.length ∧ a.enable = b.enable ∧ a.unit = b.unit ∧ a.init = b.init ∧ a.ref = b.ref ∧ a.masters.length = b.masters.length ∧ a.msgs.length = b.msgs.length ∧ a.wins.length = b.wins.length
  · obtain ⟨g1, g2, g3, g4, g5, g6, g7, g8, n1, n2, n3⟩ := hh
    obtain ⟨bl, bn, bc, ble, be, bu, bi, br, bm, bs, bw⟩ := b
    simp only at g1 g2 g3 g4 g5 g6 g7 g8 n1 n2 n3
    subst g1 g2 g3 g4 g5 g6 g7 g8
    exact rmat_same_eq ha hb n1 n2 n3
  · have HF := Lib.hid (show sameB a b = false by
      rw [Bool.eq_false_iff]
      intro h
      unfold sameB headEq at h
      simp only [Bool.and_eq_true, beq_iff_eq] at h
      obtain ⟨⟨⟨⟨⟨⟨⟨⟨⟨⟨h1, h2⟩, h3⟩, h4⟩, h5⟩, h6⟩, h7⟩, h8⟩, h9⟩, h10⟩, h11⟩ := h
      have x1 : a.masters.length = b.masters.length := Decidable.byContradiction fun hn => by
        rw [eqL_len hn] at h9
        cases h9
      have x2 : a.msgs.length = b.msgs.length := Decidable.byContradiction fun hn => by
        rw [eqL_len hn] at h10
        cases h10
      have x3 : a.wins.length = b.wins.length := Decidable.byContradiction fun hn => by
        rw [eqL_len hn] at h11
        cases h11
      exact hh ⟨h1, h2, h3, h4, h5, h6, h7, h8, x1, x2, x3⟩)
    have hO := ((Own.nil_ (Below.refl w.heap.size w) (Nat.le_refl _)).alloc (boxM a s1 s2 s3)).alloc (boxM b t1 t2 t3)
    obtain ⟨a1, p1, e1, r1⟩ := ha.r1.shape
    obtain ⟨a2, p2, e2, r2⟩ := ha.r2.shape
    obtain ⟨a3, p3, e3, r3⟩ := ha.r3.shape
    obtain ⟨b1, q1, f1, u1⟩ := hb.r1.shape
    obtain ⟨b2, q2, f2, u2⟩ := hb.r2.shape
    obtain ⟨b3, q3, f3, u3⟩ := hb.r3.shape
    subst e1 e2 e3 f1 f2 f3
    clear ha hb
    have hsz : ∀ o : Obj, (w.alloc o).heap.size = w.heap.size + 1 := fun o => by simp
    rw [hsz] at hO
    clear hsz
    have l1 := r1.len.2
    have l2 := r2.len.2
    have l3 := r3.len.2
    have m1 := u1.len.2
    have m2 := u2.len.2
    have m3 := u3.len.2
    unfold maxLen at l1 l2 l3 m1 m2 m3
    have R1 := Lib.hid r1
    have R2 := Lib.hid r2
    have R3 := Lib.hid r3
    have U1 := Lib.hid u1
    have U2 := Lib.hid u2
    have U3 := Lib.hid u3
    clear r1 r2 r3 u1 u2 u3
    obtain ⟨c0, c1, c2, c3, c4, c5, c6, c7, c8, c9, c10⟩ := boxM_c hO.get1
    obtain ⟨d0, d1, d2, d3, d4, d5, d6, d7, d8, d9, d10⟩ := boxM_c hO.get0
    have HH := Lib.hid hh
    clear hh
    unfold matV
    go_enter Try.func35, Try.ntmps35
    go_wp2
    all_goals first
      | (go_ret; exact ⟨ret_bool HF.out.symm, ((Below.refl _ _).alloc (Nat.le_refl _) _).alloc (by simp) _⟩)
      | (exfalso
         clear c0 c1 c2 c3 c4 c5 c6 c7 c8 c9 c10 d0 d1 d2 d3 d4 d5 d6 d7 d8 d9 d10 hO
         have hx2 : a.wins.length = b.wins.length := by
           have hx : ((a.wins.length : Int) != (b.wins.length : Int)) = false := by assumption
           simp at hx
           omega
         exact HH.out (by refine ⟨?_, ?_, ?_, ?_, ?_, ?_, ?_, ?_, ?_, ?_, ?_⟩ <;> first | assumption | omega))
end Go.Proofs.Ythkhlcigegbpfaa
