/- MasterTwo: of two that both hear one another's beats only the lesser rank leads in the end: at every input. No conditions. -/
import Derived.Test.YtkciakbkiloknaaMasterLaws
namespace Go.Proofs.Ytkciakbkiloknaa
set_option linter.unusedVariables false
set_option linter.unusedSimpArgs false
open Go.ChangeShapes Go.WideShapes Go.ChangeAt Go.RowKit

/-- What the two masters know behind k turns. -/
def TwoS (p q : Int) (k : Nat) (x y : MasterS) : Prop :=
  (k = 0 ∧ x = ⟨p, 0, -1⟩ ∧ y = ⟨q, 0, -1⟩) ∨ (k = 1 ∧ x = ⟨p, 2, p⟩ ∧ y = ⟨q, 1, p⟩) ∨ (2 ≤ k ∧ ∃ l, (l = p ∨ l = q) ∧ x = ⟨p, 2, l⟩ ∧ y = ⟨q, 2, l⟩)
theorem TwoS.even {p q : Int} {k : Nat} {x y : MasterS} (h : TwoS p q k x y) (hp : 0 ≤ p) (he : k % 2 = 0) : TwoS p q (k + 1) x.sent (y.beat p) := by
  rcases h with ⟨rfl, rfl, rfl⟩ | ⟨rfl, rfl, rfl⟩ | ⟨hk, l, hl, rfl, rfl⟩
  · exact .inr (.inl ⟨rfl, by simp [MasterS.sent, hp], by simp [MasterS.beat]; try decide⟩)
  · omega
  · exact .inr (.inr ⟨by omega, p, .inl rfl, by simp [MasterS.sent, hp], by simp [MasterS.beat]; try decide⟩)
theorem TwoS.odd {p q : Int} {k : Nat} {x y : MasterS} (h : TwoS p q k x y) (hq : 0 ≤ q) (he : ¬ k % 2 = 0) : TwoS p q (k + 1) (x.beat q) y.sent := by
  rcases h with ⟨rfl, rfl, rfl⟩ | ⟨rfl, rfl, rfl⟩ | ⟨hk, l, hl, rfl, rfl⟩
  · omega
  · exact .inr (.inr ⟨by omega, q, .inr rfl, by simp [MasterS.beat]; try decide, by simp [MasterS.sent, hq]⟩)
  · exact .inr (.inr ⟨by omega, q, .inr rfl, by simp [MasterS.beat]; try decide, by simp [MasterS.sent, hq]⟩)
theorem TwoS.st {p q : Int} {k : Nat} {x y : MasterS} (h : TwoS p q k x y) : (0 ≤ x.state ∧ x.state ≤ 2) ∧ 0 ≤ y.state ∧ y.state ≤ 2 := by
  rcases h with ⟨rfl, rfl, rfl⟩ | ⟨rfl, rfl, rfl⟩ | ⟨hk, l, hl, rfl, rfl⟩ <;> simp

section
variable {B b1 b2 : Nat} {w0 w : World} {m1 m2 : MasterS}
theorem o1_sent (h : On2 B w0 b1 (masO m1) b2 (masO m2) w) : Calls Try.prog 25 #[.pointer (some ⟨b1, 0, none⟩)] w fun e w' => e = .returned (.tuple #[]) ∧ On2 B w0 b1 (masO m1.sent) b2 (masO m2) w' :=
  (mas_sent h.blk1).mono fun _ _ ⟨he, u⟩ => ⟨he, h.upd1 u⟩
theorem o2_sent (h : On2 B w0 b1 (masO m1) b2 (masO m2) w) : Calls Try.prog 25 #[.pointer (some ⟨b2, 0, none⟩)] w fun e w' => e = .returned (.tuple #[]) ∧ On2 B w0 b1 (masO m1) b2 (masO m2.sent) w' :=
  (mas_sent h.blk2).mono fun _ _ ⟨he, u⟩ => ⟨he, h.upd2 u⟩
theorem o1_beat (h : On2 B w0 b1 (masO m1) b2 (masO m2) w) (r : Int) (hs : 0 ≤ m1.state ∧ m1.state ≤ 2) : Calls Try.prog 26 #[.pointer (some ⟨b1, 0, none⟩), .int .i64 r] w fun e w' => e = .returned (.tuple #[]) ∧ On2 B w0 b1 (masO (m1.beat r)) b2 (masO m2) w' :=
  (mas_beat h.blk1 r hs.1 hs.2).mono fun _ _ ⟨he, u⟩ => ⟨he, h.upd1 u⟩
theorem o2_beat (h : On2 B w0 b1 (masO m1) b2 (masO m2) w) (r : Int) (hs : 0 ≤ m2.state ∧ m2.state ≤ 2) : Calls Try.prog 26 #[.pointer (some ⟨b2, 0, none⟩), .int .i64 r] w fun e w' => e = .returned (.tuple #[]) ∧ On2 B w0 b1 (masO m1) b2 (masO (m2.beat r)) w' :=
  (mas_beat h.blk2 r hs.1 hs.2).mono fun _ _ ⟨he, u⟩ => ⟨he, h.upd2 u⟩
theorem o1_leads {v : Bool} (h : On2 B w0 b1 (masO m1) b2 (masO m2) w) (hv : m1.leads = v) : Calls Try.prog 27 #[.pointer (some ⟨b1, 0, none⟩)] w fun e w' => e = .returned (.bool v) ∧ On2 B w0 b1 (masO m1) b2 (masO m2) w' :=
  hv ▸ (mas_leads h.blk1).mono fun _ _ ⟨he, n, hn⟩ => ⟨he, hn ▸ h.drewN n⟩
theorem o2_leads {v : Bool} (h : On2 B w0 b1 (masO m1) b2 (masO m2) w) (hv : m2.leads = v) : Calls Try.prog 27 #[.pointer (some ⟨b2, 0, none⟩)] w fun e w' => e = .returned (.bool v) ∧ On2 B w0 b1 (masO m1) b2 (masO m2) w' :=
  hv ▸ (mas_leads h.blk2).mono fun _ _ ⟨he, n, hn⟩ => ⟨he, hn ▸ h.drewN n⟩
theorem o1_leader (h : On2 B w0 b1 (masO m1) b2 (masO m2) w) : Calls Try.prog 28 #[.pointer (some ⟨b1, 0, none⟩)] w fun e w' => e = .returned (.int .i64 m1.leader) ∧ w = w' := mas_leader h.blk1
theorem o2_leader (h : On2 B w0 b1 (masO m1) b2 (masO m2) w) : Calls Try.prog 28 #[.pointer (some ⟨b2, 0, none⟩)] w fun e w' => e = .returned (.int .i64 m2.leader) ∧ w = w' := mas_leader h.blk2
end

theorem leads_of {p l : Int} (hp : 0 ≤ p) {v : Bool} (h : decide (p ≤ l) = v) : (⟨p, 2, l⟩ : MasterS).leads = v := by simp [MasterS.leads, hp, ← h]
theorem sent_of {p l : Int} (hp : 0 ≤ p) : (⟨p, 2, l⟩ : MasterS).sent = ⟨p, 2, p⟩ := by simp [MasterS.sent, hp]
theorem beat_of {p l r : Int} : (⟨p, 2, l⟩ : MasterS).beat r = ⟨p, 2, r⟩ := by simp [MasterS.beat]; try decide

set_option maxHeartbeats 1000000 in
theorem MasterTwo_walk (a0 a1 a2 : Int) (w0 : (Lit.int .u8 a0).wf = true) (w1 : (Lit.int .u8 a1).wf = true) (w2 : (Lit.int .u8 a2).wf = true) (w : World) :
    Holds 5 #[.int .u8 a0, .int .u8 a1, .int .u8 a2] w := by
  have b0 := u8_bounds w0
  have b1 := u8_bounds w1
  have b2 := u8_bounds w2
  clear w0 w1 w2
  have p0 : 0 ≤ a0 % 8 := by omega
  have q0 : 0 ≤ a1 % 8 := by omega
  unfold Holds
  by_cases c : a0 % 8 = a1 % 8
  · have c' : (a0 % 8 == a1 % 8) = true := by simp [c]
    clear c
    go_enter Try.func5, Try.ntmps5
    go_wp2_with (go_at_call 23; refine (master_known _).mono ?_; rintro e w1 ⟨rfl, hb⟩)
    go_ret
    exact ⟨rfl, ‹Below _ _ _›⟩
  have c' : (a0 % 8 == a1 % 8) = false := by simp [c]
  have Q1 := Lib.hid (show MasterS.new (a0 % 8) = ⟨a0 % 8, 0, -1⟩ by simp [MasterS.new]; omega)
  have Q2 := Lib.hid (show MasterS.new (a1 % 8) = ⟨a1 % 8, 0, -1⟩ by simp [MasterS.new]; omega)
  have C := Lib.hid c
  clear c
  go_enter Try.func5, Try.ntmps5
  go_wp2_with fail
  refine (master_known _).mono ?_
  rintro e w1 ⟨rfl, hb⟩
  go_wp2_with fail
  refine (om_new hb hb.size _).mono ?_
  rintro e w2 ⟨bx, rfl, hO⟩
  rw [Q1.out] at hO
  clear hb
  go_wp2_with fail
  refine (mas_new _ _).mono ?_
  rintro e w3 ⟨by_, rfl, hN, hb, hl⟩
  rw [Q2.out] at hN
  have hT := hO.two hb hl hN
  clear hO hb hl hN
  go_wp2_with fail
  obtain ⟨n, hn⟩ : ∃ n : Nat, (n : Int) = a2 % 10 + 3 := ⟨(a2 % 10 + 3).toNat, by omega⟩
  have hn3 : 3 ≤ n := by omega
  have hn12 : n ≤ 12 := by omega
  go_loopw [11] (fun i wr => ∃ (k : Nat) (m1 m2 : MasterS), i = .int .i64 k ∧ k ≤ n ∧ TwoS (a0 % 8) (a1 % 8) k m1 m2 ∧ On2 w.heap.size w bx (masO m1) by_ (masO m2) wr) (fun i _ => n - (intOf i).toNat)
  case atStart => exact ⟨0, _, _, rfl, by omega, .inl ⟨rfl, rfl, rfl⟩, hT⟩
  case round =>
    obtain ⟨k, m1, m2, rfl, hk, hs, hT⟩ := hrel
    by_cases hlt : k < n
    · have hlt' : (k : Int) < a2 % 10 + 3 := by omega
      have HN := Lib.hid hn
      clear hn
      by_cases he : k % 2 = 0
      · have he' : ((k : Int) % 2 == 0) = true := by simp; omega
        have HS := Lib.hid (hs.even p0 he)
        have HB := hs.st.2
        clear hs he
        go_wp2_with fail
        refine (o1_sent hT).mono ?_
        rintro e w4 ⟨rfl, hT⟩
        go_wp2_with fail
        refine (o2_beat hT _ HB).mono ?_
        rintro e w5 ⟨rfl, hT⟩
        go_wp2_with fail
        go_roundw
        case rel => exact ⟨k + 1, _, _, by go_num, by omega, HS.out, hT⟩
        case measure => simp [intOf]; omega
      · have he' : ((k : Int) % 2 == 0) = false := by simp; omega
        have HS := Lib.hid (hs.odd q0 he)
        have HB := hs.st.1
        clear hs he
        go_wp2_with fail
        refine (o2_sent hT).mono ?_
        rintro e w4 ⟨rfl, hT⟩
        go_wp2_with fail
        refine (o1_beat hT _ HB).mono ?_
        rintro e w5 ⟨rfl, hT⟩
        go_wp2_with fail
        go_roundw
        case rel => exact ⟨k + 1, _, _, by go_num, by omega, HS.out, hT⟩
        case measure => simp [intOf]; omega
    · have hlt' : ¬ (k : Int) < a2 % 10 + 3 := by omega
      have HN := Lib.hid hn
      clear hn
      obtain ⟨l, hl, rfl, rfl⟩ : ∃ l, (l = a0 % 8 ∨ l = a1 % 8) ∧ m1 = ⟨a0 % 8, 2, l⟩ ∧ m2 = ⟨a1 % 8, 2, l⟩ := by
        rcases hs with ⟨h, _⟩ | ⟨h, _⟩ | ⟨_, h⟩
        · omega
        · omega
        · exact h
      have HL := Lib.hid hl
      clear hl hs
      go_wp2_with fail
      obtain ⟨wo, rfl⟩ : ∃ wo : World, wo = wr := ⟨_, rfl⟩
      go_loopw [12] (fun i wr => ∃ (j : Nat) (l : Int), i = .int .i64 j ∧ j ≤ 4 ∧ (l = a0 % 8 ∨ l = a1 % 8) ∧ (1 ≤ j → l ≤ a0 % 8 ∧ l ≤ a1 % 8) ∧ On2 w.heap.size w bx (masO ⟨a0 % 8, 2, l⟩) by_ (masO ⟨a1 % 8, 2, l⟩) wr) (fun i _ => 4 - (intOf i).toNat)
      case atStart => exact ⟨0, l, rfl, by omega, HL.out, fun h => by omega, hT⟩
      case round =>
        clear hT HL
        obtain ⟨j, l, rfl, hj, hl, hle, hT⟩ := hrel
        have hne := C.out
        by_cases hlt : j < 4
        · rcases hl with rfl | rfl
          · rcases Int.lt_or_gt_of_ne hne with hpq | hpq
            · clear hle
              have HX := Lib.hid (leads_of (p := a0 % 8) (l := (a0 % 8)) p0 (v := true) (by simp; try omega))
              have HY := Lib.hid (leads_of (p := a1 % 8) (l := (a0 % 8)) q0 (v := false) (by simp; try omega))
              go_wp2_with (first | (go_at_call 27; with_reducible refine (o1_leads hT HX.out).mono ?_; rintro e w5 ⟨rfl, hT⟩) | (go_at_call 27; with_reducible refine (o2_leads hT HY.out).mono ?_; rintro e w5 ⟨rfl, hT⟩) | (go_at_call 25; with_reducible refine (o1_sent hT).mono ?_; rintro e w5 ⟨rfl, hT⟩; rw [sent_of p0] at hT) | (go_at_call 25; with_reducible refine (o2_sent hT).mono ?_; rintro e w5 ⟨rfl, hT⟩; rw [sent_of q0] at hT) | (go_at_call 26; with_reducible refine (o1_beat hT _ (by simp)).mono ?_; rintro e w5 ⟨rfl, hT⟩; rw [beat_of] at hT) | (go_at_call 26; with_reducible refine (o2_beat hT _ (by simp)).mono ?_; rintro e w5 ⟨rfl, hT⟩; rw [beat_of] at hT) | (go_at_call 28; with_reducible refine (o1_leader hT).mono ?_; rintro e w5 ⟨rfl, rfl⟩) | (go_at_call 28; with_reducible refine (o2_leader hT).mono ?_; rintro e w5 ⟨rfl, rfl⟩))
              go_roundw
              case rel => exact ⟨j + 1, (a0 % 8), by go_num, by omega, .inl rfl, fun _ => by omega, hT⟩
              case measure => simp [intOf]; omega
            · clear hle
              have HX := Lib.hid (leads_of (p := a0 % 8) (l := (a0 % 8)) p0 (v := true) (by simp; try omega))
              have HY := Lib.hid (leads_of (p := a1 % 8) (l := (a0 % 8)) q0 (v := true) (by simp; try omega))
              go_wp2_with (first | (go_at_call 27; with_reducible refine (o1_leads hT HX.out).mono ?_; rintro e w5 ⟨rfl, hT⟩) | (go_at_call 27; with_reducible refine (o2_leads hT HY.out).mono ?_; rintro e w5 ⟨rfl, hT⟩) | (go_at_call 25; with_reducible refine (o1_sent hT).mono ?_; rintro e w5 ⟨rfl, hT⟩; rw [sent_of p0] at hT) | (go_at_call 25; with_reducible refine (o2_sent hT).mono ?_; rintro e w5 ⟨rfl, hT⟩; rw [sent_of q0] at hT) | (go_at_call 26; with_reducible refine (o1_beat hT _ (by simp)).mono ?_; rintro e w5 ⟨rfl, hT⟩; rw [beat_of] at hT) | (go_at_call 26; with_reducible refine (o2_beat hT _ (by simp)).mono ?_; rintro e w5 ⟨rfl, hT⟩; rw [beat_of] at hT) | (go_at_call 28; with_reducible refine (o1_leader hT).mono ?_; rintro e w5 ⟨rfl, rfl⟩) | (go_at_call 28; with_reducible refine (o2_leader hT).mono ?_; rintro e w5 ⟨rfl, rfl⟩))
              go_roundw
              case rel => exact ⟨j + 1, (a1 % 8), by go_num, by omega, .inr rfl, fun _ => by omega, hT⟩
              case measure => simp [intOf]; omega
          · rcases Int.lt_or_gt_of_ne hne with hpq | hpq
            · clear hle
              have HX := Lib.hid (leads_of (p := a0 % 8) (l := (a1 % 8)) p0 (v := true) (by simp; try omega))
              have HY := Lib.hid (leads_of (p := a1 % 8) (l := (a1 % 8)) q0 (v := true) (by simp; try omega))
              go_wp2_with (first | (go_at_call 27; with_reducible refine (o1_leads hT HX.out).mono ?_; rintro e w5 ⟨rfl, hT⟩) | (go_at_call 27; with_reducible refine (o2_leads hT HY.out).mono ?_; rintro e w5 ⟨rfl, hT⟩) | (go_at_call 25; with_reducible refine (o1_sent hT).mono ?_; rintro e w5 ⟨rfl, hT⟩; rw [sent_of p0] at hT) | (go_at_call 25; with_reducible refine (o2_sent hT).mono ?_; rintro e w5 ⟨rfl, hT⟩; rw [sent_of q0] at hT) | (go_at_call 26; with_reducible refine (o1_beat hT _ (by simp)).mono ?_; rintro e w5 ⟨rfl, hT⟩; rw [beat_of] at hT) | (go_at_call 26; with_reducible refine (o2_beat hT _ (by simp)).mono ?_; rintro e w5 ⟨rfl, hT⟩; rw [beat_of] at hT) | (go_at_call 28; with_reducible refine (o1_leader hT).mono ?_; rintro e w5 ⟨rfl, rfl⟩) | (go_at_call 28; with_reducible refine (o2_leader hT).mono ?_; rintro e w5 ⟨rfl, rfl⟩))
              go_roundw
              case rel => exact ⟨j + 1, (a0 % 8), by go_num, by omega, .inl rfl, fun _ => by omega, hT⟩
              case measure => simp [intOf]; omega
            · clear hle
              have HX := Lib.hid (leads_of (p := a0 % 8) (l := (a1 % 8)) p0 (v := false) (by simp; try omega))
              have HY := Lib.hid (leads_of (p := a1 % 8) (l := (a1 % 8)) q0 (v := true) (by simp; try omega))
              go_wp2_with (first | (go_at_call 27; with_reducible refine (o1_leads hT HX.out).mono ?_; rintro e w5 ⟨rfl, hT⟩) | (go_at_call 27; with_reducible refine (o2_leads hT HY.out).mono ?_; rintro e w5 ⟨rfl, hT⟩) | (go_at_call 25; with_reducible refine (o1_sent hT).mono ?_; rintro e w5 ⟨rfl, hT⟩; rw [sent_of p0] at hT) | (go_at_call 25; with_reducible refine (o2_sent hT).mono ?_; rintro e w5 ⟨rfl, hT⟩; rw [sent_of q0] at hT) | (go_at_call 26; with_reducible refine (o1_beat hT _ (by simp)).mono ?_; rintro e w5 ⟨rfl, hT⟩; rw [beat_of] at hT) | (go_at_call 26; with_reducible refine (o2_beat hT _ (by simp)).mono ?_; rintro e w5 ⟨rfl, hT⟩; rw [beat_of] at hT) | (go_at_call 28; with_reducible refine (o1_leader hT).mono ?_; rintro e w5 ⟨rfl, rfl⟩) | (go_at_call 28; with_reducible refine (o2_leader hT).mono ?_; rintro e w5 ⟨rfl, rfl⟩))
              go_roundw
              case rel => exact ⟨j + 1, (a1 % 8), by go_num, by omega, .inr rfl, fun _ => by omega, hT⟩
              case measure => simp [intOf]; omega
        · have hle' := hle (by omega)
          clear hle
          rcases Int.lt_or_gt_of_ne hne with hpq | hpq
          · obtain rfl : l = a0 % 8 := by omega
            clear hl hle'
            have HX := Lib.hid (leads_of (p := a0 % 8) (l := a0 % 8) p0 (v := true) (by simp))
            have HY := Lib.hid (leads_of (p := a1 % 8) (l := a0 % 8) q0 (v := false) (by simp; try omega))
            go_wp2_with (first | (go_at_call 27; with_reducible refine (o1_leads hT HX.out).mono ?_; rintro e w5 ⟨rfl, hT⟩) | (go_at_call 27; with_reducible refine (o2_leads hT HY.out).mono ?_; rintro e w5 ⟨rfl, hT⟩) | (go_at_call 25; with_reducible refine (o1_sent hT).mono ?_; rintro e w5 ⟨rfl, hT⟩; rw [sent_of p0] at hT) | (go_at_call 25; with_reducible refine (o2_sent hT).mono ?_; rintro e w5 ⟨rfl, hT⟩; rw [sent_of q0] at hT) | (go_at_call 26; with_reducible refine (o1_beat hT _ (by simp)).mono ?_; rintro e w5 ⟨rfl, hT⟩; rw [beat_of] at hT) | (go_at_call 26; with_reducible refine (o2_beat hT _ (by simp)).mono ?_; rintro e w5 ⟨rfl, hT⟩; rw [beat_of] at hT) | (go_at_call 28; with_reducible refine (o1_leader hT).mono ?_; rintro e w5 ⟨rfl, rfl⟩) | (go_at_call 28; with_reducible refine (o2_leader hT).mono ?_; rintro e w5 ⟨rfl, rfl⟩))
            all_goals (go_ret; exact ⟨rfl, hT.bel⟩)
          · obtain rfl : l = a1 % 8 := by omega
            clear hl hle'
            have d1 : decide (a0 % 8 < a1 % 8) = false := by simp; omega
            have HX := Lib.hid (leads_of (p := a0 % 8) (l := a1 % 8) p0 (v := false) (by simp; try omega))
            have HY := Lib.hid (leads_of (p := a1 % 8) (l := a1 % 8) q0 (v := true) (by simp))
            go_wp2_with (first | (go_at_call 27; with_reducible refine (o1_leads hT HX.out).mono ?_; rintro e w5 ⟨rfl, hT⟩) | (go_at_call 27; with_reducible refine (o2_leads hT HY.out).mono ?_; rintro e w5 ⟨rfl, hT⟩) | (go_at_call 25; with_reducible refine (o1_sent hT).mono ?_; rintro e w5 ⟨rfl, hT⟩; rw [sent_of p0] at hT) | (go_at_call 25; with_reducible refine (o2_sent hT).mono ?_; rintro e w5 ⟨rfl, hT⟩; rw [sent_of q0] at hT) | (go_at_call 26; with_reducible refine (o1_beat hT _ (by simp)).mono ?_; rintro e w5 ⟨rfl, hT⟩; rw [beat_of] at hT) | (go_at_call 26; with_reducible refine (o2_beat hT _ (by simp)).mono ?_; rintro e w5 ⟨rfl, hT⟩; rw [beat_of] at hT) | (go_at_call 28; with_reducible refine (o1_leader hT).mono ?_; rintro e w5 ⟨rfl, rfl⟩) | (go_at_call 28; with_reducible refine (o2_leader hT).mono ?_; rintro e w5 ⟨rfl, rfl⟩))
            all_goals (go_ret; exact ⟨rfl, hT.bel⟩)

set_option maxRecDepth 100000 in
theorem MasterTwo_lifted (os : Os) (started : os.Started) (H : Type) (enc : TypeId × Value → H) :
    ReturnsInHanded {} Try.checked os 5 .any (Rows.masterTwoSpec.pre6 enc Try.prog Try.f5 [] false) (Rows.masterTwoSpec.post enc Try.prog Try.f5 false true false false) := by
  refine law_lifted (n := 3) os started H enc (by kernel_rfl) Try.func5 rfl rfl (hts_of (by kernel_rfl)) rfl (fun ds h => match ds, h with | [_, _, _], _ => rfl)
    (ChangeSpec.witness6 (enc := enc) (C := Try.checked) false ⟨#[], #[.int .u8 0, .int .u8 0, .int .u8 0], []⟩ 8 (by kernel_rfl) (by kernel_rfl) (by kernel_rfl) (by kernel_rfl)) ?_
  intro W base args ds p hval hA
  rw [Try.params5] at hA hval
  obtain ⟨v0, vs0, d0, ds0, p0, q0, hargs, rfl, rfl, h0, r0⟩ := trodAll_cons hA
  obtain ⟨v1, vs1, d1, ds1, p1, q1, rfl, rfl, rfl, h1, r1⟩ := trodAll_cons r0
  obtain ⟨v2, vs2, d2, ds2, p2, q2, rfl, rfl, rfl, h2, r2⟩ := trodAll_cons r1
  obtain ⟨rfl, rfl, rfl⟩ := trodAll_nil r2
  obtain rfl : args = #[v0, v1, v2] := by cases args; simp_all
  obtain ⟨a0, rfl, rfl, rfl, w0⟩ := open_int Try.underlying5 (hval 0 _ v0 rfl rfl) h0
  obtain ⟨a1, rfl, rfl, rfl, w1⟩ := open_int Try.underlying5 (hval 1 _ v1 rfl rfl) h1
  obtain ⟨a2, rfl, rfl, rfl, w2⟩ := open_int Try.underlying5 (hval 2 _ v2 rfl rfl) h2
  exact MasterTwo_walk a0 a1 a2 w0 w1 w2 W 

theorem MasterTwo_over : Rows.masterTwoRow.holds Try.pinned (OpenSpec.ofChange Rows.masterTwoSpec) :=
  OpenClaim.holds_of_wide 5 Try.f5 rfl rfl rfl rfl rfl rfl rfl ⟨rfl, rfl, rfl, rfl, rfl⟩ rfl rfl rfl rfl rfl (by kernel_rfl) Try.func5 (by kernel_rfl)
    (of_decide_eq_true (by kernel_rfl)) (by unfold Func.isWrapper; first | (rw [if_pos (by decide +kernel)]; kernel_rfl) | (rw [if_neg (by decide +kernel)]; exact ⟨rfl, rfl⟩))
    (fun os started H enc _ => MasterTwo_lifted os started H enc)
theorem MasterTwo_holds : Rows.MasterTwoSaid := MasterTwo_over
#print axioms MasterTwo_holds
end Go.Proofs.Ytkciakbkiloknaa
