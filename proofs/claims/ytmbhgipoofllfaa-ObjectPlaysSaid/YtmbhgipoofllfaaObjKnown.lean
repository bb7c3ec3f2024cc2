/- What the known node of chapter 18 tells. -/
import Derived.Test.YtmbhgipoofllfaaObjS
namespace Go.Proofs.Ytmbhgipoofllfaa
set_option linter.unusedVariables false
set_option linter.unusedSimpArgs false
open Go.ChangeShapes Go.WideShapes Go.ChangeAt Go.RowKit Go.Deep

def leastO : Mat := ⟨0, 0, 0, 0, 0, 0, 0, 0, [], [⟨1, 0, false⟩, ⟨2, 0, true⟩, ⟨3, 1, false⟩], []⟩
theorem leastO_ok : leastO.Ok := by
  refine ⟨by decide, by decide, by decide, by decide, by decide, by decide, by decide, by decide, ?_, ?_, ?_⟩
  · intro x hx; simp [leastO] at hx
  · intro x hx; simp [leastO] at hx; rcases hx with rfl | rfl | rfl <;> exact ⟨by decide, by decide⟩
  · intro x hx; simp [leastO] at hx
theorem results_least {w : World} {b : Nat} {m : Mat} {s1 s2 s3 : Value} {tmps : Array Value} (ht : tmps.getD 0 undef = .pointer (some ⟨b, 0, none⟩)) (h : w.heap[b]? = some (boxM m s1 s2 s3)) :
    (results Try.f26 tmps).run Try.prog w = .ok (matV m s1 s2 s3) w := by
  obtain ⟨r0, r1, r2, r3, r4, r5, r6, r7, r8, r9, r10⟩ := boxM_c h
  have ht' : tmps[0]?.getD undef = .pointer (some ⟨b, 0, none⟩) := by simpa using ht
  simp [results, Try.results26, go_sem, ht', r0, r1, r2, r3, r4, r5, r6, r7, r8, r9, r10, matV]
set_option maxRecDepth 100000 in
theorem least_any (w : World) : Calls Try.prog 26 #[] w fun e w' => ∃ a2 n2 c2, e = .returned (matV leastO (.slice none 0 0) (.slice a2 n2 c2) (.slice none 0 0)) ∧ Below w.heap.size w w' ∧ NewM w.heap.size w' leastO (.slice none 0 0) (.slice a2 n2 c2) (.slice none 0 0) := by
  go_enter Try.func26, Try.ntmps26
  go_wp2
  have h0 := (old_blk (w.alloc (boxM leastO (.slice none 0 0) (.slice (some ⟨w.heap.size + 1, 0, none⟩) 3 3) (.slice none 0 0))) (.cells #[.int .u32 1, .int .i64 0, .bool false, .int .u32 2, .int .i64 0, .bool true, .int .u32 3, .int .i64 1, .bool false] 69) w.heap.size (by simp)).trans (new_blk _ _)
  have h2 := new_blk2 w (boxM leastO (.slice none 0 0) (.slice (some ⟨w.heap.size + 1, 0, none⟩) 3 3) (.slice none 0 0)) (.cells #[.int .u32 1, .int .i64 0, .bool false, .int .u32 2, .int .i64 0, .bool true, .int .u32 3, .int .i64 1, .bool false] 69)
  exact bodyPost_ret (results_least rfl h0) rfl ⟨_, _, _, rfl, ((Below.refl _ _).alloc (Nat.le_refl _) _).alloc (by simp) _,
    .inl ⟨rfl, rfl⟩, .inr ⟨_, rfl, by omega, h2⟩, .inl ⟨rfl, rfl⟩⟩
theorem there0 : thereE leastO 0 = (⟨1, 0, false⟩, true) := rfl
theorem there1 : thereE leastO 1 = (⟨2, 0, true⟩, true) := rfl
theorem there2 : thereE leastO 2 = (⟨3, 1, false⟩, true) := rfl
theorem s_stateZ {d : OD} {E : List (Nat × Obj)} {w0 w : World} {l : List Ev} {n1 n2 : Nat} {f g : Int → Option ByteArray} (h : ObjS d E w0 w l n1 f n2 g) (k : Int) (hk : I64 k) {x : ByteArray} {z : Bool} (hx : (f k).getD ⟨#[]⟩ = x) (hz : (f k).isSome = z) :
    Calls Try.prog 28 #[.pointer (some ⟨d.o, 0, none⟩), .int .i64 k] w (Left d E w0 l n1 f n2 g (.tuple #[.string x, .bool z])) := by
  subst hx; subst hz; exact s_state h k hk
theorem s_readZ {d : OD} {E : List (Nat × Obj)} {w0 w : World} {l : List Ev} {n1 n2 : Nat} {f g : Int → Option ByteArray} (h : ObjS d E w0 w l n1 f n2 g) (k : Int) (hk : I64 k) {x : ByteArray} {z : Bool} (hx : (g k).getD ⟨#[]⟩ = x) (hz : (g k).isSome = z) :
    Calls Try.prog 32 #[.pointer (some ⟨d.o, 0, none⟩), .int .i64 k] w (Left d E w0 l n1 f n2 g (.tuple #[.string x, .bool z])) := by
  subst hx; subst hz; exact s_read h k hk
theorem held29' : Try.prog.stoodInHeld 29 = false := by kernel_rfl
theorem guard29' : Try.prog.eqGuardType Try.prog.depth 29 = false := by kernel_rfl
set_option maxRecDepth 100000 in
set_option maxHeartbeats 4000000 in
theorem known18 (w : World) : Calls Try.prog 24 #[] w fun e w' => e = .returned (.bool true) ∧ Below w.heap.size w w' := by
  have hp := held29'
  have hg := guard29'
  go_enter Try.func24, Try.ntmps24
  go_wp2_with fail
  refine (least_any _).mono ?_
  rintro e w1 ⟨a2, n2, c2, rfl, hB0, hN⟩
  have HB0 := Lib.hid hB0
  have RM := Lib.hid (hN.rd ⟨by decide, by decide, by decide⟩ leastO_ok)
  clear hN hB0
  simp only [matV, leastO]
  go_wp2_with fail
  refine (s_new RM.out ⟨by decide, by decide, by decide⟩ 0).mono ?_
  rintro e w2 ⟨d, w0, rfl, hB1, hm, hw, hS⟩
  have HB1 := Lib.hid hB1
  have T0 := Lib.hid (show thereE d.m 0 = (⟨1, 0, false⟩, true) by rw [hm]; rfl)
  have T1 := Lib.hid (show thereE d.m 1 = (⟨2, 0, true⟩, true) by rw [hm]; rfl)
  have T2 := Lib.hid (show thereE d.m 2 = (⟨3, 1, false⟩, true) by rw [hm]; rfl)
  have W0 := Lib.hid (show ((0 : Int) == d.who) = true by rw [hw]; rfl)
  have W1 := Lib.hid (show ((1 : Int) == d.who) = false by rw [hw]; rfl)
  clear hB1 hm hw
  go_wp2_with fail
  refine (s_send_state hS 0 (by decide) ⟨#[120]⟩ T0.out W0.out (by decide) rfl (by decide)).mono ?_
  rintro e w3 ⟨rfl, hS⟩
  go_wp2_with fail
  refine (s_send_event (z := 0) (l2 := [⟨1, ⟨#[121]⟩⟩]) hS 1 (by decide) ⟨#[121]⟩ T1.out W0.out (by decide) rfl rfl rfl (by decide)).mono ?_
  rintro e w4 ⟨rfl, hS⟩
  go_wp2_with fail
  refine (s_send_alien hS 2 (by decide) ⟨#[]⟩ T2.out W1.out).mono ?_
  rintro e w5 ⟨rfl, hS⟩
  go_wp2_with fail
  refine (s_send_form hS 0 (by decide) ⟨#[49, 50, 51, 52, 53, 54, 55, 56, 57]⟩ T0.out W0.out (by decide)).mono ?_
  rintro e w6 ⟨rfl, hS⟩
  go_wp2_with fail
  refine (s_stateZ hS 0 (by decide) (x := ⟨#[120]⟩) (z := true) rfl rfl).mono ?_
  rintro e w7 ⟨rfl, hS⟩
  go_wp2_with fail
  refine (s_stateZ hS 1 (by decide) (x := ⟨#[]⟩) (z := false) rfl rfl).mono ?_
  rintro e w8 ⟨rfl, hS⟩
  go_wp2_with fail
  refine (s_event hS).mono ?_
  rintro e w9 ⟨rfl, hS⟩
  simp only [headOf, evV]
  go_wp2_with fail
  have hS := hS.alloc (.cells #[.int .i64 1, .string ⟨#[121]⟩] 29)
  refine (s_sent_state hS 0 (by decide) T0.out rfl).mono ?_
  rintro e w10 ⟨v1, rfl, hS⟩
  go_wp2_with fail
  refine (s_waiting hS).mono ?_
  rintro e w11 ⟨rfl, hS⟩
  simp only [List.length_cons, List.length_nil]
  go_wp2_with fail
  refine (s_sent_event hS 1 (by decide) T1.out).mono ?_
  rintro e w12 ⟨v2, rfl, hS⟩
  have hS : ObjS d [(w9.heap.size, .cells #[.int .i64 1, .string ⟨#[121]⟩] 29 (0, 0))] w0 w12 [] 1 (setF (fun _ => none) 0 ⟨#[120]⟩) 0 (fun _ => none) := hS
  go_wp2_with fail
  refine (s_got_yes hS 2 (by decide) ⟨#[122]⟩ (by rw [T2.out]) (by decide) (by decide)).mono ?_
  rintro e w13 ⟨v3, rfl, hS⟩
  go_wp2_with fail
  refine (s_readZ hS 2 (by decide) (x := ⟨#[122]⟩) (z := true) rfl rfl).mono ?_
  rintro e w14 ⟨rfl, hS⟩
  have hd := hS.get (List.mem_cons_self)
  have g0 := cell_of hd 0
  have g1 := cell_of hd 1
  have hld := lt_of_heap hd
  simp at g0 g1
  clear hd
  go_wp2_with fail
  refine (s_waiting hS).mono ?_
  rintro e w15 ⟨rfl, hS⟩
  simp only [List.length_nil]
  go_wp2
  go_ret
  have hb := HB1.out.trans (hS.bel.mono HB1.out.size)
  exact ⟨rfl, HB0.out.trans (hb.mono HB0.out.size)⟩
end Go.Proofs.Ytmbhgipoofllfaa
