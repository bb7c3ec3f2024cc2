/- The queue and the reference's queue side by side, as lists of the call's own blocks. -/
import Derived.Test.YtmbhgipoofllfaaRefQueue
import Derived.Test.YtmbhgipoofllfaaHeld
namespace Go.Proofs.Ytmbhgipoofllfaa
set_option linter.unusedVariables false
set_option linter.unusedSimpArgs false
open Go.ChangeShapes Go.WideShapes Go.ChangeAt Go.RowKit Go.Deep

theorem Own.sub {B : Nat} {w0 w : World} {L L' : List (Nat × Obj)} (h : Own B w0 L w) (hs : L'.Sublist L) : Own B w0 L' w :=
  ⟨h.bel, h.sz, (hs.map _).nodup h.nd, fun b o hm => h.all b o (hs.subset hm)⟩
theorem Own.left {B : Nat} {w0 w : World} {L G : List (Nat × Obj)} (h : Own B w0 (L ++ G) w) : Own B w0 L w := h.sub (List.sublist_append_left _ _)
theorem Own.snoc {B g : Nat} {w0 w : World} {o : Obj} {L : List (Nat × Obj)} (h : Own B w0 L w) (hg : w.heap[g]? = some o) (hB : B ≤ g) (hn : ∀ b u, (b, u) ∈ L → b ≠ g) : Own B w0 (L ++ [(g, o)]) w := by
  have k := h.more hg hB hn
  refine ⟨h.bel, h.sz, ?_, fun b u hm => k.all b u (by simp at hm ⊢; rcases hm with e | e <;> simp [e])⟩
  simp only [List.map_append, List.map_cons, List.map_nil]
  refine List.nodup_append.2 ⟨h.nd, by simp, ?_⟩
  intro a ha b hb e
  simp at hb
  subst hb
  subst e
  obtain ⟨⟨b', u⟩, hm, e⟩ := List.mem_map.1 ha
  exact hn b' u hm e

/-- The blocks G are what the slice v of deliveries leads to; it reads l. -/
def Rds (G : List (Nat × Obj)) (v : Value) (l : List Ev) : Prop :=
  (v = .slice none 0 0 ∧ l = [] ∧ G = []) ∨
  ∃ g cp o, v = .slice (some ⟨g, 0, none⟩) l.length cp ∧ l.length ≤ cp ∧ G = [(g, o)] ∧ ∀ w : World, w.heap[g]? = some o → ∀ k x, l[k]? = some x → w.cell? ⟨g, k * 2, none⟩ = some (.int .i64 x.msg) ∧ w.cell? ⟨g, k * 2 + 1, none⟩ = some (.string x.data)

theorem Rds.evs {B : Nat} {w0 w : World} {L G : List (Nat × Obj)} {v : Value} {l : List Ev} (h : Rds G v l) (hO : Own B w0 (L ++ G) w) : EvS w v l := by
  rcases h with ⟨h1, h2, _⟩ | ⟨g, cp, o, h1, h2, rfl, h3⟩
  · exact .inl ⟨h1, h2⟩
  · exact .inr ⟨g, cp, h1, h2, h3 w (hO.all g o (by simp)).2⟩
theorem rds_of {B : Nat} {w0 w : World} {L : List (Nat × Obj)} {v : Value} {l : List Ev} (h : EvS w v l) (hO : Own B w0 L w) (hf : ∀ g, v.ownBlock = some g → B ≤ g ∧ g < w.heap.size ∧ ∀ b u, (b, u) ∈ L → b ≠ g) : ∃ G, Own B w0 (L ++ G) w ∧ Rds G v l := by
  rcases h with ⟨h1, h2⟩ | ⟨g, cp, h1, h2, h3⟩
  · exact ⟨[], by simpa using hO, .inl ⟨h1, h2, rfl⟩⟩
  · subst h1
    obtain ⟨ha, hb, hc⟩ := hf g rfl
    obtain ⟨o, ho⟩ : ∃ o, w.heap[g]? = some o := ⟨w.heap[g], by simp [hb]⟩
    refine ⟨[(g, o)], hO.snoc ho ha hc, .inr ⟨g, cp, o, rfl, h2, rfl, fun w' hw' k x hx => ?_⟩⟩
    obtain ⟨a, b⟩ := h3 k x hx
    exact ⟨(World.cell?_of_block (a := ⟨g, k * 2, none⟩) (hw'.trans ho.symm)).trans a, (World.cell?_of_block (a := ⟨g, k * 2 + 1, none⟩) (hw'.trans ho.symm)).trans b⟩
theorem Own.fresh {B : Nat} {w0 w : World} {L : List (Nat × Obj)} (h : Own B w0 L w) {g : Nat} (hg : w.heap.size ≤ g) : B ≤ g ∧ ∀ b u, (b, u) ∈ L → b ≠ g :=
  ⟨Nat.le_trans h.sz hg, fun b u hm => by have := lt_of_heap (h.all b u hm).2; omega⟩

section
variable {B br : Nat} {w0 w : World} {room : Int} {v : Value} {l : List Ev} {L1 G : List (Nat × Obj)}
/-- The reference's queue has turned. -/
theorem own_rturn {v' : Value} {l' : List Ev} {w' : World} (h : Own B w0 (L1 ++ (br, rqO room v) :: G) w) (hu : Upd br (rqO room v') w w') (he : EvS w' v' l') (hf : ∀ g, v'.ownBlock = some g → w.heap.size ≤ g ∧ g < w'.heap.size) :
    ∃ G', Own B w0 (L1 ++ (br, rqO room v') :: G') w' ∧ Rds G' v' l' := by
  have h' : Own B w0 (L1 ++ [(br, rqO room v')]) w' := (h.upd hu).sub (List.Sublist.append (List.Sublist.refl _) (by simp))
  obtain ⟨G', hG, hR⟩ := rds_of he h' (fun g hg => by
    obtain ⟨a, b⟩ := hf g hg
    refine ⟨Nat.le_trans h.sz a, b, fun b u hm => ?_⟩
    have hlt : b < w.heap.size := by
      simp at hm
      rcases hm with hm | ⟨rfl, _⟩
      · exact lt_of_heap (h.all b u (by simp [hm])).2
      · exact lt_of_heap (h.all b (rqO room v) (by simp)).2
    omega)
  exact ⟨G', by simpa using hG, hR⟩
theorem own_rput (h : Own B w0 (L1 ++ (br, rqO room v) :: G) w) (hR : Rds G v l) (msg : Int) (data : ByteArray) {cap : Nat} (hr : room = cap) (h4 : cap ≤ 4) (hl : l.length ≤ cap) :
    Calls Try.prog 21 #[.pointer (some ⟨br, 0, none⟩), .int .i64 msg, .string data] w fun e w' => ∃ v' G', e = .returned (.int .i64 (if l.length < cap then 0 else 170)) ∧ Own B w0 (L1 ++ (br, rqO room v') :: G') w' ∧ Rds G' v' (putL cap l ⟨msg, data⟩) := by
  have hb := (h.all br (rqO room v) (by simp)).2
  have hE : EvS w v l := hR.evs (L := L1 ++ [(br, rqO room v)]) (by simpa using h)
  subst hr
  by_cases hc : l.length < cap
  · refine (rque_put hb hE msg data (by omega) (by omega)).mono ?_
    rintro e w' ⟨v', rfl, hu, he, hf⟩
    obtain ⟨G', a, b⟩ := own_rturn h hu he hf
    exact ⟨v', G', by simp [hc], a, by simpa [putL, hc] using b⟩
  · refine (rque_full hb hE msg data (by omega) (by omega)).mono ?_
    rintro e w' ⟨rfl, n, rfl⟩
    exact ⟨v, G, by simp [hc], h.drewN n, by simpa [putL, hc] using hR⟩
theorem own_rtake (h : Own B w0 (L1 ++ (br, rqO room v) :: G) w) (hR : Rds G v l) (h4 : l.length ≤ 4) :
    Calls Try.prog 22 #[.pointer (some ⟨br, 0, none⟩)] w fun e w' => ∃ v' G', e = .returned (takeV l) ∧ Own B w0 (L1 ++ (br, rqO room v') :: G') w' ∧ Rds G' v' l.tail := by
  have hb := (h.all br (rqO room v) (by simp)).2
  have hE : EvS w v l := hR.evs (L := L1 ++ [(br, rqO room v)]) (by simpa using h)
  cases l with
  | nil =>
    refine (rque_takeNone hb hE).mono ?_
    rintro e w' ⟨rfl, hw⟩
    exact ⟨v, G, rfl, h.keep hw, hR⟩
  | cons x l =>
    simp at h4
    refine (rque_take hb hE (by omega)).mono ?_
    rintro e w' ⟨v', rfl, hu, he, hf⟩
    obtain ⟨G', a, b⟩ := own_rturn h hu he hf
    exact ⟨v', G', rfl, a, b⟩
end
theorem own_rnew {B : Nat} {w0 w : World} {L : List (Nat × Obj)} (n : Int) (h : Own B w0 L w) :
    Calls Try.prog 19 #[.int .i64 n] w fun e w' => ∃ b, e = .returned (.pointer (some ⟨b, 0, none⟩)) ∧ Own B w0 (L ++ [(b, rqO (max 1 (min n 4)) (.slice none 0 0))]) w' := by
  refine (rque_new n w).mono ?_
  rintro e w' ⟨rfl, rfl⟩
  exact ⟨_, rfl, (h.alloc_ _).snoc (new_blk _ _) h.sz (fun b u hm => by have := lt_of_heap (h.all b u hm).2; omega)⟩
theorem own_copyQ {B c q cap s r : Nat} {w0 w : World} {l : List Ev} {L : List (Nat × Obj)} (h : Own B w0 ((c, chaO cap l s r) :: L) w) (hq : w.heap[q]? = some (queO c)) (hl : l.length ≤ cap) (h1 : 1 ≤ cap) (h4 : cap ≤ 4) :
    Calls Try.prog 20 #[.pointer (some ⟨q, 0, none⟩)] w fun e w' => ∃ q' c' s' r' s2 r2, e = .returned (.pointer (some ⟨q', 0, none⟩)) ∧ Own B w0 ((c', chaO cap l s2 r2) :: (q', queO c') :: (c, chaO cap l s' r') :: L) w' :=
  (own_copyS h hq hl h1 h4).mono fun _ _ ⟨q', c', s', r', s2, r2, he, hO, _⟩ => ⟨q', c', s', r', s2, r2, he, hO⟩
theorem que_putZ {w : World} {q c cap s r : Nat} {l l' : List Ev} {z : Int} (hq : w.heap[q]? = some (queO c)) (hc : w.heap[c]? = some (chaO cap l s r)) (msg : Int) (data : ByteArray) (hl : l.length ≤ cap) (hz : (if l.length < cap then 0 else 170) = z) (hl' : putL cap l ⟨msg, data⟩ = l') :
    Calls Try.prog 14 #[.pointer (some ⟨q, 0, none⟩), .int .i64 msg, .string data] w fun e w' => ∃ s' r', e = .returned (.int .i64 z) ∧ Upd c (chaO cap l' s' r') w w' := by
  subst hz; subst hl'; exact que_putAny hq hc msg data hl
theorem own_rputZ {B br : Nat} {w0 w : World} {room : Int} {v : Value} {l l' : List Ev} {L1 G : List (Nat × Obj)} {z : Int} (h : Own B w0 (L1 ++ (br, rqO room v) :: G) w) (hR : Rds G v l) (msg : Int) (data : ByteArray) {cap : Nat} (hr : room = cap) (h4 : cap ≤ 4) (hl : l.length ≤ cap) (hz : (if l.length < cap then 0 else 170) = z) (hl' : putL cap l ⟨msg, data⟩ = l') :
    Calls Try.prog 21 #[.pointer (some ⟨br, 0, none⟩), .int .i64 msg, .string data] w fun e w' => ∃ v' G', e = .returned (.int .i64 z) ∧ Own B w0 (L1 ++ (br, rqO room v') :: G') w' ∧ Rds G' v' l' := by
  subst hz; subst hl'; exact own_rput h hR msg data hr h4 hl
theorem takeV_shape (l : List Ev) : ∃ m d e, takeV l = .tuple #[.agg #[.int .i64 m, .string d], .int .i64 e] := by
  cases l with
  | nil => exact ⟨_, _, _, rfl⟩
  | cons x l => exact ⟨_, _, _, rfl⟩
theorem que_takeZ {w : World} {q c cap s r : Nat} {l l' : List Ev} {v : Value} (hq : w.heap[q]? = some (queO c)) (hc : w.heap[c]? = some (chaO cap l s r)) (hv : takeV l = v) (hl' : l.tail = l') :
    Calls Try.prog 16 #[.pointer (some ⟨q, 0, none⟩)] w fun e w' => ∃ s' r', e = .returned v ∧ Upd c (chaO cap l' s' r') w w' := by
  subst hv; subst hl'; exact que_takeAny hq hc
theorem own_rtakeZ {B br : Nat} {w0 w : World} {room : Int} {v : Value} {l l' : List Ev} {L1 G : List (Nat × Obj)} {z : Value} (h : Own B w0 (L1 ++ (br, rqO room v) :: G) w) (hR : Rds G v l) (h4 : l.length ≤ 4) (hz : takeV l = z) (hl' : l.tail = l') :
    Calls Try.prog 22 #[.pointer (some ⟨br, 0, none⟩)] w fun e w' => ∃ v' G', e = .returned z ∧ Own B w0 (L1 ++ (br, rqO room v') :: G') w' ∧ Rds G' v' l' := by
  subst hz; subst hl'; exact own_rtake h hR h4
theorem headOf_len (l : List Ev) : (headOf l).2 = decide (0 < l.length) := by cases l <;> simp [headOf]
end Go.Proofs.Ytmbhgipoofllfaa
