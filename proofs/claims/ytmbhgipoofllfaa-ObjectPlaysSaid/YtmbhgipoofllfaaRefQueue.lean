/- The reference queue: a block of a number and a slice; the slice is made anew at each change. UNDER WAY. -/
import Derived.Test.YtmbhgipoofllfaaQueueCopies
namespace Go.Proofs.Ytmbhgipoofllfaa
set_option linter.unusedVariables false
set_option linter.unusedSimpArgs false
open Go.ChangeShapes Go.WideShapes Go.ChangeAt Go.RowKit Go.Deep

def rqO (room : Int) (v : Value) : Obj := .cells #[.int .i64 room, v] 49 (0, 0)
theorem rque_new (n : Int) (w : World) : Calls Try.prog 19 #[.int .i64 n] w fun e w' => e = .returned (.pointer (some ⟨w.heap.size, 0, none⟩)) ∧ w' = w.alloc (rqO (max 1 (min n 4)) (.slice none 0 0)) := by
  have core : ∀ m : Int, max 1 (min n 4) = m → w.alloc (rqO m (.slice none 0 0)) = w.alloc (rqO (max 1 (min n 4)) (.slice none 0 0)) := fun m h => by rw [h]
  by_cases c1 : 4 < n
  · have HC := Lib.hid (core 4 (by omega))
    clear core
    go_enter Try.func19, Try.ntmps19
    go_wp2
    go_ret
    exact ⟨rfl, HC.out⟩
  · by_cases c2 : 1 < n
    · have HC := Lib.hid (core n (by omega))
      clear core
      go_enter Try.func19, Try.ntmps19
      go_wp2
      go_ret
      exact ⟨rfl, HC.out⟩
    · have HC := Lib.hid (core 1 (by omega))
      clear core
      go_enter Try.func19, Try.ntmps19
      go_wp2
      go_ret
      exact ⟨rfl, HC.out⟩

theorem evCells_len (l : List Ev) : (evCells l).length = l.length * 2 := by
  induction l with
  | nil => simp [evCells]
  | cons x l ih => simp [evCells] at ih ⊢; omega
theorem evCells_one (l : List Ev) : ∀ u ∈ evCells l, u.oneCell' = true := by
  intro u hu
  simp only [evCells, List.mem_flatMap] at hu
  obtain ⟨e, _, he⟩ := hu
  simp at he
  rcases he with rfl | rfl <;> rfl
theorem evCells_all {w : World} {g : Nat} {l : List Ev} (hE : ∀ k x, l[k]? = some x → w.cell? ⟨g, k * 2, none⟩ = some (.int .i64 x.msg) ∧ w.cell? ⟨g, k * 2 + 1, none⟩ = some (.string x.data)) :
    ∀ j u, (evCells l)[j]? = some u → w.cell? ⟨g, j, none⟩ = some u := by
  intro j u hj
  have hlt : j < l.length * 2 := by
    have := (List.getElem?_eq_some_iff.1 hj).1
    rwa [evCells_len] at this
  have hk : j / 2 < l.length := by omega
  obtain ⟨a, b⟩ := hE (j / 2) l[j / 2] (by simp [hk])
  obtain ⟨c, d⟩ := evCells_at l (j / 2) l[j / 2] (by simp [hk])
  rcases Nat.mod_two_eq_zero_or_one j with h | h
  · rw [show j / 2 * 2 = j by omega] at a c
    rw [a, ← c, hj]
  · rw [show j / 2 * 2 + 1 = j by omega] at b d
    rw [b, ← d, hj]
set_option maxRecDepth 100000 in
theorem rque_put {w : World} {b : Nat} {room : Int} {v : Value} {l : List Ev} (hb : w.heap[b]? = some (rqO room v)) (hE : EvS w v l) (msg : Int) (data : ByteArray) (hr : (l.length : Int) < room) (h4 : room ≤ 4) :
    Calls Try.prog 21 #[.pointer (some ⟨b, 0, none⟩), .int .i64 msg, .string data] w fun e w' => ∃ v', e = .returned (.int .i64 0) ∧ Upd b (rqO room v') w w' ∧ EvS w' v' (l ++ [⟨msg, data⟩]) ∧ ∀ g, v'.ownBlock = some g → w.heap.size ≤ g ∧ g < w'.heap.size := by
  have c0 := cell_of hb 0
  have c1 := cell_of hb 1
  have cf0 := free_of hb 0
  have cf1 := free_of hb 1
  have clt := lt_of_heap hb
  simp at c0 c1
  obtain ⟨i0, hi0, hi1, hi2, hi3⟩ := info_del
  rcases hE with ⟨rfl, rfl⟩ | ⟨g, cp, rfl, hcp, hE⟩
  · simp at hr
    go_enter Try.func21, Try.ntmps21
    go_wp2
    go_quiet (fail)
    go_wp2_with (at_builtin; refine wpList_append_own _ rfl _ _ 36 rfl w.heap.size 29 i0 (.agg #[.int .i64 0, .string ⟨#[]⟩]) 2 24 Try.underlying36 hi0 hi3 hi2 hi1 rfl (by decide) (.slice none 0 0) 0 [] rfl (World.ownsRow_nil _ _ _ _) ⟨w.heap.size, 0, none⟩ 1 1 [.int .i64 msg, .string data] rfl rfl ?c1 ?c2 ?c3 ?c4 ?c5 ?_)
    case c1 =>
      intro j u hj
      have hn := new_blk (w.drewN nq) (.cells #[.int .i64 msg, .string data] 29)
      match j, hj with
      | 0, hj => simp at hj; subst hj; exact (cell_of hn 0).trans rfl
      | 1, hj => simp at hj; subst hj; exact (cell_of hn 1).trans rfl
    case c2 => intro u hu; simp at hu; rcases hu with rfl | rfl <;> rfl
    case c3 => unfold maxLen; omega
    case c4 => omega
    case c5 => simp
    intro v' w1 hR hG _
    have hU1 : Upd b (rqO room (.slice none 0 0)) w w1 := (((Upd.refl hb).drewN nq).alloc _).grown hG clt (by simp [Value.ownBlock])
    have hE1 := evS_of (l := [⟨msg, data⟩]) (by simpa [evCells] using hR)
    have hlv := hR.lt
    obtain ⟨g', cp', rfl, hg1, hg2, _⟩ := (ownsRow_cases hR).resolve_left (by simp)
    have c0' := cell_of hU1.blk 0
    have c1' := cell_of hU1.blk 1
    have f1' := free_of hU1.blk 1
    simp at c0' c1'
    have HU := Lib.hid hU1
    have HE := Lib.hid hE1
    clear hR hG hU1 hE1
    go_wp2
    go_ret
    refine ⟨_, rfl, (HU.out.setCell 1 _), HE.out.keep (fun g hg hlt => Below.heap_setCell w1 _ _ g (by have := hlv g hg; simp; omega)), fun g hg => by have := hlv g hg; simp [World.setCell]; omega⟩
  · go_enter Try.func21, Try.ntmps21
    go_wp2
    go_quiet (fail)
    have hne : ¬ (msg = msg ∧ False) := by simp
    go_wp2_with (at_builtin; refine wpList_append_own _ rfl _ _ 36 rfl w.heap.size 29 i0 (.agg #[.int .i64 0, .string ⟨#[]⟩]) 2 24 Try.underlying36 hi0 hi3 hi2 hi1 rfl (by decide) (.slice none 0 0) 0 [] rfl (World.ownsRow_nil _ _ _ _) ⟨g, 0, none⟩ l.length cp (evCells l) rfl ?c0 ?c1 ?c2 ?c3 ?c4 ?c5 ?_)
    case c0 => exact evCells_len l
    case c1 => exact fun j u hj => evCells_all hE j u hj
    case c2 => exact evCells_one l
    case c3 => unfold maxLen; omega
    case c4 => omega
    intro v1 w1 hR1 hG1 _
    have hU1 : Upd b (rqO room (.slice (some ⟨g, 0, none⟩) l.length cp)) w w1 := ((Upd.refl hb).drewN nq).grown hG1 clt (by simp [Value.ownBlock])
    have hsz := hU1.size
    clear hE
    go_wp2_with (at_builtin; refine wpList_append_own _ rfl _ _ 36 rfl w.heap.size 29 i0 (.agg #[.int .i64 0, .string ⟨#[]⟩]) 2 24 Try.underlying36 hi0 hi3 hi2 hi1 rfl (by decide) v1 l.length _ rfl (hR1.alloc _) ⟨w1.heap.size, 0, none⟩ 1 1 [.int .i64 msg, .string data] rfl rfl ?d1 ?d2 ?d3 ?d4 ?d5 ?_)
    case d1 =>
      intro j u hj
      have hn := new_blk w1 (.cells #[.int .i64 msg, .string data] 29)
      match j, hj with
      | 0, hj => simp at hj; subst hj; exact (cell_of hn 0).trans rfl
      | 1, hj => simp at hj; subst hj; exact (cell_of hn 1).trans rfl
    case d2 => intro u hu; simp at hu; rcases hu with rfl | rfl <;> rfl
    case d3 => unfold maxLen; omega
    case d4 => omega
    case d5 => simp; omega
    intro v' w2 hR hG _
    have hU2 : Upd b (rqO room (.slice (some ⟨g, 0, none⟩) l.length cp)) w w2 := (hU1.alloc _).grown hG clt (fun k hk => (hR1.lt k hk).1)
    have hE2 : EvS w2 v' (l ++ [⟨msg, data⟩]) := evS_of (by simpa [evCells] using hR)
    have hlv := hR.lt
    obtain ⟨g', cp', rfl, hg1, hg2, _⟩ := (ownsRow_cases hR).resolve_left (by simp)
    have c0' := cell_of hU2.blk 0
    have c1' := cell_of hU2.blk 1
    have f1' := free_of hU2.blk 1
    simp at c0' c1'
    have HU := Lib.hid hU2
    have HE := Lib.hid hE2
    clear hR hG hU1 hU2 hE2 hR1 hG1
    go_wp2
    go_ret
    refine ⟨_, rfl, (HU.out.setCell 1 _), HE.out.keep (fun g hg hlt => Below.heap_setCell w2 _ _ g (by have := hlv g hg; simp; omega)), fun g hg => by have := hlv g hg; simp [World.setCell]; omega⟩

theorem rque_full {w : World} {b : Nat} {room : Int} {v : Value} {l : List Ev} (hb : w.heap[b]? = some (rqO room v)) (hE : EvS w v l) (msg : Int) (data : ByteArray) (hr : room ≤ (l.length : Int)) (h4 : l.length ≤ 4) :
    Calls Try.prog 21 #[.pointer (some ⟨b, 0, none⟩), .int .i64 msg, .string data] w fun e w' => e = .returned (.int .i64 170) ∧ ∃ n, w' = w.drewN n := by
  have c0 := cell_of hb 0
  have c1 := cell_of hb 1
  have cf0 := free_of hb 0
  have cf1 := free_of hb 1
  have clt := lt_of_heap hb
  simp at c0 c1
  rcases hE with ⟨rfl, rfl⟩ | ⟨g, cp, rfl, hcp, hE⟩
  · simp at hr
    go_enter Try.func21, Try.ntmps21
    go_wp2
    go_quiet (fail)
    go_wp2
    go_ret
    exact ⟨rfl, _, rfl⟩
  · go_enter Try.func21, Try.ntmps21
    go_wp2
    go_quiet (fail)
    go_wp2
    go_ret
    exact ⟨rfl, _, rfl⟩

theorem rque_takeNone {w : World} {b : Nat} {room : Int} {v : Value} (hb : w.heap[b]? = some (rqO room v)) (hE : EvS w v []) :
    Calls Try.prog 22 #[.pointer (some ⟨b, 0, none⟩)] w fun e w' => e = .returned (takeV []) ∧ Below w.heap.size w w' := by
  have c0 := cell_of hb 0
  have c1 := cell_of hb 1
  have cf0 := free_of hb 0
  have cf1 := free_of hb 1
  have clt := lt_of_heap hb
  simp at c0 c1
  have key : ∀ cp : Nat, ∀ a : Option Addr, v = .slice a 0 cp → Calls Try.prog 22 #[.pointer (some ⟨b, 0, none⟩)] w fun e w' => e = .returned (takeV []) ∧ Below w.heap.size w w' := by
    rintro cp a rfl
    have hD := new_blk w (.cells #[.int .i64 0, .string ⟨#[]⟩] 29)
    have r0 := (cell_of hD 0).trans (show _ = some (.int .i64 0) from rfl)
    have r1 := (cell_of hD 1).trans (show _ = some (.string ⟨#[]⟩) from rfl)
    go_enter Try.func22, Try.ntmps22
    go_wp2
    exact bodyPost_ret (v := .tuple #[.agg #[.int .i64 0, .string ⟨#[]⟩], .int .i64 171]) (by simp [results, Try.results22, go_sem, r0, r1]) rfl ⟨rfl, (Below.refl _ _).alloc (Nat.le_refl _) _⟩
  rcases hE with ⟨rfl, _⟩ | ⟨g, cp, rfl, _⟩
  · exact key 0 none rfl
  · exact key cp _ rfl

set_option maxRecDepth 100000 in
theorem rque_take {w : World} {b : Nat} {room : Int} {v : Value} {x : Ev} {l : List Ev} (hb : w.heap[b]? = some (rqO room v)) (hE : EvS w v (x :: l)) (h4 : l.length ≤ 4) :
    Calls Try.prog 22 #[.pointer (some ⟨b, 0, none⟩)] w fun e w' => ∃ v', e = .returned (takeV (x :: l)) ∧ Upd b (rqO room v') w w' ∧ EvS w' v' l ∧ ∀ g, v'.ownBlock = some g → w.heap.size ≤ g ∧ g < w'.heap.size := by
  have c0 := cell_of hb 0
  have c1 := cell_of hb 1
  have cf0 := free_of hb 0
  have cf1 := free_of hb 1
  have clt := lt_of_heap hb
  simp at c0 c1
  obtain ⟨i0, hi0, hi1, hi2, hi3⟩ := info_del
  rcases hE with ⟨rfl, h⟩ | ⟨g, cp, rfl, hcp, hE⟩
  · simp at h
  · obtain ⟨g0, g1⟩ := hE 0 x rfl
    have hgl := World.block_lt_of_cell? w _ g0
    simp at g0 g1 hgl hcp
    have hgd : g ≠ w.heap.size := by omega
    have hlen : (x :: l).length = l.length + 1 := rfl
    rw [hlen] at hb
    clear hlen
    by_cases hc1 : cp = 1
    · obtain rfl : l = [] := List.eq_nil_of_length_eq_zero (by omega)
      subst hc1
      go_enter Try.func22, Try.ntmps22
      go_wp2_with (at_builtin; refine wpList_append_own _ rfl _ _ 36 rfl (w.heap.size + 2) 29 i0 (.agg #[.int .i64 0, .string ⟨#[]⟩]) 2 24 Try.underlying36 hi0 hi3 hi2 hi1 rfl (by decide) (.slice none 0 0) 0 [] rfl (World.ownsRow_nil _ _ _ _) ⟨g, 0, none⟩ 0 _ [] rfl ?c0 ?c1 ?c2 ?c3 ?c4 ?c5 ?_)
      case c0 => simp
      case c1 => simp
      case c2 => simp
      case c3 => unfold maxLen; omega
      case c4 => omega
      case c5 => simp
      intro v' w2 hR hG hvn
      subst hvn
      have hU : Upd b (rqO room (.slice (some ⟨g, 0, none⟩) 1 1)) w w2 := (((Upd.refl hb).alloc _).alloc _).grown hG clt (by simp [Value.ownBlock])
      have hE2 : EvS w2 (.slice none 0 0) [] := evS_of (by simpa [evCells] using hR)
      have hD : w2.heap[w.heap.size + 1]? = some (.cells #[.int .i64 x.msg, .string x.data] 29 (0, 0)) := (hG.block _ (by simp) (by simp [Value.ownBlock])).trans (new_blk2 _ _ _)
      have hlv : ∀ g, (Value.slice none 0 0).ownBlock = some g → w.heap.size ≤ g ∧ g < w2.heap.size := fun g hg => by have := hR.lt g hg; omega
      have hlv2 : ∀ g, (Value.slice none 0 0).ownBlock = some g → w.heap.size < g := fun g hg => by simp [Value.ownBlock] at hg
      have c0' := cell_of hU.blk 0
      have c1' := cell_of hU.blk 1
      have f1' := free_of hU.blk 1
      simp at c0' c1'
      have HU := Lib.hid hU
      have HE := Lib.hid hE2
      have D0 := cell_of hD 0
      have D1 := cell_of hD 1
      simp at D0 D1
      have hD0 : w2.heap[w.heap.size]? = some (.cells #[.int .i64 0, .string ⟨#[]⟩] 29 (0, 0)) := (hG.block _ (by simp; omega) (by simp [Value.ownBlock])).trans ((old_blk _ _ _ (by simp)).trans (new_blk _ _))
      have k0 := cell_of hD0 0
      have k1 := cell_of hD0 1
      have kf0 := free_of hD0 0
      have kf1 := free_of hD0 1
      have klt := lt_of_heap hD0
      simp at k0 k1
      have HD := Lib.hid hD0
      have hbd : b ≠ w.heap.size + 1 := by omega
      have hbe : b ≠ w.heap.size := by omega
      clear hR hG hU hE2 hD hD0
      go_wp2
      have hD3 := (Below.heap_setCell w2 ⟨b, 1, none⟩ (.slice none 0 0) (w.heap.size) (by simp; omega)).trans HD.out
      obtain ⟨r0, r1⟩ := del_cells hD3 x
      refine bodyPost_ret (v := .tuple #[.agg #[.int .i64 x.msg, .string x.data], .int .i64 0]) (by simp [results, Try.results22, go_sem, r0, r1]) rfl ⟨_, rfl, ((HU.out.setCell 1 _).setCell_else _ _ (by simp; omega) (by simp)).setCell_else _ _ (by simp; omega) (by simp), ((HE.out.keep (fun g hg hlt => Below.heap_setCell w2 _ _ g (by have := hlv g hg; simp; omega))).keep (fun g hg hlt => Below.heap_setCell _ _ _ g (by have := hlv2 g hg; simp; omega))).keep (fun g hg hlt => Below.heap_setCell _ _ _ g (by have := hlv2 g hg; simp; omega)), fun g hg => by have := hlv g hg; simp [World.setCell]; omega⟩
    · have hc2 : 1 < cp := by omega
      clear hc1
      go_enter Try.func22, Try.ntmps22
      go_wp2_with (at_builtin; refine wpList_append_own _ rfl _ _ 36 rfl (w.heap.size + 2) 29 i0 (.agg #[.int .i64 0, .string ⟨#[]⟩]) 2 24 Try.underlying36 hi0 hi3 hi2 hi1 rfl (by decide) (.slice none 0 0) 0 [] rfl (World.ownsRow_nil _ _ _ _) ⟨g, 2, none⟩ l.length _ (evCells l) rfl ?d0 ?d1 ?d2 ?d3 ?d4 ?d5 ?_)
      case d0 => exact evCells_len l
      case d1 =>
        intro j u hj
        have ha := evCells_all (fun k y hk => hE (k) y hk) (j + 2) u (by simpa [evCells] using hj)
        rw [show (⟨g, 2, none⟩ : Addr).add j = ⟨g, j + 2, none⟩ by simp [Addr.add, Nat.add_comm]]
        exact (World.cell?_of_block (a := ⟨g, j + 2, none⟩) ((old_blk _ _ _ (by simp; omega)).trans (old_blk _ _ _ hgl))).trans ha
      case d2 => exact evCells_one l
      case d3 => unfold maxLen; omega
      case d4 => omega
      case d5 => simp
      intro v' w2 hR hG hvn
      clear hvn
      have hU : Upd b (rqO room (.slice (some ⟨g, 0, none⟩) (l.length + 1) cp)) w w2 := (((Upd.refl hb).alloc _).alloc _).grown hG clt (by simp [Value.ownBlock])
      have hE2 : EvS w2 v' l := evS_of (by simpa [evCells] using hR)
      have hD : w2.heap[w.heap.size + 1]? = some (.cells #[.int .i64 x.msg, .string x.data] 29 (0, 0)) := (hG.block _ (by simp) (by simp [Value.ownBlock])).trans (new_blk2 _ _ _)
      have hlv : ∀ g, v'.ownBlock = some g → w.heap.size ≤ g ∧ g < w2.heap.size := fun g hg => by have := hR.lt g hg; omega
      have hlv2 : ∀ g, v'.ownBlock = some g → w.heap.size < g := fun g hg => by have := hR.lt g hg; omega
      have c0' := cell_of hU.blk 0
      have c1' := cell_of hU.blk 1
      have f1' := free_of hU.blk 1
      simp at c0' c1'
      have HU := Lib.hid hU
      have HE := Lib.hid hE2
      have D0 := cell_of hD 0
      have D1 := cell_of hD 1
      simp at D0 D1
      have hD0 : w2.heap[w.heap.size]? = some (.cells #[.int .i64 0, .string ⟨#[]⟩] 29 (0, 0)) := (hG.block _ (by simp; omega) (by simp [Value.ownBlock])).trans ((old_blk _ _ _ (by simp)).trans (new_blk _ _))
      have k0 := cell_of hD0 0
      have k1 := cell_of hD0 1
      have kf0 := free_of hD0 0
      have kf1 := free_of hD0 1
      have klt := lt_of_heap hD0
      simp at k0 k1
      have HD := Lib.hid hD0
      have hbd : b ≠ w.heap.size + 1 := by omega
      have hbe : b ≠ w.heap.size := by omega
      have hsh : v' = .slice none 0 0 ∨ ∃ g' cp', v' = .slice (some ⟨g', 0, none⟩) l.length cp' := by
        rcases ownsRow_cases hR with ⟨h, _⟩ | ⟨g', cp', h, _⟩
        · exact .inl h
        · exact .inr ⟨g', cp', h⟩
      clear hR hG hU hE2 hD hD0
      rcases hsh with rfl | ⟨g', cp', rfl⟩
      all_goals
       go_wp2
       have hD3 := fun u => (Below.heap_setCell w2 ⟨b, 1, none⟩ u (w.heap.size) (by simp; omega)).trans HD.out
       have hdl := fun u => del_cells (hD3 u) x
       have r0 := fun u => (hdl u).1
       have r1 := fun u => (hdl u).2
       refine bodyPost_ret (v := .tuple #[.agg #[.int .i64 x.msg, .string x.data], .int .i64 0]) (by simp [results, Try.results22, go_sem, r0, r1]) rfl ⟨_, rfl, ((HU.out.setCell 1 _).setCell_else _ _ (by simp; omega) (by simp)).setCell_else _ _ (by simp; omega) (by simp), ((HE.out.keep (fun g hg hlt => Below.heap_setCell w2 _ _ g (by have := hlv g hg; simp; omega))).keep (fun g hg hlt => Below.heap_setCell _ _ _ g (by have := hlv2 g hg; simp; omega))).keep (fun g hg hlt => Below.heap_setCell _ _ _ g (by have := hlv2 g hg; simp; omega)), fun g hg => by have := hlv g hg; simp [World.setCell]; omega⟩
end Go.Proofs.Ytmbhgipoofllfaa
