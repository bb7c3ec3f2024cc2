/- Communication in one goroutine, beside the kit's walk: 'WpN' is the walk's word for a frame that was entered in the normal way; a send, a receive, a select has its rule here; whatever communicates nothing is walked as before. -/
import Derived.Conc.LoneCalls
import Derived.Conc.LoneSelect
import Derived.Orders
import Derived.WalkKit
namespace Go.Proofs.Ytmbhgipoofllfaa
set_option linter.unusedVariables false
set_option linter.unusedSimpArgs false
open Go.RowKit Go.Conc

/-- As 'Code.wp', for frames of a normal call alone. -/
def WpN (P : Program) (c : Code) (Q : Exit → Act → World → Prop) (a : Act) (w : World) : Prop :=
  ∀ (b : Frame) (k : List Item) (cs : List Frame), b.kind = .normal → ∃ e a' w', Q e a' w' ∧ Arrives P (lone (b.at a (.code c :: k)) cs w) b k cs e a' w'
/-- A region that is under way: the operations l are still to come. -/
def RunsN (P : Program) (ops : Array Oper) (Q : Exit → Act → World → Prop) (l : List Nat) (a : Act) (w : World) : Prop :=
  ∀ (b : Frame) (k : List Item) (cs : List Frame), b.kind = .normal → ∃ e a' w', Q e a' w' ∧ Arrives P (lone (b.at a (.inRegion ops l :: k)) cs w) b k cs e a' w'
section
variable {P : Program} {Q : Exit → Act → World → Prop} {a : Act} {w : World} {ops : Array Oper}
theorem WpN.of {c : Code} (h : c.wp P Q a w) : WpN P c Q a w := fun b k cs _ => h b k cs
theorem calls_of_wpN {f : FuncId} {fn : Func} {c : Code} {args : Array Value} {R : Ending → World → Prop} (hf : P.funcs[f]? = some fn) (hb : fn.body = some c)
    (h : WpN P c (bodyPost P fn R) { tmps := args ++ Array.replicate (fn.ntmps - args.size) undef, defers := [] } w) : Calls P f args w R := by
  intro cs
  have hent : Frame.enter P f args .normal = ({ (default : Frame) with fn := f, kind := .normal } : Frame).at { tmps := args ++ Array.replicate (fn.ntmps - args.size) undef, defers := [] } [.code c] := by
    simp [Frame.enter, Frame.at, hf, hb]
  obtain ⟨e, a', w', hq, harr⟩ := h { (default : Frame) with fn := f, kind := .normal } [] cs rfl
  rw [← hent] at harr
  cases e with
  | normal => obtain ⟨hd, v, hr, hR⟩ := hq; exact ⟨.returned v, w', _, hR, Steps.trans harr (.one step_end), rfl, rfl, hd, rfl, fn, hf, hr⟩
  | ret => obtain ⟨hd, v, hr, hR⟩ := hq; obtain ⟨todo, hs⟩ := harr; exact ⟨.returned v, w', _, hR, hs, rfl, rfl, hd, rfl, fn, hf, hr⟩
  | panic chain => obtain ⟨hd, hR⟩ := hq; obtain ⟨todo, hs⟩ := harr; exact ⟨.panicked chain, w', _, hR, hs, rfl, rfl, hd, fn, hf⟩
  | exit id => exact hq.elim
  | goto l => exact hq.elim
  | outgrown => exact ⟨.outgrown, w', { (default : Frame) with fn := f, kind := .normal }, hq, harr.resolve_left (by simp), rfl, trivial⟩
theorem WpN.seq {x y : Code} (h : WpN P x (Exit.then (WpN P y Q) Q) a w) : WpN P (Code.seq x y) Q a w := by
  intro b k cs hk
  obtain ⟨e, a₁, w₁, hq, harr⟩ := h b (.code y :: k) cs hk
  cases e with
  | normal => obtain ⟨e₂, a₂, w₂, hq₂, harr₂⟩ := hq b k cs hk; exact ⟨e₂, a₂, w₂, hq₂, .of_steps (.head step_seq harr) harr₂⟩
  | exit id => exact ⟨_, a₁, w₁, hq, .of_steps (.one step_seq) (.pass (x := .code y) rfl (fun _ _ => .inl (by simp)) harr)⟩
  | goto l => exact ⟨_, a₁, w₁, hq, .of_steps (.one step_seq) (.pass (x := .code y) rfl (fun _ _ => .inl (by simp)) harr)⟩
  | ret => exact ⟨_, a₁, w₁, hq, .of_steps (.one step_seq) (.pass (x := .code y) rfl (fun _ _ => .inl (by simp)) harr)⟩
  | panic ch => exact ⟨_, a₁, w₁, hq, .of_steps (.one step_seq) (.pass (x := .code y) rfl (fun _ _ => .inl (by simp)) harr)⟩
  | outgrown => exact ⟨_, a₁, w₁, hq, .of_steps (.one step_seq) (.pass (x := .code y) rfl (fun _ _ => .inl (by simp)) harr)⟩
theorem WpN.loop {c : Code} (I : Act → World → Prop) (μ : Act → World → Nat) (h₀ : I a w) (round : ∀ a w, I a w → WpN P c (Exit.then (fun a' w' => I a' w' ∧ μ a' w' < μ a w) Q) a w) : WpN P (Code.loop c) Q a w := by
  intro b k cs hb
  have key : ∀ n a w, μ a w = n → I a w → ∃ e a' w', Q e a' w' ∧ Arrives P (lone (b.at a (.code c :: .inLoop c :: k)) cs w) b k cs e a' w' := by
    intro n
    induction n using Nat.strongRecOn with
    | _ n ih =>
      intro a w hn hI
      obtain ⟨e, a₁, w₁, hq, harr⟩ := round a w hI b (.inLoop c :: k) cs hb
      cases e with
      | normal =>
        obtain ⟨e₂, a₂, w₂, hq₂, harr₂⟩ := ih (μ a₁ w₁) (hn ▸ hq.2) a₁ w₁ rfl hq.1
        exact ⟨e₂, a₂, w₂, hq₂, .of_steps (Steps.trans harr (.one step_inLoop)) harr₂⟩
      | exit id => exact ⟨_, a₁, w₁, hq, .pass (x := .inLoop c) rfl (fun _ _ => .inl (by simp)) harr⟩
      | goto l => exact ⟨_, a₁, w₁, hq, .pass (x := .inLoop c) rfl (fun _ _ => .inl (by simp)) harr⟩
      | ret => exact ⟨_, a₁, w₁, hq, .pass (x := .inLoop c) rfl (fun _ _ => .inl (by simp)) harr⟩
      | panic ch => exact ⟨_, a₁, w₁, hq, .pass (x := .inLoop c) rfl (fun _ _ => .inl (by simp)) harr⟩
      | outgrown => exact ⟨_, a₁, w₁, hq, .pass (x := .inLoop c) rfl (fun _ _ => .inl (by simp)) harr⟩
  obtain ⟨e, a', w', hq, harr⟩ := key _ a w rfl h₀
  exact ⟨e, a', w', hq, .of_steps (.one step_loop) harr⟩
theorem WpN.block {id : Nat} {c : Code} (h : WpN P c (Exit.inBlock id Q) a w) : WpN P (Code.block id c) Q a w := by
  intro b k cs hb
  obtain ⟨e, a₁, w₁, hq, harr⟩ := h b (.inBlock id :: k) cs hb
  cases e with
  | normal => exact ⟨.normal, a₁, w₁, hq, .head step_block (Steps.trans harr (.one step_inBlock))⟩
  | exit id' =>
    by_cases hid : id' = id
    · simp only [Exit.inBlock, hid, if_true] at hq
      exact ⟨.normal, a₁, w₁, hq, .head step_block (harr k (by simp [exitTo, hid]))⟩
    · simp only [Exit.inBlock, hid, if_false] at hq
      refine ⟨.exit id', a₁, w₁, hq, fun k' hk => .head step_block (harr k' ?_)⟩
      have : (id == id') = false := by simp; exact fun h => hid h.symm
      simp [exitTo, this, hk]
  | goto l => exact ⟨_, a₁, w₁, hq, fun k' hk => .head step_block (harr k' (by simp [gotoIn, hk]))⟩
  | ret => exact ⟨_, a₁, w₁, hq, .of_steps (.one step_block) harr⟩
  | panic ch => exact ⟨_, a₁, w₁, hq, .of_steps (.one step_block) harr⟩
  | outgrown => exact ⟨_, a₁, w₁, hq, .of_steps (b := b) (k := k) (cs := cs) (e := .outgrown) (.one step_block) harr⟩
theorem WpN.mono {c : Code} {Q' : Exit → Act → World → Prop} (h : WpN P c Q a w) (hq : ∀ e a w, Q e a w → Q' e a w) : WpN P c Q' a w :=
  fun b k cs hb => let ⟨e, a', w', q, r⟩ := h b k cs hb; ⟨e, a', w', hq _ _ _ q, r⟩
theorem WpN.region {id : Nat} (h : RunsN P ops Q (List.range ops.size) a w) : WpN P (Code.region id ops false) Q a w :=
  fun b k cs hb => let ⟨e, a', w', q, r⟩ := h b k cs hb; ⟨e, a', w', q, .of_steps (.one step_region) r⟩
theorem RunsN.nil (h : Q .normal a w) : RunsN P ops Q [] a w := fun b k cs _ => ⟨.normal, a, w, h, .one step_region_end⟩
theorem RunsN.of {l : List Nat} (h : wpOps P ops Q l a w) : RunsN P ops Q l a w := fun b k cs _ => wp_ops l a w h b k cs
theorem RunsN.value {i : Nat} {rest : List Nat} {o : Oper} {v : Value} {w1 : World} (ho : ops[i]? = some o) (hw : Region.wanted o (yielded ops a.tmps) = true) (hr : (execOp a.eval o).run P w = .ok (.value v) w1)
    (h : RunsN P ops Q rest (a.put o.dst v) w1) : RunsN P ops Q (i :: rest) a w := by
  intro b k cs hb
  obtain ⟨e, a', w', hq, harr⟩ := h b k cs hb
  refine ⟨e, a', w', hq, .of_steps (.one (step_lone_go ?_)) harr⟩
  rw [stepG_op ho hw, show b.at (a.put o.dst v) (.inRegion ops rest :: k) = (b.at a (.inRegion ops (i :: rest) :: k)).finish v by rw [Frame.finish_at, ho]; rfl]
  simp [stepG.apply, hr]
theorem RunsN.comm {i : Nat} {rest : List Nat} {o : Oper} {v : Value} {w1 : World} (ho : ops[i]? = some o)
    (hs : ∀ (b : Frame) (k : List Item) (cs : List Frame), b.kind ≠ .early → step P (solo (G (b.at a (.inRegion ops (i :: rest) :: k)) cs) w) = .next (solo (G ((b.at a (.inRegion ops (i :: rest) :: k)).finish v) cs) w1))
    (h : RunsN P ops Q rest (a.put o.dst v) w1) : RunsN P ops Q (i :: rest) a w := by
  intro b k cs hb
  obtain ⟨e, a', w', hq, harr⟩ := h b k cs hb
  refine ⟨e, a', w', hq, .of_steps (.one ?_) harr⟩
  have := hs b k cs (by rw [hb]; decide)
  rw [Frame.finish_at, ho] at this
  exact this

theorem RunsN.drop {k : Nat} {l : List Nat} (hl : l = List.range' k (ops.toList.drop k).length) (hw : wpList P ops Q (ops.toList.drop k) a w) : RunsN P ops Q l a w :=
  RunsN.of (by rw [hl, wpOps_eq_wpList (ops.toList.drop k) k (fun j => by simp)]; exact hw)

/-! ### a region that draws its order -/
/-- Operation i leads to K. -/
def OpN (P : Program) (ops : Array Oper) (Q : Exit → Act → World → Prop) (i : Nat) (K : Act → World → Prop) (a : Act) (w : World) : Prop :=
  ∀ rest, (∀ a1 w1, K a1 w1 → RunsN P ops Q rest a1 w1) → RunsN P ops Q (i :: rest) a w
theorem OpN.value {i : Nat} {o : Oper} {v : Value} {w1 : World} {K : Act → World → Prop} (ho : ops[i]? = some o) (hw : Region.wanted o (yielded ops a.tmps) = true) (hr : (execOp a.eval o).run P w = .ok (.value v) w1)
    (h : K (a.put o.dst v) w1) : OpN P ops Q i K a w := fun rest hK => RunsN.value ho hw hr (hK _ _ h)
theorem OpN.comm {i : Nat} {o : Oper} {v : Value} {w1 : World} {K : Act → World → Prop} (ho : ops[i]? = some o)
    (hs : ∀ (rest : List Nat) (b : Frame) (k : List Item) (cs : List Frame), b.kind ≠ .early → step P (solo (G (b.at a (.inRegion ops (i :: rest) :: k)) cs) w) = .next (solo (G ((b.at a (.inRegion ops (i :: rest) :: k)).finish v) cs) w1))
    (h : K (a.put o.dst v) w1) : OpN P ops Q i K a w := fun rest hK => RunsN.comm ho (hs rest) (hK _ _ h)
def AnyN (P : Program) (ops : Array Oper) (Q : Exit → Act → World → Prop) : Nat → Array Bool → Act → World → Prop
  | 0, listed, a, w => Q .normal a w
  | fuel + 1, listed, a, w => (Region.ready .any ops listed = [] → Q .normal a w) ∧ ∀ i ∈ Region.ready .any ops listed, OpN P ops Q i (AnyN P ops Q fuel (listed.setIfInBounds i true)) a w
theorem anyN_sound : ∀ (fuel t : Nat) (listed : Array Bool) (a : Act) (w : World), AnyN P ops Q fuel listed a w → RunsN P ops Q (Region.linearise.go .any ops fuel t listed []) a w := by
  intro fuel
  induction fuel with
  | zero => intro t listed a w h; simpa [Region.linearise.go] using RunsN.nil (P := P) (ops := ops) h
  | succ fuel ih =>
    intro t listed a w h
    obtain ⟨h₀, h₁⟩ := h
    simp only [Region.linearise.go]
    change RunsN P ops Q (match (Region.ready .any ops listed)[t % (Region.ready .any ops listed).length]? with
      | some i => Region.linearise.go .any ops fuel (t / (Region.ready .any ops listed).length) (listed.setIfInBounds i true) [i]
      | none => [].reverse) a w
    cases hi : (Region.ready .any ops listed)[t % (Region.ready .any ops listed).length]? with
    | none =>
      have hnil : Region.ready .any ops listed = [] := by
        cases hr : Region.ready .any ops listed with
        | nil => rfl
        | cons x xs =>
          rw [hr] at hi
          have hlt : t % (x :: xs).length < (x :: xs).length := Nat.mod_lt _ (by simp)
          simp at hi
          simp at hlt
          omega
      simpa using RunsN.nil (P := P) (ops := ops) (h₀ hnil)
    | some i =>
      simp only []
      rw [linearise_go_acc, List.reverse_singleton, List.singleton_append]
      exact h₁ i (List.mem_of_getElem? hi) _ (fun a1 w1 hk => ih _ _ a1 w1 hk)
theorem WpN.region_draw {id : Nat} (hm : P.follows .mixedOrders = true) (h : AnyN P ops Q ops.size (Array.replicate ops.size false) a w.drew) : WpN P (Code.region id ops true) Q a w := by
  intro b k cs hb
  obtain ⟨e, a', w', q, r⟩ := anyN_sound ops.size (w.tape w.drawn (.order b.fn id)) _ a _ h b k cs hb
  refine ⟨e, a', w', q, .of_steps (.one step_region_draw) ?_⟩
  simp only [Region.schedule, hm, Bool.true_or, if_true]
  exact r
end
end Go.Proofs.Ytmbhgipoofllfaa
