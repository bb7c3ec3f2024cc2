/- Matrices as bytes: plain words. -/
import Derived.Test.YthkhlcigegbpfaaMatSame
import Derived.Laws.BytesArg
namespace Go.Proofs.Ythkhlcigegbpfaa
set_option linter.unusedVariables false
set_option linter.unusedSimpArgs false
open Go.RowKit

def twoT (n : Int) : List Int := [n / 256, n % 256]
def msgT (x : Msg) : List Int := [x.id / 256, x.id % 256, x.owner, if x.ev then 1 else 0]
def winT (x : Win) : List Int := [x.kind, x.start / 256, x.start % 256, x.stop / 256, x.stop % 256, x.cyc, x.rep, x.msg]
def headT (m : Mat) : List Int := [m.level, m.nodes, m.cycles, m.length / 256, m.length % 256, m.enable, m.unit, m.init / 256, m.init % 256, m.ref / 256, m.ref % 256]
def matT (m : Mat) : List Int := headT m ++ ((m.masters.length : Int) :: (m.masters ++ ((m.msgs.length : Int) :: (m.msgs.flatMap msgT ++ ((m.wins.length : Int) :: m.wins.flatMap winT)))))
def printE (m : Mat) : ByteArray := if isB m = true then strOfNums (79 :: matT m) else ⟨#[]⟩

structure Rs where
  s : ByteArray
  sh : Bool
def rd1 (x : Rs) : Int × Rs := if h : 0 < x.s.size then ((x.s[0].toNat : Int), ⟨x.s.extract 1 x.s.size, x.sh⟩) else (0, ⟨x.s, true⟩)
def rd2 (x : Rs) : Int × Rs := ((rd1 x).1 * 256 + (rd1 (rd1 x).2).1, (rd1 (rd1 x).2).2)
def rdMsg (x : Rs) : Msg × Rs := (⟨(rd2 x).1, (rd1 (rd2 x).2).1, (rd1 (rd1 (rd2 x).2).2).1 == 1⟩, (rd1 (rd1 (rd2 x).2).2).2)
def rdWin (x : Rs) : Win × Rs :=
  let a := rd1 x; let b := rd2 a.2; let c := rd2 b.2; let d := rd1 c.2; let e := rd1 d.2; let f := rd1 e.2
  (⟨a.1, b.1, c.1, d.1, e.1, f.1⟩, f.2)
def rdL {α : Type} (f : Rs → α × Rs) : Nat → List α → Rs → List α × Rs
  | 0, acc, x => (acc, x)
  | n + 1, acc, x => if x.sh = true then (acc, x) else rdL f n (acc ++ [(f x).1]) (f x).2
def rdHead (x : Rs) : Mat × Rs :=
  let a := rd1 x; let b := rd1 a.2; let c := rd1 b.2; let d := rd2 c.2; let e := rd1 d.2; let f := rd1 e.2; let g := rd2 f.2; let h := rd2 g.2
  (⟨a.1, b.1, c.1, d.1, e.1, f.1, g.1, h.1, [], [], []⟩, h.2)
def rdK {α : Type} (f : Rs → α × Rs) (x : Rs) : List α × Rs := rdL f (rd1 x).1.toNat [] (rd1 x).2
def rdLists (m : Mat) (x : Rs) : Mat × Rs :=
  let p := rdK rd1 x; let q := rdK rdMsg p.2; let r := rdK rdWin q.2
  ({ m with masters := p.1, msgs := q.1, wins := r.1 }, r.2)
def rdMat (x : Rs) : Mat × Rs := rdLists (rdHead x).1 (rdHead x).2
def zeroM' : Mat := ⟨0, 0, 0, 0, 0, 0, 0, 0, [], [], []⟩
def parseR (b : ByteArray) : Mat × Rs := rdMat (rd1 ⟨b, false⟩).2
def okE (b : ByteArray) : Bool := decide (b.size ≤ 400) && !(parseR b).2.sh && decide (printE (parseR b).1 = b)
def pmE (b : ByteArray) : Mat := if okE b = true then (parseR b).1 else zeroM'
def peE (b : ByteArray) : Int := if okE b = true then 0 else 130

/-! ### bytes -/
def Byts (l : List Int) : Prop := ∀ n ∈ l, 0 ≤ n ∧ n ≤ 255
theorem strOfNums_inj {a b : List Int} (ha : Byts a) (hb : Byts b) (h : strOfNums a = strOfNums b) : a = b := by
  have h1 : a.map (fun n => UInt8.ofNat n.toNat) = b.map (fun n => UInt8.ofNat n.toNat) := by
    rw [← strOfNums_data a, ← strOfNums_data b, h]
  induction a generalizing b with
  | nil => cases b with
    | nil => rfl
    | cons y t => simp at h1
  | cons x t ih => cases b with
    | nil => simp at h1
    | cons y t' =>
      simp only [List.map_cons, List.cons.injEq] at h1
      have hx := ha x (by simp)
      have hy := hb y (by simp)
      have h2 : (UInt8.ofNat x.toNat).toNat = (UInt8.ofNat y.toNat).toNat := by rw [h1.1]
      rw [UInt8.toNat_ofNat', UInt8.toNat_ofNat'] at h2
      have : x = y := by omega
      subst this
      have := ih (b := t') (fun n hn => ha n (by simp [hn])) (fun n hn => hb n (by simp [hn])) (by
        unfold strOfNums
        rw [h1.2]) h1.2
      rw [this]
def nums (s : ByteArray) : List Int := s.data.toList.map fun x => (x.toNat : Int)
theorem nums_bytes (s : ByteArray) : Byts (nums s) := by
  intro n hn
  simp only [nums, List.mem_map] at hn
  obtain ⟨x, _, rfl⟩ := hn
  have := x.toNat_lt
  omega
theorem strOfNums_nums (t : ByteArray) : strOfNums (nums t) = t := by
  cases t with
  | mk d =>
    have h : ∀ l : List UInt8, l.map ((fun n : Int => UInt8.ofNat n.toNat) ∘ fun x : UInt8 => (x.toNat : Int)) = l := by
      intro l
      induction l with
      | nil => rfl
      | cons x r ih => simp [ih]
    simp [nums, strOfNums, h]
theorem nums_str {l : List Int} (h : Byts l) : nums (strOfNums l) = l := strOfNums_inj (nums_bytes _) h (strOfNums_nums _)
theorem nums_append (a b : ByteArray) : nums (a ++ b) = nums a ++ nums b := by
  unfold nums
  rw [ByteArray.data_append, Array.toList_append, List.map_append]
theorem nums_extract (s : ByteArray) (i j : Nat) : nums (s.extract i j) = ((nums s).take j).drop i := by
  unfold nums
  rw [ByteArray.data_extract, Array.toList_extract, List.extract_eq_take_drop, ← List.map_take, ← List.map_drop, ← List.drop_take]
theorem nums_len (s : ByteArray) : (nums s).length = s.size := by
  unfold nums
  rw [List.length_map, Array.length_toList]
  rfl

theorem rd1_cons {a : Int} {t : List Int} {sh : Bool} (ha : 0 ≤ a ∧ a ≤ 255) : rd1 ⟨strOfNums (a :: t), sh⟩ = (a, ⟨strOfNums t, sh⟩) := by
  have hs : 0 < (strOfNums (a :: t)).size := by rw [strOfNums_size]; simp
  unfold rd1
  rw [dif_pos hs]
  have h1 : (strOfNums (a :: t))[0] = UInt8.ofNat a.toNat := rfl
  have h2 : (strOfNums (a :: t)).extract 1 (strOfNums (a :: t)).size = strOfNums t := by
    apply ByteArray.ext
    rw [ByteArray.data_extract]
    apply Array.ext'
    rw [Array.toList_extract, strOfNums_size]
    simp [strOfNums, List.extract]
    rw [List.take_of_length_le (by simp)]
  simp only [h1, h2, Prod.mk.injEq, and_true]
  rw [UInt8.toNat_ofNat']
  omega
theorem rd2_cons {n : Int} {t : List Int} {sh : Bool} (hn : 0 ≤ n ∧ n ≤ 65535) : rd2 ⟨strOfNums (n / 256 :: n % 256 :: t), sh⟩ = (n, ⟨strOfNums t, sh⟩) := by
  unfold rd2
  rw [rd1_cons (by omega)]
  simp only
  rw [rd1_cons (by omega)]
  simp only [Prod.mk.injEq, and_true]
  omega
theorem rdMsg_cons {x : Msg} {t : List Int} {sh : Bool} (h1 : 0 ≤ x.id ∧ x.id ≤ 65535) (h2 : 0 ≤ x.owner ∧ x.owner ≤ 255) : rdMsg ⟨strOfNums (msgT x ++ t), sh⟩ = (x, ⟨strOfNums t, sh⟩) := by
  unfold rdMsg msgT
  simp only [List.cons_append, List.nil_append]
  rw [rd2_cons h1]
  simp only
  rw [rd1_cons h2]
  simp only
  rw [rd1_cons (by split <;> omega)]
  obtain ⟨a, b, c⟩ := x
  cases c <;> simp
theorem rdWin_cons {x : Win} {t : List Int} {sh : Bool} (h1 : 0 ≤ x.kind ∧ x.kind ≤ 255) (h2 : 0 ≤ x.start ∧ x.start ≤ 65535) (h3 : 0 ≤ x.stop ∧ x.stop ≤ 65535) (h4 : 0 ≤ x.cyc ∧ x.cyc ≤ 255)
    (h5 : 0 ≤ x.rep ∧ x.rep ≤ 255) (h6 : 0 ≤ x.msg ∧ x.msg ≤ 255) : rdWin ⟨strOfNums (winT x ++ t), sh⟩ = (x, ⟨strOfNums t, sh⟩) := by
  unfold rdWin winT
  simp only [List.cons_append, List.nil_append]
  rw [rd1_cons h1]
  simp only
  rw [rd2_cons h2]
  simp only
  rw [rd2_cons h3]
  simp only
  rw [rd1_cons h4]
  simp only
  rw [rd1_cons h5]
  simp only
  rw [rd1_cons h6]
theorem rdL_all {α : Type} {f : Rs → α × Rs} {C : α → List Int} : ∀ (l acc : List α) (t : List Int), (∀ x ∈ l, ∀ t, f ⟨strOfNums (C x ++ t), false⟩ = (x, ⟨strOfNums t, false⟩)) →
    rdL f l.length acc ⟨strOfNums (l.flatMap C ++ t), false⟩ = (acc ++ l, ⟨strOfNums t, false⟩) := by
  intro l
  induction l with
  | nil => intro acc t h; simp [rdL]
  | cons x l ih =>
    intro acc t h
    simp only [List.length_cons, rdL, List.flatMap_cons, List.append_assoc]
    rw [h x (by simp)]
    simp only [Bool.false_eq_true, if_false]
    rw [ih _ _ (fun y hy => h y (by simp [hy]))]
    simp
theorem rdK_all {α : Type} {f : Rs → α × Rs} {C : α → List Int} (l : List α) (t : List Int) (hl : l.length ≤ 255) (h : ∀ x ∈ l, ∀ t, f ⟨strOfNums (C x ++ t), false⟩ = (x, ⟨strOfNums t, false⟩)) :
    rdK f ⟨strOfNums ((l.length : Int) :: (l.flatMap C ++ t)), false⟩ = (l, ⟨strOfNums t, false⟩) := by
  unfold rdK
  rw [rd1_cons (by omega)]
  simp only [Int.toNat_natCast]
  rw [rdL_all l [] t h]
  simp

/-! ### what a matrix's bounds are -/
theorem wi_iff {n lo hi : Int} : wi n lo hi = true ↔ lo ≤ n ∧ n ≤ hi := by simp [wi]
theorem pw_bd {n : Int} (h : pw n = true) : 1 ≤ n ∧ n ≤ 8 := by
  simp [pw] at h
  omega
structure Bds (m : Mat) : Prop where
  level : 1 ≤ m.level ∧ m.level ≤ 2
  nodes : 1 ≤ m.nodes ∧ m.nodes ≤ 8
  cycles : 1 ≤ m.cycles ∧ m.cycles ≤ 8
  length : 1 ≤ m.length ∧ m.length ≤ 4000
  enable : 1 ≤ m.enable ∧ m.enable ≤ 16
  unit : 1 ≤ m.unit ∧ m.unit ≤ 64
  init : 0 ≤ m.init ∧ m.init ≤ 8000
  ref : m.ref < 2048
  l1 : 1 ≤ m.masters.length ∧ m.masters.length ≤ 4
  l2 : m.msgs.length ≤ 12
  l3 : m.wins.length ≤ 16
  masters : ∀ x ∈ m.masters, 0 ≤ x ∧ x ≤ 99
  msgs : ∀ x ∈ m.msgs, x.id < 2048 ∧ 0 ≤ x.owner ∧ x.owner ≤ 99
  wins : ∀ x ∈ m.wins, (1 ≤ x.kind ∧ x.kind ≤ 3) ∧ (0 ≤ x.start ∧ x.start ≤ 4000) ∧ (0 ≤ x.stop ∧ x.stop ≤ 4000) ∧ (0 ≤ x.cyc ∧ x.cyc ≤ 7) ∧ (1 ≤ x.rep ∧ x.rep ≤ 8) ∧ (0 ≤ x.msg ∧ x.msg ≤ 99)
theorem bds_of {m : Mat} (h : isB m = true) : Bds m := by
  simp only [isB, headB, Bool.and_eq_true, wi_iff, decide_eq_true_eq, List.all_eq_true] at h
  obtain ⟨⟨⟨⟨⟨⟨⟨⟨⟨⟨⟨⟨⟨⟨a1, a2⟩, a3⟩, a4⟩, a5⟩, a6⟩, a7⟩, a8⟩, _⟩, a9⟩, a10⟩, a11⟩, a12⟩, a13⟩, a14⟩ := h
  have b3 := pw_bd a3
  refine ⟨a1, a2, b3, a4, a5, a6, a7, a8, by omega, a10, a11, fun x hx => ?_, fun x hx => ?_, fun x hx => ?_⟩
  · exact wi_iff.1 (a12 x hx)
  · have := a13 x hx
    simp only [msgB, whoB, Bool.and_eq_true, wi_iff, decide_eq_true_eq] at this
    exact this
  · have := a14 x hx
    simp only [winB, Bool.and_eq_true, wi_iff, decide_eq_true_eq] at this
    obtain ⟨⟨⟨⟨⟨⟨⟨⟨k1, k2⟩, k3⟩, k4⟩, k5⟩, k6⟩, k7⟩, k8⟩, k9⟩ := this
    have := pw_bd k5
    refine ⟨k1, ?_, ?_, ?_, this, k8⟩ <;> omega
theorem ok_pos {m : Mat} (h : m.Ok) : 0 ≤ m.ref ∧ ∀ x ∈ m.msgs, 0 ≤ x.id :=
  ⟨(bounds_u32 h.ref).1, fun x hx => (bounds_u32 (h.msgs x hx).1).1⟩

theorem rdHead_of {m : Mat} {t : List Int} (b : Bds m) (hr : 0 ≤ m.ref) : rdHead ⟨strOfNums (headT m ++ t), false⟩ = ({ m with masters := [], msgs := [], wins := [] }, ⟨strOfNums t, false⟩) := by
  have b1 := b.level
  have b2 := b.nodes
  have b3 := b.cycles
  have b4 := b.length
  have b5 := b.enable
  have b6 := b.unit
  have b7 := b.init
  have b8 := b.ref
  unfold rdHead headT
  simp only [List.cons_append, List.nil_append]
  rw [rd1_cons (by omega)]
  simp only
  rw [rd1_cons (by omega)]
  simp only
  rw [rd1_cons (by omega)]
  simp only
  rw [rd2_cons (by omega)]
  simp only
  rw [rd1_cons (by omega)]
  simp only
  rw [rd1_cons (by omega)]
  simp only
  rw [rd2_cons (by omega)]
  simp only
  rw [rd2_cons (by omega)]
theorem rdMat_of {m : Mat} (h : isB m = true) (ho : m.Ok) (t : List Int) : rdMat ⟨strOfNums (matT m ++ t), false⟩ = (m, ⟨strOfNums t, false⟩) := by
  have b := bds_of h
  obtain ⟨hr, hid⟩ := ok_pos ho
  have e : matT m ++ t = headT m ++ ((m.masters.length : Int) :: (m.masters.flatMap (fun x => [x]) ++ ((m.msgs.length : Int) :: (m.msgs.flatMap msgT ++ ((m.wins.length : Int) :: (m.wins.flatMap winT ++ t)))))) := by
    have : m.masters.flatMap (fun x => [x]) = m.masters := by simp [List.flatMap_singleton']
    rw [this]
    simp [matT]
  unfold rdMat
  rw [e, rdHead_of b hr]
  unfold rdLists
  simp only
  rw [rdK_all (f := rd1) m.masters _ (by have := b.l1; omega) (fun x hx t => by have := b.masters x hx; exact rd1_cons (by omega))]
  simp only
  rw [rdK_all (f := rdMsg) m.msgs _ (by have := b.l2; omega) (fun x hx t => by have := b.msgs x hx; have := hid x hx; exact rdMsg_cons (by omega) (by omega))]
  simp only
  rw [rdK_all (f := rdWin) m.wins _ (by have := b.l3; omega) (fun x hx t => by have := b.wins x hx; exact rdWin_cons (by omega) (by omega) (by omega) (by omega) (by omega) (by omega))]
theorem matT_bytes {m : Mat} (h : isB m = true) (ho : m.Ok) : Byts (79 :: matT m) := by
  have b := bds_of h
  obtain ⟨hr, hid⟩ := ok_pos ho
  have b1 := b.level
  have b2 := b.nodes
  have b3 := b.cycles
  have b4 := b.length
  have b5 := b.enable
  have b6 := b.unit
  have b7 := b.init
  have b8 := b.ref
  have c1 := b.l1
  have c2 := b.l2
  have c3 := b.l3
  intro n hn
  simp only [matT, headT, List.mem_cons, List.mem_append, List.mem_flatMap, List.not_mem_nil, or_false] at hn
  rcases hn with rfl | (rfl | rfl | rfl | rfl | rfl | rfl | rfl | rfl | rfl | rfl | rfl) | rfl | hn | rfl | ⟨x, hx, hn⟩ | rfl | ⟨x, hx, hn⟩
  all_goals try omega
  · have := b.masters n hn; omega
  · have h1 := b.msgs x hx
    have h2 := hid x hx
    simp only [msgT, List.mem_cons, List.not_mem_nil, or_false] at hn
    rcases hn with rfl | rfl | rfl | rfl
    all_goals first | omega | (split <;> omega)
  · have h1 := b.wins x hx
    simp only [winT, List.mem_cons, List.not_mem_nil, or_false] at hn
    rcases hn with rfl | rfl | rfl | rfl | rfl | rfl | rfl | rfl
    all_goals omega
theorem matT_len (m : Mat) : (matT m).length = 14 + m.masters.length + 4 * m.msgs.length + 8 * m.wins.length := by
  have h1 : ∀ l : List Msg, (l.flatMap msgT).length = 4 * l.length := by
    intro l; induction l with
    | nil => rfl
    | cons x l ih => simp [ih, msgT]; omega
  have h2 : ∀ l : List Win, (l.flatMap winT).length = 8 * l.length := by
    intro l; induction l with
    | nil => rfl
    | cons x l ih => simp [ih, winT]; omega
  simp [matT, headT, h1, h2]
  omega
theorem print_size {m : Mat} (h : isB m = true) : (printE m).size = 15 + m.masters.length + 4 * m.msgs.length + 8 * m.wins.length := by
  unfold printE
  rw [if_pos h, strOfNums_size, List.length_cons, matT_len]
  omega
theorem print_none {m : Mat} (h : isB m = false) : printE m = ⟨#[]⟩ := by
  unfold printE
  rw [if_neg (by simp [h])]
theorem print_small {m : Mat} : (printE m).size ≤ 195 := by
  cases h : isB m with
  | true =>
    have b := bds_of h
    have := b.l1
    have := b.l2
    have := b.l3
    rw [print_size h]
    omega
  | false => rw [print_none h]; decide
theorem parseR_more {m : Mat} (h : isB m = true) (ho : m.Ok) (t : List Int) : parseR (strOfNums ((79 :: matT m) ++ t)) = (m, ⟨strOfNums t, false⟩) := by
  unfold parseR
  rw [List.cons_append, rd1_cons (by omega)]
  exact rdMat_of h ho t
theorem parseR_print {m : Mat} (h : isB m = true) (ho : m.Ok) : parseR (printE m) = (m, ⟨strOfNums [], false⟩) := by
  have := parseR_more h ho []
  rw [List.append_nil] at this
  unfold printE
  rw [if_pos h]
  exact this
theorem okE_print {m : Mat} (h : isB m = true) (ho : m.Ok) : okE (printE m) = true := by
  have := print_small (m := m)
  unfold okE
  rw [parseR_print h ho]
  simp
  omega
theorem rd1_sh {x : Rs} (h : x.sh = true) : (rd1 x).2.sh = true := by
  unfold rd1
  split
  · exact h
  · rfl
theorem rd2_sh {x : Rs} (h : x.sh = true) : (rd2 x).2.sh = true := rd1_sh (rd1_sh h)
theorem rdMsg_sh {x : Rs} (h : x.sh = true) : (rdMsg x).2.sh = true := rd1_sh (rd1_sh (rd2_sh h))
theorem rdWin_sh {x : Rs} (h : x.sh = true) : (rdWin x).2.sh = true := by
  unfold rdWin
  simp only
  exact rd1_sh (rd1_sh (rd1_sh (rd2_sh (rd2_sh (rd1_sh h)))))
theorem rdHead_sh {x : Rs} (h : x.sh = true) : (rdHead x).2.sh = true := by
  unfold rdHead
  simp only
  exact rd2_sh (rd2_sh (rd1_sh (rd1_sh (rd2_sh (rd1_sh (rd1_sh (rd1_sh h)))))))
theorem rdL_sh {α : Type} {f : Rs → α × Rs} (n : Nat) (acc : List α) {x : Rs} (h : x.sh = true) : rdL f n acc x = (acc, x) := by
  cases n with
  | zero => rfl
  | succ n => unfold rdL; rw [if_pos h]
theorem rdK_sh {α : Type} {f : Rs → α × Rs} {x : Rs} (h : x.sh = true) : (rdK f x).2.sh = true := by
  unfold rdK
  rw [rdL_sh _ _ (rd1_sh h)]
  exact rd1_sh h
theorem rdLists_sh {m : Mat} {x : Rs} (h : x.sh = true) : (rdLists m x).2.sh = true := by
  unfold rdLists
  simp only
  exact rdK_sh (rdK_sh (rdK_sh h))
theorem okE_none : okE ⟨#[]⟩ = false := by
  have h1 : (rd1 ⟨⟨#[]⟩, false⟩).2.sh = true := rfl
  have h2 : (rdHead (rd1 ⟨⟨#[]⟩, false⟩).2).2.sh = true := rdHead_sh h1
  have h3 : (parseR ⟨#[]⟩).2.sh = true := rdLists_sh h2
  unfold okE
  rw [h3]
  simp
theorem okE_is {b : ByteArray} (h : okE b = true) : isB (parseR b).1 = true ∧ printE (parseR b).1 = b := by
  have h' := h
  simp only [okE, Bool.and_eq_true, decide_eq_true_eq] at h
  refine ⟨?_, h.2⟩
  cases hb : isB (parseR b).1 with
  | true => rfl
  | false =>
    rw [print_none hb] at h
    rw [← h.2, okE_none] at h'
    cases h'
/-! ### what comes out of bytes fits -/
theorem rd1_bd (x : Rs) : 0 ≤ (rd1 x).1 ∧ (rd1 x).1 ≤ 255 := by
  unfold rd1
  split
  · have := (x.s[0]).toNat_lt; simp; omega
  · simp
theorem rd2_bd (x : Rs) : 0 ≤ (rd2 x).1 ∧ (rd2 x).1 ≤ 65535 := by
  have h1 := rd1_bd x
  have h2 := rd1_bd (rd1 x).2
  unfold rd2
  simp only
  omega
theorem i64_b {n : Int} (h : 0 ≤ n ∧ n ≤ 65535) : I64 n := by
  simp [I64, Lit.wf, IntKind.min, IntKind.max, IntKind.signed, IntKind.bits]
  omega
theorem u32_b {n : Int} (h : 0 ≤ n ∧ n ≤ 65535) : U32 n := by
  simp [U32, Lit.wf, IntKind.min, IntKind.max, IntKind.signed, IntKind.bits]
  omega
theorem i64_1 (x : Rs) : I64 (rd1 x).1 := i64_b (by have := rd1_bd x; omega)
theorem i64_2 (x : Rs) : I64 (rd2 x).1 := i64_b (rd2_bd x)
theorem rdL_ok {α : Type} {f : Rs → α × Rs} {p : α → Prop} (hf : ∀ x, p (f x).1) : ∀ (n : Nat) (acc : List α) (x : Rs), (∀ z ∈ acc, p z) → ∀ z ∈ (rdL f n acc x).1, p z := by
  intro n
  induction n with
  | zero => intro acc x h; exact h
  | succ n ih =>
    intro acc x h
    unfold rdL
    split
    · exact h
    · exact ih _ _ (fun z hz => by
        rcases List.mem_append.1 hz with hz | hz
        · exact h z hz
        · simp at hz; subst hz; exact hf x)
theorem rdMsg_ok (x : Rs) : (rdMsg x).1.Ok := ⟨u32_b (rd2_bd x), i64_1 _⟩
theorem rdWin_ok (x : Rs) : (rdWin x).1.Ok := by
  unfold rdWin Win.Ok
  simp only
  exact ⟨i64_1 _, i64_2 _, i64_2 _, i64_1 _, i64_1 _, i64_1 _⟩
theorem rdHead_ok (x : Rs) : (rdHead x).1.Ok := by
  unfold rdHead
  simp only
  refine ⟨?_, ?_, ?_, ?_, ?_, ?_, ?_, ?_, ?_, ?_, ?_⟩
  all_goals simp only
  · exact i64_1 _
  · exact i64_1 _
  · exact i64_1 _
  · exact i64_2 _
  · exact i64_1 _
  · exact i64_1 _
  · exact i64_2 _
  · exact u32_b (rd2_bd _)
  all_goals (intro x hx; cases hx)
theorem rdLists_ok {m : Mat} (h : m.Ok) (x : Rs) : (rdLists m x).1.Ok := by
  unfold rdLists rdK
  simp only
  refine ⟨h.level, h.nodes, h.cycles, h.length, h.enable, h.unit, h.init, h.ref, ?_, ?_, ?_⟩
  all_goals simp only
  · exact rdL_ok (p := I64) i64_1 _ _ _ (fun z hz => by cases hz)
  · exact rdL_ok (p := Msg.Ok) rdMsg_ok _ _ _ (fun z hz => by cases hz)
  · exact rdL_ok (p := Win.Ok) rdWin_ok _ _ _ (fun z hz => by cases hz)
theorem parseR_ok (b : ByteArray) : (parseR b).1.Ok := rdLists_ok (rdHead_ok _) _

/-! ### the laws -/
theorem print_inj {a b : Mat} (ha : isB a = true) (hb : isB b = true) (oa : a.Ok) (ob : b.Ok) (h : printE a = printE b) : a = b := by
  have h1 := parseR_print ha oa
  rw [h, parseR_print hb ob] at h1
  exact (congrArg Prod.fst h1).symm
theorem ok_unique {m : Mat} (h : isB m = true) (ho : m.Ok) {b : ByteArray} (hk : okE b = true) {t : List Int} (hp : nums b ++ t = 79 :: matT m) : t = [] := by
  obtain ⟨hi, hpr⟩ := okE_is hk
  have hob := parseR_ok b
  have e1 : nums b = 79 :: matT (parseR b).1 := by
    have h1 : nums (printE (parseR b).1) = 79 :: matT (parseR b).1 := by
      unfold printE
      rw [if_pos hi]
      exact nums_str (matT_bytes hi hob)
    rw [hpr] at h1
    exact h1
  rw [e1] at hp
  have h2 := parseR_more hi hob t
  rw [hp] at h2
  have h3 := parseR_more h ho []
  rw [List.append_nil, h2] at h3
  have h4 : (parseR b).1 = m := congrArg Prod.fst h3
  rw [h4] at hp
  exact List.append_right_eq_self.1 hp
theorem cut_none {m : Mat} (h : isB m = true) (ho : m.Ok) {k : Nat} (hk : k < (printE m).size) : okE ((printE m).extract 0 k) = false := by
  cases hc : okE ((printE m).extract 0 k) with
  | false => rfl
  | true =>
    have hn : nums (printE m) = 79 :: matT m := by
      unfold printE
      rw [if_pos h]
      exact nums_str (matT_bytes h ho)
    have := ok_unique h ho hc (t := (nums (printE m)).drop k) (by rw [nums_extract, List.drop_zero, List.take_append_drop, hn])
    have h2 := congrArg List.length this
    rw [List.length_drop, nums_len] at h2
    simp at h2
    omega
theorem more_none {m : Mat} (h : isB m = true) (ho : m.Ok) (n : Int) (hn : 0 ≤ n ∧ n ≤ 255) : okE (printE m ++ strOfNums [n]) = false := by
  cases hc : okE (printE m ++ strOfNums [n]) with
  | false => rfl
  | true =>
    obtain ⟨hi, hpr⟩ := okE_is hc
    have hob := parseR_ok (printE m ++ strOfNums [n])
    have hnn : nums (printE m) = 79 :: matT m := by
      unfold printE
      rw [if_pos h]
      exact nums_str (matT_bytes h ho)
    have e : printE m ++ strOfNums [n] = strOfNums ((79 :: matT m) ++ [n]) := by
      rw [← strOfNums_nums (printE m ++ strOfNums [n]), nums_append, hnn, nums_str (fun k hk => by simp at hk; subst hk; exact hn)]
    have h2 := parseR_more h ho [n]
    rw [← e] at h2
    rw [h2] at hpr
    have h3 := congrArg ByteArray.size hpr
    rw [ByteArray.size_append, strOfNums_size] at h3
    simp at h3
theorem sameB_rfl (m : Mat) : sameB m m = true := by
  have h : ∀ {α : Type} (p : α → α → Bool) (l : List α), (∀ x, p x x = true) → eqL p l l = true := by
    intro α p l hp
    unfold eqL
    simp only [decide_true, Bool.true_and, List.all_eq_true]
    intro z hz
    obtain ⟨i, hi⟩ := List.getElem?_of_mem hz
    rw [List.getElem?_zip_eq_some] at hi
    have : z.1 = z.2 := Option.some.inj (hi.1.symm.trans hi.2)
    rw [this]
    exact hp _
  unfold sameB headEq
  rw [h _ _ (fun x => by simp), h _ _ (fun x => by simp [msgEq]), h _ _ (fun x => by simp [winEq])]
  simp
theorem eqL_eq {α : Type} {p : α → α → Bool} (hp : ∀ x y, p x y = true → x = y) : ∀ (a b : List α), eqL p a b = true → a = b := by
  intro a
  induction a with
  | nil => intro b h; cases b with
    | nil => rfl
    | cons y t => simp [eqL] at h
  | cons x a ih => intro b h; cases b with
    | nil => simp [eqL] at h
    | cons y t =>
      simp only [eqL, List.length_cons, List.zip_cons_cons, List.all_cons, Bool.and_eq_true, decide_eq_true_eq] at h
      rw [hp x y h.2.1, ih t (by simp only [eqL, Bool.and_eq_true, decide_eq_true_eq]; exact ⟨by omega, h.2.2⟩)]
theorem sameB_eq {a b : Mat} (h : sameB a b = true) : a = b := by
  obtain ⟨a1, a2, a3, a4, a5, a6, a7, a8, a9, a10, a11⟩ := a
  obtain ⟨b1, b2, b3, b4, b5, b6, b7, b8, b9, b10, b11⟩ := b
  simp only [sameB, headEq, Bool.and_eq_true, beq_iff_eq] at h
  obtain ⟨⟨⟨⟨⟨⟨⟨⟨⟨⟨rfl, rfl⟩, rfl⟩, rfl⟩, rfl⟩, rfl⟩, rfl⟩, rfl⟩, h1⟩, h2⟩, h3⟩ := h
  rw [eqL_eq (fun x y hx => by simpa using hx) _ _ h1,
    eqL_eq (fun x y hx => by
      obtain ⟨x1, x2, x3⟩ := x; obtain ⟨y1, y2, y3⟩ := y
      simp [msgEq] at hx; simp [hx]) _ _ h2,
    eqL_eq (fun x y hx => by
      obtain ⟨x1, x2, x3, x4, x5, x6⟩ := x; obtain ⟨y1, y2, y3, y4, y5, y6⟩ := y
      simp [winEq] at hx; simp [hx]) _ _ h3]
theorem apart_law {a b : Mat} (ha : isB a = true) (hb : isB b = true) (oa : a.Ok) (ob : b.Ok) : decide (printE a = printE b) = sameB a b := by
  rw [Bool.eq_iff_iff, decide_eq_true_eq]
  constructor
  · intro h
    rw [print_inj ha hb oa ob h]
    exact sameB_rfl b
  · intro h
    rw [sameB_eq h]
end Go.Proofs.Ythkhlcigegbpfaa
