/-
  Part 1 of the walks of the program and of the laws of its arithmetic: what each function of the program tells at every input that its premise takes.
-/
import Derived.Calls
import Derived.Tactics
import Derived.Orders
import Derived.Below
import Derived.Laws.AppendOwn
import Derived.Laws.Bits
import Derived.Laws.Cells
import Derived.Laws.Tables
/-
  A calculus of walks over abstract data, generic over the program: what values read as (RelD), what slots, boxes and growing rows hold (RelC, RelV, Good), and how both live on while memory grows (Step).
-/
namespace Go.Proofs.YthaiegnohkiegaaGreat.Ab
/-- What a test's outcome says. -/
theorem zz : (∀ (p : Prop) [Decidable p], (decide p = true) = p) ∧ (∀ (p : Prop) [Decidable p], decide p = false ↔ ¬p) ∧ (∀ (α : Type) [BEq α] [LawfulBEq α] (a b : α), (a == b) = true ↔ a = b) ∧ (∀ (α : Type) [BEq α] [LawfulBEq α] (a b : α), (a != b) = true ↔ a ≠ b) ∧
    (∀ (α : Type) [BEq α] [LawfulBEq α] (a b : α), (a == b) = false ↔ a ≠ b) ∧ (∀ (α : Type) [BEq α] [LawfulBEq α] (a b : α), (a != b) = false ↔ a = b) ∧ (∀ (α : Type) (a b : α), (a ≠ b) = ¬(a = b)) ∧ (∀ (p : Prop) [Decidable p], ¬¬p ↔ p) ∧
    (∀ a b : Int, ¬a < b ↔ b ≤ a) ∧ (∀ a b : Int, ¬a ≤ b ↔ b < a) ∧ (∀ b : Bool, ((!b) = true) = (b = false)) ∧ (∀ b : Bool, ((!b) = false) = (b = true)) :=
  ⟨fun _ _ => decide_eq_true_eq, fun _ _ => decide_eq_false_iff_not, fun _ _ _ _ _ => beq_iff_eq, fun _ _ _ _ _ => bne_iff_ne, fun _ _ _ _ _ => beq_eq_false_iff_ne, fun _ _ _ _ _ => bne_eq_false_iff_eq, fun _ _ _ => rfl, fun _ _ => Decidable.not_not, fun _ _ => Int.not_lt, fun _ _ => Int.not_le, Bool.not_eq_true', Bool.not_eq_false'⟩
open Go.RowKit (Below)

/-- Data as they are read: a scalar, a slice (each element by its cells), an address of cells that stay, a function value. -/
inductive D where
  | val (v : Value)
  | sl (xs : List (List D))
  | pt (cs : List D)
  | fn (f : Fn) (first caps : List D)

instance : Inhabited D := ⟨.val undef⟩

inductive RelD (w : World) (own : Nat → Option Nat) (B : Nat) : Value → D → Prop
  | val (v : Value) (h1 : v.oneCell' = true) : RelD w own B v (.val v)
  | emp (a : Option Addr) (c : Nat) : RelD w own B (.slice a 0 c) (.sl [])
  | sl {g off c sz : Nat} {cells : Array Value} {E : TypeId} {fr : Nat × Nat} {xs : List (List D)} (cv : Nat → Nat → Value)
      (hB : B ≤ g) (hb : w.heap[g]? = some (.cells cells E fr)) (hc : xs.length ≤ c)
      (ho : ∀ n, own g = some n → off + xs.length * sz ≤ n)
      (hs : ∀ ds ∈ xs, ds.length = sz)
      (hv : ∀ i j, i < xs.length → j < sz → cells[off + i * sz + j]? = some (cv i j))
      (hr : ∀ i j ds d, xs[i]? = some ds → ds[j]? = some d → RelD w own B (cv i j) d) :
      RelD w own B (.slice (some ⟨g, off, none⟩) xs.length c) (.sl xs)
  | pt {g off : Nat} {cells : Array Value} {E : TypeId} {fr : Nat × Nat} {cs : List D} (cv : Nat → Value)
      (hB : B ≤ g) (hb : w.heap[g]? = some (.cells cells E fr))
      (ho : ∀ n, own g = some n → off + cs.length ≤ n)
      (hv : ∀ j, j < cs.length → cells[off + j]? = some (cv j))
      (hr : ∀ j d, cs[j]? = some d → RelD w own B (cv j) d) :
      RelD w own B (.pointer (some ⟨g, off, none⟩)) (.pt cs)
  | fn {f : Fn} {fs cs : List D} (fv cv : Array Value) (h1 : fv.size = fs.length) (h2 : cv.size = cs.length)
      (hf : ∀ j d, fs[j]? = some d → RelD w own B (fv.getD j undef) d)
      (hc : ∀ j d, cs[j]? = some d → RelD w own B (cv.getD j undef) d) :
      RelD w own B (.func f fv cv) (.fn f fs cs)

theorem RelD.oneCell {w : World} {own : Nat → Option Nat} {B : Nat} {v : Value} {d : D} (h : RelD w own B v d) : v.oneCell' = true := by
  cases h <;> first | assumption | rfl

/-- From one world to a later one: what nobody owns stays; of what is owned the part that is seen stays. -/
structure Step (w : World) (own : Nat → Option Nat) (w' : World) (own' : Nat → Option Nat) : Prop where
  size : w.heap.size ≤ w'.heap.size
  os : w'.os = w.os
  tape : w'.tape = w.tape
  output : w'.output = w.output
  free : ∀ g, g < w.heap.size → own g = none → w'.heap[g]? = w.heap[g]? ∧ own' g = none
  kept : ∀ g n cells E fr, own g = some n → w.heap[g]? = some (.cells cells E fr) →
    ∃ cells' fr', w'.heap[g]? = some (.cells cells' E fr') ∧ (∀ i, i < n → cells'[i]? = cells[i]?) ∧ (∀ n', own' g = some n' → n ≤ n')
  big : ∀ (g : Nat) (cells : Array Value) (E : TypeId) (fr : Nat × Nat), w.heap[g]? = some (.cells cells E fr) → ∃ (cells' : Array Value) (fr' : Nat × Nat), w'.heap[g]? = some (.cells cells' E fr') ∧ cells.size ≤ cells'.size

theorem Step.refl (w : World) (own : Nat → Option Nat) : Step w own w own :=
  ⟨Nat.le_refl _, rfl, rfl, rfl, fun _ _ h => ⟨rfl, h⟩, fun _ _ c _ fr ho hb => ⟨c, fr, hb, fun _ _ => rfl, fun n' h => by rw [ho] at h; cases h; exact Nat.le_refl _⟩, fun _ c _ fr hb => ⟨c, fr, hb, Nat.le_refl _⟩⟩

theorem lt_of_heap {w : World} {g : Nat} {o : Obj} (h : w.heap[g]? = some o) : g < w.heap.size := (Array.getElem?_eq_some_iff.1 h).1

theorem Step.trans {w w1 w2 : World} {o o1 o2 : Nat → Option Nat} (h : Step w o w1 o1) (k : Step w1 o1 w2 o2) : Step w o w2 o2 := by
  refine ⟨Nat.le_trans h.size k.size, k.os.trans h.os, k.tape.trans h.tape, k.output.trans h.output, fun g hg hn => ?_, fun g n c E fr ho hb => ?_, fun g c E fr hb => by
    obtain ⟨c1, f1, a1, a2⟩ := h.big g c E fr hb
    obtain ⟨c2, f2, b1, b2⟩ := k.big g c1 E f1 a1
    exact ⟨c2, f2, b1, Nat.le_trans a2 b2⟩⟩
  · obtain ⟨a, b⟩ := h.free g hg hn
    obtain ⟨a', b'⟩ := k.free g (Nat.lt_of_lt_of_le hg h.size) b
    exact ⟨a'.trans a, b'⟩
  · obtain ⟨c1, fr1, h1, h2, h3⟩ := h.kept g n c E fr ho hb
    cases e : o1 g with
    | none =>
      obtain ⟨a', b'⟩ := k.free g (lt_of_heap h1) e
      exact ⟨c1, fr1, a'.trans h1, h2, fun n' hn' => by rw [b'] at hn'; cases hn'⟩
    | some m =>
      have hm := h3 m e
      obtain ⟨c2, fr2, k1, k2, k3⟩ := k.kept g m c1 E fr1 e h1
      exact ⟨c2, fr2, k1, fun i hi => (k2 i (by omega)).trans (h2 i hi), fun n' hn' => Nat.le_trans hm (k3 n' hn')⟩

/-- A cell block, seen from later. -/
theorem Step.cells {w w' : World} {own own' : Nat → Option Nat} (h : Step w own w' own') {g : Nat} {cells : Array Value} {E : TypeId} {fr : Nat × Nat}
    (hb : w.heap[g]? = some (.cells cells E fr)) {m : Nat} (ho : ∀ n, own g = some n → m ≤ n) :
    ∃ cells' fr', w'.heap[g]? = some (.cells cells' E fr') ∧ (∀ i, i < m → cells'[i]? = cells[i]?) ∧ (∀ n, own' g = some n → m ≤ n) := by
  cases e : own g with
  | none =>
    obtain ⟨a, b⟩ := h.free g (lt_of_heap hb) e
    exact ⟨cells, fr, a.trans hb, fun _ _ => rfl, fun n hn => by rw [b] at hn; cases hn⟩
  | some n =>
    obtain ⟨c, f, h1, h2, h3⟩ := h.kept g n cells E fr e hb
    have := ho n e
    exact ⟨c, f, h1, fun i hi => h2 i (by omega), fun n' hn' => Nat.le_trans this (h3 n' hn')⟩

theorem RelD.step {w w' : World} {own own' : Nat → Option Nat} (hs : Step w own w' own') {B : Nat} {v : Value} {d : D} (h : RelD w own B v d) : RelD w' own' B v d := by
  induction h with
  | val v h1 => exact .val v h1
  | emp a c => exact .emp a c
  | sl cv hB hb hc ho hz hv hr ih =>
    obtain ⟨c', f', h1, h2, h3⟩ := hs.cells hb ho
    refine .sl cv hB h1 hc h3 hz (fun i j hi hj => ?_) ih
    rw [h2, hv i j hi hj]
    exact at_lt hi hj
  | pt cv hB hb ho hv hr ih =>
    obtain ⟨c', f', h1, h2, h3⟩ := hs.cells hb ho
    exact .pt cv hB h1 h3 (fun j hj => by rw [h2 _ (by omega), hv j hj]) ih
  | fn fv cv h1 h2 hf hc ihf ihc => exact .fn fv cv h1 h2 ihf ihc
where
  at_lt {off i j n sz : Nat} (hi : i < n) (hj : j < sz) : off + i * sz + j < off + n * sz := by
    have h1 : (i + 1) * sz ≤ n * sz := Nat.mul_le_mul_right sz hi
    rw [Nat.add_mul, Nat.one_mul] at h1
    omega

theorem RelD.mono {w : World} {own : Nat → Option Nat} {B B' : Nat} (hB : B' ≤ B) {v : Value} {d : D} (h : RelD w own B v d) : RelD w own B' v d := by
  induction h with
  | val v h1 => exact .val v h1
  | emp a c => exact .emp a c
  | sl cv hB' hb hc ho hz hv hr ih => exact .sl cv (Nat.le_trans hB hB') hb hc ho hz hv ih
  | pt cv hB' hb ho hv hr ih => exact .pt cv (Nat.le_trans hB hB') hb ho hv ih
  | fn fv cv h1 h2 hf hc ihf ihc => exact .fn fv cv h1 h2 ihf ihc

/-- Where what is new begins (hi), and where all that is told of begins (lo). -/
structure Base where
  lo : Nat
  hi : Nat
  le : lo ≤ hi
def Base.at (B : Base) (fr : Bool) : Nat := bif fr then B.hi else B.lo
theorem Base.and_l (B : Base) (f g : Bool) : B.at (f && g) ≤ B.at f := by have := B.le; cases f <;> cases g <;> simp [Base.at] <;> omega
theorem Base.and_r (B : Base) (f g : Bool) : B.at (f && g) ≤ B.at g := by have := B.le; cases f <;> cases g <;> simp [Base.at] <;> omega
theorem Base.mono (B : Base) {f g : Bool} (h : f = true → g = true) : B.at f ≤ B.at g := by have := B.le; cases f <;> cases g <;> simp [Base.at] at h ⊢ <;> omega
theorem Base.at_hi (B : Base) (f : Bool) : B.at f ≤ B.hi := by have := B.le; cases f <;> simp [Base.at] <;> omega

/-- Cells as a state holds them. -/
inductive C where
  | d (fr : Bool) (x : D)
  | ref (id off : Nat)
  | own (id e sz : Nat) (fr : Bool) (xs : List (List D))
  | msl (id off len cap : Nat)
  | ex (fr : Bool) (xs : List (List D))
  | gro (id e len sz : Nat)
  | fn (f : Fn) (first caps : List C)
  | none

inductive V where
  | c (x : C)
  | agg (cs : List C)
  | tup (vs : List V)

inductive O where
  | box (cs : List C)
  | row

structure Env where
  own : Nat → Option Nat
  ι : Nat → Option Nat

abbrev Sto := Nat → Option O
def lvOf (σ : Sto) (id : Nat) : Bool := match σ id with | some .row => true | _ => false

/-- A live row's value: nil, or it begins its block, which is seen as far as the row goes; its spare cells are there. -/
def OwnOk (w : World) (G : Env) (id e sz : Nat) (v : Value) (n : Nat) : Prop :=
  ((∃ a, v = .slice a 0 0) ∧ n = 0 ∧ G.ι id = Option.none) ∨ ∃ g cap cur, v = .slice (some ⟨g, 0, Option.none⟩) n cap ∧ G.ι id = some g ∧
    w.heap[g]? = some (.cells cur e (0, 0)) ∧ n ≤ cap ∧ cap ≤ maxLen ∧ cur.size = cap * sz ∧ G.own g = some (n * sz)

inductive RelC (w : World) (G : Env) (B : Base) (lv : Nat → Bool) : Value → C → Prop
  | d {v : Value} {fr : Bool} {x : D} (h : RelD w G.own (B.at fr) v x) : RelC w G B lv v (.d fr x)
  | ref {id off g : Nat} (h : G.ι id = some g) : RelC w G B lv (.pointer (some ⟨g, off, Option.none⟩)) (.ref id off)
  | own {v : Value} {id e sz : Nat} {fr : Bool} {xs : List (List D)} (h : RelD w G.own (B.at fr) v (.sl xs)) (hs : ∀ ds ∈ xs, ds.length = sz)
      (hl : lv id = true → OwnOk w G id e sz v xs.length) (hB : lv id = true → ∀ g, G.ι id = some g → B.at fr ≤ g) : RelC w G B lv v (.own id e sz fr xs)
  | msl {id off len cap c g : Nat} (h : G.ι id = some g) (hc : cap ≤ c) : RelC w G B lv (.slice (some ⟨g, off, Option.none⟩) len c) (.msl id off len cap)
  | mslE {id off cap c : Nat} {a : Option Addr} : RelC w G B lv (.slice a 0 c) (.msl id off 0 cap)
  | ex {v : Value} {fr : Bool} {xs : List (List D)} (h : RelD w G.own (B.at fr) v (.sl xs)) (hx : ∃ a, v = .slice a xs.length xs.length) : RelC w G B lv v (.ex fr xs)
  | gro {id e len sz c g : Nat} (h : G.ι id = some g) (h0 : 0 < len) (hl : len ≤ c) (hm : c ≤ maxLen) (hb : ∃ (cells : Array Value) (fr : Nat × Nat), w.heap[g]? = some (.cells cells e fr) ∧ c * sz ≤ cells.size) : RelC w G B lv (.slice (some ⟨g, 0, Option.none⟩) len c) (.gro id e len sz)
  | groE {id e sz : Nat} {a : Option Addr} : RelC w G B lv (.slice a 0 0) (.gro id e 0 sz)
  | fn {f : Fn} {fs cs : List C} (fv cv : Array Value) (h1 : fv.size = fs.length) (h2 : cv.size = cs.length)
      (hf : ∀ j d, fs[j]? = some d → RelC w G B lv (fv.getD j undef) d) (hf1 : ∀ j, j < fv.size → (fv.getD j undef).oneCell' = true)
      (hc : ∀ j d, cs[j]? = some d → RelC w G B lv (cv.getD j undef) d) (hc1 : ∀ j, j < cv.size → (cv.getD j undef).oneCell' = true) :
      RelC w G B lv (.func f fv cv) (.fn f fs cs)
  | none (v : Value) : RelC w G B lv v .none

inductive RelV (w : World) (G : Env) (B : Base) (lv : Nat → Bool) : Value → V → Prop
  | c {v : Value} {x : C} (h : RelC w G B lv v x) : RelV w G B lv v (.c x)
  | agg {cs : List C} (a : Array Value) (h1 : a.size = cs.length) (h : ∀ j c, cs[j]? = some c → RelC w G B lv (a.getD j undef) c) : RelV w G B lv (.agg a) (.agg cs)
  | tup {vs : List V} (a : Array Value) (h1 : a.size = vs.length) (h : ∀ j x, vs[j]? = some x → RelV w G B lv (a.getD j undef) x) : RelV w G B lv (.tuple a) (.tup vs)

structure Good (w : World) (G : Env) (B : Base) (acc : Nat → Nat → Prop) (σ : Sto) : Prop where
  wh : ∀ id g, (σ id).isSome = true → G.ι id = some g → B.hi ≤ g ∨ acc id g
  inj : ∀ id id' g, (σ id).isSome = true → (σ id').isSome = true → G.ι id = some g → G.ι id' = some g → id = id'
  lt : ∀ id g, (σ id).isSome = true → G.ι id = some g → g < w.heap.size ∧ (G.own g).isSome = true
  box : ∀ id cs, σ id = some (.box cs) → cs ≠ [] → ∃ g cells E, G.ι id = some g ∧ w.heap[g]? = some (.cells cells E (0, 0)) ∧ cs.length ≤ cells.size ∧ G.own g = some 0 ∧
    ∀ j c, cs[j]? = some c → RelC w G B (lvOf σ) (cells.getD j undef) c

/-- What must stay for a cell's reading to stay: rows that live, other than those of X, are as they were; ids keep their blocks. -/
structure Stay (w : World) (G : Env) (lv : Nat → Bool) (w' : World) (G' : Env) (lv' : Nat → Bool) : Prop where
  step : Step w G.own w' G'.own
  ι : ∀ id g, G.ι id = some g → G'.ι id = some g
  row : ∀ id, lv' id = true → lv id = true ∧ ∀ g, G.ι id = some g → w'.heap[g]? = w.heap[g]? ∧ G'.own g = G.own g
  back : ∀ id, lv' id = true → G'.ι id = G.ι id

theorem OwnOk.stay {w w' : World} {G G' : Env} {id e sz n : Nat} {v : Value} (hι : G'.ι id = G.ι id) (hr : ∀ g, G.ι id = some g → w'.heap[g]? = w.heap[g]? ∧ G'.own g = G.own g)
    (h : OwnOk w G id e sz v n) : OwnOk w' G' id e sz v n := by
  rcases h with ⟨h1, h2, h3⟩ | ⟨g, cap, cur, hv, hi, hb, h1, h2, h3, ho⟩
  · exact .inl ⟨h1, h2, hι.trans h3⟩
  · obtain ⟨h4, h5⟩ := hr g hi
    exact .inr ⟨g, cap, cur, hv, hι.trans hi, h4.trans hb, h1, h2, h3, h5.trans ho⟩

theorem RelC.stay {w w' : World} {G G' : Env} {lv lv' : Nat → Bool} (hs : Stay w G lv w' G' lv') {B : Base} {v : Value} {c : C} (h : RelC w G B lv v c) : RelC w' G' B lv' v c := by
  induction h with
  | d h => exact .d (h.step hs.step)
  | ref h => exact .ref (hs.ι _ _ h)
  | own h hz hl hB =>
    refine .own (h.step hs.step) hz (fun k => ((hl (hs.row _ k).1)).stay (hs.back _ k) (hs.row _ k).2) (fun k g hg => ?_)
    exact hB (hs.row _ k).1 g ((hs.back _ k).symm.trans hg)
  | msl h hc => exact .msl (hs.ι _ _ h) hc
  | mslE => exact .mslE
  | ex h hx => exact .ex (h.step hs.step) hx
  | gro h h0 hl hm hb =>
    obtain ⟨cells, fr, b1, b2⟩ := hb
    obtain ⟨c', f', q1, q2⟩ := hs.step.big _ _ _ _ b1
    exact .gro (hs.ι _ _ h) h0 hl hm ⟨c', f', q1, Nat.le_trans b2 q2⟩
  | groE => exact .groE
  | fn fv cv h1 h2 hf hf1 hc hc1 ihf ihc => exact .fn fv cv h1 h2 ihf hf1 ihc hc1
  | none v => exact .none v

def C.nd (fr : Bool) : D → C
  | .val v => .d true (.val v)
  | .sl xs => .d fr (.sl xs)
  | .pt cs => .d fr (.pt cs)
  | .fn f a b => .d fr (.fn f a b)
theorem RelC.nd {w : World} {G : Env} {B : Base} {lv : Nat → Bool} {v : Value} {fr : Bool} {x : D} (h : RelD w G.own (B.at fr) v x) : RelC w G B lv v (C.nd fr x) := by
  cases x with
  | val u => cases h; exact .d (.val _ (by assumption))
  | sl xs => exact .d h
  | pt cs => exact .d h
  | fn f a b => exact .d h

theorem RelV.stay {w w' : World} {G G' : Env} {lv lv' : Nat → Bool} (hs : Stay w G lv w' G' lv') {B : Base} {v : Value} {c : V} (h : RelV w G B lv v c) : RelV w' G' B lv' v c := by
  induction h with
  | c h => exact .c (h.stay hs)
  | agg a h1 h => exact .agg a h1 fun j c hj => (h j c hj).stay hs
  | tup a h1 h ih => exact .tup a h1 ih

/-! Forgetting an id. -/
mutual
def C.kill (k : Nat) : C → C
  | .own id e sz fr xs => bif Nat.beq id k then .d fr (.sl xs) else .own id e sz fr xs
  | .ref id off => bif Nat.beq id k then .none else .ref id off
  | .msl id off len cap => bif Nat.beq id k then .none else .msl id off len cap
  | .fn f fs cs => .fn f (C.killL k fs) (C.killL k cs)
  | .d fr x => .d fr x
  | .ex fr x => .ex fr x
  | .gro id e len sz => bif Nat.beq id k then .none else .gro id e len sz
  | .none => .none
def C.killL (k : Nat) : List C → List C
  | [] => []
  | c :: cs => C.kill k c :: C.killL k cs
end
def O.kill (k : Nat) : O → O
  | .box cs => .box (C.killL k cs)
  | .row => .row

theorem killL_get (k : Nat) : ∀ (cs : List C) (j : Nat), (C.killL k cs)[j]? = (cs[j]?).map (C.kill k)
  | [], j => by simp [C.killL]
  | c :: cs, 0 => by simp [C.killL]
  | c :: cs, j + 1 => by simp only [C.killL, List.getElem?_cons_succ]; exact killL_get k cs j
theorem killL_length (k : Nat) : ∀ cs : List C, (C.killL k cs).length = cs.length
  | [] => by simp [C.killL]
  | c :: cs => by simp [C.killL, killL_length k cs]

/-- As Stay, where id k may turn: for cells that have forgotten it. -/
structure StayK (k : Nat) (w : World) (G : Env) (lv : Nat → Bool) (w' : World) (G' : Env) (lv' : Nat → Bool) : Prop where
  step : Step w G.own w' G'.own
  ι : ∀ id g, id ≠ k → G.ι id = some g → G'.ι id = some g
  row : ∀ id, id ≠ k → lv' id = true → lv id = true ∧ ∀ g, G.ι id = some g → w'.heap[g]? = w.heap[g]? ∧ G'.own g = G.own g
  back : ∀ id, id ≠ k → lv' id = true → G'.ι id = G.ι id

theorem RelC.stayK {k : Nat} {w w' : World} {G G' : Env} {lv lv' : Nat → Bool} (hs : StayK k w G lv w' G' lv') {B : Base} {v : Value} {c : C} (h : RelC w G B lv v c) : RelC w' G' B lv' v (c.kill k) := by
  induction h with
  | d h => exact .d (h.step hs.step)
  | @ref id off g h =>
    simp only [C.kill]
    by_cases e : id = k
    · subst e; simp only [Nat.beq_refl, cond_true]; exact .none _
    · rw [show Nat.beq id k = false from by cases h : Nat.beq id k with | false => rfl | true => exact absurd (Nat.eq_of_beq_eq_true h) e]
      exact .ref (hs.ι _ _ e h)
  | @own v id e' sz fr xs h hz hl hB =>
    simp only [C.kill]
    by_cases e : id = k
    · subst e; simp only [Nat.beq_refl, cond_true]; exact .d (h.step hs.step)
    · rw [show Nat.beq id k = false from by cases h : Nat.beq id k with | false => rfl | true => exact absurd (Nat.eq_of_beq_eq_true h) e]
      refine .own (h.step hs.step) hz (fun q => ((hl (hs.row _ e q).1)).stay (hs.back _ e q) (hs.row _ e q).2) (fun q g hg => ?_)
      exact hB (hs.row _ e q).1 g ((hs.back _ e q).symm.trans hg)
  | @mslE id off cap c a =>
    simp only [C.kill]
    cases Nat.beq id k with
    | true => exact .none _
    | false => exact .mslE
  | @msl id off len cap c g h hc =>
    simp only [C.kill]
    by_cases e : id = k
    · subst e; simp only [Nat.beq_refl, cond_true]; exact .none _
    · rw [show Nat.beq id k = false from by cases h : Nat.beq id k with | false => rfl | true => exact absurd (Nat.eq_of_beq_eq_true h) e]
      exact .msl (hs.ι _ _ e h) hc
  | ex h hx => exact .ex (h.step hs.step) hx
  | @groE id e sz a =>
    simp only [C.kill]
    cases Nat.beq id k with
    | true => exact .none _
    | false => exact .groE
  | @gro id e len sz c g h h0 hl hm hb =>
    simp only [C.kill]
    by_cases e : id = k
    · subst e; simp only [Nat.beq_refl, cond_true]; exact .none _
    · rw [show Nat.beq id k = false from by cases h : Nat.beq id k with | false => rfl | true => exact absurd (Nat.eq_of_beq_eq_true h) e]
      obtain ⟨cells, fr, b1, b2⟩ := hb
      obtain ⟨c', f', q1, q2⟩ := hs.step.big _ _ _ _ b1
      exact .gro (hs.ι _ _ e h) h0 hl hm ⟨c', f', q1, Nat.le_trans b2 q2⟩
  | fn fv cv h1 h2 hf hf1 hc hc1 ihf ihc =>
    simp only [C.kill]
    refine .fn fv cv (by rw [killL_length]; exact h1) (by rw [killL_length]; exact h2) (fun j d hj => ?_) hf1 (fun j d hj => ?_) hc1
    · rw [killL_get] at hj
      obtain ⟨x, hx, rfl⟩ := Option.map_eq_some_iff.1 hj
      exact ihf j x hx
    · rw [killL_get] at hj
      obtain ⟨x, hx, rfl⟩ := Option.map_eq_some_iff.1 hj
      exact ihc j x hx
  | none v => exact .none v

mutual
def V.kill (k : Nat) : V → V
  | .c x => .c (x.kill k)
  | .agg cs => .agg (C.killL k cs)
  | .tup vs => .tup (V.killL k vs)
def V.killL (k : Nat) : List V → List V
  | [] => []
  | v :: vs => V.kill k v :: V.killL k vs
end
theorem killVL_get (k : Nat) : ∀ (cs : List V) (j : Nat), (V.killL k cs)[j]? = (cs[j]?).map (V.kill k)
  | [], j => by simp [V.killL]
  | c :: cs, 0 => by simp [V.killL]
  | c :: cs, j + 1 => by simp only [V.killL, List.getElem?_cons_succ]; exact killVL_get k cs j
theorem killVL_length (k : Nat) : ∀ cs : List V, (V.killL k cs).length = cs.length
  | [] => by simp [V.killL]
  | c :: cs => by simp [V.killL, killVL_length k cs]

theorem RelV.stayK {k : Nat} {w w' : World} {G G' : Env} {lv lv' : Nat → Bool} (hs : StayK k w G lv w' G' lv') {B : Base} {v : Value} {c : V} (h : RelV w G B lv v c) : RelV w' G' B lv' v (c.kill k) := by
  induction h with
  | c h => simp only [V.kill]; exact .c (h.stayK hs)
  | agg a h1 h =>
    simp only [V.kill]
    refine .agg a (by rw [killL_length]; exact h1) fun j c hj => ?_
    rw [killL_get] at hj
    obtain ⟨x, hx, rfl⟩ := Option.map_eq_some_iff.1 hj
    exact (h j x hx).stayK hs
  | tup a h1 h ih =>
    simp only [V.kill]
    refine .tup a (by rw [killVL_length]; exact h1) fun j c hj => ?_
    rw [killVL_get] at hj
    obtain ⟨x, hx, rfl⟩ := Option.map_eq_some_iff.1 hj
    exact ih j x hx

end Go.Proofs.YthaiegnohkiegaaGreat.Ab
/-
  The calculus, continued: states (St), their reading (RS), the judgement on code (EV) and on operations (EVo), and the rules of control.
-/
namespace Go.Proofs.YthaiegnohkiegaaGreat.Ab
open Go.RowKit (Below)
set_option linter.unusedVariables false
set_option linter.unusedSimpArgs false

theorem beq_ne {a b : Nat} (h : ¬ a = b) : Nat.beq a b = false := by
  cases e : Nat.beq a b with
  | false => rfl
  | true => exact absurd (Nat.eq_of_beq_eq_true e) h

structure St where
  sl : Nat → V
  σ : Sto
  n : Nat

def St.set (S : St) (t : Nat) (v : V) : St := { S with sl := fun u => bif Nat.beq u t then v else S.sl u }
def St.setO (S : St) (t : Option Nat) (v : V) : St := match t with | some t => S.set t v | none => S

structure Ent where
  w : World
  G : Env
  σ : Sto
  b0 : Nat
  hb : b0 ≤ w.heap.size
def Ent.B (E : Ent) : Base := ⟨E.b0, E.w.heap.size, E.hb⟩
def Ent.acc (E : Ent) (id g : Nat) : Prop := (E.σ id).isSome = true ∧ E.G.ι id = some g

structure Hist (E : Ent) (w : World) (G : Env) : Prop where
  step : Step E.w E.G.own w G.own
  old : ∀ g, g < E.w.heap.size → (∀ id, (E.σ id).isSome = true → E.G.ι id ≠ some g) → w.heap[g]? = E.w.heap[g]? ∧ G.own g = E.G.own g
  ι : ∀ id, (E.σ id).isSome = true → Nat.ble 950 id = false → G.ι id = E.G.ι id

structure RS (E : Ent) (S : St) (a : Act) (w : World) (G : Env) : Prop where
  defers : a.defers = []
  size : a.tmps.size = S.n
  slots : ∀ t v, a.tmps[t]? = some v → RelV w G E.B (lvOf S.σ) v (S.sl t)
  good : Good w G E.B E.acc S.σ
  hist : Hist E w G

def lift (E : Ent) (Q : Exit → St → Prop) (e : Exit) (a : Act) (w : World) : Prop := ∃ S G, Q e S ∧ RS E S a w G

def EV (P : Program) (E : Ent) (c : Code) (S : St) (Q : Exit → St → Prop) : Prop := ∀ a w G, RS E S a w G → c.wp P (lift E Q) a w
def EVo (P : Program) (E : Ent) (ops : Array Oper) (l : List Oper) (S : St) (Q : Exit → St → Prop) : Prop := ∀ a w G, RS E S a w G → wpList P ops (lift E Q) l a w

section
variable {P : Program} {E : Ent} {S : St} {Q : Exit → St → Prop}

def thenQ (N : St → Prop) (Q : Exit → St → Prop) : Exit → St → Prop
  | .normal, S => N S
  | e, S => Q e S
def blockQ (id : Nat) (Q : Exit → St → Prop) : Exit → St → Prop
  | .exit i, S => bif Nat.beq i id then Q .normal S else Q (.exit i) S
  | e, S => Q e S

theorem EV_seq {x y : Code} (h : EV P E x S (thenQ (fun S' => EV P E y S' Q) Q)) : EV P E (.seq x y) S Q := fun a w G r =>
  wp_seq (wp_mono (h a w G r) fun e a' w' ⟨S', G', hq, hr⟩ => by
    cases e
    case normal => exact hq a' w' G' hr
    all_goals exact ⟨S', G', hq, hr⟩)
theorem EV_skip (h : Q .normal S) : EV P E .skip S Q := fun a w G r => wp_skip ⟨S, G, h, r⟩
theorem EV_exit {i : Nat} (h : Q (.exit i) S) : EV P E (.exit i) S Q := fun a w G r => wp_exit ⟨S, G, h, r⟩
theorem EV_ret (h : Q .ret S) : EV P E .ret S Q := fun a w G r => wp_ret ⟨S, G, h, r⟩
theorem EV_block {i : Nat} {c : Code} (h : EV P E c S (blockQ i Q)) : EV P E (.block i c) S Q := fun a w G r =>
  wp_block (wp_mono (h a w G r) fun e a' w' ⟨S', G', hq, hr⟩ => by
    cases e with
    | exit j =>
      simp only [blockQ] at hq
      simp only [Exit.inBlock]
      by_cases hj : j = i
      · subst hj
        rw [if_pos rfl]
        exact ⟨S', G', by simpa using hq, hr⟩
      · rw [if_neg hj]
        rw [beq_ne hj] at hq
        exact ⟨S', G', hq, hr⟩
    | _ => exact ⟨S', G', hq, hr⟩)
theorem EV_mono {c : Code} {Q' : Exit → St → Prop} (h : EV P E c S Q) (hq : ∀ e S, Q e S → Q' e S) : EV P E c S Q' := fun a w G r =>
  wp_mono (h a w G r) fun e a' w' ⟨S', G', q, hr⟩ => ⟨S', G', hq e S' q, hr⟩

/-- A state may be told weaker. -/
def W (E : Ent) (S S' : St) : Prop := ∀ a w G, RS E S a w G → ∃ G', RS E S' a w G'
theorem EV_weak {c : Code} {S' : St} (hw : W E S S') (h : EV P E c S' Q) : EV P E c S Q := fun a w G r => by
  obtain ⟨G', r'⟩ := hw a w G r
  exact h a w G' r'
theorem EVo_weak {ops : Array Oper} {l : List Oper} {S' : St} (hw : W E S S') (h : EVo P E ops l S' Q) : EVo P E ops l S Q := fun a w G r => by
  obtain ⟨G', r'⟩ := hw a w G r
  exact h a w G' r'
theorem W.trans {S1 S2 : St} (h : W E S S1) (k : W E S1 S2) : W E S S2 := fun a w G r => by
  obtain ⟨G', r'⟩ := h a w G r
  exact k a w G' r'
theorem W.refl : W E S S := fun _ _ G r => ⟨G, r⟩

theorem EV_cond {c : Operand} {x y : Code} {fr : Bool} {b : Bool} {t : Nat} (ht : c = .tmp t) (hs : S.sl t = .c (.d fr (.val (.bool b)))) (hl : Nat.blt t S.n = true)
    (h1 : b = true → EV P E x S Q) (h2 : b = false → EV P E y S Q) : EV P E (.cond c x y) S Q := fun a w G r => by
  subst ht
  have hlt : t < a.tmps.size := by rw [r.size]; simpa [Nat.blt_eq] using hl
  have hv := r.slots t a.tmps[t] (by simp [hlt])
  rw [hs] at hv
  have he : a.eval (.tmp t) = .bool b := by
    generalize hz : a.tmps[t] = z at hv
    cases hv with
    | c h =>
      cases h with
      | d h =>
        cases h
        simp [Act.eval, hlt, hz]
  exact wp_cond_split he (fun hb => h1 hb a w G r) (fun hb => h2 hb a w G r)

theorem EV_loop {c : Code} (I : Nat → St → Prop) (n0 : Nat) (h0 : I n0 S) (hr : ∀ n S, I n S → EV P E c S (thenQ (fun S' => ∃ n', n' < n ∧ ∃ S'', W E S' S'' ∧ I n' S'') Q)) : EV P E (.loop c) S Q := by
  intro a w G r b k cs
  have key : ∀ n S a w G, I n S → RS E S a w G →
      ∃ e a' w', lift E Q e a' w' ∧ Arrives P (lone (b.at a (.code c :: .inLoop c :: k)) cs w) b k cs e a' w' := by
    intro n
    induction n using Nat.strongRecOn with
    | _ n ih =>
      intro S a w G hI r
      obtain ⟨e, a₁, w₁, ⟨S₁, G₁, hq, hr₁⟩, harr⟩ := hr n S hI a w G r b (.inLoop c :: k) cs
      cases e with
      | normal =>
        obtain ⟨n', hlt, S₂, hW, hI₁⟩ := hq
        obtain ⟨G₂, hr₂⟩ := hW a₁ w₁ G₁ hr₁
        obtain ⟨e₂, a₂, w₂, hq₂, harr₂⟩ := ih n' hlt S₂ a₁ w₁ G₂ hI₁ hr₂
        exact ⟨e₂, a₂, w₂, hq₂, .of_steps (Steps.trans harr (.one step_inLoop)) harr₂⟩
      | exit id => exact ⟨_, a₁, w₁, ⟨S₁, G₁, hq, hr₁⟩, .pass (x := .inLoop c) rfl (fun _ _ => .inl (by simp)) harr⟩
      | goto l => exact ⟨_, a₁, w₁, ⟨S₁, G₁, hq, hr₁⟩, .pass (x := .inLoop c) rfl (fun _ _ => .inl (by simp)) harr⟩
      | ret => exact ⟨_, a₁, w₁, ⟨S₁, G₁, hq, hr₁⟩, .pass (x := .inLoop c) rfl (fun _ _ => .inl (by simp)) harr⟩
      | panic ch => exact ⟨_, a₁, w₁, ⟨S₁, G₁, hq, hr₁⟩, .pass (x := .inLoop c) rfl (fun _ _ => .inl (by simp)) harr⟩
      | outgrown => exact ⟨_, a₁, w₁, ⟨S₁, G₁, hq, hr₁⟩, .pass (x := .inLoop c) rfl (fun _ _ => .inl (by simp)) harr⟩
  obtain ⟨e, a', w', hq, harr⟩ := key n0 S a w G h0 r
  exact ⟨e, a', w', hq, .of_steps (.one step_loop) harr⟩

theorem EV_region {id : Nat} {l : List Oper} (h : EVo P E l.toArray l S Q) : EV P E (.region id l.toArray false) S Q := fun a w G r => wp_region_lit (h a w G r)
theorem EVo_nil {ops : Array Oper} (h : Q .normal S) : EVo P E ops [] S Q := fun _ _ G r => wpList_nil ⟨S, G, h, r⟩

/-- Is an operation wanted? -/
def boolOf : V → Option Bool
  | .c (.d _ (.val (.bool b))) => some b
  | _ => none
def wantOf : V → Bool → Option Bool
  | .c (.d _ (.val (.bool b'))), b => some (b' == b)
  | .tup _, _ => some false
  | _, _ => none
def St.wants (S : St) (ops : Array Oper) (o : Oper) : Option Bool :=
  match o.guard with
  | none => some true
  | some (j, b) => match (ops[j]?).bind (·.dst) with
    | some t => bif Nat.blt t S.n then wantOf (S.sl t) b else none
    | none => none

theorem wants_sound {ops : Array Oper} {o : Oper} {b : Bool} (h : S.wants ops o = some b) {a : Act} {w : World} {G : Env} (r : RS E S a w G) : Region.wanted o (yielded ops a.tmps) = b := by
  unfold St.wants at h
  unfold Region.wanted
  cases hg : o.guard with
  | none => rw [hg] at h; simpa using h
  | some p =>
    obtain ⟨j, c⟩ := p
    rw [hg] at h
    simp only at h ⊢
    unfold yielded
    cases hd : (ops[j]?).bind (·.dst) with
    | none => rw [hd] at h; simp at h
    | some t =>
      rw [hd] at h
      simp only [Option.bind_some] at h ⊢
      cases hl : Nat.blt t S.n with
      | false => rw [hl] at h; simp at h
      | true =>
        rw [hl] at h
        simp only [cond_true] at h
        have hlt : t < a.tmps.size := by rw [r.size]; simpa [Nat.blt_eq] using hl
        have hv := r.slots t a.tmps[t] (by simp [hlt])
        have key : ∀ x : V, RelV w G E.B (lvOf S.σ) a.tmps[t] x → wantOf x c = some b → ((match some a.tmps[t] with | some (Value.bool b) => some b | _ => none) == some c) = b := fun x hx hw => by
          generalize a.tmps[t] = z at hx
          cases hx with
          | c h => cases h with
            | d h => cases h with
              | val _ h1 => cases z <;> simp_all [wantOf]
              | _ => simp [wantOf] at hw
            | _ => simp [wantOf] at hw
          | agg => simp [wantOf] at hw
          | tup arr h1 hh => simp [wantOf] at hw; simp [hw]
        simp only [Array.getElem?_eq_getElem hlt]
        exact key (S.sl t) hv h

theorem RS.put {S' : St} {a : Act} {w w' : World} {G G' : Env} (r : RS E S a w G) {d : Option Nat} {v : Value} {x : V}
    (hst : Stay w G (lvOf S.σ) w' G' (lvOf S.σ)) (hh : Hist E w' G') (hgood : Good w' G' E.B E.acc S.σ) (hx : RelV w' G' E.B (lvOf S.σ) v x)
    (hS : S' = S.setO d x) : RS E S' (a.put d v) w' G' := by
  subst hS
  cases d with
  | none => exact ⟨r.defers, r.size, fun t v h => (r.slots t v h).stay hst, hgood, hh⟩
  | some d =>
    refine ⟨r.defers, by simpa [Act.put, St.setO, St.set] using r.size, fun t u h => ?_, hgood, hh⟩
    simp only [Act.put] at h
    show RelV w' G' E.B (lvOf S.σ) u (bif Nat.beq t d then x else S.sl t)
    by_cases e : t = d
    · subst e
      have : Nat.beq t t = true := by simp
      rw [this]
      rw [Array.getElem?_setIfInBounds] at h
      split at h
      · split at h
        · cases h; exact hx
        · cases h
      · rename_i hne; exact absurd rfl hne
    · rw [beq_ne e]
      rw [Array.getElem?_setIfInBounds_ne (by exact fun k => e k.symm)] at h
      exact (r.slots t u h).stay hst

/-- What operations keep: what is seen stays; boxes that X names are as they were. -/
structure Keep (X : Nat → Bool) (w : World) (G : Env) (w' : World) (G' : Env) : Prop where
  step : Step w G.own w' G'.own
  box : ∀ id g, X id = true → G.ι id = some g → g < w.heap.size → G.own g = some 0 → G'.ι id = some g ∧ w'.heap[g]? = w.heap[g]? ∧ G'.own g = some 0
theorem Keep.refl (X : Nat → Bool) (w : World) (G : Env) : Keep X w G w G := ⟨Step.refl _ _, fun _ _ _ h _ h' => ⟨h, rfl, h'⟩⟩
theorem Keep.trans {X : Nat → Bool} {w w1 w2 : World} {G G1 G2 : Env} (h : Keep X w G w1 G1) (k : Keep X w1 G1 w2 G2) : Keep X w G w2 G2 :=
  ⟨h.step.trans k.step, fun id g hX hi hg ho => by
    obtain ⟨a1, a2, a3⟩ := h.box id g hX hi hg ho
    obtain ⟨b1, b2, b3⟩ := k.box id g hX a1 (Nat.lt_of_lt_of_le hg h.step.size) a3
    exact ⟨b1, b2.trans a2, b3⟩⟩

/-- A state may be told weaker, keeping what is kept. -/
def WX (X : Nat → Bool) (E : Ent) (S S' : St) : Prop := ∀ a w G, RS E S a w G → ∃ G', Keep X w G w G' ∧ RS E S' a w G'
theorem WX.toW {X : Nat → Bool} {S' : St} (h : WX X E S S') : W E S S' := fun a w G r => by
  obtain ⟨G', _, r'⟩ := h a w G r
  exact ⟨G', r'⟩
/-- Box k is none of those that X names, and these are all there. -/
def Free (X : Nat → Bool) (S : St) (k : Nat) : Prop := ∀ i, X i = true → i ≠ k ∧ (S.σ i).isSome = true
def inX (l : List Nat) (i : Nat) : Bool := l.any fun j => Nat.beq i j
theorem Free_no {S : St} {k : Nat} : Free (fun _ => false) S k := fun i h => by cases h
theorem Free_in {l : List Nat} {S : St} {k : Nat} (h : l.all (fun i => !Nat.beq i k && (S.σ i).isSome) = true) : Free (inX l) S k := fun i hi => by
  obtain ⟨j, hj, e⟩ := List.any_eq_true.1 hi
  have e := Nat.eq_of_beq_eq_true e
  subst e
  have := List.all_eq_true.1 h i hj
  simp only [Bool.and_eq_true, Bool.not_eq_true'] at this
  exact ⟨fun e => by rw [e] at this; simp at this, this.2⟩

/-- An operation leads to a state, and does not end. -/
def Does (X : Nat → Bool) (P : Program) (E : Ent) (S : St) (o : Oper) (S' : St) : Prop :=
  ∀ a w G, RS E S a w G → ∀ (K : Act → World → Prop) (Qx : Exit → Act → World → Prop), (∀ a' w' G', Keep X w G w' G' → RS E S' a' w' G' → K a' w') → o.wp P a w K Qx
theorem EVo_e {ops : Array Oper} {o : Oper} {rest : List Oper} {S' : St} (hw : S.wants ops o = some true) (h : Does (fun _ => false) P E S o S')
    (k : EVo P E ops rest S' Q) : EVo P E ops (o :: rest) S Q := fun a w G r => by
  unfold wpList
  rw [if_pos (wants_sound hw r)]
  exact .inl (h a w G r _ _ fun a' w' G' _ hr => k a' w' G' hr)
theorem Does_op {X : Nat → Bool} {o : Oper} {S' : St}
    (h : ∀ a w G, RS E S a w G → ∃ v w' G', ((execOp a.eval o).run P w = .ok (.value v) w' ∨ ((execOp a.eval o).run P w = .ok .skip w' ∧ v = undef)) ∧ Keep X w G w' G' ∧ RS E S' (a.put o.dst v) w' G') :
    Does X P E S o S' := fun a w G r K Qx hK => by
  obtain ⟨v, w', G', hrun, hk, hr⟩ := h a w G r
  unfold Oper.wp
  rcases hrun with hrun | ⟨hrun, rfl⟩ <;> rw [hrun]
  · rw [Oper.upon_value]; exact hK _ _ _ hk hr
  · rw [Oper.upon_skip]; exact hK _ _ _ hk hr

theorem EVo_off {ops : Array Oper} {o : Oper} {rest : List Oper} {S' : St} (hw : S.wants ops o = some false) (hS : S' = S.setO o.dst (.tup []))
    (k : EVo P E ops rest S' Q) : EVo P E ops (o :: rest) S Q := fun a w G r => by
  unfold wpList
  rw [if_neg (by rw [wants_sound hw r]; simp)]
  refine k _ w G (r.put ⟨Step.refl _ _, fun _ _ h => h, fun _ h => ⟨h, fun _ _ => ⟨rfl, rfl⟩⟩, fun _ _ => rfl⟩ r.hist r.good (.tup #[] rfl (fun j x hj => by simp at hj)) hS)

theorem Stay.refl (w : World) (G : Env) (lv : Nat → Bool) : Stay w G lv w G lv :=
  ⟨Step.refl _ _, fun _ _ h => h, fun _ h => ⟨h, fun _ _ => ⟨rfl, rfl⟩⟩, fun _ _ => rfl⟩

/-- An operation tells a value, one of which C holds, and does nothing else; also later, where what is seen and the boxes that X names are as they were. -/
def TellsC (X : Nat → Bool) (P : Program) (E : Ent) (S : St) (o : Oper) (C : V → Prop) : Prop :=
  ∀ a w G, RS E S a w G → ∃ r, C r ∧ ∃ v, (∀ w' G', Keep X w G w' G' → (execOp a.eval o).run P w' = .ok (.value v) w') ∧ RelV w G E.B (lvOf S.σ) v r
def Tells (X : Nat → Bool) (P : Program) (E : Ent) (S : St) (o : Oper) (r : V) : Prop :=
  ∀ a w G, RS E S a w G → ∃ v, (∀ w' G', Keep X w G w' G' → (execOp a.eval o).run P w' = .ok (.value v) w') ∧ RelV w G E.B (lvOf S.σ) v r
theorem Tells.toC {X : Nat → Bool} {o : Oper} {r : V} (h : Tells X P E S o r) : TellsC X P E S o (· = r) := fun a w G hr => by
  obtain ⟨v, h1, h2⟩ := h a w G hr
  exact ⟨r, rfl, v, h1, h2⟩
theorem EVo_tc {ops : Array Oper} {o : Oper} {rest : List Oper} {C : V → Prop} (hw : S.wants ops o = some true) (h : TellsC (fun _ => true) P E S o C) (k : ∀ r, C r → EVo P E ops rest (S.setO o.dst r) Q) :
    EVo P E ops (o :: rest) S Q := fun a w G hr => by
  obtain ⟨r, hc, v, h1, h2⟩ := h a w G hr
  unfold wpList
  rw [if_pos (wants_sound hw hr)]
  refine .inl ?_
  unfold Oper.wp
  rw [h1 w G (Keep.refl _ _ _), Oper.upon_value]
  exact k r hc _ w G (hr.put (Stay.refl _ _ _) hr.hist hr.good h2 rfl)
theorem EVo_t {ops : Array Oper} {o : Oper} {rest : List Oper} {r : V} (hw : S.wants ops o = some true) (h : Tells (fun _ => true) P E S o r) (k : EVo P E ops rest (S.setO o.dst r) Q) : EVo P E ops (o :: rest) S Q :=
  EVo_tc hw h.toC fun r' e => by rw [e]; exact k
end

/-- What operands say. -/
def constV : Value → V
  | .agg a => bif a.toList.all (·.oneCell') then .agg (a.toList.map fun x => .d true (.val x)) else .c .none
  | .tuple _ => .c .none
  | v => .c (.d true (.val v))
def St.ev (S : St) : Operand → V
  | .tmp t => bif Nat.blt t S.n then S.sl t else .c .none
  | .const v => constV v
  | .global _ => .c .none
  | .func f => .c (.d true (.fn (.func f) [] []))

theorem constV_rel (w : World) (G : Env) (B : Base) (lv : Nat → Bool) (v : Value) : RelV w G B lv v (constV v) := by
  cases v with
  | agg a =>
    show RelV w G B lv (.agg a) (bif a.toList.all (·.oneCell') then .agg (a.toList.map fun x => .d true (.val x)) else .c .none)
    cases h : a.toList.all (·.oneCell') with
    | false => exact .c (.none _)
    | true =>
      refine .agg a (by simp) fun j c hj => ?_
      simp only [List.getElem?_map, Option.map_eq_some_iff] at hj
      obtain ⟨x, hx, rfl⟩ := hj
      have e : a.getD j undef = x := by
        have hx' : a[j]? = some x := by simpa using hx
        simp [hx']
      rw [e]
      exact .d (.val x (by
        rw [List.all_eq_true] at h
        exact h x (List.mem_of_getElem? hx)))
  | tuple a => exact .c (.none _)
  | _ => exact .c (.d (.val _ rfl))

theorem ev_rel {E : Ent} {S : St} {a : Act} {w : World} {G : Env} (r : RS E S a w G) (x : Operand) : RelV w G E.B (lvOf S.σ) (a.eval x) (S.ev x) := by
  cases x with
  | tmp t =>
    simp only [St.ev]
    cases hl : Nat.blt t S.n with
    | false => exact .c (.none _)
    | true =>
      have hlt : t < a.tmps.size := by rw [r.size]; simpa [Nat.blt_eq] using hl
      have := r.slots t a.tmps[t] (by simp [hlt])
      simpa [Act.eval, hlt] using this
  | const v => exact constV_rel _ _ _ _ v
  | global g => exact .c (.none _)
  | func f => exact .c (.d (.fn #[] #[] rfl rfl (fun j d h => by simp at h) (fun j d h => by simp at h)))

end Go.Proofs.YthaiegnohkiegaaGreat.Ab
/-
  The calculus, continued: the rules of operations that only tell a value.
-/
namespace Go.Proofs.YthaiegnohkiegaaGreat.Ab
open Go.RowKit (Below)
set_option linter.unusedVariables false
set_option linter.unusedSimpArgs false

abbrev vi (k : IntKind) (a : Int) : V := .c (.d true (.val (.int k a)))
abbrev vb (b : Bool) : V := .c (.d true (.val (.bool b)))
abbrev vs (s : ByteArray) : V := .c (.d true (.val (.string s)))

/-- The plain value that a slot holds. -/
def valOf : V → Option Value
  | .c (.d _ (.val v)) => some v
  | _ => none

section
variable {X : Nat → Bool} {P : Program} {E : Ent} {S : St} {Q : Exit → St → Prop} {ops : Array Oper} {rest : List Oper}
  {d : Option Tmp} {ty : TypeId} {ps : String} {af : Array Edge} {gd : Option (Nat × Bool)}

theorem valOf_rel {w : World} {G : Env} {B : Base} {lv : Nat → Bool} {v u : Value} {x : V} (h : RelV w G B lv v x) (hx : valOf x = some u) : v = u ∧ u.oneCell' = true := by
  unfold valOf at hx
  split at hx
  · cases hx
    cases h with
    | c h => cases h with
      | d h => cases h with
        | val v h1 => exact ⟨rfl, h1⟩
  · cases hx

theorem rel_val {w : World} {G : Env} {B : Base} {lv : Nat → Bool} {v : Value} {fr : Bool} (h : v.oneCell' = true) : RelV w G B lv v (.c (.d fr (.val v))) := .c (.d (.val v h))

/-- A value, its head laid open. -/
def V.view : V → Option V
  | .c (.d fr x) => some (.c (.d fr x))
  | .c (.ref i o) => some (.c (.ref i o))
  | .c (.own i e s fr xs) => some (.c (.own i e s fr xs))
  | .c (.msl i o l k) => some (.c (.msl i o l k))
  | .c (.fn f a b) => some (.c (.fn f a b))
  | .c (.ex a b) => some (.c (.ex a b))
  | .c (.gro i1 i2 i3 i4) => some (.c (.gro i1 i2 i3 i4))
  | .c .none => some (.c .none)
  | .agg cs => some (.agg cs)
  | .tup vs => some (.tup vs)
theorem view_eq {v r : V} (h : v.view = some r) : v = r := by
  unfold V.view at h
  split at h <;> cases h <;> rfl

theorem T_move {x : Operand} {r : V} (hr : (S.ev x).view = some r)
    : Tells X P E S ⟨d, .move x, ty, ps, af, gd⟩ r :=
  fun a w G h => ⟨a.eval x, fun _ _ _ => by simp [execOp], view_eq hr ▸ ev_rel h x⟩
theorem T_assign {x : Operand} {r : V} (hr : (S.ev x).view = some r)
    : Tells X P E S ⟨d, .assign x, ty, ps, af, gd⟩ r :=
  fun a w G h => ⟨a.eval x, fun _ _ _ => by simp [execOp], view_eq hr ▸ ev_rel h x⟩
theorem T_pick {c x y : Operand} {b : Bool} {r : V} (hc : valOf (S.ev c) = some (.bool b)) (hr : (S.ev (bif b then x else y)).view = some r)
    : Tells X P E S ⟨d, .pick c x y, ty, ps, af, gd⟩ r :=
  fun a w G h => by
    obtain ⟨e, _⟩ := valOf_rel (ev_rel h c) hc
    refine ⟨a.eval (bif b then x else y), ?_, view_eq hr ▸ ev_rel h _⟩
    intro w' G' hk
    cases b <;> simp [execOp, e, asBool]

/-- A bool that a guard asks for: both ways. -/
theorem WX_case {X : Nat → Bool} (t : Nat) {fr b : Bool} (hs : S.sl t = .c (.d fr (.val (.bool b)))) (c : Bool) (hc : b = c) : WX X E S (S.set t (vb c)) := fun a w G r => ⟨G, Keep.refl _ _ _, r.defers, r.size, fun u v hu => by
    show RelV w G E.B _ v (bif Nat.beq u t then vb c else S.sl u)
    by_cases e : u = t
    · subst e
      have := r.slots u v hu
      rw [hs, hc] at this
      simp only [Nat.beq_refl, cond_true]
      obtain ⟨rfl, _⟩ := valOf_rel this rfl
      exact rel_val rfl
    · rw [beq_ne e]; exact r.slots u v hu, r.good, r.hist⟩
theorem EVo_case {ops : Array Oper} {l : List Oper} (t : Nat) {fr : Bool} {b : Bool} (hs : S.sl t = .c (.d fr (.val (.bool b))))
    (h1 : b = true → EVo P E ops l (S.set t (vb true)) Q) (h2 : b = false → EVo P E ops l (S.set t (vb false)) Q) : EVo P E ops l S Q := by
  cases b with
  | true => exact EVo_weak (WX_case (X := fun _ => false) t hs true rfl).toW (h1 rfl)
  | false => exact EVo_weak (WX_case (X := fun _ => false) t hs false rfl).toW (h2 rfl)

/-- Operations on plain values that never fail. -/
def binV (op : BinOp) : Value → Value → Option Value
  | .int k a, .int k' b => bif k == k' then (match op with
      | .add => some (.int k (k.wrap (a + b)))
      | .sub => some (.int k (k.wrap (a - b)))
      | .mul => some (.int k (k.wrap (a * b)))
      | .and => some (.int k (bits .and k a b))
      | .or => some (.int k (bits .or k a b))
      | .xor => some (.int k (bits .xor k a b))
      | .andNot => some (.int k (bits .andNot k a b))
      | .eql => some (.bool (a == b))
      | .neq => some (.bool (a != b))
      | .lss => some (.bool (decide (a < b)))
      | .leq => some (.bool (decide (a ≤ b)))
      | .gtr => some (.bool (decide (b < a)))
      | .geq => some (.bool (decide (b ≤ a)))
      | _ => none) else none
  | .string a, .string b => (match op with
      | .eql => some (.bool (a.toList == b.toList))
      | .neq => some (.bool (!(a.toList == b.toList)))
      | _ => none)
  | _, _ => none

theorem binV_run {op : BinOp} {u v z : Value} (h : binV op u v = some z) (t : TypeId) (x y : Operand) (w : World) :
    (do eqGuard op t x y u v; binOp op t u v : Sem Value).run P w = .ok z w ∧ z.oneCell' = true := by
  unfold binV at h
  split at h
  · rename_i k a k' b
    by_cases e : k = k'
    · subst e
      simp only [beq_self_eq_true, cond_true] at h
      cases op <;> simp at h <;> subst h <;> simp [go_sem, Value.oneCell']
    · have : (k == k') = false := by simpa using e
      rw [this] at h
      cases h
  · cases op <;> simp at h <;> subst h
    · exact ⟨rfl, rfl⟩
    · exact ⟨rfl, rfl⟩
  · cases h

theorem T_bin {op : BinOp} {t t' : TypeId} {x y : Operand} {u v z : Value} (hx : valOf (S.ev x) = some u) (hy : valOf (S.ev y) = some v) (hz : binV op u v = some z)
    : Tells X P E S ⟨d, .binOp op t x y t', ty, ps, af, gd⟩ (.c (.d true (.val z))) :=
  fun a w G h => by
    obtain ⟨ex, _⟩ := valOf_rel (ev_rel h x) hx
    obtain ⟨ey, _⟩ := valOf_rel (ev_rel h y) hy
    obtain ⟨h1, h2⟩ := binV_run hz t x y w (P := P)
    refine ⟨z, ?_, rel_val h2⟩
    intro w' G' hk
    have h1 := (binV_run hz t x y w' (P := P)).1
    simp only [execOp, ex, ey]
    rw [Sem.run_bind, h1]
    rfl

theorem wrap_in {a : Int} (h1 : -9223372036854775808 ≤ a) (h2 : a ≤ 9223372036854775807) : IntKind.i64.wrap a = a := by
  simp only [IntKind.wrap, IntKind.signed, IntKind.bits]
  simp
  omega
/-- On ints, in range. -/
def binI (op : BinOp) (a b : Int) : Option Int := match op with
  | .add => some (a + b)
  | .sub => some (a - b)
  | .mul => some (a * b)
  | _ => none
theorem T_binI {op : BinOp} {t t' : TypeId} {x y : Operand} {a b c : Int} (hx : valOf (S.ev x) = some (.int .i64 a)) (hy : valOf (S.ev y) = some (.int .i64 b)) (hz : binI op a b = some c) (h1 : -9223372036854775808 ≤ c) (h2 : c ≤ 9223372036854775807)
    : Tells X P E S ⟨d, .binOp op t x y t', ty, ps, af, gd⟩ (vi .i64 c) := by
  have hb : binV op (.int .i64 a) (.int .i64 b) = some (.int .i64 c) := by
    unfold binI at hz
    unfold binV
    split at hz <;> cases hz <;> simp [wrap_in h1 h2]
  exact T_bin hx hy hb

theorem T_quo {t t' : TypeId} {x y : Operand} {kk : IntKind} {a b : Int} (hx : valOf (S.ev x) = some (.int kk a)) (hy : valOf (S.ev y) = some (.int kk b)) (hb : b ≠ 0)
    : Tells X P E S ⟨d, .binOp .quo t x y t', ty, ps, af, gd⟩ (vi kk (kk.wrap (a.tdiv b))) :=
  fun ac w G h => by
    obtain ⟨ex, _⟩ := valOf_rel (ev_rel h x) hx
    obtain ⟨ey, _⟩ := valOf_rel (ev_rel h y) hy
    refine ⟨_, ?_, rel_val rfl⟩
    intro w' G' hk
    simp [execOp, ex, ey, eqGuard_quo, eqGuard_rem, binOp_quo, binOp_rem, Op.intDiv, hb]
theorem T_rem {t t' : TypeId} {x y : Operand} {kk : IntKind} {a b : Int} (hx : valOf (S.ev x) = some (.int kk a)) (hy : valOf (S.ev y) = some (.int kk b)) (hb : b ≠ 0)
    : Tells X P E S ⟨d, .binOp .rem t x y t', ty, ps, af, gd⟩ (vi kk (a.tmod b)) :=
  fun ac w G h => by
    obtain ⟨ex, _⟩ := valOf_rel (ev_rel h x) hx
    obtain ⟨ey, _⟩ := valOf_rel (ev_rel h y) hy
    refine ⟨_, ?_, rel_val rfl⟩
    intro w' G' hk
    simp [execOp, ex, ey, eqGuard_quo, eqGuard_rem, binOp_quo, binOp_rem, Op.intDiv, hb]
theorem T_shl {t t' : TypeId} {x y : Operand} {kk ky : IntKind} {a b : Int} (hx : valOf (S.ev x) = some (.int kk a)) (hy : valOf (S.ev y) = some (.int ky b)) (hb : 0 ≤ b)
    : Tells X P E S ⟨d, .binOp .shl t x y t', ty, ps, af, gd⟩ (vi kk (kk.wrap (a * 2 ^ min b.toNat kk.bits))) :=
  fun ac w G h => by
    obtain ⟨ex, _⟩ := valOf_rel (ev_rel h x) hx
    obtain ⟨ey, _⟩ := valOf_rel (ev_rel h y) hy
    refine ⟨_, ?_, rel_val rfl⟩
    intro w' G' hk
    have : ¬ b < 0 := by omega
    simp [execOp, ex, ey, eqGuard_shl, binOp_shl, Op.shift, this]
theorem T_shr {t t' : TypeId} {x y : Operand} {kk ky : IntKind} {a b : Int} (hx : valOf (S.ev x) = some (.int kk a)) (hy : valOf (S.ev y) = some (.int ky b)) (hb : 0 ≤ b)
    : Tells X P E S ⟨d, .binOp .shr t x y t', ty, ps, af, gd⟩ (vi kk (a / 2 ^ min b.toNat kk.bits)) :=
  fun ac w G h => by
    obtain ⟨ex, _⟩ := valOf_rel (ev_rel h x) hx
    obtain ⟨ey, _⟩ := valOf_rel (ev_rel h y) hy
    refine ⟨_, ?_, rel_val rfl⟩
    intro w' G' hk
    have : ¬ b < 0 := by omega
    have hp : (0 : Int) ≤ 2 ^ min b.toNat kk.bits := Int.pow_nonneg (by decide)
    simp [execOp, ex, ey, eqGuard_shr, binOp_shr, Op.shift, this, Int.fdiv_eq_ediv_of_nonneg _ hp]
theorem run_equal_bool {t : TypeId} (hu : P.underlying t = some .bool) (a b : Bool) (w : World) : (Op.equal t (.bool a) (.bool b)).run P w = .ok (a == b) w := by
  have h : ∀ n, (Op.equalIn (n + 1) t (.bool a) (.bool b)).run P w = .ok (a == b) w := fun n => by
    simp only [Op.equalIn]
    rw [Sem.run_bind, run_underlying hu]
    rfl
  exact h 9999
theorem T_eqb {op : BinOp} {t t' : TypeId} {x y : Operand} {a b c : Bool} (hu : P.underlying t = some .bool) (hx : valOf (S.ev x) = some (.bool a)) (hy : valOf (S.ev y) = some (.bool b))
    (hc : (op = .eql ∧ c = (a == b)) ∨ (op = .neq ∧ c = (a != b)))
    : Tells X P E S ⟨d, .binOp op t x y t', ty, ps, af, gd⟩ (vb c) :=
  fun ac w G h => by
    obtain ⟨ex, _⟩ := valOf_rel (ev_rel h x) hx
    obtain ⟨ey, _⟩ := valOf_rel (ev_rel h y) hy
    refine ⟨_, ?_, rel_val rfl⟩
    intro w' G' hk
    rcases hc with ⟨rfl, rfl⟩ | ⟨rfl, rfl⟩
    · have e : binOp .eql t (.bool a) (.bool b) = (do pure (.bool (← Op.equal t (.bool a) (.bool b)))) := rfl
      simp [execOp, ex, ey, eqGuard_at_bool, e, run_equal_bool hu]
    · have e : binOp .neq t (.bool a) (.bool b) = (do pure (.bool (!(← Op.equal t (.bool a) (.bool b))))) := rfl
      simp [execOp, ex, ey, eqGuard_at_bool, e, run_equal_bool hu, bne]

def unV (op : UnOp) : Value → Option Value
  | .int k a => match op with
    | .neg => some (.int k (k.wrap (0 - a)))
    | .xor => some (.int k (bits .xor k (if k.signed then -1 else k.max) a))
    | _ => none
  | .bool b => match op with
    | .not => some (.bool !b)
    | _ => none
  | _ => none
theorem T_un {op : UnOp} {t : TypeId} {x : Operand} {u z : Value} (hx : valOf (S.ev x) = some u) (hz : unV op u = some z)
    : Tells X P E S ⟨d, .unOp op t x, ty, ps, af, gd⟩ (.c (.d true (.val z))) :=
  fun ac w G h => by
    obtain ⟨ex, _⟩ := valOf_rel (ev_rel h x) hx
    unfold unV at hz
    split at hz
    · cases op <;> simp at hz <;> subst hz
      · exact ⟨_, fun _ _ _ => by simp [execOp, ex, Op.unary, Op.intArith], rel_val rfl⟩
      · exact ⟨_, fun _ _ _ => by simp [execOp, ex, Op.unary, intBits_xor], rel_val rfl⟩
    · cases op <;> simp at hz <;> subst hz
      exact ⟨_, fun _ _ _ => by simp [execOp, ex, Op.unary], rel_val rfl⟩
    · cases hz

theorem T_conv {src dst : TypeId} {x : Operand} {kk k' : IntKind} {a : Int} {ds : TypeDesc} (hs : P.underlying src = some ds) (hd : P.underlying dst = some (.int k')) (hx : valOf (S.ev x) = some (.int kk a))
    : Tells X P E S ⟨d, .convert src dst x, ty, ps, af, gd⟩ (vi k' (k'.wrap a)) :=
  fun ac w G h => by
    obtain ⟨ex, _⟩ := valOf_rel (ev_rel h x) hx
    refine ⟨_, ?_, rel_val rfl⟩
    intro w' G' hk
    simp [execOp, ex, convert, run_underlying hs, run_underlying hd, Conv.intToInt]

theorem T_extract {x : Operand} {i : Nat} {vs : List V} {r : V} (hx : S.ev x = .tup vs) (hi : vs[i]? = some r)
    : Tells X P E S ⟨d, .extract x i, ty, ps, af, gd⟩ r :=
  fun ac w G h => by
    have hv := ev_rel h x
    rw [hx] at hv
    generalize hz : ac.eval x = z at hv
    cases hv with
    | tup arr h1 hh =>
      have hlt : i < arr.size := by rw [h1]; exact (List.getElem?_eq_some_iff.1 hi).1
      refine ⟨arr[i], ?_, ?_⟩
      · intro w' G' hk; simp [execOp, hz, Instr.extract, Array.getElem?_eq_getElem hlt]
      · have := hh i r hi
        simpa [hlt] using this

theorem T_nilCheck {x : Operand} {id off : Nat} (hx : S.ev x = .c (.ref id off))
    : Tells X P E S ⟨d, .nilCheck x, ty, ps, af, gd⟩ (.c (.ref id off)) :=
  fun ac w G h => by
    have hv := ev_rel h x
    rw [hx] at hv
    generalize hz : ac.eval x = z at hv
    cases hv with
    | c hv => cases hv with
      | ref hv => exact ⟨_, fun _ _ _ => by simp [execOp, hz], .c (.ref hv)⟩
theorem T_nilCheckFn {x : Operand} {f : FuncId} {fr : Bool} {fs cs : List D} (hx : S.ev x = .c (.d fr (.fn (.func f) fs cs)))
    : Tells X P E S ⟨d, .nilCheck x, ty, ps, af, gd⟩ (.c (.d fr (.fn (.func f) fs cs))) :=
  fun ac w G h => by
    have hv := ev_rel h x
    rw [hx] at hv
    generalize hz : ac.eval x = z at hv
    cases hv with
    | c hv => cases hv with
      | d hv => cases hv with
        | fn fv cv h1 h2 hf hc => exact ⟨_, fun _ _ _ => by simp [execOp, hz], .c (.d (.fn fv cv h1 h2 hf hc))⟩
end
end Go.Proofs.YthaiegnohkiegaaGreat.Ab
/-
  The calculus, continued: the rules of operations that read memory.
-/
namespace Go.Proofs.YthaiegnohkiegaaGreat.Ab
open Go.RowKit (Below)
set_option linter.unusedVariables false
set_option linter.unusedSimpArgs false

def descAgg : TypeDesc → Bool
  | .struct _ | .array _ _ => true
  | _ => false

section
variable {X : Nat → Bool} {P : Program} {E : Ent} {S : St} {Q : Exit → St → Prop} {ops : Array Oper} {rest : List Oper}
  {d : Option Tmp} {ty : TypeId} {ps : String} {af : Array Edge} {gd : Option (Nat × Bool)}

theorem run_isAgg {t : TypeId} {b : Bool} (h : (P.underlying t).map descAgg = some b) (w : World) : (isAgg t).run P w = .ok b w := by
  obtain ⟨dd, h1, h2⟩ := Option.map_eq_some_iff.1 h
  unfold isAgg
  rw [Sem.run_bind, run_underlying h1]
  cases dd <;> simp [descAgg] at h2 <;> subst h2 <;> rfl
theorem run_sizeOf' {t : TypeId} {n : Nat} (h : (P.info? t).map (·.size) = some n) (w : World) : (sizeOf t).run P w = .ok n w := by
  obtain ⟨i, h1, rfl⟩ := Option.map_eq_some_iff.1 h
  simp [sizeOf, typeInfo, h1]

theorem add_at (g o n : Nat) : (⟨g, o, none⟩ : Addr).add n = ⟨g, o + n, none⟩ := by unfold Addr.add; split <;> simp_all
theorem cell_at {w : World} {g o : Nat} {cells : Array Value} {e : TypeId} {fr : Nat × Nat} (h : w.heap[g]? = some (.cells cells e fr)) : w.cell? ⟨g, o, none⟩ = cells[o]? := by
  simp [World.cell?, h]

/-- The list that a slot's slice reads as. -/
def slOf : V → Option (Bool × List (List D))
  | .c (.d fr (.sl xs)) => some (fr, xs)
  | .c (.d _ (.val (.slice none 0 0))) => some (true, [])
  | .c (.own _ _ _ fr xs) => some (fr, xs)
  | .c (.ex fr xs) => some (fr, xs)
  | _ => none

theorem slOf_rel {w : World} {G : Env} {B : Base} {lv : Nat → Bool} {v : Value} {x : V} {fr : Bool} {xs : List (List D)} (h : RelV w G B lv v x) (hx : slOf x = some (fr, xs)) : RelD w G.own (B.at fr) v (.sl xs) := by
  unfold slOf at hx
  split at hx
  · cases hx
    cases h with
    | c h => cases h with
      | d h => exact h
  · cases hx
    cases h with
    | c h => cases h with
      | d h => cases h; exact .emp _ _
  · cases hx
    cases h with
    | c h => cases h with
      | own h => exact h
  · cases hx
    cases h with
    | c h => cases h with
      | ex h => exact h
  · cases hx

theorem sl_form {w : World} {own : Nat → Option Nat} {B : Nat} {v : Value} {xs : List (List D)} (h : RelD w own B v (.sl xs)) : ∃ a c, v = .slice a xs.length c ∧ (a = none → xs = []) := by
  cases h with
  | emp a c => exact ⟨a, c, rfl, fun _ => rfl⟩
  | sl => exact ⟨_, _, rfl, fun h => by cases h⟩

theorem T_len {x : Operand} {t : TypeId} {e : TypeId} {fr : Bool} {xs : List (List D)}
    (hu : P.underlying t = some (.slice e)) (hx : slOf (S.ev x) = some (fr, xs))
    : Tells X P E S ⟨d, .call { callee := .builtin .len, args := #[x], argTypes := #[t] }, ty, ps, af, gd⟩ (vi .i64 xs.length) :=
  fun a w G h => by
    obtain ⟨b, c, hv, _⟩ := sl_form (slOf_rel (ev_rel h x) hx)
    refine ⟨_, ?_, rel_val rfl⟩
    intro w' G' hk
    simp [execOp, resolve, invoke, builtin, hv, Builtin.len_, run_underlying hu, goInt]
theorem T_lenM {x : Operand} {t : TypeId} {e : TypeId} {id off len cap : Nat}
    (hu : P.underlying t = some (.slice e)) (hx : S.ev x = .c (.msl id off len cap))
    : Tells X P E S ⟨d, .call { callee := .builtin .len, args := #[x], argTypes := #[t] }, ty, ps, af, gd⟩ (vi .i64 len) :=
  fun a w G h => by
    have hv := ev_rel h x
    rw [hx] at hv
    obtain ⟨b, c, hv⟩ : ∃ b c, a.eval x = .slice b len c := by
      generalize a.eval x = z at hv
      cases hv with
      | c hv => cases hv with
        | msl hv => exact ⟨_, _, rfl⟩
        | mslE => exact ⟨_, _, rfl⟩
    refine ⟨_, ?_, rel_val rfl⟩
    intro w' G' hk
    simp [execOp, resolve, invoke, builtin, hv, Builtin.len_, run_underlying hu, goInt]
theorem T_lenS {x : Operand} {t : TypeId} {s : ByteArray}
    (hu : P.underlying t = some .string) (hx : valOf (S.ev x) = some (.string s))
    : Tells X P E S ⟨d, .call { callee := .builtin .len, args := #[x], argTypes := #[t] }, ty, ps, af, gd⟩ (vi .i64 s.size) :=
  fun a w G h => by
    obtain ⟨ex, _⟩ := valOf_rel (ev_rel h x) hx
    refine ⟨_, ?_, rel_val rfl⟩
    intro w' G' hk
    simp [execOp, resolve, invoke, builtin, ex, Builtin.len_, run_underlying hu, goInt]

theorem T_indexAddr {x ix : Operand} {t e : TypeId} {sz : Nat} {fr : Bool} {xs : List (List D)} {kk : IntKind} {i : Int} {ds : List D}
    (hu : P.underlying t = some (.slice e)) (hz : (P.info? e).map (·.size) = some sz) (hx : slOf (S.ev x) = some (fr, xs))
    (hi : valOf (S.ev ix) = some (.int kk i)) (h0 : 0 ≤ i) (he : xs[i.toNat]? = some ds) (hd : ds.length = sz)
    : Tells X P E S ⟨d, .indexAddr t x ix, ty, ps, af, gd⟩ (.c (.d fr (.pt ds))) :=
  fun a w G h => by
    have hr := slOf_rel (ev_rel h x) hx
    obtain ⟨ei, _⟩ := valOf_rel (ev_rel h ix) hi
    generalize hv : a.eval x = v at hr
    cases hr with
    | emp b c => simp at he
    | @sl g off c sz' cells E' fz _ cv hB hb hc ho hs hcv hrr =>
      have hlt : i.toNat < xs.length := (List.getElem?_eq_some_iff.1 he).1
      have hsz : sz' = sz := (hs ds (List.mem_of_getElem? he)).symm.trans hd
      subst hsz
      have hin : 0 ≤ i ∧ i < (xs.length : Int) := ⟨h0, by omega⟩
      refine ⟨.pointer (some ⟨g, off + i.toNat * sz', none⟩), ?_, ?_⟩
      · intro w' G' hk; simp [execOp, hv, ei, Instr.indexAt, asIntOf, run_underlying hu, run_sizeOf' hz, hin, add_at]
      · refine .c (.d (.pt (fun j => cv i.toNat j) hB hb (fun n hn => ?_) (fun j hj => ?_) (fun j c hj => hrr i.toNat j ds c he hj)))
        · have := ho n hn
          have h2 : (i.toNat + 1) * sz' ≤ xs.length * sz' := Nat.mul_le_mul_right _ hlt
          rw [Nat.add_mul, Nat.one_mul] at h2
          omega
        · exact hcv i.toNat j hlt (by omega)

theorem T_indexAddrM {x ix : Operand} {t e : TypeId} {sz : Nat} {id off len cap : Nat} {kk : IntKind} {i : Int}
    (hu : P.underlying t = some (.slice e)) (hz : (P.info? e).map (·.size) = some sz) (hx : S.ev x = .c (.msl id off len cap))
    (hi : valOf (S.ev ix) = some (.int kk i)) (h0 : 0 ≤ i) (h1 : i < len)
    : Tells X P E S ⟨d, .indexAddr t x ix, ty, ps, af, gd⟩ (.c (.ref id (off + i.toNat * sz))) :=
  fun a w G h => by
    have hv := ev_rel h x
    rw [hx] at hv
    obtain ⟨ei, _⟩ := valOf_rel (ev_rel h ix) hi
    generalize hz' : a.eval x = z at hv
    cases hv with
    | c hv => cases hv with
      | mslE => omega
      | @msl _ _ _ _ c g hv hc =>
        refine ⟨.pointer (some ⟨g, off + i.toNat * sz, none⟩), ?_, .c (.ref hv)⟩
        intro w' G' hk
        simp [execOp, hz', ei, Instr.indexAt, asIntOf, run_underlying hu, run_sizeOf' hz, h0, h1, add_at]

theorem T_fieldAddr {x : Operand} {s : TypeId} {f : Nat} {fs : Array Field} {fld : Field} {n : Nat} {fr : Bool} {cs : List D}
    (hu : P.underlying s = some (.struct fs)) (hf : fs[f]? = some fld) (hz : (P.info? fld.type).map (·.size) = some (n + 1))
    (hx : S.ev x = .c (.d fr (.pt cs))) (ho : fld.offset ≤ cs.length)
    : Tells X P E S ⟨d, .fieldAddr s x f, ty, ps, af, gd⟩ (.c (.d fr (.pt (cs.drop fld.offset)))) :=
  fun a w G h => by
    have hv := ev_rel h x
    rw [hx] at hv
    generalize hz' : a.eval x = z at hv
    cases hv with
    | c hv => cases hv with
      | d hv => cases hv with
        | @pt g off cells E' fz _ cv hB hb ho' hcv hr =>
          refine ⟨.pointer (some ⟨g, off + fld.offset, none⟩), ?_, ?_⟩
          · intro w' G' hk; simp [execOp, hz', Instr.fieldAt, run_underlying hu, hf, Instr.sureAddr, fieldPlace, run_sizeOf' hz, add_at]
          · refine .c (.d (.pt (fun j => cv (fld.offset + j)) hB hb (fun m hm => ?_) (fun j hj => ?_) (fun j c hj => ?_)))
            · have := ho' m hm
              simp only [List.length_drop]
              omega
            · simp only [List.length_drop] at hj
              rw [Nat.add_assoc]
              exact hcv _ (by omega)
            · rw [List.getElem?_drop] at hj
              exact hr _ c hj

theorem T_fieldAddrR {x : Operand} {s : TypeId} {f : Nat} {fs : Array Field} {fld : Field} {n : Nat} {id off : Nat}
    (hu : P.underlying s = some (.struct fs)) (hf : fs[f]? = some fld) (hz : (P.info? fld.type).map (·.size) = some (n + 1))
    (hx : S.ev x = .c (.ref id off))
    : Tells X P E S ⟨d, .fieldAddr s x f, ty, ps, af, gd⟩ (.c (.ref id (off + fld.offset))) :=
  fun a w G h => by
    have hv := ev_rel h x
    rw [hx] at hv
    generalize hz' : a.eval x = z at hv
    cases hv with
    | c hv => cases hv with
      | @ref _ _ g hv =>
        refine ⟨.pointer (some ⟨g, off + fld.offset, none⟩), ?_, .c (.ref hv)⟩
        intro w' G' hk
        simp [execOp, hz', Instr.fieldAt, run_underlying hu, hf, Instr.sureAddr, fieldPlace, run_sizeOf' hz, add_at]

theorem T_load {x : Operand} {t : TypeId} {fr : Bool} {c : D} {cs : List D}
    (hu : (P.underlying t).map descAgg = some false)
    (hx : S.ev x = .c (.d fr (.pt (c :: cs))))
    : Tells X P E S ⟨d, .load t x, ty, ps, af, gd⟩ (.c (.nd fr c)) :=
  fun a w G h => by
    have hv := ev_rel h x
    rw [hx] at hv
    generalize hz' : a.eval x = z at hv
    cases hv with
    | c hv => cases hv with
      | d hv => cases hv with
        | @pt g off cells E' fz _ cv hB hb ho' hcv hr =>
          have h1 := hcv 0 (by simp)
          refine ⟨cv 0, ?_, .c (.nd (hr 0 c (by simp)))⟩
          intro w' G' hk
          obtain ⟨cells', fr', k1, k2, _⟩ := hk.step.cells hb ho'
          have h2 := (k2 off (by simp)).trans h1
          simp [execOp, hz', Instr.loadAt, Instr.sureAddr, loadVar, run_isAgg hu, cell_at k1, h2]

theorem loadAgg_run {w : World} {t : TypeId} {n g off : Nat} {cells : Array Value} {e : TypeId} {fz : Nat × Nat} (hu : (P.underlying t).map descAgg = some true) (hn : (P.info? t).map (·.size) = some n)
    (hb : w.heap[g]? = some (.cells cells e fz)) (f : Nat → Value) (hv : ∀ j, j < n → cells[off + j]? = some (f j)) :
    (loadVar t ⟨g, off, none⟩).run P w = .ok (.agg ((List.range n).map f).toArray) w := by
  unfold loadVar
  rw [Sem.run_bind, run_isAgg hu]
  simp only [Result.andThen_ok, if_true]
  rw [Sem.run_bind, run_sizeOf' hn]
  simp only [Result.andThen_ok]
  rw [Sem.run_bind, run_loadCells w ⟨g, off, none⟩ n f (fun j hj => by rw [add_at, cell_at hb]; exact hv j hj)]
  rfl

theorem T_loadA {x : Operand} {t : TypeId} {n : Nat} {fr : Bool} {cs : List D}
    (hu : (P.underlying t).map descAgg = some true) (hn : (P.info? t).map (·.size) = some n)
    (hx : S.ev x = .c (.d fr (.pt cs))) (hl : n ≤ cs.length)
    : Tells X P E S ⟨d, .load t x, ty, ps, af, gd⟩ (.agg ((cs.take n).map (.nd fr))) :=
  fun a w G h => by
    have hv := ev_rel h x
    rw [hx] at hv
    generalize hz' : a.eval x = z at hv
    cases hv with
    | c hv => cases hv with
      | d hv => cases hv with
        | @pt g off cells E' fz _ cv hB hb ho' hcv hr =>
          refine ⟨.agg ((List.range n).map cv).toArray, ?_, ?_⟩
          · intro w' G' hk
            obtain ⟨cells', fr', k1, k2, _⟩ := hk.step.cells hb ho'
            simp only [execOp, hz', Instr.loadAt, Instr.sureAddr]
            rw [Sem.run_bind, Sem.run_bind, Sem.run_pure]
            simp only [Result.andThen_ok]
            rw [loadAgg_run hu hn k1 cv (fun j hj => (k2 _ (by omega)).trans (hcv j (by omega)))]
            rfl
          · refine .agg _ (by simp [hl]) fun j c hj => ?_
            rw [List.getElem?_map] at hj
            obtain ⟨y, hy, rfl⟩ := Option.map_eq_some_iff.1 hj
            rw [List.getElem?_take] at hy
            split at hy
            · rename_i hjn
              have := hr j y hy
              simpa [hjn] using RelC.nd (lv := lvOf S.σ) (G := G) this
            · cases hy

/-- A box, as memory holds it. -/
theorem box_of {a : Act} {w : World} {G : Env} (h : RS E S a w G) {id g : Nat} {cs : List C} (hs : S.σ id = some (.box cs)) (hne : cs ≠ []) (hg : G.ι id = some g) :
    ∃ cells e, w.heap[g]? = some (.cells cells e (0, 0)) ∧ cs.length ≤ cells.size ∧ G.own g = some 0 ∧ ∀ j c, cs[j]? = some c → RelC w G E.B (lvOf S.σ) (cells.getD j undef) c := by
  obtain ⟨g', cells, e, h1, h2, h3, h4, h5⟩ := h.good.box id cs hs hne
  rw [hg] at h1
  cases h1
  exact ⟨cells, e, h2, h3, h4, h5⟩

theorem T_loadR {x : Operand} {t : TypeId} {id off : Nat} {cs : List C} {c : C}
    (hu : (P.underlying t).map descAgg = some false)
    (hx : S.ev x = .c (.ref id off)) (hs : S.σ id = some (.box cs)) (hc : cs[off]? = some c) (hX : X id = true)
    : Tells X P E S ⟨d, .load t x, ty, ps, af, gd⟩ (.c c) :=
  fun a w G h => by
    have hv := ev_rel h x
    rw [hx] at hv
    generalize hz' : a.eval x = z at hv
    cases hv with
    | c hv => cases hv with
      | @ref _ _ g hv =>
        obtain ⟨cells, e, h1, h2, h3, h4⟩ := box_of h hs (by intro e; subst e; simp at hc) hv
        have hlt : off < cells.size := Nat.lt_of_lt_of_le (List.getElem?_eq_some_iff.1 hc).1 h2
        refine ⟨cells[off], ?_, .c (by simpa [hlt] using h4 off c hc)⟩
        intro w' G' hk
        have k1 := (hk.box id g hX hv (lt_of_heap h1) h3).2.1.trans h1
        simp [execOp, hz', Instr.loadAt, Instr.sureAddr, loadVar, run_isAgg hu, cell_at k1, hlt]

theorem T_loadRA {x : Operand} {t : TypeId} {n id off : Nat} {cs : List C}
    (hu : (P.underlying t).map descAgg = some true) (hn : (P.info? t).map (·.size) = some n)
    (hx : S.ev x = .c (.ref id off)) (hs : S.σ id = some (.box cs)) (hl : off + n ≤ cs.length) (hne : cs.isEmpty = false) (hX : X id = true)
    : Tells X P E S ⟨d, .load t x, ty, ps, af, gd⟩ (.agg ((cs.drop off).take n)) :=
  fun a w G h => by
    have hv := ev_rel h x
    rw [hx] at hv
    generalize hz' : a.eval x = z at hv
    cases hv with
    | c hv => cases hv with
      | @ref _ _ g hv =>
        obtain ⟨cells, e, h1, h2, h3, h4⟩ := box_of h hs (by intro e; subst e; cases hne) hv
        refine ⟨.agg ((List.range n).map fun j => cells.getD (off + j) undef).toArray, ?_, ?_⟩
        · intro w' G' hk
          have k1 := (hk.box id g hX hv (lt_of_heap h1) h3).2.1.trans h1
          simp only [execOp, hz', Instr.loadAt, Instr.sureAddr]
          rw [Sem.run_bind, Sem.run_bind, Sem.run_pure]
          simp only [Result.andThen_ok]
          rw [loadAgg_run hu hn k1 (fun j => cells.getD (off + j) undef) (fun j hj => by
            have : off + j < cells.size := by omega
            simp [this])]
          rfl
        · refine .agg _ (by simp; omega) fun j c hj => ?_
          rw [List.getElem?_take] at hj
          split at hj
          · rename_i hjn
            rw [List.getElem?_drop] at hj
            simpa [hjn] using h4 _ c hj
          · cases hj

/-- A field of a struct that is no variable. -/
theorem T_field {x : Operand} {s : TypeId} {f : Nat} {fs : Array Field} {fld : Field} {cs : List C} {c : C}
    (hu : P.underlying s = some (.struct fs)) (hf : fs[f]? = some fld) (ha : (P.underlying fld.type).map descAgg = some false)
    (hx : S.ev x = .agg cs) (hc : cs[fld.offset]? = some c)
    : Tells X P E S ⟨d, .field s x f, ty, ps, af, gd⟩ (.c c) :=
  fun a w G h => by
    have hv := ev_rel h x
    rw [hx] at hv
    generalize hz' : a.eval x = z at hv
    cases hv with
    | agg arr h1 h2 =>
      have hlt : fld.offset < arr.size := by rw [h1]; exact (List.getElem?_eq_some_iff.1 hc).1
      refine ⟨arr[fld.offset], ?_, .c (by simpa [hlt] using h2 _ c hc)⟩
      intro w' G' hk
      simp [execOp, hz', Instr.field, run_underlying hu, hf, asAgg, part, run_isAgg ha, hlt]
theorem T_fieldA {x : Operand} {s : TypeId} {f n : Nat} {fs : Array Field} {fld : Field} {cs : List C}
    (hu : P.underlying s = some (.struct fs)) (hf : fs[f]? = some fld) (ha : (P.underlying fld.type).map descAgg = some true) (hn : (P.info? fld.type).map (·.size) = some n)
    (hx : S.ev x = .agg cs) (hl : fld.offset + n ≤ cs.length)
    : Tells X P E S ⟨d, .field s x f, ty, ps, af, gd⟩ (.agg ((cs.drop fld.offset).take n)) :=
  fun a w G h => by
    have hv := ev_rel h x
    rw [hx] at hv
    generalize hz' : a.eval x = z at hv
    cases hv with
    | agg arr h1 h2 =>
      refine ⟨.agg (arr.extract fld.offset (fld.offset + n)), ?_, ?_⟩
      · intro w' G' hk; simp [execOp, hz', Instr.field, run_underlying hu, hf, asAgg, part, run_isAgg ha, run_sizeOf' hn]
      · refine .agg _ (by simp; omega) fun j c hj => ?_
        rw [List.getElem?_take] at hj
        split at hj
        · rename_i hjn
          rw [List.getElem?_drop] at hj
          have hlt : fld.offset + j < arr.size := by rw [h1]; exact (List.getElem?_eq_some_iff.1 hj).1
          have := h2 _ c hj
          have hmin : j < min (fld.offset + n) arr.size - fld.offset := by omega
          simpa [hlt, hmin, Array.getElem?_extract] using this
        · cases hj

/-- A byte of a string. -/
theorem T_indexS {x ix : Operand} {t : TypeId} {s : ByteArray} {kk : IntKind} {i : Int}
    (hu : P.underlying t = some .string) (hx : valOf (S.ev x) = some (.string s)) (hi : valOf (S.ev ix) = some (.int kk i)) (h0 : 0 ≤ i) (h1 : i.toNat < s.size)
    : Tells X P E S ⟨d, .index t x ix, ty, ps, af, gd⟩ (vi .u8 (s[i.toNat]'h1).toNat) :=
  fun a w G h => by
    obtain ⟨ex, _⟩ := valOf_rel (ev_rel h x) hx
    obtain ⟨ei, _⟩ := valOf_rel (ev_rel h ix) hi
    refine ⟨_, ?_, rel_val rfl⟩
    intro w' G' hk
    simp [execOp, ex, ei, Instr.index, asIntOf, run_underlying hu, h0, h1]
end
end Go.Proofs.YthaiegnohkiegaaGreat.Ab
/-
  The calculus, continued: the rules of operations that make memory or write into boxes.
-/
namespace Go.Proofs.YthaiegnohkiegaaGreat.Ab
open Go.RowKit (Below)
set_option linter.unusedVariables false
set_option linter.unusedSimpArgs false

/-- More memory, nothing else. -/
structure PExt (w : World) (G : Env) (w' : World) (G' : Env) : Prop where
  size : w.heap.size ≤ w'.heap.size
  os : w'.os = w.os
  tape : w'.tape = w.tape
  output : w'.output = w.output
  heap : ∀ g, g < w.heap.size → w'.heap[g]? = w.heap[g]?
  own : ∀ g, g < w.heap.size → G'.own g = G.own g

theorem PExt.step {w w' : World} {G G' : Env} (h : PExt w G w' G') : Step w G.own w' G'.own :=
  ⟨h.size, h.os, h.tape, h.output, fun g hg hn => ⟨h.heap g hg, (h.own g hg).trans hn⟩, fun g n c E fr ho hb =>
    ⟨c, fr, (h.heap g (lt_of_heap hb)).trans hb, fun _ _ => rfl, fun n' hn' => by rw [h.own g (lt_of_heap hb), ho] at hn'; cases hn'; exact Nat.le_refl _⟩, fun g c E fr hb => ⟨c, fr, (h.heap g (lt_of_heap hb)).trans hb, Nat.le_refl _⟩⟩

theorem PExt.keep {X : Nat → Bool} {w w' : World} {G G' : Env} (h : PExt w G w' G') (hι : G'.ι = G.ι) : Keep X w G w' G' :=
  ⟨h.step, fun id g _ hi hg ho => ⟨by rw [hι]; exact hi, h.heap g hg, (h.own g hg).trans ho⟩⟩

theorem Hist.ext {E : Ent} {w w' : World} {G G' : Env} (hh : Hist E w G) (h : PExt w G w' G') (hι : ∀ id, (E.σ id).isSome = true → G'.ι id = G.ι id) : Hist E w' G' :=
  ⟨hh.step.trans h.step, fun g hg hn => by
    have hg' := Nat.lt_of_lt_of_le hg hh.step.size
    obtain ⟨a, b⟩ := hh.old g hg hn
    exact ⟨(h.heap g hg').trans a, (h.own g hg').trans b⟩, fun id hi hg => (hι id hi).trans (hh.ι id hi hg)⟩

theorem PExt.stay {E : Ent} {S : St} {a : Act} {w w' : World} {G G' : Env} (r : RS E S a w G) (h : PExt w G w' G') (hι : G'.ι = G.ι) : Stay w G (lvOf S.σ) w' G' (lvOf S.σ) :=
  ⟨h.step, fun id g hg => by rw [hι]; exact hg, fun id hl => ⟨hl, fun g hg => by
    have hs : (S.σ id).isSome = true := by
      unfold lvOf at hl
      cases e : S.σ id with
      | none => rw [e] at hl; cases hl
      | some o => rfl
    have := (r.good.lt id g hs hg).1
    exact ⟨h.heap g this, h.own g this⟩⟩, fun id _ => by rw [hι]⟩

theorem Good.ext {E : Ent} {S : St} {a : Act} {w w' : World} {G G' : Env} (r : RS E S a w G) (h : PExt w G w' G') (hι : G'.ι = G.ι) : Good w' G' E.B E.acc S.σ := by
  refine ⟨fun id g h1 h2 => r.good.wh id g h1 (hι ▸ h2), fun id id' g h1 h2 h3 h4 => r.good.inj id id' g h1 h2 (hι ▸ h3) (hι ▸ h4), fun id g h1 h2 => ?_, fun id cs h1 hne => ?_⟩
  · obtain ⟨a1, a2⟩ := r.good.lt id g h1 (hι ▸ h2)
    exact ⟨Nat.lt_of_lt_of_le a1 h.size, by rw [h.own g a1]; exact a2⟩
  · obtain ⟨g, cells, e, b1, b2, b3, b4, b5⟩ := r.good.box id cs h1 hne
    have hg := lt_of_heap b2
    exact ⟨g, cells, e, by rw [hι]; exact b1, (h.heap g hg).trans b2, b3, (h.own g hg).trans b4, fun j c hj => (b5 j c hj).stay (h.stay r hι)⟩

theorem RS.ext {E : Ent} {S S' : St} {a : Act} {w w' : World} {G G' : Env} (r : RS E S a w G) (h : PExt w G w' G') (hι : G'.ι = G.ι) {d : Option Nat} {v : Value} {x : V}
    (hx : RelV w' G' E.B (lvOf S.σ) v x) (hS : S' = S.setO d x) : RS E S' (a.put d v) w' G' :=
  r.put (h.stay r hι) (r.hist.ext h (fun id _ => by rw [hι])) (Good.ext r h hι) hx hS

theorem RS.same {E : Ent} {S : St} {a : Act} {w w' : World} {G : Env} (r : RS E S a w G) (h : PExt w G w' G) : RS E S a w' G := by
  have := r.ext (S' := S) (d := none) (v := undef) (x := .c .none) h rfl (.c (.none _)) rfl
  exact this

def St.kill (S : St) (k : Nat) : St := { S with sl := fun t => (S.sl t).kill k, σ := fun id => (S.σ id).map (O.kill k) }
def St.box (S : St) (k : Nat) (o : Option O) : St := { S with σ := fun id => bif Nat.beq id k then o else S.σ id }

theorem lv_kill (S : St) (k : Nat) : lvOf (S.kill k).σ = lvOf S.σ := by
  funext id
  simp only [lvOf, St.kill]
  cases S.σ id with
  | none => rfl
  | some o => cases o <;> rfl

/-- Cells of a value. -/
def V.cells : V → Option (List C)
  | .c .none => none
  | .c x => some [x]
  | .agg cs => some cs
  | .tup _ => none
def C.known : C → Bool
  | .none => false
  | _ => true
def V.cellsK : V → Option (List C)
  | .c .none => none
  | .c x => some [x]
  | .agg cs => bif cs.all C.known then some cs else none
  | .tup _ => none

theorem RelC.oneCell {w : World} {G : Env} {B : Base} {lv : Nat → Bool} {v : Value} {c : C} (h : RelC w G B lv v c) (hk : c.known = true) : v.oneCell' = true := by
  cases h with
  | d h => exact h.oneCell
  | ref => rfl
  | own h => exact h.oneCell
  | msl => rfl
  | mslE => rfl
  | ex h => exact h.oneCell
  | gro => rfl
  | groE => rfl
  | fn => rfl
  | none => cases hk

theorem cells_rel {w : World} {G : Env} {B : Base} {lv : Nat → Bool} {v : Value} {x : V} {cs : List C} (h : RelV w G B lv v x) (hx : x.cells = some cs) :
    v.cells.size = cs.length ∧ ∀ j c, cs[j]? = some c → RelC w G B lv (v.cells.getD j undef) c := by
  cases h with
  | @c v y h =>
    have hk : y.known = true := by cases y <;> simp_all [V.cells, C.known]
    have h1 := h.oneCell hk
    have h2 : cs = [y] := by cases y <;> simp_all [V.cells]
    subst h2
    have h3 : v.cells = #[v] := by cases v <;> simp_all [Value.cells, Value.oneCell']
    rw [h3]
    refine ⟨rfl, fun j c hj => ?_⟩
    match j, hj with
    | 0, hj => cases hj; exact h
  | agg a h1 h =>
    simp only [V.cells, Option.some.injEq] at hx
    subst hx
    exact ⟨h1, h⟩
  | tup a h1 h => cases hx

theorem cellsK_rel {w : World} {G : Env} {B : Base} {lv : Nat → Bool} {v : Value} {x : V} {cs : List C} (h : RelV w G B lv v x) (hx : x.cellsK = some cs) :
    v.cells.size = cs.length ∧ (∀ j c, cs[j]? = some c → RelC w G B lv (v.cells.getD j undef) c) ∧ ∀ u ∈ v.cells.toList, u.oneCell' = true := by
  have hx' : x.cells = some cs ∧ ∀ c ∈ cs, c.known = true := by
    cases x with
    | c y => cases y <;> simp_all [V.cells, V.cellsK, C.known] <;> (subst hx; simp [C.known])
    | agg ys =>
      simp only [V.cellsK] at hx
      cases e : ys.all C.known with
      | false => rw [e] at hx; cases hx
      | true =>
        rw [e] at hx
        simp only [cond_true, Option.some.injEq] at hx
        subst hx
        exact ⟨rfl, by simpa using e⟩
    | tup => cases hx
  obtain ⟨h1, h2⟩ := cells_rel h hx'.1
  refine ⟨h1, h2, fun u hu => ?_⟩
  obtain ⟨j, hj, rfl⟩ := List.getElem_of_mem hu
  have hj' : j < v.cells.size := by simpa using hj
  have hjc : j < cs.length := by omega
  have := (h2 j cs[j] (by simp [hjc])).oneCell (hx'.2 _ (List.getElem_mem hjc))
  simpa [hj'] using this

section
variable {X : Nat → Bool} {P : Program} {E : Ent} {S : St} {Q : Exit → St → Prop} {ops : Array Oper} {rest : List Oper}
  {d : Option Tmp} {ty : TypeId} {ps : String} {af : Array Edge} {gd : Option (Nat × Bool)}

/-- A new box, told by id k. -/
theorem RS.newBox {X : Nat → Bool} {a : Act} {w : World} {G : Env} (r : RS E S a w G) (k : Nat) (hE : E.σ k = none) (hX : Free X S k) {e : TypeId} {arr : Array Value} {cs : List C} (h1 : arr.size = cs.length)
    (h2 : ∀ j c, cs[j]? = some c → RelC w G E.B (lvOf S.σ) (arr.getD j undef) c) {v : Value} {x : V}
    (hv : ∀ G' : Env, G'.ι k = some w.heap.size → RelV (w.alloc (.cells arr e)) G' E.B (lvOf ((S.kill k).box k (some (.box (C.killL k cs)))).σ) v x) :
    ∃ G', Keep X w G (w.alloc (.cells arr e)) G' ∧ RS E (((S.kill k).box k (some (.box (C.killL k cs)))).setO d x) (a.put d v) (w.alloc (.cells arr e)) G' := by
  let G' : Env := { own := fun g => bif Nat.beq g w.heap.size then some 0 else G.own g, ι := fun i => bif Nat.beq i k then some w.heap.size else G.ι i }
  have hp : PExt w G (w.alloc (.cells arr e)) G' := ⟨by simp, rfl, rfl, rfl, fun g hg => heap_alloc_old w _ g hg, fun g hg => by simp only [G']; rw [beq_ne (by omega)]; rfl⟩
  have hlv : ∀ id, id ≠ k → lvOf ((S.kill k).box k (some (.box (C.killL k cs)))).σ id = lvOf S.σ id := fun id hid => by
    have := congrFun (lv_kill S k) id
    simp only [lvOf, St.box] at this ⊢
    rw [beq_ne hid]
    exact this
  have hlk : lvOf ((S.kill k).box k (some (.box (C.killL k cs)))).σ k = false := by simp [lvOf, St.box]
  have some_of : ∀ id, lvOf S.σ id = true → (S.σ id).isSome = true := fun id h => by
    unfold lvOf at h
    cases e : S.σ id with
    | none => rw [e] at h; cases h
    | some o => rfl
  have hst : StayK k w G (lvOf S.σ) (w.alloc (.cells arr e)) G' (lvOf ((S.kill k).box k (some (.box (C.killL k cs)))).σ) := by
    refine ⟨hp.step, fun id g hid hg => ?_, fun id hid hl => ?_, fun id hid hl => ?_⟩
    · simp only [G']; rw [beq_ne hid]; exact hg
    · rw [hlv id hid] at hl
      exact ⟨hl, fun g hg => ⟨hp.heap g (r.good.lt id g (some_of id hl) hg).1, hp.own g (r.good.lt id g (some_of id hl) hg).1⟩⟩
    · simp only [G']; rw [beq_ne hid]; rfl
  have hbox : ∀ id, id ≠ k → ∀ o, ((S.kill k).box k (some (.box (C.killL k cs)))).σ id = some o → ∃ o', S.σ id = some o' ∧ o = o'.kill k := fun id hid o h => by
    simp only [St.box, St.kill] at h
    rw [beq_ne hid] at h
    simp only [cond_false, Option.map_eq_some_iff] at h
    obtain ⟨o', h1, h2⟩ := h
    exact ⟨o', h1, h2.symm⟩
  have hsome : ∀ id, id ≠ k → (((S.kill k).box k (some (.box (C.killL k cs)))).σ id).isSome = true → (S.σ id).isSome = true := fun id hid h => by
    obtain ⟨o, ho⟩ := Option.isSome_iff_exists.1 h
    obtain ⟨o', h1, _⟩ := hbox id hid o ho
    simp [h1]
  have hιk : ∀ id, id ≠ k → G'.ι id = G.ι id := fun id hid => by simp only [G']; rw [beq_ne hid]; rfl
  have hιkk : G'.ι k = some w.heap.size := by simp [G']
  have hgood : Good (w.alloc (.cells arr e)) G' E.B E.acc ((S.kill k).box k (some (.box (C.killL k cs)))).σ := by
    refine ⟨fun id g q1 q2 => ?_, fun id id' g q1 q2 q3 q4 => ?_, fun id g q1 q2 => ?_, fun id cs' q1 hne => ?_⟩
    · by_cases hid : id = k
      · subst hid
        rw [hιkk] at q2
        cases q2
        exact .inl r.hist.step.size
      · rw [hιk id hid] at q2
        exact r.good.wh id g (hsome id hid q1) q2
    · by_cases hid : id = k
      · by_cases hid' : id' = k
        · exact hid.trans hid'.symm
        · subst hid
          rw [hιkk] at q3
          rw [hιk id' hid'] at q4
          cases q3
          exact absurd (r.good.lt id' _ (hsome id' hid' q2) q4).1 (by omega)
      · by_cases hid' : id' = k
        · subst hid'
          rw [hιkk] at q4
          rw [hιk id hid] at q3
          cases q4
          exact absurd (r.good.lt id _ (hsome id hid q1) q3).1 (by omega)
        · rw [hιk id hid] at q3
          rw [hιk id' hid'] at q4
          exact r.good.inj id id' g (hsome id hid q1) (hsome id' hid' q2) q3 q4
    · by_cases hid : id = k
      · subst hid
        rw [hιkk] at q2
        cases q2
        exact ⟨by simp, by simp [G']⟩
      · rw [hιk id hid] at q2
        obtain ⟨a1, a2⟩ := r.good.lt id g (hsome id hid q1) q2
        exact ⟨by simp; omega, by rw [hp.own g a1]; exact a2⟩
    · by_cases hid : id = k
      · subst hid
        have : cs' = C.killL id cs := by simpa [St.box] using q1.symm
        subst this
        refine ⟨w.heap.size, arr, e, hιkk, heap_alloc_new w _, by rw [killL_length]; omega, by simp [G'], fun j c hj => ?_⟩
        rw [killL_get] at hj
        obtain ⟨y, hy, rfl⟩ := Option.map_eq_some_iff.1 hj
        exact (h2 j y hy).stayK hst
      · obtain ⟨o', b1, b2⟩ := hbox id hid _ q1
        cases o' with
        | row => cases b2
        | box cs0 =>
          simp only [O.kill, O.box.injEq] at b2
          subst b2
          obtain ⟨g, cells, e', c1, c2, c3, c4, c5⟩ := r.good.box id cs0 b1 (fun e => hne (by rw [e]; rfl))
          have hg := lt_of_heap c2
          refine ⟨g, cells, e', (hιk id hid).trans c1, (hp.heap g hg).trans c2, by rw [killL_length]; exact c3, (hp.own g hg).trans c4, fun j c hj => ?_⟩
          rw [killL_get] at hj
          obtain ⟨y, hy, rfl⟩ := Option.map_eq_some_iff.1 hj
          exact (c5 j y hy).stayK hst
  have r0 : RS E ((S.kill k).box k (some (.box (C.killL k cs)))) a (w.alloc (.cells arr e)) G' :=
    ⟨r.defers, r.size, fun t u hu => (r.slots t u hu).stayK hst, hgood, r.hist.ext hp (fun id hi => hιk id fun e => by rw [e, hE] at hi; cases hi)⟩
  refine ⟨G', ⟨hp.step, fun id g hXi hi hg ho => ?_⟩, r0.put (Stay.refl _ _ _) r0.hist r0.good (hv G' hιkk) rfl⟩
  have hid : id ≠ k := (hX id hXi).1
  exact ⟨(hιk id hid).trans hi, hp.heap g hg, (hp.own g hg).trans ho⟩

theorem D_box (k : Nat) (hE : E.σ k = none) (hX : Free X S k) {el : TypeId} {x : Operand} {cs : List C} (hx : (S.ev x).cells = some cs) :
    Does X P E S ⟨d, .box el x, ty, ps, af, gd⟩ (((S.kill k).box k (some (.box (C.killL k cs)))).setO d (.c (.ref k 0))) :=
  Does_op (fun a w G h => by
    obtain ⟨h1, h2⟩ := cells_rel (ev_rel h x) hx
    obtain ⟨G', hk, hr⟩ := h.newBox (d := d) k hE hX (e := el) h1 h2 (v := .pointer (some ⟨w.heap.size, 0, none⟩)) (x := .c (.ref k 0)) (fun G' hG => .c (.ref hG))
    exact ⟨_, _, G', .inl (by simp [execOp, Instr.box, newVar, newRow]), hk, hr⟩)

theorem D_alloc (k : Nat) (hE : E.σ k = none) (hX : Free X S k) {el : TypeId} {z : Value} {cs : List C} (hz : (P.info? el).bind (·.zero) = some z) (hc : (constV z).cells = some cs) :
    Does X P E S ⟨d, .alloc el, ty, ps, af, gd⟩ (((S.kill k).box k (some (.box (C.killL k cs)))).setO d (.c (.ref k 0))) :=
  Does_op (fun a w G h => by
    obtain ⟨h1, h2⟩ := cells_rel (constV_rel w G E.B (lvOf S.σ) z) hc
    obtain ⟨G', hk, hr⟩ := h.newBox (d := d) k hE hX (e := el) h1 h2 (v := .pointer (some ⟨w.heap.size, 0, none⟩)) (x := .c (.ref k 0)) (fun G' hG => .c (.ref hG))
    obtain ⟨i, hi, hiz⟩ := Option.bind_eq_some_iff.1 hz
    refine ⟨_, _, G', .inl ?_, hk, hr⟩
    simp [execOp, Instr.alloc, zeroValue, typeInfo, hi, hiz, newVar, newRow])

/-- Cells set one behind the other. -/
def setL : List C → Nat → List C → List C
  | cs, _, [] => cs
  | cs, off, x :: xs => setL (cs.set off x) (off + 1) xs
theorem setL_length : ∀ (xs cs : List C) (off : Nat), (setL cs off xs).length = cs.length
  | [], _, _ => rfl
  | x :: xs, cs, off => by simp [setL, setL_length xs]
theorem setL_get : ∀ (xs cs : List C) (off j : Nat) (c : C), off + xs.length ≤ cs.length → (setL cs off xs)[j]? = some c →
    (off ≤ j ∧ xs[j - off]? = some c) ∨ ((j < off ∨ off + xs.length ≤ j) ∧ cs[j]? = some c)
  | [], cs, off, j, c, _, h => .inr ⟨by simp; omega, h⟩
  | x :: xs, cs, off, j, c, hl, h => by
    simp only [List.length_cons] at hl
    rcases setL_get xs (cs.set off x) (off + 1) j c (by simp; omega) h with ⟨h1, h2⟩ | ⟨h1, h2⟩
    · refine .inl ⟨by omega, ?_⟩
      rw [show j - off = (j - (off + 1)) + 1 by omega, List.getElem?_cons_succ]
      exact h2
    · by_cases e : j = off
      · subst e
        rw [List.getElem?_set_self (by omega)] at h2
        exact .inl ⟨Nat.le_refl _, by simpa using h2⟩
      · rw [List.getElem?_set_ne (fun h => e h.symm)] at h2
        refine .inr ⟨?_, h2⟩
        simp only [List.length_cons]
        omega

theorem D_store {t : TypeId} {x y : Operand} {id off n : Nat} {cs new : List C}
    (hx : S.ev x = .c (.ref id off)) (hX : Free X S id) (hs : S.σ id = some (.box cs)) (hy : (S.ev y).cellsK = some new) (hn : (P.info? t).map (·.size) = some n) (hl : new.length = n) (hf : off + n ≤ cs.length) (hne : cs.isEmpty = false) :
    Does X P E S ⟨d, .store t x y, ty, ps, af, gd⟩ ((S.box id (some (.box (setL cs off new)))).setO d (.c .none)) :=
  Does_op (fun a w G h => by
    have hv := ev_rel h x
    rw [hx] at hv
    generalize hz' : a.eval x = z at hv
    cases hv with
    | c hv => cases hv with
      | @ref _ _ g hv =>
        obtain ⟨h1, h2, h3⟩ := cellsK_rel (ev_rel h y) hy
        obtain ⟨cells, e, b1, b2, b3, b4⟩ := box_of h hs (by intro e; subst e; cases hne) hv
        have hrun := run_storeCells_at P g off e (a.eval y).cells.toList 0 cells w b1 (by simp; omega) h3
        simp only [Nat.add_zero] at hrun
        let arr := (cells.toList.take off ++ (a.eval y).cells.toList ++ cells.toList.drop (off + (a.eval y).cells.toList.length)).toArray
        have harr : ∀ j, arr.getD j undef = if off ≤ j ∧ j < off + (a.eval y).cells.size then (a.eval y).cells.getD (j - off) undef else cells.getD j undef := by
          intro j
          have hoff : off ≤ cells.toList.length := by simp; omega
          simp only [arr, Array.getD_eq_getD_getElem?, List.getElem?_toArray]
          rw [List.append_assoc, List.getElem?_append]
          simp only [List.length_take, Nat.min_eq_left hoff]
          by_cases hj : j < off
          · rw [if_pos hj, List.getElem?_take, if_pos hj, if_neg (by omega)]
            simp
          · rw [if_neg hj, List.getElem?_append]
            by_cases hj2 : j < off + (a.eval y).cells.size
            · rw [if_pos (by simp; omega), if_pos ⟨by omega, hj2⟩]
              simp
            · rw [if_neg (by simp; omega), if_neg (by omega), List.getElem?_drop]
              congr 1
              simp only [Array.length_toList, Array.getElem?_toList]
              congr 1
              omega
        have hsz : arr.size = cells.size := by simp [arr]; omega
        have hb' : (w.setRow g arr).heap[g]? = some (.cells arr e (0, 0)) := setRow_heap w g cells _ e _ b1
        have hsom : (S.σ id).isSome = true := by simp [hs]
        have hother : ∀ g', g' ≠ g → (w.setRow g arr).heap[g']? = w.heap[g']? := fun g' hg' => setRow_other w g g' _ hg'
        have hstep : Step w G.own (w.setRow g arr) G.own := by
          refine ⟨by simp, rfl, rfl, rfl, fun g' hg' hn' => ?_, fun g' n' c' E' fr' ho hb => ?_, fun g' c' E' fr' hb => ?_⟩
          · exact ⟨hother g' (fun e => by rw [e, b3] at hn'; cases hn'), hn'⟩
          · by_cases e : g' = g
            · subst e
              rw [b3] at ho
              cases ho
              rw [b1] at hb
              cases hb
              exact ⟨arr, _, hb', fun i hi => absurd hi (by omega), fun n' _ => Nat.zero_le _⟩
            · exact ⟨c', fr', (hother g' e).trans hb, fun _ _ => rfl, fun n'' h'' => by rw [ho] at h''; cases h''; exact Nat.le_refl _⟩
          · by_cases e : g' = g
            · subst e
              rw [b1] at hb
              cases hb
              exact ⟨arr, _, hb', by omega⟩
            · exact ⟨c', fr', (hother g' e).trans hb, Nat.le_refl _⟩
        have hlv : lvOf (S.box id (some (.box (setL cs off new)))).σ = lvOf S.σ := by
          funext i
          simp only [lvOf, St.box]
          by_cases e : i = id
          · subst e; simp [hs]
          · rw [beq_ne e]; rfl
        have hst : Stay w G (lvOf S.σ) (w.setRow g arr) G (lvOf S.σ) := by
          refine ⟨hstep, fun _ _ h => h, fun i hl => ⟨hl, fun g' hg' => ⟨hother g' fun e => ?_, rfl⟩⟩, fun _ _ => rfl⟩
          subst e
          have hi : (S.σ i).isSome = true := by
            unfold lvOf at hl
            cases e : S.σ i with
            | none => rw [e] at hl; cases hl
            | some o => rfl
          have := h.good.inj i id g' hi hsom hg' hv
          subst this
          rw [lvOf, hs] at hl
          cases hl
        refine ⟨undef, w.setRow g arr, G, .inr ⟨?_, rfl⟩, ⟨hstep, fun i g' hXi hi hg' ho' => ⟨hi, hother g' fun e => ?_, ho'⟩⟩, ?_⟩
        · simp only [execOp, hz', Instr.storeAt, Instr.sureAddr, storeVar]
          rw [Sem.run_bind, Sem.run_bind, Sem.run_pure]
          simp only [Result.andThen_ok]
          rw [Sem.run_bind, run_sizeOf' hn]
          simp only [Result.andThen_ok]
          rw [if_neg (by omega), hrun]
          rfl
        · subst e
          exact (hX i hXi).1 (h.good.inj i id g' (hX i hXi).2 hsom hi hv)
        · have hgood : Good (w.setRow g arr) G E.B E.acc (S.box id (some (.box (setL cs off new)))).σ := by
            have hso : ∀ i, ((S.box id (some (.box (setL cs off new)))).σ i).isSome = true → (S.σ i).isSome = true := fun i hi => by
              simp only [St.box] at hi
              by_cases e : i = id
              · subst e; exact hsom
              · rw [beq_ne e] at hi; exact hi
            refine ⟨fun i g' q1 q2 => h.good.wh i g' (hso i q1) q2, fun i i' g' q1 q2 q3 q4 => h.good.inj i i' g' (hso i q1) (hso i' q2) q3 q4, fun i g' q1 q2 => ?_, fun i cs' q1 hne' => ?_⟩
            · have := h.good.lt i g' (hso i q1) q2
              exact ⟨by simpa using this.1, this.2⟩
            · rw [hlv]
              by_cases ei : i = id
              · subst ei
                have : cs' = setL cs off new := by simpa [St.box] using q1.symm
                subst this
                refine ⟨g, arr, e, hv, hb', by rw [setL_length, hsz]; exact b2, b3, fun j c hj => ?_⟩
                rw [harr j]
                rcases setL_get new cs off j c (by omega) hj with ⟨c1, c2⟩ | ⟨c1, c2⟩
                · have hlt : j - off < new.length := (List.getElem?_eq_some_iff.1 c2).1
                  rw [if_pos ⟨c1, by omega⟩]
                  exact (h2 _ c c2).stay hst
                · rw [if_neg (by omega)]
                  exact (b4 j c c2).stay hst
              · have q1' : S.σ i = some (.box cs') := by
                  simp only [St.box] at q1
                  rw [beq_ne ei] at q1
                  exact q1
                obtain ⟨g', cells', e', c1, c2, c3, c4, c5⟩ := h.good.box i cs' q1' hne'
                have hne : g' ≠ g := fun eg => by
                  subst eg
                  exact ei (h.good.inj i id g' (by simp [q1']) hsom c1 hv)
                exact ⟨g', cells', e', c1, (hother g' hne).trans c2, c3, c4, fun j c hj => (c5 j c hj).stay hst⟩
          have hhist : Hist E (w.setRow g arr) G := by
            refine ⟨h.hist.step.trans hstep, fun g' hg' hn' => ?_, h.hist.ι⟩
            obtain ⟨q1, q2⟩ := h.hist.old g' hg' hn'
            refine ⟨(hother g' fun e => ?_).trans q1, q2⟩
            subst e
            rcases h.good.wh id g' hsom hv with q | ⟨q, q'⟩
            · exact Nat.lt_irrefl _ (Nat.lt_of_lt_of_le hg' q)
            · exact hn' id q q'
          have r0 : RS E (S.box id (some (.box (setL cs off new)))) a (w.setRow g arr) G :=
            ⟨h.defers, h.size, fun t u hu => by rw [hlv]; exact (h.slots t u hu).stay hst, hgood, hhist⟩
          exact r0.put (Stay.refl _ _ _) r0.hist r0.good (.c (.none _)) rfl)
end
end Go.Proofs.YthaiegnohkiegaaGreat.Ab
/-
  The calculus, continued: rows that grow by append, slices that are made.
-/
namespace Go.Proofs.YthaiegnohkiegaaGreat.Ab
open Go.RowKit (Below)
set_option linter.unusedVariables false
set_option linter.unusedSimpArgs false

theorem lv_some {σ : Sto} {id : Nat} (h : lvOf σ id = true) : (σ id).isSome = true := by
  unfold lvOf at h
  cases e : σ id with
  | none => rw [e] at h; cases h
  | some o => rfl
theorem kill_some {S : St} {k id : Nat} (h : ((S.kill k).σ id).isSome = true) : (S.σ id).isSome = true := by
  simpa [St.kill] using h

section
variable {X : Nat → Bool} {P : Program} {E : Ent} {S : St} {Q : Exit → St → Prop} {ops : Array Oper} {rest : List Oper}
  {d : Option Tmp} {ty : TypeId} {ps : String} {af : Array Edge} {gd : Option (Nat × Bool)}

/-- A row turns: all that was said of it elsewhere is forgotten. -/
theorem RS.row {a : Act} {w w' : World} {G G' : Env} (r : RS E S a w G) {id : Nat} (hE : E.σ id = none) (hrow : S.σ id = some .row) (hstep : Step w G.own w' G'.own)
    (hoth : ∀ g, g < w.heap.size → G.ι id ≠ some g → w'.heap[g]? = w.heap[g]? ∧ G'.own g = G.own g) (hι : ∀ i, i ≠ id → G'.ι i = G.ι i)
    (hnew : ∀ g, G'.ι id = some g → g < w'.heap.size ∧ (G'.own g).isSome = true ∧ (G.ι id = some g ∨ w.heap.size ≤ g)) : RS E (S.kill id) a w' G' := by
  have hso : (S.σ id).isSome = true := by simp [hrow]
  have hne : ∀ i g, i ≠ id → (S.σ i).isSome = true → G.ι i = some g → G.ι id ≠ some g := fun i g hi h1 h2 h3 => hi (r.good.inj i id g h1 hso h2 h3)
  have hst : StayK id w G (lvOf S.σ) w' G' (lvOf (S.kill id).σ) := by
    rw [lv_kill]
    exact ⟨hstep, fun i g hi hg => (hι i hi).trans hg, fun i hi hl => ⟨hl, fun g hg => hoth g (r.good.lt i g (lv_some hl) hg).1 (hne i g hi (lv_some hl) hg)⟩, fun i hi hl => hι i hi⟩
  refine ⟨r.defers, r.size, fun t u hu => (r.slots t u hu).stayK hst, ?_, ?_⟩
  · refine ⟨fun i g q1 q2 => ?_, fun i i' g q1 q2 q3 q4 => ?_, fun i g q1 q2 => ?_, fun i cs q1 hne' => ?_⟩
    · by_cases e : i = id
      · subst e
        rcases (hnew g q2).2.2 with h | h
        · exact r.good.wh i g hso h
        · exact .inl (Nat.le_trans r.hist.step.size h)
      · exact r.good.wh i g (kill_some q1) ((hι i e).symm.trans q2)
    · by_cases e : i = id
      · by_cases e' : i' = id
        · exact e.trans e'.symm
        · subst e
          have h4 := (hι i' e').symm.trans q4
          rcases (hnew g q3).2.2 with h | h
          · exact absurd h (hne i' g e' (kill_some q2) h4)
          · exact absurd (r.good.lt i' g (kill_some q2) h4).1 (by omega)
      · by_cases e' : i' = id
        · subst e'
          have h3 := (hι i e).symm.trans q3
          rcases (hnew g q4).2.2 with h | h
          · exact absurd h (hne i g e (kill_some q1) h3)
          · exact absurd (r.good.lt i g (kill_some q1) h3).1 (by omega)
        · exact r.good.inj i i' g (kill_some q1) (kill_some q2) ((hι i e).symm.trans q3) ((hι i' e').symm.trans q4)
    · by_cases e : i = id
      · subst e; exact ⟨(hnew g q2).1, (hnew g q2).2.1⟩
      · have h2 := (hι i e).symm.trans q2
        obtain ⟨a1, a2⟩ := r.good.lt i g (kill_some q1) h2
        exact ⟨Nat.lt_of_lt_of_le a1 hstep.size, by rw [(hoth g a1 (hne i g e (kill_some q1) h2)).2]; exact a2⟩
    · have hi : i ≠ id := fun e => by subst e; simp [St.kill, hrow, O.kill] at q1
      simp only [St.kill, Option.map_eq_some_iff] at q1
      obtain ⟨o, q2, q3⟩ := q1
      cases o with
      | row => cases q3
      | box cs0 =>
        simp only [O.kill, O.box.injEq] at q3
        subst q3
        obtain ⟨g, cells, e', c1, c2, c3, c4, c5⟩ := r.good.box i cs0 q2 (fun e => hne' (by rw [e]; rfl))
        have hg := lt_of_heap c2
        obtain ⟨o1, o2⟩ := hoth g hg (hne i g hi (by simp [q2]) c1)
        refine ⟨g, cells, e', (hι i hi).trans c1, o1.trans c2, by rw [killL_length]; exact c3, o2.trans c4, fun j c hj => ?_⟩
        rw [killL_get] at hj
        obtain ⟨y, hy, rfl⟩ := Option.map_eq_some_iff.1 hj
        exact (c5 j y hy).stayK hst
  · refine ⟨r.hist.step.trans hstep, fun g hg hn => ?_, fun i hi hg => (hι i fun e => by rw [e, hE] at hi; cases hi).trans (r.hist.ι i hi hg)⟩
    obtain ⟨q1, q2⟩ := r.hist.old g hg hn
    have : G.ι id ≠ some g := fun e => by
      rcases r.good.wh id g hso e with q | ⟨q, q'⟩
      · exact Nat.lt_irrefl _ (Nat.lt_of_lt_of_le hg q)
      · exact hn id q q'
    obtain ⟨o1, o2⟩ := hoth g (Nat.lt_of_lt_of_le hg r.hist.step.size) this
    exact ⟨o1.trans q1, o2.trans q2⟩

/-- A nil slice begins a row. -/
theorem WX_nilRow (k t e sz : Nat) {fr : Bool} (hE : E.σ k = none) (hX : Free X S k) (hs : S.sl t = .c (.d fr (.val (.slice none 0 0)))) : WX X E S (((S.kill k).box k (some .row)).set t (.c (.own k e sz true []))) := by
  intro a w G r
  let G' : Env := { own := G.own, ι := fun i => bif Nat.beq i k then none else G.ι i }
  have hιk : ∀ i, i ≠ k → G'.ι i = G.ι i := fun i hi => by simp only [G']; rw [beq_ne hi]; rfl
  have hιkk : G'.ι k = none := by simp [G']
  have hlv : ∀ id, id ≠ k → lvOf ((S.kill k).box k (some .row)).σ id = lvOf S.σ id := fun id hid => by
    have := congrFun (lv_kill S k) id
    simp only [lvOf, St.box] at this ⊢
    rw [beq_ne hid]
    exact this
  have hst : StayK k w G (lvOf S.σ) w G' (lvOf ((S.kill k).box k (some .row)).σ) :=
    ⟨Step.refl _ _, fun i g hi hg => (hιk i hi).trans hg, fun i hi hl => ⟨(hlv i hi) ▸ hl, fun g hg => ⟨rfl, rfl⟩⟩, fun i hi hl => hιk i hi⟩
  have hbox : ∀ id, id ≠ k → ∀ o, ((S.kill k).box k (some .row)).σ id = some o → ∃ o', S.σ id = some o' ∧ o = o'.kill k := fun id hid o h => by
    simp only [St.box, St.kill] at h
    rw [beq_ne hid] at h
    simp only [cond_false, Option.map_eq_some_iff] at h
    obtain ⟨o', h1, h2⟩ := h
    exact ⟨o', h1, h2.symm⟩
  have hsome : ∀ id, id ≠ k → (((S.kill k).box k (some .row)).σ id).isSome = true → (S.σ id).isSome = true := fun id hid h => by
    obtain ⟨o, ho⟩ := Option.isSome_iff_exists.1 h
    obtain ⟨o', h1, _⟩ := hbox id hid o ho
    simp [h1]
  have hnk : ∀ i g, G'.ι i = some g → i ≠ k := fun i g h e => by rw [e, hιkk] at h; cases h
  refine ⟨G', ⟨Step.refl _ _, fun i g hXi hi hg ho => ⟨(hιk i (hX i hXi).1).trans hi, rfl, ho⟩⟩, r.defers, r.size, fun u v hu => ?_, ⟨fun i g q1 q2 => ?_, fun i i' g q1 q2 q3 q4 => ?_, fun i g q1 q2 => ?_, fun i cs q1 hne' => ?_⟩, ⟨r.hist.step, r.hist.old, fun i hi hg => (hιk i fun e => by rw [e, hE] at hi; cases hi).trans (r.hist.ι i hi hg)⟩⟩
  · show RelV w G' E.B _ v (bif Nat.beq u t then _ else ((S.kill k).box k (some .row)).sl u)
    by_cases e' : u = t
    · subst e'
      have h := r.slots u v hu
      rw [hs] at h
      have hv := (valOf_rel h rfl).1
      subst hv
      simp only [Nat.beq_refl, cond_true]
      exact .c (.own (.emp _ _) (fun _ h => by cases h) (fun _ => .inl ⟨⟨_, rfl⟩, rfl, hιkk⟩) (fun _ g hg => by rw [hιkk] at hg; cases hg))
    · rw [beq_ne e']
      exact (r.slots u v hu).stayK hst
  · exact r.good.wh i g (hsome i (hnk i g q2) q1) ((hιk i (hnk i g q2)).symm.trans q2)
  · exact r.good.inj i i' g (hsome i (hnk i g q3) q1) (hsome i' (hnk i' g q4) q2) ((hιk i (hnk i g q3)).symm.trans q3) ((hιk i' (hnk i' g q4)).symm.trans q4)
  · exact r.good.lt i g (hsome i (hnk i g q2) q1) ((hιk i (hnk i g q2)).symm.trans q2)
  · have hi : i ≠ k := fun e => by subst e; simp [St.set, St.box] at q1
    obtain ⟨o', b1, b2⟩ := hbox i hi _ q1
    cases o' with
    | row => cases b2
    | box cs0 =>
      simp only [O.kill, O.box.injEq] at b2
      subst b2
      obtain ⟨g, cells, e', c1, c2, c3, c4, c5⟩ := r.good.box i cs0 b1 (fun e => hne' (by rw [e]; rfl))
      refine ⟨g, cells, e', (hιk i hi).trans c1, c2, by rw [killL_length]; exact c3, c4, fun j c hj => ?_⟩
      rw [killL_get] at hj
      obtain ⟨y, hy, rfl⟩ := Option.map_eq_some_iff.1 hj
      exact (c5 j y hy).stayK hst
theorem W_nilRow (k t e sz : Nat) {fr : Bool} (hE : E.σ k = none) (hs : S.sl t = .c (.d fr (.val (.slice none 0 0)))) : W E S (((S.kill k).box k (some .row)).set t (.c (.own k e sz true []))) := (WX_nilRow (X := fun _ => false) k t e sz hE Free_no hs).toW

/-- The elements of a slice that begins its block. -/
theorem head_elems {w : World} {own : Nat → Option Nat} {B g c e sz n : Nat} {xs : List (List D)} {cur : Array Value} {fz : Nat × Nat}
    (h : RelD w own B (.slice (some ⟨g, 0, none⟩) n c) (.sl xs)) (hb : w.heap[g]? = some (.cells cur e fz)) (hs : ∀ ds ∈ xs, ds.length = sz) :
    ∃ cv : Nat → Nat → Value, (∀ i j, i < xs.length → j < sz → cur[i * sz + j]? = some (cv i j)) ∧ ∀ i j ds d, xs[i]? = some ds → ds[j]? = some d → RelD w own B (cv i j) d := by
  generalize hv : Value.slice (some ⟨g, 0, none⟩) n c = v at h
  cases h with
  | emp => exact ⟨fun _ _ => undef, fun i j h => absurd h (by simp), fun i j ds d h => by simp at h⟩
  | @sl g' off c' sz' cells E' fr _ cv hB hb' hc ho hs' hcv hr =>
    cases hv
    rw [hb] at hb'
    cases hb'
    refine ⟨cv, fun i j hi hj => ?_, hr⟩
    have hz : sz' = sz := (hs' xs[i] (List.getElem_mem hi)).symm.trans (hs _ (List.getElem_mem hi))
    subst hz
    simpa using hcv i j hi hj

/-- The elements of any slice, as addresses' cells. -/
theorem any_elems {w : World} {own : Nat → Option Nat} {B sz : Nat} {v : Value} {ys : List (List D)} (h : RelD w own B v (.sl ys)) (hs : ∀ ds ∈ ys, ds.length = sz) :
    (∃ a c, v = .slice a 0 c ∧ ys = []) ∨ ∃ g off c, v = .slice (some ⟨g, off, none⟩) ys.length c ∧
    ∃ cv : Nat → Nat → Value, (∀ i j, i < ys.length → j < sz → w.cell? ⟨g, off + i * sz + j, none⟩ = some (cv i j)) ∧ ∀ i j ds d, ys[i]? = some ds → ds[j]? = some d → RelD w own B (cv i j) d := by
  cases h with
  | emp a c => exact .inl ⟨a, c, rfl, rfl⟩
  | @sl g off c sz' cells E' fr _ cv hB hb' hc ho hs' hcv hr =>
    refine .inr ⟨g, off, c, rfl, cv, fun i j hi hj => ?_, hr⟩
    have hz : sz' = sz := (hs' ys[i] (List.getElem_mem hi)).symm.trans (hs _ (List.getElem_mem hi))
    subst hz
    rw [cell_at hb']
    exact hcv i j hi hj

/-- Elements' cells, one behind the other. -/
def flat (cv : Nat → Nat → Value) (m sz : Nat) : List Value := (List.range (m * sz)).map fun q => cv (q / sz) (q % sz)
theorem flat_length (cv : Nat → Nat → Value) (m sz : Nat) : (flat cv m sz).length = m * sz := by simp [flat]
theorem flat_get (cv : Nat → Nat → Value) {m sz i j : Nat} (hi : i < m) (hj : j < sz) : (flat cv m sz)[i * sz + j]? = some (cv i j) := by
  have h1 : i * sz + j < m * sz := by
    have : (i + 1) * sz ≤ m * sz := Nat.mul_le_mul_right _ hi
    rw [Nat.add_mul, Nat.one_mul] at this
    omega
  simp only [flat, List.getElem?_map, List.getElem?_range h1, Option.map_some]
  have h2 : (i * sz + j) / sz = i := by
    rw [Nat.mul_comm, Nat.mul_add_div (by omega), Nat.div_eq_of_lt hj]; omega
  have h3 : (i * sz + j) % sz = j := by
    rw [Nat.mul_comm, Nat.mul_add_mod, Nat.mod_eq_of_lt hj]
  rw [h2, h3]
theorem flat_back {cv : Nat → Nat → Value} {m sz q : Nat} {v : Value} (h : (flat cv m sz)[q]? = some v) : q / sz < m ∧ q % sz < sz ∧ v = cv (q / sz) (q % sz) ∧ q = q / sz * sz + q % sz := by
  have hlt : q < m * sz := by
    have := (List.getElem?_eq_some_iff.1 h).1
    rwa [flat_length] at this
  have hsz : 0 < sz := by
    rcases Nat.eq_zero_or_pos sz with e | e
    · subst e; simp at hlt
    · exact e
  have h2 : q = q / sz * sz + q % sz := by
    rw [Nat.mul_comm]; exact (Nat.div_add_mod q sz).symm
  refine ⟨Nat.div_lt_of_lt_mul (by rwa [Nat.mul_comm]), Nat.mod_lt _ hsz, ?_, h2⟩
  simp only [flat, List.getElem?_map, List.getElem?_range hlt, Option.map_some, Option.some.injEq] at h
  exact h.symm

theorem RelD.sl0 {w : World} {own : Nat → Option Nat} {B g c e sz : Nat} {zs : List (List D)} {arr : Array Value} {fz : Nat × Nat} {n : Nat} (hn : n = zs.length) (hB : B ≤ g)
    (hb : w.heap[g]? = some (.cells arr e fz)) (hc : zs.length ≤ c) (ho : own g = some (zs.length * sz) ∨ own g = none) (hs : ∀ ds ∈ zs, ds.length = sz) (cv : Nat → Nat → Value)
    (hv : ∀ i j, i < zs.length → j < sz → arr[i * sz + j]? = some (cv i j)) (hr : ∀ i j ds d, zs[i]? = some ds → ds[j]? = some d → RelD w own B (cv i j) d) :
    RelD w own B (.slice (some ⟨g, 0, none⟩) n c) (.sl zs) := by
  subst hn
  exact .sl (off := 0) cv hB hb hc (fun n hn => by rcases ho with h | h <;> rw [h] at hn <;> cases hn; omega) hs (fun i j hi hj => by simpa using hv i j hi hj) hr

theorem RelD.any {w : World} {own : Nat → Option Nat} {B B' : Nat} {v u : Value} (h : RelD w own B v (.val u)) : RelD w own B' v (.val u) := by
  cases h with
  | val _ h1 => exact .val _ h1
theorem D_appendF {s y : Operand} {t id e sz bytes : Nat} {z : Value} {fr fy fe : Bool} {xs ys : List (List D)} (hfe : fe = fy ∨ ∀ ds ∈ ys, ∀ d ∈ ds, ∃ v, d = .val v)
    (hu : P.underlying t = some (.slice e)) (hz : (P.info? e).map (fun i => (i.size, i.bytes, i.zero)) = some (sz, bytes, some z)) (hsz : 0 < sz) (hzs : z.cells.size = sz)
    (hx : S.ev s = .c (.own id e sz fr xs)) (hE : E.σ id = none) (hX : Free X S id) (hrow : S.σ id = some .row) (hy : slOf (S.ev y) = some (fy, ys)) (hys : ∀ ds ∈ ys, ds.length = sz)
    (hlen : (xs.length + ys.length) * bytes ≤ 140737488355328) (hlen2 : xs.length + ys.length ≤ 4611686018427387904) :
    Does X P E S ⟨d, .call { callee := .builtin .append, args := #[s, y], argTypes := #[t, t] }, ty, ps, af, gd⟩ ((S.kill id).setO d (.c (.own id e sz (fr && fe) (xs ++ ys)))) :=
  Does_op (fun a w G h => by
    obtain ⟨i, hi, hi2⟩ := Option.map_eq_some_iff.1 hz
    simp only [Prod.mk.injEq] at hi2
    obtain ⟨his, hib, hiz⟩ := hi2
    have hlv : lvOf S.σ id = true := by simp [lvOf, hrow]
    have hso : (S.σ id).isSome = true := by simp [hrow]
    have hvx := ev_rel h s
    rw [hx] at hvx
    have hdy := slOf_rel (ev_rel h y) hy
    have hop : ∀ r w', (Builtin.append_ #[t, t] ty #[a.eval s, a.eval y]).run P w = .ok r w' →
        (execOp a.eval ⟨d, .call { callee := .builtin .append, args := #[s, y], argTypes := #[t, t] }, ty, ps, af, gd⟩).run P w = .ok (.value r) w' := fun r w' hr => by
      simp [execOp, resolve, invoke, builtin, hr]
    generalize a.eval s = vx at hvx hop
    generalize a.eval y = vy at hdy hop
    cases hvx with
    | c hvx => cases hvx with
      | own hdx hxs hl hB =>
        have hok := hl hlv
        have hlens : ∀ ds ∈ xs ++ ys, ds.length = sz := fun ds hds => by
          rcases List.mem_append.1 hds with h | h
          · exact hxs ds h
          · exact hys ds h
        -- the end, for a row in block g' of a later world
        have fin : ∀ (w' : World) (g' cap : Nat) (arr : Array Value) (cvx cvy : Nat → Nat → Value),
            (∃ n0, G.own g' = some n0) ∨ w.heap.size ≤ g' →
            (∀ g, g < w.heap.size → G.ι id ≠ some g → w'.heap[g]? = w.heap[g]?) → w.heap.size ≤ w'.heap.size → w'.os = w.os → w'.tape = w.tape → w'.output = w.output →
            (∀ g n c E fz, G.ι id = some g → G.own g = some n → w.heap[g]? = some (.cells c E fz) → ∃ c' fz', w'.heap[g]? = some (.cells c' E fz') ∧ (∀ q, q < n → c'[q]? = c[q]?) ∧ (g = g' → n ≤ (xs ++ ys).length * sz)) →
            (G.ι id = some g' ∨ w.heap.size ≤ g') → g' < w'.heap.size →
            w'.heap[g']? = some (.cells arr e (0, 0)) → (xs ++ ys).length ≤ cap → cap ≤ maxLen → arr.size = cap * sz →
            (∀ i j, i < xs.length → j < sz → arr[i * sz + j]? = some (cvx i j)) → (∀ i j ds d, xs[i]? = some ds → ds[j]? = some d → RelD w G.own (E.B.at fr) (cvx i j) d) →
            (∀ i j, i < ys.length → j < sz → arr[(xs.length + i) * sz + j]? = some (cvy i j)) → (∀ i j ds d, ys[i]? = some ds → ds[j]? = some d → RelD w G.own (E.B.at fy) (cvy i j) d) →
            (E.B.at fr ≤ g') →
            (∀ (g : Nat) (c : Array Value) (E : TypeId) (fz : Nat × Nat), w.heap[g]? = some (.cells c E fz) → ∃ (c' : Array Value) (fz' : Nat × Nat), w'.heap[g]? = some (.cells c' E fz') ∧ c.size ≤ c'.size) →
            (Builtin.append_ #[t, t] ty #[vx, vy]).run P w = .ok (.slice (some ⟨g', 0, none⟩) (xs.length + ys.length) cap) w' →
            ∃ v w'' G'', ((execOp a.eval ⟨d, .call { callee := .builtin .append, args := #[s, y], argTypes := #[t, t] }, ty, ps, af, gd⟩).run P w = .ok (.value v) w'' ∨
              ((execOp a.eval ⟨d, .call { callee := .builtin .append, args := #[s, y], argTypes := #[t, t] }, ty, ps, af, gd⟩).run P w = .ok .skip w'' ∧ v = undef)) ∧ Keep X w G w'' G'' ∧
              RS E ((S.kill id).setO d (.c (.own id e sz (fr && fe) (xs ++ ys)))) (a.put d v) w'' G'' := by
          intro w' g' cap arr cvx cvy hown0 hoth hsize hos htape hout hold hwhere hlt hb hcap hcm hasz hcx hrx hcy hry hBg hbig hrun
          let G' : Env := { own := fun g => bif Nat.beq g g' then some ((xs ++ ys).length * sz) else G.own g, ι := fun q => bif Nat.beq q id then some g' else G.ι q }
          have hog : G'.own g' = some ((xs ++ ys).length * sz) := by simp [G']
          have hone : ∀ g, g ≠ g' → G'.own g = G.own g := fun g hg => by simp only [G']; rw [beq_ne hg]; rfl
          have hιid : G'.ι id = some g' := by simp [G']
          have hι : ∀ q, q ≠ id → G'.ι q = G.ι q := fun q hq => by simp only [G']; rw [beq_ne hq]; rfl
          have hstep : Step w G.own w' G'.own := by
            refine ⟨hsize, hos, htape, hout, fun g hg hn => ?_, fun g n c E' fz ho hb' => ?_, hbig⟩
            · have hne : G.ι id ≠ some g := fun e' => by
                have := (h.good.lt id g hso e').2
                rw [hn] at this; cases this
              refine ⟨hoth g hg hne, ?_⟩
              rw [hone g ?_]
              · exact hn
              · intro e'; subst e'
                rcases hown0 with ⟨n0, h0⟩ | h0
                · rw [hn] at h0; cases h0
                · omega
            · by_cases hιg : G.ι id = some g
              · obtain ⟨c', fz', q1, q2, q3⟩ := hold g n c E' fz hιg ho hb'
                refine ⟨c', fz', q1, q2, fun n' hn' => ?_⟩
                by_cases e' : g = g'
                · have := q3 e'
                  subst e'; rw [hog] at hn'; cases hn'; exact this
                · rw [hone g e', ho] at hn'; cases hn'; exact Nat.le_refl _
              · refine ⟨c, fz, (hoth g (lt_of_heap hb') hιg).trans hb', fun _ _ => rfl, fun n' hn' => ?_⟩
                have e' : g ≠ g' := fun e' => by
                  subst e'
                  rcases hwhere with q | q
                  · exact hιg q
                  · exact absurd (lt_of_heap hb') (by omega)
                rw [hone g e', ho] at hn'; cases hn'; exact Nat.le_refl _
          have hr : RS E (S.kill id) a w' G' := by
            refine h.row hE hrow hstep (fun g hg hne => ⟨hoth g hg hne, ?_⟩) hι (fun g hg => ?_)
            · refine hone g fun e' => ?_
              subst e'
              rcases hwhere with q | q
              · exact hne q
              · omega
            · rw [hιid] at hg
              cases hg
              exact ⟨hlt, by simp [hog], hwhere⟩
          refine ⟨_, w', G', .inl (hop _ _ hrun), ⟨hstep, fun i g hXi hi hg ho => ?_⟩, hr.put (Stay.refl _ _ _) hr.hist hr.good ?_ rfl⟩
          · obtain ⟨hne, hsome⟩ := hX i hXi
            have hng : G.ι id ≠ some g := fun e' => hne (h.good.inj i id g hsome hso hi e')
            refine ⟨(hι i hne).trans hi, hoth g hg hng, (hone g fun e' => ?_).trans ho⟩
            subst e'
            rcases hwhere with q | q
            · exact hng q
            · omega
          have hrel : RelD w' G'.own (E.B.at (fr && fe)) (.slice (some ⟨g', 0, none⟩) (xs.length + ys.length) cap) (.sl (xs ++ ys)) := by
            have ble1 : (E.B.at (fr && fe)) ≤ (E.B.at fr) := E.B.and_l fr fe
            have ble2 : (E.B.at (fr && fe)) ≤ (E.B.at fe) := E.B.and_r fr fe
            refine RelD.sl0 (by simp) ?_ hb hcap (.inl hog) hlens (fun i j => if i < xs.length then cvx i j else cvy (i - xs.length) j) (fun i j hi hj => ?_) (fun i j ds c q1 q2 => ?_)
            · exact Nat.le_trans ble1 hBg
            · by_cases hi' : i < xs.length
              · simp only [if_pos hi']; exact hcx i j hi' hj
              · simp only [if_neg hi']
                have := hcy (i - xs.length) j (by simp at hi; omega) hj
                rwa [show xs.length + (i - xs.length) = i by omega] at this
            · by_cases hi' : i < xs.length
              · simp only [if_pos hi']
                rw [List.getElem?_append_left hi'] at q1
                exact ((hrx i j ds c q1 q2).mono ble1).step hstep
              · simp only [if_neg hi']
                rw [List.getElem?_append_right (by omega)] at q1
                refine (RelD.mono ble2 ?_).step hstep
                have hq := hry _ j ds c q1 q2
                rcases hfe with rfl | hv
                · exact hq
                · obtain ⟨u, rfl⟩ := hv ds (List.mem_of_getElem? q1) c (List.mem_of_getElem? q2)
                  exact hq.any
          refine .c (.own hrel hlens (fun _ => .inr ⟨g', cap, arr, by simp, hιid, hb, hcap, hcm, hasz, hog⟩) (fun _ g hg => ?_))
          rw [hιid] at hg
          cases hg
          exact Nat.le_trans (E.B.and_l fr fe) hBg
        have hmax : xs.length + ys.length ≤ maxLen := by unfold maxLen; omega
        have h63 : ((xs.length + ys.length : Nat) : Int) ≤ 9223372036854775807 := by omega
        rcases hok with ⟨⟨a0, rfl⟩, hn0, hιn⟩ | ⟨g, cap, cur, rfl, hιg, hb, hnc, hcm, hcs, ho⟩
        · -- nil
          have hx0 : xs = [] := List.eq_nil_of_length_eq_zero hn0
          subst hx0
          cases a0 with
          | some ad =>
            have nothing : ∀ r, (Builtin.append_ #[t, t] ty #[.slice (some ad) 0 0, vy]).run P w = .ok r w → r = .slice (some ad) 0 0 → ys = [] →
                ∃ v w'' G'', ((execOp a.eval ⟨d, .call { callee := .builtin .append, args := #[s, y], argTypes := #[t, t] }, ty, ps, af, gd⟩).run P w = .ok (.value v) w'' ∨
                ((execOp a.eval ⟨d, .call { callee := .builtin .append, args := #[s, y], argTypes := #[t, t] }, ty, ps, af, gd⟩).run P w = .ok .skip w'' ∧ v = undef)) ∧ Keep X w G w'' G'' ∧
                RS E ((S.kill id).setO d (.c (.own id e sz (fr && fe) ([] ++ ys)))) (a.put d v) w'' G'' := by
              rintro r hrun rfl rfl
              refine ⟨_, w, G, .inl (hop _ _ hrun), Keep.refl _ _ _, ?_⟩
              have hr : RS E (S.kill id) a w G := h.row hE hrow (Step.refl _ _) (fun _ _ _ => ⟨rfl, rfl⟩) (fun _ _ => rfl) (fun g hg => by rw [hιn] at hg; cases hg)
              exact hr.put (Stay.refl _ _ _) hr.hist hr.good (.c (.own (.emp _ _) (fun _ h => by cases h) (fun _ => .inl ⟨⟨_, rfl⟩, rfl, hιn⟩) (fun _ g hg => by rw [hιn] at hg; cases hg))) rfl
            rcases any_elems hdy hys with ⟨ay, cy, rfl, rfl⟩ | ⟨gy, oy, cy, rfl, cvy, hcy, hry⟩
            · refine nothing _ ?_ rfl rfl
              cases ay <;> simp [Builtin.append_, run_underlying hu, sizeOf, typeInfo, hi, Builtin.lenOf, Builtin.firstCells, loadCells, loadCellsFrom, storeCells]
            · by_cases hm : ys.length = 0
              · have hy0 : ys = [] := List.eq_nil_of_length_eq_zero hm
                subst hy0
                refine nothing _ ?_ rfl rfl
                simp [Builtin.append_, run_underlying hu, sizeOf, typeInfo, hi, Builtin.lenOf, Builtin.firstCells, loadCells, loadCellsFrom, storeCells]
              · have hrun := run_append_grow (P := P) w t ty e i z hu hi hiz ad 0 0 [] (by simp) (fun q v hq => by simp at hq) ⟨gy, oy, none⟩ ys.length cy (flat cvy ys.length sz) (by rw [flat_length, his]) (fun q v hq => by
                    obtain ⟨q1, q2, q3, q4⟩ := flat_back hq
                    rw [add_at, q3, show oy + q = oy + q / sz * sz + q % sz by omega]
                    exact hcy _ _ q1 q2) (by omega) (by simp only [List.length_nil, Nat.zero_add] at h63; simpa using h63)
                  (growslice_fits (by simp only [List.length_nil, Nat.zero_add] at hmax; unfold maxLen at *; omega) (by simp only [List.length_nil, Nat.zero_add] at hlen; rw [hib]; simpa using hlen))
                have hge := grownCap_ge w (0 + ys.length) 0 e
                refine fin _ w.heap.size _ _ (fun _ _ => undef) cvy (.inr (Nat.le_refl _)) (fun g hg _ => heap_alloc_old w.drew _ g hg) (by simp) rfl rfl rfl (fun g n c E' fz hg => by rw [hιn] at hg; cases hg) (.inr (Nat.le_refl _)) (by simp)
                  (heap_alloc_new w.drew _) (by simpa using hge) (grownCap_le_maxLen w (0 + ys.length) 0 e (by simp only [List.length_nil] at hmax; exact hmax)) ?_ (fun i j hi => absurd hi (by simp)) (fun i j ds d hi => by simp at hi) (fun i j hi hj => ?_) hry (Nat.le_trans (E.B.at_hi fr) h.hist.step.size) (fun g c E fz hb => ⟨c, fz, (heap_alloc_old w.drew _ g (lt_of_heap hb)).trans hb, Nat.le_refl _⟩) (by simpa using hrun)
                · simp only [Array.size_append, List.size_toArray, size_zeroCells, hzs, flat_length, List.length_nil, Nat.zero_add, ← Nat.add_mul] at hge ⊢
                  congr 1
                  omega
                · simp only [List.length_nil, Nat.zero_add]
                  rw [Array.getElem?_append_left (by
                    simp only [Array.size_append, List.size_toArray, flat_length, List.length_nil, Nat.zero_add]
                    have : (i + 1) * sz ≤ ys.length * sz := Nat.mul_le_mul_right _ hi
                    rw [Nat.add_mul, Nat.one_mul] at this
                    omega)]
                  simpa using flat_get cvy hi hj
          | none =>
          rcases any_elems hdy hys with ⟨ay, cy, rfl, rfl⟩ | ⟨gy, oy, cy, rfl, cvy, hcy, hry⟩
          · -- nothing to append
            have hrun : (Builtin.append_ #[t, t] ty #[.slice none 0 0, .slice ay 0 cy]).run P w = .ok (.slice none 0 0) w := by
              cases ay <;> simp [Builtin.append_, run_underlying hu, sizeOf, typeInfo, hi, Builtin.lenOf, Builtin.firstCells, loadCells, loadCellsFrom]
            refine ⟨_, w, G, .inl (hop _ _ hrun), Keep.refl _ _ _, ?_⟩
            have hr : RS E (S.kill id) a w G := h.row hE hrow (Step.refl _ _) (fun _ _ _ => ⟨rfl, rfl⟩) (fun _ _ => rfl) (fun g hg => by rw [hιn] at hg; cases hg)
            exact hr.put (Stay.refl _ _ _) hr.hist hr.good (.c (.own (.emp _ _) (fun _ h => by cases h) (fun _ => .inl ⟨⟨_, rfl⟩, rfl, hιn⟩) (fun _ g hg => by rw [hιn] at hg; cases hg))) rfl
          · by_cases hm : ys.length = 0
            · have hy0 : ys = [] := List.eq_nil_of_length_eq_zero hm
              subst hy0
              have hrun : (Builtin.append_ #[t, t] ty #[.slice none 0 0, .slice (some ⟨gy, oy, none⟩) 0 cy]).run P w = .ok (.slice none 0 0) w := by
                simp [Builtin.append_, run_underlying hu, sizeOf, typeInfo, hi, Builtin.lenOf, Builtin.firstCells, loadCells, loadCellsFrom]
              refine ⟨_, w, G, .inl (hop _ _ hrun), Keep.refl _ _ _, ?_⟩
              have hr : RS E (S.kill id) a w G := h.row hE hrow (Step.refl _ _) (fun _ _ _ => ⟨rfl, rfl⟩) (fun _ _ => rfl) (fun g hg => by rw [hιn] at hg; cases hg)
              exact hr.put (Stay.refl _ _ _) hr.hist hr.good (.c (.own (.emp _ _) (fun _ h => by cases h) (fun _ => .inl ⟨⟨_, rfl⟩, rfl, hιn⟩) (fun _ g hg => by rw [hιn] at hg; cases hg))) rfl
            · have hrun := run_append_nil (P := P) w t ty e i z hu hi hiz ⟨gy, oy, none⟩ ys.length cy (flat cvy ys.length sz) (by rw [flat_length, his]) (fun q v hq => by
                  obtain ⟨q1, q2, q3, q4⟩ := flat_back hq
                  rw [add_at, q3, show oy + q = oy + q / sz * sz + q % sz by omega]
                  exact hcy _ _ q1 q2) (by omega) (by simp only [List.length_nil, Nat.zero_add] at h63; exact h63) (by
                    simp only [List.length_nil, Nat.zero_add] at hlen
                    rw [hib]; omega)
              have hge := grownCap_ge w ys.length 0 e
              refine fin _ w.heap.size _ _ (fun _ _ => undef) cvy (.inr (Nat.le_refl _)) (fun g hg _ => heap_alloc_old w.drew _ g hg) (by simp) rfl rfl rfl (fun g n c E' fz hg => by rw [hιn] at hg; cases hg) (.inr (Nat.le_refl _)) (by simp)
                (heap_alloc_new w.drew _) (by simpa using hge) (grownCap_le_maxLen w ys.length 0 e (by simp only [List.length_nil, Nat.zero_add] at hmax; exact hmax)) ?_ (fun i j hi => absurd hi (by simp)) (fun i j ds d hi => by simp at hi) (fun i j hi hj => ?_) hry (Nat.le_trans (E.B.at_hi fr) h.hist.step.size) (fun g c E fz hb => ⟨c, fz, (heap_alloc_old w.drew _ g (lt_of_heap hb)).trans hb, Nat.le_refl _⟩) (by simpa using hrun)
              · simp only [Array.size_append, List.size_toArray, size_zeroCells, hzs, flat_length, ← Nat.add_mul]
                congr 1
                omega
              · simp only [List.length_nil, Nat.zero_add]
                rw [Array.getElem?_append_left (by
                  simp only [List.size_toArray, flat_length]
                  have : (i + 1) * sz ≤ ys.length * sz := Nat.mul_le_mul_right _ hi
                  rw [Nat.add_mul, Nat.one_mul] at this
                  omega)]
                simpa using flat_get cvy hi hj
        · obtain ⟨cvx, hcx, hrx⟩ := head_elems hdx hb hxs
          have hglt := lt_of_heap hb
          have hold1 : ∀ g2 n2 c2 E2 fz2, G.ι id = some g2 → G.own g2 = some n2 → w.heap[g2]? = some (.cells c2 E2 fz2) → g2 = g ∧ n2 = xs.length * sz ∧ c2 = cur ∧ E2 = e ∧ fz2 = (0, 0) := fun g2 n2 c2 E2 fz2 q1 q2 q3 => by
            rw [hιg] at q1; cases q1
            rw [ho] at q2; cases q2
            rw [hb] at q3; cases q3
            exact ⟨rfl, rfl, rfl, rfl, rfl⟩
          have hcx' : ∀ i j, i < xs.length → j < sz → i * sz + j < xs.length * sz := fun i j hi hj => by
            have : (i + 1) * sz ≤ xs.length * sz := Nat.mul_le_mul_right _ hi
            rw [Nat.add_mul, Nat.one_mul] at this
            omega
          have main : ∀ (ad : Addr) (cy : Nat) (cvy : Nat → Nat → Value), vy = .slice (some ad) ys.length cy →
              (∀ q v, (flat cvy ys.length sz)[q]? = some v → w.cell? (ad.add q) = some v) → (∀ u ∈ flat cvy ys.length sz, u.oneCell' = true) →
              (∀ i j ds d, ys[i]? = some ds → ds[j]? = some d → RelD w G.own (E.B.at fy) (cvy i j) d) →
              ∃ v w'' G'', ((execOp a.eval ⟨d, .call { callee := .builtin .append, args := #[s, y], argTypes := #[t, t] }, ty, ps, af, gd⟩).run P w = .ok (.value v) w'' ∨
                ((execOp a.eval ⟨d, .call { callee := .builtin .append, args := #[s, y], argTypes := #[t, t] }, ty, ps, af, gd⟩).run P w = .ok .skip w'' ∧ v = undef)) ∧ Keep X w G w'' G'' ∧
                RS E ((S.kill id).setO d (.c (.own id e sz (fr && fe) (xs ++ ys)))) (a.put d v) w'' G'' := by
            rintro ad cy cvy rfl hnews hone hry
            by_cases hroom : xs.length + ys.length ≤ cap
            · have hfit : xs.length * sz + (flat cvy ys.length sz).length ≤ cur.size := by
                rw [flat_length, hcs, ← Nat.add_mul]; exact Nat.mul_le_mul_right _ hroom
              have hrun := run_append_room (P := P) w t ty e i hu hi g xs.length cap cur hb ad ys.length cy (flat cvy ys.length sz) (by rw [flat_length, his]) hnews hone hroom (by rw [his]; exact hfit)
              rw [his] at hrun
              have hns : xs.length * sz ≤ cur.toList.length := by simp; omega
              have hget : ∀ q, (cur.toList.take (xs.length * sz) ++ flat cvy ys.length sz ++ cur.toList.drop (xs.length * sz + (flat cvy ys.length sz).length)).toArray[q]? =
                  if q < xs.length * sz then cur[q]? else if q < xs.length * sz + ys.length * sz then (flat cvy ys.length sz)[q - xs.length * sz]? else cur[q]? := by
                intro q
                rw [List.getElem?_toArray, List.append_assoc, List.getElem?_append]
                simp only [List.length_take, Nat.min_eq_left hns]
                by_cases q1 : q < xs.length * sz
                · rw [if_pos q1, if_pos q1, List.getElem?_take, if_pos q1]; simp
                · rw [if_neg q1, if_neg q1, List.getElem?_append, flat_length]
                  by_cases q2 : q < xs.length * sz + ys.length * sz
                  · rw [if_pos (by omega), if_pos q2]
                  · rw [if_neg (by omega), if_neg q2, List.getElem?_drop]
                    simp only [Array.getElem?_toList]
                    congr 1
                    omega
              refine fin _ g cap _ cvx cvy (.inl ⟨_, ho⟩) (fun g2 hg2 hne => setRow_other w g g2 _ (fun e' => hne (by rw [e']; exact hιg))) (by simp) rfl rfl rfl (fun g2 n2 c2 E2 fz2 q1 q2 q3 => ?_) (.inl hιg) (by simpa using hglt)
                (setRow_heap w g cur _ e _ hb) (by simpa using hroom) hcm ?_ (fun i j hi hj => ?_) hrx (fun i j hi hj => ?_) hry (hB hlv g hιg) (fun g2 c2 E2 fz2 hb2 => ?_) hrun
              · obtain ⟨rfl, rfl, rfl, rfl, rfl⟩ := hold1 g2 n2 c2 E2 fz2 q1 q2 q3
                refine ⟨_, _, setRow_heap w g2 c2 _ E2 _ hb, fun q hq => ?_, fun _ => ?_⟩
                · rw [hget, if_pos hq]
                · rw [List.length_append, Nat.add_mul]; omega
              · simp only [List.size_toArray, List.length_append, List.length_take, List.length_drop, Array.length_toList, flat_length]
                rw [flat_length] at hfit
                omega
              · rw [hget, if_pos (hcx' i j hi hj)]; exact hcx i j hi hj
              · have q1 : i * sz + j < ys.length * sz := by
                  have : (i + 1) * sz ≤ ys.length * sz := Nat.mul_le_mul_right _ hi
                  rw [Nat.add_mul, Nat.one_mul] at this
                  omega
                rw [hget, Nat.add_mul, if_neg (by omega), if_pos (by omega), show xs.length * sz + i * sz + j - xs.length * sz = i * sz + j by omega]
                exact flat_get cvy hi hj
              · by_cases e' : g2 = g
                · subst e'
                  rw [hb] at hb2; cases hb2
                  refine ⟨_, _, setRow_heap w g2 cur _ e _ hb, ?_⟩
                  simp only [List.size_toArray, List.length_append, List.length_take, List.length_drop, Array.length_toList, flat_length]
                  omega
                · exact ⟨c2, fz2, (setRow_other w g g2 _ e').trans hb2, Nat.le_refl _⟩
            · have holds : ∀ q v, (flat cvx xs.length sz)[q]? = some v → w.cell? ((⟨g, 0, none⟩ : Addr).add q) = some v := fun q v hq => by
                obtain ⟨q1, q2, q3, q4⟩ := flat_back hq
                rw [add_at, cell_at hb, q3, show 0 + q = q / sz * sz + q % sz by omega]
                exact hcx _ _ q1 q2
              have hrun := run_append_grow (P := P) w t ty e i z hu hi hiz ⟨g, 0, none⟩ xs.length cap (flat cvx xs.length sz) (by rw [flat_length, his]) holds ad ys.length cy (flat cvy ys.length sz) (by rw [flat_length, his]) hnews (by omega) h63
                (growslice_fits (by omega) (by rw [hib]; exact hlen))
              have hge := grownCap_ge w (xs.length + ys.length) cap e
              refine fin _ w.heap.size _ _ cvx cvy (.inr (Nat.le_refl _)) (fun g2 hg2 _ => heap_alloc_old w.drew _ g2 hg2) (by simp) rfl rfl rfl (fun g2 n2 c2 E2 fz2 q1 q2 q3 => ?_) (.inr (Nat.le_refl _)) (by simp)
                (heap_alloc_new w.drew _) (by simpa using hge) (grownCap_le_maxLen w _ cap e hmax) ?_ (fun i j hi hj => ?_) hrx (fun i j hi hj => ?_) hry (Nat.le_trans (E.B.at_hi fr) h.hist.step.size) (fun g c E fz hb => ⟨c, fz, (heap_alloc_old w.drew _ g (lt_of_heap hb)).trans hb, Nat.le_refl _⟩) hrun
              · obtain ⟨rfl, rfl, rfl, rfl, rfl⟩ := hold1 g2 n2 c2 E2 fz2 q1 q2 q3
                exact ⟨c2, _, (heap_alloc_old w.drew _ g2 hglt).trans hb, fun _ _ => rfl, fun e' => absurd hglt (by omega)⟩
              · simp only [Array.size_append, List.size_toArray, size_zeroCells, hzs, flat_length, ← Nat.add_mul]
                congr 1
                omega
              · rw [Array.getElem?_append_left (by simp only [Array.size_append, List.size_toArray, flat_length]; have := hcx' i j hi hj; omega), Array.getElem?_append_left (by simp only [List.size_toArray, flat_length]; exact hcx' i j hi hj)]
                simpa using flat_get cvx hi hj
              · have q1 : i * sz + j < ys.length * sz := by
                  have : (i + 1) * sz ≤ ys.length * sz := Nat.mul_le_mul_right _ hi
                  rw [Nat.add_mul, Nat.one_mul] at this
                  omega
                rw [Nat.add_mul, Array.getElem?_append_left (by simp only [Array.size_append, List.size_toArray, flat_length]; omega), Array.getElem?_append_right (by simp only [List.size_toArray, flat_length]; omega)]
                simp only [List.size_toArray, flat_length, List.getElem?_toArray]
                rw [show xs.length * sz + i * sz + j - xs.length * sz = i * sz + j by omega]
                exact flat_get cvy hi hj
          rcases any_elems hdy hys with ⟨ay, cy, rfl, rfl⟩ | ⟨gy, oy, cy, rfl, cvy, hcy, hry⟩
          · cases ay with
            | some ad => exact main ad cy (fun _ _ => undef) rfl (fun q v hq => by simp [flat] at hq) (fun u hu => by simp [flat] at hu) (fun i j ds d hi => by simp at hi)
            | none =>
              have hrun : (Builtin.append_ #[t, t] ty #[.slice (some ⟨g, 0, none⟩) xs.length cap, .slice none 0 cy]).run P w = .ok (.slice (some ⟨g, 0, none⟩) xs.length cap) w := by
                simp [Builtin.append_, run_underlying hu, sizeOf, typeInfo, hi, Builtin.lenOf, Builtin.firstCells, loadCells, loadCellsFrom, hnc, storeCells]
              refine fin w g cap cur cvx (fun _ _ => undef) (.inl ⟨_, ho⟩) (fun _ _ _ => rfl) (Nat.le_refl _) rfl rfl rfl (fun g2 n2 c2 E2 fz2 q1 q2 q3 => ?_) (.inl hιg) hglt hb (by simpa using hnc) hcm hcs hcx hrx (fun i j hi => absurd hi (by simp)) (fun i j ds d hi => by simp at hi) (hB hlv g hιg) (fun g2 c2 E2 fz2 hb2 => ⟨c2, fz2, hb2, Nat.le_refl _⟩) (by simpa using hrun)
              obtain ⟨rfl, rfl, rfl, rfl, rfl⟩ := hold1 g2 n2 c2 E2 fz2 q1 q2 q3
              exact ⟨c2, _, hb, fun _ _ => rfl, fun _ => by simp⟩
          · refine main ⟨gy, oy, none⟩ cy cvy rfl (fun q v hq => ?_) (fun u hu => ?_) hry
            · obtain ⟨q1, q2, q3, q4⟩ := flat_back hq
              rw [add_at, q3, show oy + q = oy + q / sz * sz + q % sz by omega]
              exact hcy _ _ q1 q2
            · obtain ⟨q, hq⟩ := List.mem_iff_getElem?.1 hu
              obtain ⟨q1, q2, q3, q4⟩ := flat_back hq
              rw [q3]
              have h1 : q % sz < (ys[q / sz]).length := by rw [hys _ (List.getElem_mem q1)]; exact q2
              exact (hry (q / sz) (q % sz) ys[q / sz] (ys[q / sz][q % sz]) (by simp [q1]) (by simp [h1])).oneCell)
theorem D_append {s y : Operand} {t id e sz bytes : Nat} {z : Value} {fr fy : Bool} {xs ys : List (List D)}
    (hu : P.underlying t = some (.slice e)) (hz : (P.info? e).map (fun i => (i.size, i.bytes, i.zero)) = some (sz, bytes, some z)) (hsz : 0 < sz) (hzs : z.cells.size = sz)
    (hx : S.ev s = .c (.own id e sz fr xs)) (hE : E.σ id = none) (hX : Free X S id) (hrow : S.σ id = some .row) (hy : slOf (S.ev y) = some (fy, ys)) (hys : ∀ ds ∈ ys, ds.length = sz)
    (hlen : (xs.length + ys.length) * bytes ≤ 140737488355328) (hlen2 : xs.length + ys.length ≤ 4611686018427387904) :
    Does X P E S ⟨d, .call { callee := .builtin .append, args := #[s, y], argTypes := #[t, t] }, ty, ps, af, gd⟩ ((S.kill id).setO d (.c (.own id e sz (fr && fy) (xs ++ ys)))) := D_appendF (.inl rfl) hu hz hsz hzs hx hE hX hrow hy hys hlen hlen2
end
end Go.Proofs.YthaiegnohkiegaaGreat.Ab
/-
  The calculus, continued: structs and slices that are built, pieces of slices, what is made, frozen.
-/
namespace Go.Proofs.YthaiegnohkiegaaGreat.Ab
open Go.RowKit (Below)
set_option linter.unusedVariables false
set_option linter.unusedSimpArgs false

def laid (P : Program) (t : TypeId) : Option (List (Nat × Nat) × Value) :=
  match P.info? t, P.underlying t with
  | some it, some (.struct fields) =>
    match it.zero, fields.toList.mapM (fun f => (P.info? f.type).map fun i => (f.offset, i.size)) with
    | some z, some places => some (places, z)
    | _, _ => none
  | _, _ => none

theorem built_of_laid {P : Program} {t : TypeId} {places : List (Nat × Nat)} {z : Value} (h : laid P t = some (places, z)) (parts : List (Nat × Value)) :
    P.built t parts = Instr.fill (places.toArray[·]?) z.cells parts := by
  unfold laid at h
  unfold Program.built
  split at h
  · rename_i it fields h1 h2
    rw [h1, h2]
    split at h
    · rename_i z' pl h3 h4
      cases h
      simp only [h3, h4]
    · cases h
  · cases h

def foldSet (off : Nat) (vs : Array Value) (cells : Array Value) : Array Value := vs.zipIdx.foldl (fun cs (c, j) => cs.setIfInBounds (off + j) c) cells
theorem foldSet_list (off : Nat) : ∀ (l : List Value) (k : Nat) (cells : Array Value) (q : Nat),
    ((l.zipIdx k).foldl (fun cs x => cs.setIfInBounds (off + x.2) x.1) cells)[q]? = if off + k ≤ q ∧ q < off + k + l.length ∧ q < cells.size then l[q - (off + k)]? else cells[q]?
  | [], k, cells, q => by simp; omega
  | v :: l, k, cells, q => by
    simp only [List.zipIdx_cons, List.foldl_cons]
    rw [foldSet_list off l (k + 1) _ q]
    simp only [Array.size_setIfInBounds, List.length_cons]
    by_cases h1 : q = off + k
    · subst h1
      rw [if_neg (by omega)]
      by_cases h2 : off + k < cells.size
      · rw [if_pos (by omega), Array.getElem?_setIfInBounds_self_of_lt h2]; simp
      · rw [if_neg (by omega)]
        rw [Array.getElem?_eq_none (by simp; omega), Array.getElem?_eq_none (by omega)]
    · rw [Array.getElem?_setIfInBounds_ne (by omega)]
      by_cases h2 : off + (k + 1) ≤ q ∧ q < off + (k + 1) + l.length ∧ q < cells.size
      · rw [if_pos h2, if_pos (by omega), show q - (off + k) = (q - (off + (k + 1))) + 1 by omega, List.getElem?_cons_succ]
      · rw [if_neg h2, if_neg (by omega)]
theorem foldSet_get (off : Nat) (vs cells : Array Value) (q : Nat) : (foldSet off vs cells)[q]? = if off ≤ q ∧ q < off + vs.size ∧ q < cells.size then vs[q - off]? else cells[q]? := by
  have := foldSet_list off vs.toList 0 cells q
  unfold foldSet
  rw [← Array.foldl_toList, Array.toList_zipIdx]
  simpa using this
theorem foldSet_size (off : Nat) (vs cells : Array Value) : (foldSet off vs cells).size = cells.size := by
  have h : ∀ (l : List (Value × Nat)) (c : Array Value), (l.foldl (fun cs x => cs.setIfInBounds (off + x.2) x.1) c).size = c.size := fun l => by
    induction l with
    | nil => intro c; rfl
    | cons x l ih => intro c; rw [List.foldl_cons, ih]; simp
  unfold foldSet
  rw [← Array.foldl_toList]
  exact h _ _

theorem fill_cons (place : Nat → Option (Nat × Nat)) (cells : Array Value) (i : Nat) (v : Value) (rest : List (Nat × Value)) {off size : Nat} (h : place i = some (off, size)) (h1 : v.cells.size = size) (h2 : off + size ≤ cells.size) :
    Instr.fill place cells ((i, v) :: rest) = Instr.fill place (foldSet off v.cells cells) rest := by
  simp only [Instr.fill, h]
  subst h1
  have h3 : ¬ (cells.size < off + v.cells.size) := by omega
  simp [h3, foldSet]

/-- A struct's cells, built. -/
def fillC (places : List (Nat × Nat)) : List C → List (Nat × V) → Option (List C)
  | cs, [] => some cs
  | cs, (i, v) :: rest => match places[i]?, v.cells with
    | some (off, size), some new => bif Nat.beq new.length size && Nat.ble (off + size) cs.length then fillC places (setL cs off new) rest else none
    | _, _ => none

section
variable {X : Nat → Bool} {P : Program} {E : Ent} {S : St} {Q : Exit → St → Prop} {ops : Array Oper} {rest : List Oper}
  {d : Option Tmp} {ty : TypeId} {ps : String} {af : Array Edge} {gd : Option (Nat × Bool)}

theorem fillC_rel {w : World} {G : Env} {B : Base} {lv : Nat → Bool} {places : List (Nat × Nat)} : ∀ (l : List (Nat × Value × V)) (cells : Array Value) (cs cs' : List C),
    (∀ x ∈ l, RelV w G B lv x.2.1 x.2.2) → cells.size = cs.length → (∀ j c, cs[j]? = some c → RelC w G B lv (cells.getD j undef) c) →
    fillC places cs (l.map fun x => (x.1, x.2.2)) = some cs' →
    ∃ cells', Instr.fill (places.toArray[·]?) cells (l.map fun x => (x.1, x.2.1)) = some cells' ∧ cells'.size = cs'.length ∧ ∀ j c, cs'[j]? = some c → RelC w G B lv (cells'.getD j undef) c
  | [], cells, cs, cs', _, h1, h2, h => by
    simp only [List.map_nil, fillC, Option.some.injEq] at h
    subst h
    exact ⟨cells, rfl, h1, h2⟩
  | (i, v, x) :: l, cells, cs, cs', hl, h1, h2, h => by
    simp only [List.map_cons, fillC] at h
    cases hp : places[i]? with
    | none => rw [hp] at h; cases h
    | some pq =>
      obtain ⟨off, size⟩ := pq
      cases hc : x.cells with
      | none => rw [hp, hc] at h; cases h
      | some new =>
        rw [hp, hc] at h
        simp only at h
        cases hb : (Nat.beq new.length size && Nat.ble (off + size) cs.length) with
        | false => rw [hb] at h; cases h
        | true =>
          rw [hb] at h
          simp only [cond_true] at h
          simp only [Bool.and_eq_true] at hb
          have e1 : new.length = size := Nat.eq_of_beq_eq_true hb.1
          have e2 : off + size ≤ cs.length := Nat.le_of_ble_eq_true hb.2
          obtain ⟨c1, c2⟩ := cells_rel (show RelV w G B lv v x from hl (i, v, x) (by simp)) hc
          simp only [List.map_cons]
          rw [fill_cons _ cells i v _ (off := off) (size := size) (by simpa using hp) (by omega) (by omega)]
          refine fillC_rel l _ (setL cs off new) cs' (fun y hy => hl y (by simp [hy])) (by rw [foldSet_size, setL_length, h1]) (fun j c hj => ?_) h
          have hg : (foldSet off v.cells cells).getD j undef = if off ≤ j ∧ j < off + v.cells.size ∧ j < cells.size then v.cells.getD (j - off) undef else cells.getD j undef := by
            simp only [Array.getD_eq_getD_getElem?, foldSet_get]
            split <;> rfl
          rw [hg]
          rcases setL_get new cs off j c (by omega) hj with ⟨d1, d2⟩ | ⟨d1, d2⟩
          · have := (List.getElem?_eq_some_iff.1 d2).1
            rw [if_pos (by omega)]
            exact c2 _ c d2
          · rw [if_neg (by omega)]
            exact h2 j c d2

theorem T_build {t : TypeId} {parts : Array (Nat × Operand)} {places : List (Nat × Nat)} {z : Value} {zs cs : List C}
    (hl : laid P t = some (places, z)) (hz : (constV z).cells = some zs) (hc : fillC places zs (parts.toList.map fun x => (x.1, S.ev x.2)) = some cs) :
    Tells X P E S ⟨d, .build t parts, ty, ps, af, gd⟩ (.agg cs) :=
  fun a w G h => by
    obtain ⟨h1, h2⟩ := cells_rel (constV_rel w G E.B (lvOf S.σ) z) hz
    obtain ⟨cells', e1, e2, e3⟩ := fillC_rel (w := w) (G := G) (B := E.B) (lv := lvOf S.σ) (places := places) (parts.toList.map fun x => (x.1, a.eval x.2, S.ev x.2)) z.cells zs cs
      (fun x hx => by
        obtain ⟨y, hy, rfl⟩ := List.mem_map.1 hx
        exact ev_rel h y.2) h1 h2 (by rw [List.map_map]; exact hc)
    refine ⟨.agg cells', ?_, .agg _ e2 e3⟩
    have hb : P.built t (parts.map fun (i, x) => (i, a.eval x)).toList = some cells' := by
      rw [built_of_laid hl]
      rw [List.map_map] at e1
      simpa [Function.comp_def] using e1
    intro w' G' hk
    simp only [execOp]
    rw [Sem.run_bind, run_build w' t _ cells' hb]
    rfl

/-- What a cell says as data; nil slices are empty ones. -/
def C.data : C → Option (Bool × D)
  | .d _ (.val (.slice Option.none 0 0)) => some (true, .sl [])
  | .d _ (.val v) => some (true, .val v)
  | .d fr x => some (fr, x)
  | .own _ _ _ fr xs => some (fr, .sl xs)
  | .ex fr xs => some (fr, .sl xs)
  | _ => Option.none
theorem data_rel {w : World} {G : Env} {B : Base} {lv : Nat → Bool} {v : Value} {c : C} {fr : Bool} {x : D} (h : RelC w G B lv v c) (hc : c.data = some (fr, x)) : RelD w G.own (B.at fr) v x := by
  unfold C.data at hc
  split at hc
  · cases hc
    cases h with
    | d h => cases h; exact .emp _ _
  · cases hc
    cases h with
    | d h => cases h; exact .val _ (by assumption)
  · cases hc
    cases h with
    | d h => exact h
  · cases hc
    cases h with
    | own h => exact h
  · cases hc
    cases h with
    | ex h => exact h
  · cases hc
def dataL : List C → Option (Bool × List D)
  | [] => some (true, [])
  | c :: cs => match c.data, dataL cs with
    | some (f, x), some (g, xs) => some (f && g, x :: xs)
    | _, _ => none
theorem dataL_get : ∀ {cs : List C} {fr : Bool} {xs : List D}, dataL cs = some (fr, xs) → xs.length = cs.length ∧ ∀ (j : Nat) (x : D), xs[j]? = some x → ∃ (c : C) (f : Bool), cs[j]? = some c ∧ c.data = some (f, x) ∧ (fr = true → f = true)
  | [], fr, xs, h => by cases h; exact ⟨rfl, fun j x hj => by simp at hj⟩
  | c :: cs, fr, xs, h => by
    simp only [dataL] at h
    split at h
    · rename_i f x g xs' h1 h2
      cases h
      obtain ⟨q1, q2⟩ := dataL_get h2
      refine ⟨by simp [q1], fun j y hj => ?_⟩
      cases j with
      | zero => cases hj; exact ⟨c, f, by simp, h1, fun h => by simp only [Bool.and_eq_true] at h; exact h.1⟩
      | succ j =>
        obtain ⟨c', f', e1, e2, e3⟩ := q2 j y (by simpa using hj)
        exact ⟨c', f', by simpa using e1, e2, fun h => by simp only [Bool.and_eq_true] at h; exact e3 h.2⟩
    · cases h

/-- The rows of a slice literal: its parts in order. -/
def rowsOf : Nat → List (Nat × V) → Option (Bool × List (List D))
  | _, [] => some (true, [])
  | i, (j, v) :: rest => bif Nat.beq i j then (match v.cells with
      | some cs => (match dataL cs, rowsOf (i + 1) rest with
        | some (f, x), some (g, xs) => some (f && g, x :: xs)
        | _, _ => none)
      | none => none) else none

theorem fill_rows {w : World} {G : Env} {B : Base} {lv : Nat → Bool} {sz : Nat} : ∀ (l : List (Nat × Value × V)) (i : Nat) (cells : Array Value) (fr : Bool) (xs : List (List D)),
    (∀ x ∈ l, RelV w G B lv x.2.1 x.2.2) → rowsOf i (l.map fun x => (x.1, x.2.2)) = some (fr, xs) → (∀ ds ∈ xs, ds.length = sz) → (i + l.length) * sz ≤ cells.size →
    ∃ cells', Instr.fill (fun i => some (i * sz, sz)) cells (l.map fun x => (x.1, x.2.1)) = some cells' ∧ cells'.size = cells.size ∧ xs.length = l.length ∧
      (∀ q, q < i * sz → cells'[q]? = cells[q]?) ∧ ∃ cv : Nat → Nat → Value, (∀ k j, k < l.length → j < sz → cells'[(i + k) * sz + j]? = some (cv k j)) ∧
      ∀ k j ds d, xs[k]? = some ds → ds[j]? = some d → RelD w G.own (B.at fr) (cv k j) d
  | [], i, cells, fr, xs, _, h, _, _ => by
    simp only [List.map_nil, rowsOf, Option.some.injEq, Prod.mk.injEq] at h
    obtain ⟨rfl, rfl⟩ := h
    exact ⟨cells, rfl, rfl, rfl, fun _ _ => rfl, fun _ _ => undef, fun k j hk => absurd hk (by simp), fun k j ds d hk => by simp at hk⟩
  | (i', v, x) :: l, i, cells, fr, xs, hl, h, hs, hsz => by
    simp only [List.map_cons, rowsOf] at h
    cases hb : Nat.beq i i' with
    | false => rw [hb] at h; cases h
    | true =>
      have := Nat.eq_of_beq_eq_true hb
      subst this
      rw [hb] at h
      simp only [cond_true] at h
      split at h
      · rename_i cs hcs
        split at h
        · rename_i f y g ys h1 h2
          simp only [Option.some.injEq, Prod.mk.injEq] at h
          obtain ⟨rfl, rfl⟩ := h
          obtain ⟨c1, c2⟩ := cells_rel (show RelV w G B lv v x from hl (i, v, x) (by simp)) hcs
          obtain ⟨d1, d2⟩ := dataL_get h1
          have hy := hs y (by simp)
          have hm : (i + 1) * sz ≤ (i + (l.length + 1)) * sz := Nat.mul_le_mul_right _ (by omega)
          have hm' : (i + 1) * sz = i * sz + sz := by rw [Nat.add_mul, Nat.one_mul]
          simp only [List.length_cons] at hsz
          obtain ⟨cells', e1, e2, e3, e4, cv, e5, e6⟩ := fill_rows l (i + 1) (foldSet (i * sz) v.cells cells) g ys (fun y hy => hl y (by simp [hy])) h2 (fun ds hds => hs ds (by simp [hds])) (by rw [foldSet_size]; rwa [show i + 1 + l.length = i + (l.length + 1) by omega])
          have ble1 : B.at (f && g) ≤ B.at f := B.and_l f g
          have ble2 : B.at (f && g) ≤ B.at g := B.and_r f g
          refine ⟨cells', ?_, e2.trans (foldSet_size _ _ _), by simp [e3], fun q hq => ?_, fun k j => match k with | 0 => v.cells.getD j undef | k + 1 => cv k j, fun k j hk hj => ?_, fun k j ds c hk hj => ?_⟩
          · simp only [List.map_cons]
            rw [fill_cons _ cells i v _ (off := i * sz) (size := sz) rfl (by omega) (by omega)]
            exact e1
          · rw [e4 q (by omega), foldSet_get, if_neg (by omega)]
          · match k with
            | 0 =>
              have hj' : j < v.cells.size := by omega
              simp only [Nat.add_zero]
              rw [e4 _ (by omega), foldSet_get, if_pos (by omega)]
              simp [hj']
            | k + 1 =>
              have := e5 k j (by simpa using hk) hj
              rwa [show i + 1 + k = i + (k + 1) by omega] at this
          · match k, hk with
            | 0, hk =>
              cases hk
              obtain ⟨c', f', q1, q2, q3⟩ := d2 j c hj
              refine (data_rel (c2 j c' q1) q2).mono ?_
              exact Nat.le_trans ble1 (B.mono q3)
            | k + 1, hk => exact (e6 k j ds c (by simpa using hk) hj).mono ble2
        · cases h
      · cases h

theorem D_buildSlice {t e n sz : Nat} {parts : Array (Nat × Operand)} {z : Value} {fr : Bool} {xs : List (List D)}
    (hu : P.underlying t = some (.slice e)) (hz : (P.info? e).map (fun i => (i.size, i.zero)) = some (sz, some z)) (hn : n = parts.size) (hsmall : Nat.ble (n * sz) 16777216 = true)
    (hc : rowsOf 0 (parts.toList.map fun x => (x.1, S.ev x.2)) = some (fr, xs)) (hs : ∀ ds ∈ xs, ds.length = sz) :
    Does X P E S ⟨d, .buildSlice t n parts, ty, ps, af, gd⟩ (S.setO d (.c (.d fr (.sl xs)))) :=
  Does_op (fun a w G h => by
    obtain ⟨i, hi, hi2⟩ := Option.map_eq_some_iff.1 hz
    simp only [Prod.mk.injEq] at hi2
    obtain ⟨his, hiz⟩ := hi2
    have hle : ¬ (16777216 < n * sz) := by have := Nat.le_of_ble_eq_true hsmall; omega
    obtain ⟨z0, hz0⟩ : ∃ z0 : Array Value, ∀ (parts' : Array (Nat × Value)) (cells' : Array Value), Instr.fill (fun i => some (i * sz, sz)) ((Array.range (n * sz)).map (z0[· % z0.size]!)) parts'.toList = some cells' →
        (Instr.buildSlice t n parts').run P w = .ok (.slice (some ⟨w.heap.size, 0, none⟩) n n) (w.alloc (.cells cells' e)) := by
      by_cases h0 : n * sz = 0
      · refine ⟨#[], fun parts' cells' hf => ?_⟩
        simp [Instr.buildSlice, run_underlying hu, sizeOf, typeInfo, hi, his, h0] at hf ⊢
        simp [hf, newRow]
      · refine ⟨z.cells, fun parts' cells' hf => ?_⟩
        simp [Instr.buildSlice, run_underlying hu, sizeOf, typeInfo, zeroValue, hi, his, hiz, h0, hle] at hf ⊢
        simp [hf, newRow]
    obtain ⟨cells', e1, e2, e3, e4, cv, e5, e6⟩ := fill_rows (w := w) (G := G) (B := E.B) (lv := lvOf S.σ) (sz := sz) (parts.toList.map fun x => (x.1, a.eval x.2, S.ev x.2)) 0
      ((Array.range (n * sz)).map (z0[· % z0.size]!)) fr xs
      (fun x hx => by
        obtain ⟨y, hy, rfl⟩ := List.mem_map.1 hx
        exact ev_rel h y.2) (by rw [List.map_map]; exact hc) hs (by simp [hn])
    have e1' : Instr.fill (fun i => some (i * sz, sz)) ((Array.range (n * sz)).map (z0[· % z0.size]!)) (parts.map fun (i, x) => (i, a.eval x)).toList = some cells' := by
      rw [List.map_map] at e1
      simpa [Function.comp_def] using e1
    have hp : PExt w G (w.alloc (.cells cells' e)) { G with own := fun g => bif Nat.beq g w.heap.size then none else G.own g } :=
      ⟨by simp, rfl, rfl, rfl, fun g hg => heap_alloc_old w _ g hg, fun g hg => by show (bif _ then _ else _) = _; rw [beq_ne (by omega)]; rfl⟩
    have hlen : xs.length = n := by simp [e3, hn]
    refine ⟨.slice (some ⟨w.heap.size, 0, none⟩) n n, w.alloc (.cells cells' e), _, .inl ?_, hp.keep rfl, h.ext hp rfl (.c (.d ?_)) rfl⟩
    · simp only [execOp]
      rw [Sem.run_bind, hz0 _ _ e1']
      rfl
    · refine RelD.sl0 (sz := sz) (by omega) ?_ (heap_alloc_new w _) (by omega) (.inr (by simp)) hs cv (fun i j hi hj => ?_) (fun i j ds c q1 q2 => (e6 i j ds c q1 q2).step hp.step)
      · exact Nat.le_trans (E.B.at_hi fr) h.hist.step.size
      · have := e5 i j (by simpa [e3] using hi) hj
        simpa using this)
end
end Go.Proofs.YthaiegnohkiegaaGreat.Ab
/-
  The calculus, continued: pieces of slices, make, what is frozen; functions (Fn), their calls, and a function's proof from its body.
-/
namespace Go.Proofs.YthaiegnohkiegaaGreat.Ab
open Go.RowKit (Below)
set_option linter.unusedVariables false
set_option linter.unusedSimpArgs false

section
variable {X : Nat → Bool} {P : Program} {E : Ent} {S : St} {Q : Exit → St → Prop} {ops : Array Oper} {rest : List Oper}
  {d : Option Tmp} {ty : TypeId} {ps : String} {af : Array Edge} {gd : Option (Nat × Bool)}

def bndI (S : St) (dflt : Int) : Option Operand → Option Int
  | none => some dflt
  | some o => match valOf (S.ev o) with
    | some (.int _ i) => some i
    | _ => none

theorem bnd_run {a : Act} {w : World} {G : Env} (h : RS E S a w G) {o : Operand} {dflt i : Int} (hb : bndI S dflt (some o) = some i) : ∃ k, a.eval o = .int k i := by
  simp only [bndI] at hb
  split at hb
  · rename_i k j e
    cases hb
    exact ⟨k, (valOf_rel (ev_rel h o) e).1⟩
  · cases hb

theorem sliceBound_run {w : World} {k : IntKind} {i : Int} {y : Nat} (c : BoundsCode) (h0 : 0 ≤ i) (h1 : i ≤ y) : (Instr.sliceBound (.int k i) y c).run P w = .ok i.toNat w := by
  simp [Instr.sliceBound, asIntOf, h0, h1]

theorem sliceBounds_run {a : Act} {w0 w : World} {G : Env} (h : RS E S a w0 G) {lo hi mx : Option Operand} {i j m : Int} {len cap : Nat} (isS : Bool)
    (hlo : bndI S 0 lo = some i) (hhi : bndI S len hi = some j) (hmx : (mx = none ∧ m = cap) ∨ (mx.isSome = true ∧ hi.isSome = true ∧ bndI S 0 mx = some m)) (h0 : 0 ≤ i) (h1 : i ≤ j) (h2 : j ≤ m) (h3 : m ≤ cap) :
    (Instr.sliceBounds isS len cap (lo.map a.eval) (hi.map a.eval) (mx.map a.eval)).run P w = .ok (i.toNat, j.toNat, m.toNat) w := by
  rcases hmx with ⟨rfl, rfl⟩ | ⟨hs, hs2, hm⟩
  · cases hi with
    | none =>
      simp only [bndI, Option.some.injEq] at hhi
      subst hhi
      cases lo with
      | none => simp only [bndI, Option.some.injEq] at hlo; subst hlo; simp [Instr.sliceBounds]
      | some o =>
        obtain ⟨k, hk⟩ := bnd_run h hlo
        have e1 := sliceBound_run (P := P) (w := w) (k := k) (i := i) (y := len) .sliceB h0 h1
        simp [Instr.sliceBounds, hk, e1]
    | some oh =>
      obtain ⟨kh, hkh⟩ := bnd_run h hhi
      have e2 := fun c => sliceBound_run (P := P) (w := w) (k := kh) (i := j) (y := cap) c (by omega) h2
      cases lo with
      | none => simp only [bndI, Option.some.injEq] at hlo; subst hlo; simp [Instr.sliceBounds, hkh, e2]
      | some o =>
        obtain ⟨k, hk⟩ := bnd_run h hlo
        have e1 := sliceBound_run (P := P) (w := w) (k := k) (i := i) (y := j.toNat) .sliceB h0 (by omega)
        simp [Instr.sliceBounds, hk, hkh, e1, e2]
  · obtain ⟨om, rfl⟩ := Option.isSome_iff_exists.1 hs
    obtain ⟨oh, rfl⟩ := Option.isSome_iff_exists.1 hs2
    obtain ⟨kh, hkh⟩ := bnd_run h hhi
    obtain ⟨km, hkm⟩ := bnd_run h hm
    have e2 := fun c => sliceBound_run (P := P) (w := w) (k := kh) (i := j) (y := m.toNat) c (by omega) (by omega)
    have e3 := fun c => sliceBound_run (P := P) (w := w) (k := km) (i := m) (y := cap) c (by omega) h3
    cases lo with
    | none => simp only [bndI, Option.some.injEq] at hlo; subst hlo; simp [Instr.sliceBounds, hkh, hkm, e2, e3]
    | some o =>
      obtain ⟨k, hk⟩ := bnd_run h hlo
      have e1 := sliceBound_run (P := P) (w := w) (k := k) (i := i) (y := j.toNat) .slice3C h0 (by omega)
      simp [Instr.sliceBounds, hk, hkh, hkm, e1, e2, e3]

theorem RelD.piece {w : World} {own : Nat → Option Nat} {B g off c sz : Nat} {v : Value} {xs : List (List D)} (h : RelD w own B v (.sl xs)) (hv : v = .slice (some ⟨g, off, none⟩) xs.length c)
    (hsz : ∀ ds ∈ xs, ds.length = sz) {l m n : Nat} (h1 : l + n ≤ xs.length) (hm : n ≤ m) : RelD w own B (.slice (some ⟨g, off + l * sz, none⟩) n m) (.sl ((xs.drop l).take n)) := by
  have hlen : ((xs.drop l).take n).length = n := by simp; omega
  by_cases hn : n = 0
  · subst hn
    simp only [List.take_zero]
    exact .emp _ _
  cases h with
  | emp => simp at h1; omega
  | @sl g' off' c' sz' cells E' fr _ cv hB hb hc ho hs hcv hr =>
    cases hv
    have e : sz' = sz := (hs xs[0] (List.getElem_mem (by omega))).symm.trans (hsz _ (List.getElem_mem (by omega)))
    subst e
    have key : RelD w own B (.slice (some ⟨g, off + l * sz', none⟩) ((xs.drop l).take n).length m) (.sl ((xs.drop l).take n)) := by
      refine .sl (fun i j => cv (l + i) j) hB hb (by omega) (fun k hk => ?_) (fun ds hds => hs ds (List.mem_of_mem_drop (List.mem_of_mem_take hds))) (fun i j hi hj => ?_) (fun i j ds x q1 q2 => ?_)
      · have := ho k hk
        have h2 : (l + n) * sz' ≤ xs.length * sz' := Nat.mul_le_mul_right _ h1
        rw [hlen]
        rw [Nat.add_mul] at h2
        omega
      · have := hcv (l + i) j (by omega) hj
        rw [Nat.add_mul] at this
        rwa [show off + l * sz' + i * sz' + j = off + (l * sz' + i * sz') + j by omega]
      · rw [List.getElem?_take] at q1
        split at q1
        · rw [List.getElem?_drop] at q1
          exact hr _ j ds x q1 q2
        · cases q1
    rwa [hlen] at key

theorem slice_core {x : Operand} {t e sz : Nat} {lo hi mx : Option Operand} {i j m : Int} {fr : Bool} {xs : List (List D)}
    (hu : P.underlying t = some (.slice e)) (hz : (P.info? e).map (·.size) = some sz) (hx : slOf (S.ev x) = some (fr, xs)) (hsz : ∀ ds ∈ xs, ds.length = sz)
    (hlo : bndI S 0 lo = some i) (hhi : bndI S xs.length hi = some j) (hmx : mx = none ∨ (mx.isSome = true ∧ hi.isSome = true ∧ bndI S 0 mx = some m ∧ j ≤ m ∧ m ≤ xs.length)) (h0 : 0 ≤ i) (h1 : i ≤ j) (h2 : j ≤ xs.length)
    {a : Act} {w : World} {G : Env} (h : RS E S a w G) : ∃ v, (∀ w' G', Keep X w G w' G' → (execOp a.eval ⟨d, .slice t x lo hi mx, ty, ps, af, gd⟩).run P w' = .ok (.value v) w') ∧ RelD w G.own (E.B.at fr) v (.sl ((xs.drop i.toNat).take (j.toNat - i.toNat))) ∧ (mx.isSome = true → ∃ b, v = .slice b (j.toNat - i.toNat) (m.toNat - i.toNat)) := by
    have hr := slOf_rel (ev_rel h x) hx
    obtain ⟨b, c, hv, hb0⟩ := sl_form hr
    have hcap : xs.length ≤ c := by
      rw [hv] at hr
      generalize hq : Value.slice b xs.length c = q at hr
      cases hr with
      | emp => simp at hq ⊢
      | sl cv hB hb hc => cases hq; exact hc
    obtain ⟨m', hm1, hm2, hm3, hm4⟩ : ∃ m' : Int, ((mx = none ∧ m' = c) ∨ (mx.isSome = true ∧ hi.isSome = true ∧ bndI S 0 mx = some m')) ∧ j ≤ m' ∧ m' ≤ c ∧ (mx.isSome = true → m' = m) := by
      rcases hmx with h | ⟨q1, q2, q3, q4, q5⟩
      · exact ⟨c, .inl ⟨h, rfl⟩, by omega, by omega, fun e => by rw [h] at e; cases e⟩
      · exact ⟨m, .inr ⟨q1, q2, q3⟩, q4, by omega, fun _ => rfl⟩
    have hrun := fun w' => sliceBounds_run (P := P) (w := w') h true hlo hhi hm1 h0 h1 hm2 hm3
    refine ⟨.slice (if m'.toNat = i.toNat then b else b.map (·.add (i.toNat * sz))) (j.toNat - i.toNat) (m'.toNat - i.toNat), ?_, ?_, fun hs => ⟨_, by rw [hm4 hs]⟩⟩
    · intro w' G' hk
      have hrun := hrun w'
      simp only [execOp, hv, Instr.sliceAt]
      simp only [Sem.run_bind, run_underlying hu, Result.andThen_ok, Instr.slice, hrun, run_sizeOf' hz, Sem.run_pure]
    · cases b with
      | none =>
        have := hb0 rfl
        subst this
        have e1 : i = 0 := by simp at h2; omega
        have e2 : j = 0 := by simp at h2; omega
        subst e1; subst e2
        simp
        exact .emp _ _
      | some ad =>
        have hspot : (xs = []) ∨ ∃ g off, ad = ⟨g, off, none⟩ := by
          rw [hv] at hr
          generalize hq : Value.slice (some ad) xs.length c = q at hr
          cases hr with
          | emp => exact .inl rfl
          | sl cv hB hb hc => cases hq; exact .inr ⟨_, _, rfl⟩
        rcases hspot with rfl | ⟨g, off, rfl⟩
        · have e1 : i = 0 := by simp at h2; omega
          have e2 : j = 0 := by simp at h2; omega
          subst e1; subst e2
          simp
          exact .emp _ _
        · have := hr.piece hv hsz (l := i.toNat) (m := m'.toNat - i.toNat) (n := j.toNat - i.toNat) (by omega) (by omega)
          by_cases e : m'.toNat = i.toNat
          · rw [if_pos e]
            have e2 : j.toNat - i.toNat = 0 := by omega
            rw [e2]
            simp
            exact .emp _ _
          · rw [if_neg e]
            simp only [Option.map_some, add_at]
            exact this

theorem T_slice {x : Operand} {t e sz : Nat} {lo hi mx : Option Operand} {i j m : Int} {fr : Bool} {xs : List (List D)}
    (hu : P.underlying t = some (.slice e)) (hz : (P.info? e).map (·.size) = some sz) (hx : slOf (S.ev x) = some (fr, xs)) (hsz : ∀ ds ∈ xs, ds.length = sz)
    (hlo : bndI S 0 lo = some i) (hhi : bndI S xs.length hi = some j) (hmx : mx = none ∨ (mx.isSome = true ∧ hi.isSome = true ∧ bndI S 0 mx = some m ∧ j ≤ m ∧ m ≤ xs.length)) (h0 : 0 ≤ i) (h1 : i ≤ j) (h2 : j ≤ xs.length)
    : Tells X P E S ⟨d, .slice t x lo hi mx, ty, ps, af, gd⟩ (.c (.d fr (.sl ((xs.drop i.toNat).take (j.toNat - i.toNat))))) :=
  fun a w G h => by
    obtain ⟨v, q1, q2, _⟩ := slice_core (X := X) (d := d) (ty := ty) (ps := ps) (af := af) (gd := gd) hu hz hx hsz hlo hhi hmx h0 h1 h2 h
    exact ⟨v, q1, .c (.d q2)⟩
/-- A piece that ends with its room. -/
theorem T_sliceX {x : Operand} {t e sz : Nat} {lo hi mx : Option Operand} {i j : Int} {fr : Bool} {xs : List (List D)}
    (hu : P.underlying t = some (.slice e)) (hz : (P.info? e).map (·.size) = some sz) (hx : slOf (S.ev x) = some (fr, xs)) (hsz : ∀ ds ∈ xs, ds.length = sz)
    (hlo : bndI S 0 lo = some i) (hhi : bndI S xs.length hi = some j) (hmx : mx.isSome = true ∧ hi.isSome = true ∧ bndI S 0 mx = some j) (h0 : 0 ≤ i) (h1 : i ≤ j) (h2 : j ≤ xs.length)
    : Tells X P E S ⟨d, .slice t x lo hi mx, ty, ps, af, gd⟩ (.c (.ex fr ((xs.drop i.toNat).take (j.toNat - i.toNat)))) :=
  fun a w G h => by
    obtain ⟨v, q1, q2, q3⟩ := slice_core (X := X) (d := d) (ty := ty) (ps := ps) (af := af) (gd := gd) hu hz hx hsz hlo hhi (.inr ⟨hmx.1, hmx.2.1, hmx.2.2, Int.le_refl j, h2⟩) h0 h1 h2 h
    obtain ⟨b, q4⟩ := q3 hmx.1
    refine ⟨v, q1, .c (.ex q2 ⟨b, ?_⟩)⟩
    rw [q4]
    have : ((xs.drop i.toNat).take (j.toNat - i.toNat)).length = j.toNat - i.toNat := by simp; omega
    rw [this]

theorem T_sliceM {x : Operand} {t e sz : Nat} {lo hi mx : Option Operand} {i j m : Int} {id off len cap : Nat}
    (hu : P.underlying t = some (.slice e)) (hz : (P.info? e).map (·.size) = some sz) (hx : S.ev x = .c (.msl id off len cap))
    (hlo : bndI S 0 lo = some i) (hhi : bndI S len hi = some j) (hmx : (mx = none ∧ m = cap) ∨ (mx.isSome = true ∧ hi.isSome = true ∧ bndI S 0 mx = some m)) (h0 : 0 ≤ i) (h1 : i ≤ j) (h2 : j ≤ m) (h3 : m ≤ cap) (hne : i < m ∨ i = 0) (hpos : 0 < len)
    : Tells X P E S ⟨d, .slice t x lo hi mx, ty, ps, af, gd⟩ (.c (.msl id (off + i.toNat * sz) (j.toNat - i.toNat) (m.toNat - i.toNat))) :=
  fun a w G h => by
    have hv := ev_rel h x
    rw [hx] at hv
    generalize hz' : a.eval x = z at hv
    cases hv with
    | c hv => cases hv with
      | mslE => omega
      | @msl _ _ _ _ c g hv hc =>
        obtain ⟨m', hm1, hm2, hm3⟩ : ∃ m' : Int, ((mx = none ∧ m' = c) ∨ (mx.isSome = true ∧ hi.isSome = true ∧ bndI S 0 mx = some m')) ∧ m ≤ m' ∧ m' ≤ c := by
          rcases hmx with ⟨q1, q2⟩ | q
          · exact ⟨c, .inl ⟨q1, rfl⟩, by omega, Int.le_refl _⟩
          · exact ⟨m, .inr q, Int.le_refl _, by omega⟩
        have hrun := fun w' => sliceBounds_run (P := P) (w := w') h true hlo hhi hm1 h0 h1 (by omega) hm3
        refine ⟨.slice (some ⟨g, off + i.toNat * sz, none⟩) (j.toNat - i.toNat) (m'.toNat - i.toNat), ?_, .c (.msl hv (by omega))⟩
        intro w' G' hk
        have hrun := hrun w'
        simp only [execOp, hz', Instr.sliceAt]
        simp only [Sem.run_bind, run_underlying hu, Result.andThen_ok, Instr.slice, hrun, run_sizeOf' hz, Sem.run_pure]
        by_cases e : m'.toNat = i.toNat
        · have e0 : i = 0 := by omega
          subst e0
          simp [e]
        · rw [if_neg e]
          simp [add_at]

theorem T_sliceS {x : Operand} {t : Nat} {lo hi : Option Operand} {i j : Int} {s : ByteArray}
    (hu : P.underlying t = some .string) (hx : valOf (S.ev x) = some (.string s))
    (hlo : bndI S 0 lo = some i) (hhi : bndI S s.size hi = some j) (h0 : 0 ≤ i) (h1 : i ≤ j) (h2 : j ≤ s.size)
    : Tells X P E S ⟨d, .slice t x lo hi none, ty, ps, af, gd⟩ (vs (s.extract i.toNat j.toNat)) :=
  fun a w G h => by
    obtain ⟨ex, _⟩ := valOf_rel (ev_rel h x) hx
    have hrun := fun w' => sliceBounds_run (P := P) (w := w') h (mx := none) (m := s.size) (cap := s.size) false hlo hhi (.inl ⟨rfl, rfl⟩) h0 h1 h2 (Int.le_refl _)
    refine ⟨_, ?_, rel_val rfl⟩
    intro w' G' hk
    have hrun := hrun w'
    simp only [Option.map_none] at hrun
    simp only [execOp, ex, Instr.sliceAt]
    simp only [Sem.run_bind, run_underlying hu, Result.andThen_ok, Instr.slice, Option.map_none, hrun, Sem.run_pure, Option.isSome_none, Bool.false_eq_true, if_false]

theorem run_equal_nil {t e : TypeId} (hu : P.underlying t = some (.slice e)) (a : Option Addr) (n c : Nat) (w : World) :
    (Op.equal t (.slice a n c) (.slice none 0 0)).run P w = .ok a.isNone w := by
  have h : ∀ k, (Op.equalIn (k + 1) t (.slice a n c) (.slice none 0 0)).run P w = .ok a.isNone w := fun k => by
    simp only [Op.equalIn]
    rw [Sem.run_bind, run_underlying hu]
    cases a <;> rfl
  exact h 9999

/-- 'x == nil' of a slice: whatever comes; yes only of an empty one. -/
theorem T_eqNil {x : Operand} {t t' e : TypeId} {fr : Bool} {xs : List (List D)}
    (hu : P.underlying t = some (.slice e)) (hx : slOf (S.ev x) = some (fr, xs)) :
    TellsC X P E S ⟨d, .binOp .eql t x (.const (.slice none 0 0)) t', ty, ps, af, gd⟩ (fun r => ∃ b, r = vb b ∧ (b = true → xs = [])) := fun a w G h => by
  obtain ⟨b, c, hv, hb0⟩ := sl_form (slOf_rel (ev_rel h x) hx)
  refine ⟨vb b.isNone, ⟨_, rfl, fun hb => hb0 (by simpa using hb)⟩, .bool b.isNone, fun w' G' _ => ?_, rel_val rfl⟩
  have e1 : binOp .eql t (.slice b xs.length c) (.slice none 0 0) = (do pure (.bool (← Op.equal t (.slice b xs.length c) (.slice none 0 0)))) := rfl
  have ec : a.eval (.const (.slice none 0 0)) = .slice none 0 0 := rfl
  simp only [execOp, hv, ec]
  simp [eqGuard_at_slice, e1, run_equal_nil hu]
end
end Go.Proofs.YthaiegnohkiegaaGreat.Ab
/-
  The calculus, continued: what is made by make, how it is frozen; functions (Fn), their calls, and a function's proof from its body.
-/
namespace Go.Proofs.YthaiegnohkiegaaGreat.Ab
open Go.RowKit (Below)
set_option linter.unusedVariables false
set_option linter.unusedSimpArgs false

/-- A function's argument, or a part of its answer; an answer. -/
inductive P1 where
  | d (x : D)
  | agg (xs : List D)
  | dx (xs : List (List D))
inductive PV where
  | one (p : P1)
  | tup (ps : List P1)

def RelP1 (w : World) (own : Nat → Option Nat) (B : Nat) (v : Value) : P1 → Prop
  | .d x => RelD w own B v x
  | .agg xs => ∃ a : Array Value, v = .agg a ∧ a.size = xs.length ∧ ∀ j x, xs[j]? = some x → RelD w own B (a.getD j undef) x
  | .dx xs => RelD w own B v (.sl xs) ∧ ∃ a, v = .slice a xs.length xs.length
def RelPV (w : World) (own : Nat → Option Nat) (B : Nat) (v : Value) : PV → Prop
  | .one p => RelP1 w own B v p
  | .tup ps => ∃ a : Array Value, v = .tuple a ∧ a.size = ps.length ∧ ∀ j p, ps[j]? = some p → RelP1 w own B (a.getD j undef) p

def callable (P : Program) (f : FuncId) : Bool :=
  match P.funcs[f]? with
  | some fn => !(fn.name == "runtime.NumGoroutine") && fn.body.isSome
  | none => false

/-- A function on data: given such arguments it tells such an answer, in new memory if fr, and changes nothing. -/
def Fn (P : Program) (f : FuncId) (args : List P1) (fr : Bool) (r : PV) : Prop :=
  callable P f = true ∧ ∀ (w : World) (own : Nat → Option Nat) (b0 : Nat) (vals : Array Value), b0 ≤ w.heap.size → vals.size = args.length → (∀ j p, args[j]? = some p → RelP1 w own b0 (vals.getD j undef) p) →
    Calls P f vals w fun e w' => ∃ v, e = .returned v ∧ Below w.heap.size w w' ∧ ∃ own' : Nat → Option Nat, (∀ g, g < w.heap.size → own' g = own g) ∧
      RelPV w' own' (bif fr then w.heap.size else b0) v r

/-- The same, where what is told is only known to be one of φ's. -/
def FnE (P : Program) (f : FuncId) (args : List P1) (fr : Bool) (φ : PV → Prop) : Prop :=
  callable P f = true ∧ ∀ (w : World) (own : Nat → Option Nat) (b0 : Nat) (vals : Array Value), b0 ≤ w.heap.size → vals.size = args.length → (∀ j p, args[j]? = some p → RelP1 w own b0 (vals.getD j undef) p) →
    Calls P f vals w fun e w' => ∃ v, e = .returned v ∧ Below w.heap.size w w' ∧ ∃ own' : Nat → Option Nat, (∀ g, g < w.heap.size → own' g = own g) ∧
      ∃ r, φ r ∧ RelPV w' own' (bif fr then w.heap.size else b0) v r
theorem Fn.toE {P : Program} {f : FuncId} {as : List P1} {fr : Bool} {r : PV} (h : Fn P f as fr r) : FnE P f as fr (· = r) :=
  ⟨h.1, fun w own b0 vals a b c => (h.2 w own b0 vals a b c).mono fun e w' ⟨v, h1, h2, o, h3, h4⟩ => ⟨v, h1, h2, o, h3, _, rfl, h4⟩⟩
theorem FnE.toFn {P : Program} {f : FuncId} {as : List P1} {fr : Bool} {r : PV} (h : FnE P f as fr (· = r)) : Fn P f as fr r :=
  ⟨h.1, fun w own b0 vals a b c => (h.2 w own b0 vals a b c).mono fun e w' ⟨v, h1, h2, o, h3, r', h4, h5⟩ => ⟨v, h1, h2, o, h3, by rw [← h4]; exact h5⟩⟩
/-- An operation leads to one of the states of C. -/
def DoesC (X : Nat → Bool) (P : Program) (E : Ent) (S : St) (o : Oper) (C : St → Prop) : Prop :=
  ∀ a w G, RS E S a w G → ∀ (K : Act → World → Prop) (Qx : Exit → Act → World → Prop), (∀ a' w' G' S', C S' → Keep X w G w' G' → RS E S' a' w' G' → K a' w') → o.wp P a w K Qx

theorem RelD.unown {w : World} {own own' : Nat → Option Nat} {B : Nat} (h : ∀ g n, own' g = some n → own g = some n) {v : Value} {x : D} (hd : RelD w own B v x) : RelD w own' B v x := by
  induction hd with
  | val v h1 => exact .val v h1
  | emp a c => exact .emp a c
  | sl cv hB hb hc ho hz hv hr ih => exact .sl cv hB hb hc (fun n hn => ho n (h _ n hn)) hz hv ih
  | pt cv hB hb ho hv hr ih => exact .pt cv hB hb (fun n hn => ho n (h _ n hn)) hv ih
  | fn fv cv h1 h2 hf hc ihf ihc => exact .fn fv cv h1 h2 ihf ihc
theorem RelP1.unown {w : World} {own own' : Nat → Option Nat} {B : Nat} (h : ∀ g n, own' g = some n → own g = some n) {v : Value} {p : P1} (hd : RelP1 w own B v p) : RelP1 w own' B v p := by
  cases p with
  | d x => exact RelD.unown h hd
  | agg xs => obtain ⟨a, h1, h2, h3⟩ := hd; exact ⟨a, h1, h2, fun j x hj => (h3 j x hj).unown h⟩
  | dx xs => exact ⟨RelD.unown h hd.1, hd.2⟩
theorem RelPV.unown {w : World} {own own' : Nat → Option Nat} {B : Nat} (h : ∀ g n, own' g = some n → own g = some n) {v : Value} {p : PV} (hd : RelPV w own B v p) : RelPV w own' B v p := by
  cases p with
  | one p => exact RelP1.unown h hd
  | tup xs => obtain ⟨a, h1, h2, h3⟩ := hd; exact ⟨a, h1, h2, fun j x hj => (h3 j x hj).unown h⟩

/-- A cell may be told as this data. -/
def C.fits (fr : Bool) : C → D → Prop
  | c, y => ∃ f x, c.data = some (f, x) ∧ (fr = true → f = true) ∧ x = y
def C.raw : C → Option (Bool × D)
  | .d _ (.val v) => some (true, .val v)
  | .d fr x => some (fr, x)
  | _ => Option.none
def V.fits (fr : Bool) : V → P1 → Prop
  | .c x, .d y => (∃ f, x.data = some (f, y) ∧ (fr = true → f = true)) ∨ (∃ f, x.raw = some (f, y) ∧ (fr = true → f = true))
  | .agg cs, .agg ys => ∃ f, dataL cs = some (f, ys) ∧ (fr = true → f = true)
  | .c x, .dx ys => (∃ f, x = .ex f ys ∧ (fr = true → f = true)) ∨ (ys = [] ∧ ∃ f, x = .d f (.val (.slice Option.none 0 0)))
  | _, _ => False

theorem raw_rel {w : World} {G : Env} {B : Base} {lv : Nat → Bool} {v : Value} {c : C} {fr : Bool} {x : D} (h : RelC w G B lv v c) (hc : c.raw = some (fr, x)) : RelD w G.own (B.at fr) v x := by
  unfold C.raw at hc
  split at hc
  · cases hc
    cases h with
    | d h => cases h; exact .val _ (by assumption)
  · cases hc
    cases h with
    | d h => exact h
  · cases hc

theorem fits_rel {w : World} {G : Env} {B : Base} {lv : Nat → Bool} {v : Value} {x : V} {fr : Bool} {p : P1} (h : RelV w G B lv v x) (hf : V.fits fr x p) : RelP1 w G.own (B.at fr) v p := by
  cases h with
  | c h =>
    cases p with
    | d y =>
      rcases hf with ⟨f, h1, h2⟩ | ⟨f, h1, h2⟩
      · exact (data_rel h h1).mono (B.mono h2)
      · exact (raw_rel h h1).mono (B.mono h2)
    | agg ys => exact hf.elim
    | dx ys =>
      rcases hf with ⟨f, rfl, h2⟩ | ⟨rfl, f, rfl⟩
      · cases h with
        | ex h hx => exact ⟨h.mono (B.mono h2), hx⟩
      · cases h with
        | d h => cases h; exact ⟨.emp _ _, _, rfl⟩
  | agg a h1 h2 =>
    cases p with
    | d y => exact hf.elim
    | agg ys =>
      obtain ⟨f, q1, q2⟩ := hf
      obtain ⟨q3, q4⟩ := dataL_get q1
      refine ⟨a, rfl, by omega, fun j y hj => ?_⟩
      obtain ⟨c, f', e1, e2, e3⟩ := q4 j y hj
      exact (data_rel (h2 j c e1) e2).mono (B.mono fun hq => e3 (q2 hq))
    | dx ys => exact hf.elim
  | tup a h1 h2 => cases p <;> exact hf.elim

def P1.toV (fr : Bool) : P1 → V
  | .d x => .c (.nd fr x)
  | .agg xs => .agg (xs.map (.nd fr))
  | .dx xs => .c (.ex fr xs)
def PV.toV (fr : Bool) : PV → V
  | .one p => p.toV fr
  | .tup ps => .tup (ps.map (P1.toV fr))

theorem toV_rel {w : World} {G : Env} {B : Base} {lv : Nat → Bool} {v : Value} {fr : Bool} {p : P1} (h : RelP1 w G.own (B.at fr) v p) : RelV w G B lv v (p.toV fr) := by
  cases p with
  | d x => exact .c (.nd h)
  | agg xs =>
    obtain ⟨a, rfl, h2, h3⟩ := h
    refine .agg a (by simp [h2]) fun j c hj => ?_
    rw [List.getElem?_map] at hj
    obtain ⟨y, hy, rfl⟩ := Option.map_eq_some_iff.1 hj
    exact .nd (h3 j y hy)
  | dx xs => exact .c (.ex h.1 h.2)
theorem toVV_rel {w : World} {G : Env} {B : Base} {lv : Nat → Bool} {v : Value} {fr : Bool} {p : PV} (h : RelPV w G.own (B.at fr) v p) : RelV w G B lv v (p.toV fr) := by
  cases p with
  | one p => exact toV_rel h
  | tup ps =>
    obtain ⟨a, rfl, h2, h3⟩ := h
    refine .tup a (by simp [h2]) fun j c hj => ?_
    rw [List.getElem?_map] at hj
    obtain ⟨y, hy, rfl⟩ := Option.map_eq_some_iff.1 hj
    exact toV_rel (h3 j y hy)

/-- Many at once. -/
def fitsL (fr : Bool) : List V → List P1 → Prop
  | [], [] => True
  | v :: vs, p :: ps => V.fits fr v p ∧ fitsL fr vs ps
  | _, _ => False
theorem fitsL_get {fr : Bool} : ∀ {vs : List V} {ps : List P1}, fitsL fr vs ps → vs.length = ps.length ∧ ∀ (j : Nat) (p : P1), ps[j]? = some p → ∃ v, vs[j]? = some v ∧ V.fits fr v p
  | [], [], _ => ⟨rfl, fun j p h => by simp at h⟩
  | v :: vs, p :: ps, h => by
    obtain ⟨h1, h2⟩ := fitsL_get h.2
    refine ⟨by simp [h1], fun j q hj => ?_⟩
    cases j with
    | zero => cases hj; exact ⟨v, rfl, h.1⟩
    | succ j => simpa using h2 j q (by simpa using hj)
  | [], p :: ps, h => h.elim
  | v :: vs, [], h => h.elim

section
variable {X : Nat → Bool} {P : Program} {E : Ent} {S : St} {Q : Exit → St → Prop} {ops : Array Oper} {rest : List Oper}
  {d : Option Tmp} {ty : TypeId} {ps : String} {af : Array Edge} {gd : Option (Nat × Bool)}

/-- What a callee's name says: the function, what goes ahead of the arguments, what behind. -/
def calleeOf : V → Option (FuncId × List C × List C)
  | .c (.d fr (.fn (.func f) fs cs)) => some (f, fs.map (.d fr), cs.map (.d fr))
  | .c (.fn (.func f) fs cs) => some (f, fs, cs)
  | _ => none

theorem callFunc_run {f : FuncId} (hc : callable P f = true) (args : Array Value) (w : World) : (callFunc f args).run P w = .ok (.enter f args) w := by
  unfold callable at hc
  cases hf : P.funcs[f]? with
  | none => rw [hf] at hc; cases hc
  | some fn =>
    rw [hf] at hc
    simp only [Bool.and_eq_true, Bool.not_eq_true', beq_eq_false_iff_ne] at hc
    obtain ⟨h1, h2⟩ := hc
    unfold callFunc
    have h3 : fn.body.isNone = false := by cases e : fn.body with | none => rw [e] at h2; cases h2 | some _ => rfl
    have h4 : ¬ fn.body = none := fun e => by rw [e] at h2; cases h2
    simp [hf, h1, h4]

theorem callee_run {a : Act} {w : World} {G : Env} (h : RS E S a w G) {x : Operand} {args : Array Operand} {ats : Array TypeId} {f : FuncId} {fs cs : List C} (hx : calleeOf (S.ev x) = some (f, fs, cs)) (hc : callable P f = true) :
    ∃ fv cv : Array Value, fv.size = fs.length ∧ cv.size = cs.length ∧ (∀ j c, fs[j]? = some c → RelC w G E.B (lvOf S.σ) (fv.getD j undef) c) ∧ (∀ j c, cs[j]? = some c → RelC w G E.B (lvOf S.σ) (cv.getD j undef) c) ∧
      (execOp a.eval ⟨d, .call { callee := .value x, args := args, argTypes := ats }, ty, ps, af, gd⟩).run P w = .ok (.enter f (fv ++ args.map a.eval ++ cv)) w := by
  have hv := ev_rel h x
  have key : ∀ (fv cv : Array Value), a.eval x = .func (.func f) fv cv →
      (execOp a.eval ⟨d, .call { callee := .value x, args := args, argTypes := ats }, ty, ps, af, gd⟩).run P w = .ok (.enter f (fv ++ args.map a.eval ++ cv)) w := fun fv cv he => by
    simp only [execOp, resolve, he, Deferred.ofValue]
    rw [Sem.run_bind, Sem.run_pure]
    simp only [Result.andThen_ok, invoke]
    exact callFunc_run hc _ w
  unfold calleeOf at hx
  split at hx
  · rename_i fr f' fs' cs' e
    cases hx
    rw [e] at hv
    generalize hz : a.eval x = z at hv
    cases hv with
    | c hv => cases hv with
      | d hv => cases hv with
        | fn fv cv h1 h2 hf hc' =>
          refine ⟨fv, cv, by simp [h1], by simp [h2], fun j c hj => ?_, fun j c hj => ?_, key fv cv hz⟩
          · rw [List.getElem?_map] at hj
            obtain ⟨y, hy, rfl⟩ := Option.map_eq_some_iff.1 hj
            exact .d (hf j y hy)
          · rw [List.getElem?_map] at hj
            obtain ⟨y, hy, rfl⟩ := Option.map_eq_some_iff.1 hj
            exact .d (hc' j y hy)
  · rename_i f' fs' cs' e
    cases hx
    rw [e] at hv
    generalize hz : a.eval x = z at hv
    cases hv with
    | c hv => cases hv with
      | fn fv cv h1 h2 hf hf1 hc' hc1 => exact ⟨fv, cv, h1, h2, hf, hc', key fv cv hz⟩
  · cases hx

theorem D_callE {f : FuncId} {fr : Bool} (fa : Bool) {x : Operand} {args : Array Operand} {ats : Array TypeId} {fs cs : List C} {as : List P1} {φ : PV → Prop}
    (hF : FnE P f as fr φ) (hx : calleeOf (S.ev x) = some (f, fs, cs))
    (ha : fitsL fa (fs.map V.c ++ args.toList.map S.ev ++ cs.map V.c) as) :
    DoesC X P E S ⟨d, .call { callee := .value x, args := args, argTypes := ats }, ty, ps, af, gd⟩ (fun S' => ∃ r, φ r ∧ S' = S.setO d (r.toV (fr || fa))) := fun a w G h K Qx hK => by
  obtain ⟨fv, cv, q1, q2, q3, q4, hrun⟩ := callee_run (d := d) (ty := ty) (ps := ps) (af := af) (gd := gd) (args := args) (ats := ats) h hx hF.1
  obtain ⟨e1, e2⟩ := fitsL_get ha
  have hcall := hF.2 w G.own (E.B.at fa) (fv ++ args.map a.eval ++ cv) (Nat.le_trans (E.B.at_hi fa) h.hist.step.size) (by simp only [Array.size_append, Array.size_map]; rw [← e1]; simp [q1, q2]; omega) (fun j p hj => by
    obtain ⟨v, hv, hp⟩ := e2 j p hj
    refine fits_rel (G := G) (B := E.B) (lv := lvOf S.σ) (fr := fa) ?_ hp
    rw [List.append_assoc, List.getElem?_append] at hv
    simp only [Array.getD_eq_getD_getElem?, Array.append_assoc, Array.getElem?_append, Array.size_map]
    split at hv
    · rename_i hlt
      rw [List.length_map] at hlt
      rw [if_pos (by omega)]
      rw [List.getElem?_map] at hv
      obtain ⟨c, hc, rfl⟩ := Option.map_eq_some_iff.1 hv
      have := q3 j c hc
      rw [Array.getD_eq_getD_getElem?] at this
      exact .c this
    · rename_i hge
      rw [List.length_map] at hge hv
      rw [if_neg (by omega)]
      rw [List.getElem?_append] at hv
      simp only [List.length_map, Array.length_toList] at hv
      split at hv
      · rename_i hlt
        rw [if_pos (by omega), q1]
        rw [List.getElem?_map] at hv
        obtain ⟨o, ho, rfl⟩ := Option.map_eq_some_iff.1 hv
        have ho' : args[j - fs.length]? = some o := by simpa using ho
        simp only [Array.getElem?_map, ho', Option.map_some, Option.getD_some]
        exact ev_rel h o
      · rename_i hge2
        rw [if_neg (by omega), q1]
        rw [List.getElem?_map] at hv
        obtain ⟨c, hc, rfl⟩ := Option.map_eq_some_iff.1 hv
        have := q4 _ c hc
        rw [Array.getD_eq_getD_getElem?] at this
        exact .c this)
  unfold Oper.wp
  rw [hrun, Oper.upon_enter]
  refine hcall.mono ?_
  rintro e w' ⟨v, rfl, hb, own', ho, r, hφ, hr⟩
  let G' : Env := { G with own := fun g => bif Nat.blt g w.heap.size then own' g else none }
  have hp : PExt w G w' G' := ⟨hb.size, hb.os, hb.tape, hb.output, hb.block, fun g hg => by
    simp only [G']
    rw [show Nat.blt g w.heap.size = true by simpa [Nat.blt_eq] using hg]
    exact ho g hg⟩
  refine hK _ _ G' _ ⟨r, hφ, rfl⟩ (hp.keep rfl) (h.ext hp rfl (toVV_rel ?_) rfl)
  have hu : RelPV w' G'.own (bif fr then w.heap.size else E.B.at fa) v r := hr.unown fun g n hn => by
    simp only [G'] at hn
    cases e : Nat.blt g w.heap.size with
    | true => rw [e] at hn; exact hn
    | false => rw [e] at hn; cases hn
  have hB : E.B.at (fr || fa) ≤ (bif fr then w.heap.size else E.B.at fa) := by
    cases fr with
    | false => simp
    | true => exact Nat.le_trans (E.B.at_hi _) h.hist.step.size
  cases r with
  | one p => cases p with
    | d x => exact RelD.mono hB hu
    | agg xs => obtain ⟨a', h1, h2, h3⟩ := hu; exact ⟨a', h1, h2, fun j x hj => (h3 j x hj).mono hB⟩
    | dx xs => exact ⟨RelD.mono hB hu.1, hu.2⟩
  | tup ps =>
    obtain ⟨a', h1, h2, h3⟩ := hu
    refine ⟨a', h1, h2, fun j p hj => ?_⟩
    have := h3 j p hj
    cases p with
    | d x => exact RelD.mono hB this
    | agg xs => obtain ⟨a'', k1, k2, k3⟩ := this; exact ⟨a'', k1, k2, fun j x hj => (k3 j x hj).mono hB⟩
    | dx xs => exact ⟨RelD.mono hB this.1, this.2⟩
theorem D_call {f : FuncId} {fr : Bool} (fa : Bool) {x : Operand} {args : Array Operand} {ats : Array TypeId} {fs cs : List C} {as : List P1} {r : PV}
    (hF : Fn P f as fr r) (hx : calleeOf (S.ev x) = some (f, fs, cs))
    (ha : fitsL fa (fs.map V.c ++ args.toList.map S.ev ++ cs.map V.c) as) :
    Does X P E S ⟨d, .call { callee := .value x, args := args, argTypes := ats }, ty, ps, af, gd⟩ (S.setO d (r.toV (fr || fa))) := fun a w G h K Qx hK =>
  D_callE fa hF.toE hx ha a w G h K Qx fun a' w' G' S' ⟨r', hr, e⟩ hk hR => hK a' w' G' hk (by subst hr; subst e; exact hR)
theorem EVo_ce {f : FuncId} {fr : Bool} (fa : Bool) {x : Operand} {args : Array Operand} {ats : Array TypeId} {fs cs : List C} {as : List P1} {φ : PV → Prop}
    (hw : S.wants ops ⟨d, .call { callee := .value x, args := args, argTypes := ats }, ty, ps, af, gd⟩ = some true) (hF : FnE P f as fr φ) (hx : calleeOf (S.ev x) = some (f, fs, cs))
    (ha : fitsL fa (fs.map V.c ++ args.toList.map S.ev ++ cs.map V.c) as) (k : ∀ r, φ r → EVo P E ops rest (S.setO d (r.toV (fr || fa))) Q) :
    EVo P E ops (⟨d, .call { callee := .value x, args := args, argTypes := ats }, ty, ps, af, gd⟩ :: rest) S Q := fun a w G r => by
  unfold wpList
  rw [if_pos (wants_sound hw r)]
  exact .inl (D_callE (X := fun _ => false) fa hF hx ha a w G r _ _ fun a' w' G' S' ⟨r', hr, e⟩ _ hR => k r' hr a' w' G' (by subst e; exact hR))

/-- A function's state at its begin. -/
def St.init (as : List P1) (n : Nat) : St :=
  { sl := fun t => match as[t]? with | some p => p.toV false | none => .c .none, σ := fun _ => none, n := n }

/-- What a result variable holds. -/
def resV (P : Program) (S : St) : ResultVar → V → Prop
  | .tmp t, v => Nat.blt t S.n = true ∧ S.sl t = v
  | .cell a t, v => Nat.blt a S.n = true ∧ ∃ id off cs, S.sl a = .c (.ref id off) ∧ S.σ id = some (.box cs) ∧ cs.isEmpty = false ∧
      ((∃ n, (P.underlying t).map descAgg = some true ∧ (P.info? t).map (·.size) = some n ∧ off + n ≤ cs.length ∧ v = .agg ((cs.drop off).take n)) ∨
       (∃ c, (P.underlying t).map descAgg = some false ∧ cs[off]? = some c ∧ v = .c c))

def resOne (tmps : Array Value) : ResultVar → Sem Value
  | .tmp t => pure (tmps.getD t undef)
  | .cell a t => do loadVar t (← asAddr (tmps.getD a undef))
theorem results_eq (fn : Func) (tmps : Array Value) : results fn tmps = (do
    let vs ← fn.results.mapM (resOne tmps)
    pure (if h : vs.size = 1 then vs[0] else .tuple vs)) := by
  unfold results
  congr 1

theorem resV_run {a : Act} {w : World} {G : Env} (h : RS E S a w G) {rv : ResultVar} {x : V} (hr : resV P S rv x) :
    ∃ v, (resOne a.tmps rv).run P w = .ok v w ∧ RelV w G E.B (lvOf S.σ) v x := by
  cases rv with
  | tmp t =>
    obtain ⟨h1, h2⟩ := hr
    have hlt : t < a.tmps.size := by rw [h.size]; simpa [Nat.blt_eq] using h1
    refine ⟨a.tmps.getD t undef, rfl, ?_⟩
    have := h.slots t a.tmps[t] (by simp [hlt])
    rw [h2] at this
    simpa [hlt] using this
  | cell q t =>
    obtain ⟨h1, id, off, cs, h2, h3, hne, h4⟩ := hr
    have hlt : q < a.tmps.size := by rw [h.size]; simpa [Nat.blt_eq] using h1
    have hv := h.slots q a.tmps[q] (by simp [hlt])
    rw [h2] at hv
    have hq : a.tmps.getD q undef = a.tmps[q] := by simp [hlt]
    simp only [resOne, hq]
    generalize a.tmps[q] = z at hv
    cases hv with
    | c hv => cases hv with
      | @ref _ _ g hv =>
        obtain ⟨cells, e, b1, b2, b3, b4⟩ := box_of h h3 (by intro e; subst e; cases hne) hv
        rcases h4 with ⟨n, k1, k2, k3, rfl⟩ | ⟨c, k1, k2, rfl⟩
        · refine ⟨.agg ((List.range n).map fun j => cells.getD (off + j) undef).toArray, ?_, ?_⟩
          · simp only [asAddr]
            rw [Sem.run_bind, Sem.run_pure]
            simp only [Result.andThen_ok]
            exact loadAgg_run k1 k2 b1 (fun j => cells.getD (off + j) undef) (fun j hj => by
              have : off + j < cells.size := by omega
              simp [this])
          · refine .agg _ (by simp; omega) fun j c hj => ?_
            rw [List.getElem?_take] at hj
            split at hj
            · rename_i hjn
              rw [List.getElem?_drop] at hj
              simpa [hjn] using b4 _ c hj
            · cases hj
        · have hlt2 : off < cells.size := Nat.lt_of_lt_of_le (List.getElem?_eq_some_iff.1 k2).1 b2
          refine ⟨cells[off], ?_, .c (by simpa [hlt2] using b4 off c k2)⟩
          simp [asAddr, loadVar, run_isAgg k1, cell_at b1, hlt2]

/-- A function's answer at its end. -/
def ansQ (P : Program) (S : St) (fr : Bool) : List ResultVar → PV → Prop
  | [rv], .one p => ∃ x, resV P S rv x ∧ V.fits fr x p
  | [rv1, rv2], .tup [p1, p2] => ∃ x1 x2, resV P S rv1 x1 ∧ resV P S rv2 x2 ∧ V.fits fr x1 p1 ∧ V.fits fr x2 p2
  | [rv1, rv2, rv3], .tup [p1, p2, p3] => ∃ x1 x2 x3, resV P S rv1 x1 ∧ resV P S rv2 x2 ∧ resV P S rv3 x3 ∧ V.fits fr x1 p1 ∧ V.fits fr x2 p2 ∧ V.fits fr x3 p3
  | [rv1, rv2, rv3, rv4], .tup [p1, p2, p3, p4] => ∃ x1 x2 x3 x4, resV P S rv1 x1 ∧ resV P S rv2 x2 ∧ resV P S rv3 x3 ∧ resV P S rv4 x4 ∧ V.fits fr x1 p1 ∧ V.fits fr x2 p2 ∧ V.fits fr x3 p3 ∧ V.fits fr x4 p4
  | [], .tup [] => True
  | _, _ => False
def retQ (P : Program) (rvs : List ResultVar) (fr : Bool) (r : PV) : Exit → St → Prop
  | .ret, S => ansQ P S fr rvs r
  | .normal, S => ansQ P S fr rvs r
  | _, _ => False

theorem results_run {fn : Func} {rvs : List ResultVar} (hrv : fn.results.toList = rvs) {a : Act} {w : World} {G : Env} (h : RS E S a w G) {fr : Bool} {r : PV} (hq : ansQ P S fr rvs r) :
    ∃ v, (results fn a.tmps).run P w = .ok v w ∧ RelPV w G.own (E.B.at fr) v r := by
  have hres : fn.results = rvs.toArray := by rw [← hrv]
  rw [results_eq, hres]
  unfold ansQ at hq
  split at hq
  · obtain ⟨x, h1, h2⟩ := hq
    obtain ⟨v, e1, e2⟩ := resV_run (P := P) h h1
    exact ⟨v, by simp [e1], fits_rel e2 h2⟩
  · obtain ⟨x1, x2, h1, h2, h3, h4⟩ := hq
    obtain ⟨v1, e1, k1⟩ := resV_run (P := P) h h1
    obtain ⟨v2, e2, k2⟩ := resV_run (P := P) h h2
    refine ⟨.tuple #[v1, v2], by simp [e1, e2], #[v1, v2], rfl, rfl, fun j p hj => ?_⟩
    match j, hj with
    | 0, hj => cases hj; exact fits_rel k1 h3
    | 1, hj => cases hj; exact fits_rel k2 h4
  · obtain ⟨x1, x2, x3, h1, h2, h3, h4, h5, h6⟩ := hq
    obtain ⟨v1, e1, k1⟩ := resV_run (P := P) h h1
    obtain ⟨v2, e2, k2⟩ := resV_run (P := P) h h2
    obtain ⟨v3, e3, k3⟩ := resV_run (P := P) h h3
    refine ⟨.tuple #[v1, v2, v3], by simp [e1, e2, e3], #[v1, v2, v3], rfl, rfl, fun j p hj => ?_⟩
    match j, hj with
    | 0, hj => cases hj; exact fits_rel k1 h4
    | 1, hj => cases hj; exact fits_rel k2 h5
    | 2, hj => cases hj; exact fits_rel k3 h6
  · obtain ⟨x1, x2, x3, x4, h1, h2, h3, h4, h5, h6, h7, h8⟩ := hq
    obtain ⟨v1, e1, k1⟩ := resV_run (P := P) h h1
    obtain ⟨v2, e2, k2⟩ := resV_run (P := P) h h2
    obtain ⟨v3, e3, k3⟩ := resV_run (P := P) h h3
    obtain ⟨v4, e4, k4⟩ := resV_run (P := P) h h4
    refine ⟨.tuple #[v1, v2, v3, v4], by simp [e1, e2, e3, e4], #[v1, v2, v3, v4], rfl, rfl, fun j p hj => ?_⟩
    match j, hj with
    | 0, hj => cases hj; exact fits_rel k1 h5
    | 1, hj => cases hj; exact fits_rel k2 h6
    | 2, hj => cases hj; exact fits_rel k3 h7
    | 3, hj => cases hj; exact fits_rel k4 h8
  · exact ⟨.tuple #[], by simp, #[], rfl, rfl, fun j p hj => by simp at hj⟩
  · exact hq.elim

theorem FnE_of_EV {f : FuncId} {fn : Func} {c : Code} {as : List P1} {fr : Bool} {φ : PV → Prop} (hf : P.funcs[f]? = some fn) (hb : fn.body = some c) (hc : callable P f = true) (hn : Nat.ble as.length fn.ntmps = true) {rvs : List ResultVar} (hrv : fn.results.toList = rvs)
    (h : ∀ E : Ent, (∀ id, Nat.blt id 900 = true → E.σ id = none) → EV P E c (St.init as fn.ntmps) (fun e S => ∃ r, φ r ∧ retQ P rvs fr r e S)) : FnE P f as fr φ := by
  refine ⟨hc, fun w own b0 vals hb0 hsz hv => ?_⟩
  let E : Ent := { w := w, G := { own := own, ι := fun _ => none }, σ := fun _ => none, b0 := b0, hb := hb0 }
  have hle : as.length ≤ fn.ntmps := Nat.le_of_ble_eq_true hn
  refine calls_of_wp hf hb (wp_mono (h E (fun _ _ => rfl) _ w E.G ⟨rfl, ?_, fun t v ht => ?_, ⟨fun id g h1 => by simp [St.init] at h1, fun id id' g h1 => by simp [St.init] at h1, fun id g h1 => by simp [St.init] at h1, fun id cs h1 => by simp [St.init] at h1⟩,
    ⟨Step.refl _ _, fun g _ _ => ⟨rfl, rfl⟩, fun _ _ _ => rfl⟩⟩) fun e a' w' ⟨S', G', ⟨r, hφ, hq⟩, hr⟩ => ?_)
  · simp [St.init, hsz]; omega
  · simp only [St.init]
    cases hp : as[t]? with
    | none => exact .c (.none _)
    | some p =>
      have hlt : t < vals.size := by rw [hsz]; exact (List.getElem?_eq_some_iff.1 hp).1
      rw [Array.getElem?_append_left hlt] at ht
      have := hv t p hp
      rw [Array.getD_eq_getD_getElem?, ht] at this
      exact toV_rel (B := E.B) (fr := false) this
  · have fin : ansQ P S' fr rvs r → a'.defers = [] ∧ ∃ v, (results fn a'.tmps).run P w' = .ok v w' ∧ ∃ v', Ending.returned v = .returned v' ∧ Below w.heap.size w w' ∧ ∃ own' : Nat → Option Nat, (∀ g, g < w.heap.size → own' g = own g) ∧ ∃ r, φ r ∧ RelPV w' own' (bif fr then w.heap.size else b0) v' r := fun hq' => by
      obtain ⟨v, h1, h2⟩ := results_run (P := P) hrv hr hq'
      refine ⟨hr.defers, v, h1, v, rfl, ⟨hr.hist.step.os, hr.hist.step.tape, hr.hist.step.output, hr.hist.step.size, fun g hg => (hr.hist.old g hg (fun _ hs => by simp [E] at hs)).1⟩, G'.own, fun g hg => (hr.hist.old g hg (fun _ hs => by simp [E] at hs)).2, r, hφ, h2⟩
    cases e with
    | normal => exact fin hq
    | ret => exact fin hq
    | _ => exact hq.elim
theorem Fn_of_EV {f : FuncId} {fn : Func} {c : Code} {as : List P1} {fr : Bool} {r : PV} (hf : P.funcs[f]? = some fn) (hb : fn.body = some c) (hc : callable P f = true) (hn : Nat.ble as.length fn.ntmps = true) {rvs : List ResultVar} (hrv : fn.results.toList = rvs)
    (h : ∀ E : Ent, (∀ id, Nat.blt id 900 = true → E.σ id = none) → EV P E c (St.init as fn.ntmps) (retQ P rvs fr r)) : Fn P f as fr r :=
  FnE.toFn (FnE_of_EV hf hb hc hn hrv fun E hE => EV_mono (h E hE) fun e S hq => ⟨r, rfl, hq⟩)
end
end Go.Proofs.YthaiegnohkiegaaGreat.Ab
/-
  The calculus, continued: states by the slots that count; tables of a program's types.
-/
namespace Go.Proofs.YthaiegnohkiegaaGreat.Ab
open Go.RowKit (Below)
set_option linter.unusedVariables false
set_option linter.unusedSimpArgs false

def look : List (Nat × V) → Nat → V
  | [], _ => .c .none
  | (u, v) :: l, t => bif Nat.beq t u then v else look l t
def St.of (l : List (Nat × V)) (σ : Sto) (n : Nat) : St := { sl := look l, σ := σ, n := n }

def keeps (S : St) : List (Nat × V) → Prop
  | [] => True
  | (t, v) :: l => S.sl t = v ∧ keeps S l
theorem keeps_look {S : St} : ∀ {l : List (Nat × V)}, keeps S l → ∀ t, look l t = S.sl t ∨ look l t = .c .none
  | [], _, t => .inr rfl
  | (u, v) :: l, h, t => by
    simp only [look]
    by_cases e : t = u
    · subst e; simp only [Nat.beq_refl, cond_true]; exact .inl h.1.symm
    · rw [beq_ne e]; exact keeps_look h.2 t
theorem W_keep {E : Ent} {S : St} (l : List (Nat × V)) {σ : Sto} {n : Nat} (h : keeps S l) (hσ : S.σ = σ) (hn : S.n = n) : W E S (St.of l σ n) := fun a w G r => by
  subst hσ
  subst hn
  refine ⟨G, r.defers, r.size, fun t v ht => ?_, r.good, r.hist⟩
  rcases keeps_look h t with e | e
  · show RelV w G E.B _ v (look l t); rw [e]; exact r.slots t v ht
  · show RelV w G E.B _ v (look l t); rw [e]; exact .c (.none _)

/-- A lookup in a table, in words that reduce. -/
def tab {α : Type} : List (Nat × α) → Nat → Option α
  | [], _ => none
  | (u, v) :: l, t => bif Nat.beq t u then some v else tab l t
theorem tab_mem {α : Type} : ∀ {l : List (Nat × α)} {t : Nat} {v : α}, tab l t = some v → (t, v) ∈ l
  | (u, v) :: l, t, x, h => by
    simp only [tab] at h
    by_cases e : t = u
    · subst e; simp only [Nat.beq_refl, cond_true, Option.some.injEq] at h; subst h; simp
    · rw [beq_ne e] at h; exact List.mem_cons_of_mem _ (tab_mem h)
theorem tab_ok {α : Type} {l : List (Nat × α)} {p : Nat → α → Prop} (h : ∀ x ∈ l, p x.1 x.2) {t : Nat} {v : α} (e : tab l t = some v) : p t v := h (t, v) (tab_mem e)

/-- A field of a struct: where it begins, its type. -/
def fldOf (P : Program) (s : TypeId) (f : Nat) : Option (Nat × TypeId) := match P.underlying s with
  | some (.struct fs) => (fs[f]?).map fun x => (x.offset, x.type)
  | _ => none
theorem fldOf_spec {P : Program} {s f o t : Nat} (h : fldOf P s f = some (o, t)) : ∃ fs fld, P.underlying s = some (.struct fs) ∧ fs[f]? = some fld ∧ fld.offset = o ∧ fld.type = t := by
  unfold fldOf at h
  split at h
  · rename_i fs e
    obtain ⟨fld, h1, h2⟩ := Option.map_eq_some_iff.1 h
    simp only [Prod.mk.injEq] at h2
    exact ⟨fs, fld, e, h1, h2.1, h2.2⟩
  · cases h

section
variable {X : Nat → Bool} {P : Program} {E : Ent} {S : St} {Q : Exit → St → Prop} {ops : Array Oper} {rest : List Oper}
  {d : Option Tmp} {ty : TypeId} {ps : String} {af : Array Edge} {gd : Option (Nat × Bool)}
theorem T_fa {x : Operand} {s : TypeId} {f o t n : Nat} {fr : Bool} {cs : List D}
    (hf : fldOf P s f = some (o, t)) (hz : (P.info? t).map (·.size) = some (n + 1))
    (hx : S.ev x = .c (.d fr (.pt cs))) (ho : o ≤ cs.length)
    : Tells X P E S ⟨d, .fieldAddr s x f, ty, ps, af, gd⟩ (.c (.d fr (.pt (cs.drop o)))) := by
  obtain ⟨fs, fld, h1, h2, rfl, rfl⟩ := fldOf_spec hf
  exact T_fieldAddr h1 h2 hz hx ho
theorem T_faR {x : Operand} {s : TypeId} {f o t n id off : Nat}
    (hf : fldOf P s f = some (o, t)) (hz : (P.info? t).map (·.size) = some (n + 1))
    (hx : S.ev x = .c (.ref id off))
    : Tells X P E S ⟨d, .fieldAddr s x f, ty, ps, af, gd⟩ (.c (.ref id (off + o))) := by
  obtain ⟨fs, fld, h1, h2, rfl, rfl⟩ := fldOf_spec hf
  exact T_fieldAddrR h1 h2 hz hx
theorem T_f {x : Operand} {s : TypeId} {f o t : Nat} {cs : List C} {c : C}
    (hf : fldOf P s f = some (o, t)) (ha : (P.underlying t).map descAgg = some false)
    (hx : S.ev x = .agg cs) (hc : cs[o]? = some c)
    : Tells X P E S ⟨d, .field s x f, ty, ps, af, gd⟩ (.c c) := by
  obtain ⟨fs, fld, h1, h2, rfl, rfl⟩ := fldOf_spec hf
  exact T_field h1 h2 ha hx hc
theorem T_fA {x : Operand} {s : TypeId} {f o t n : Nat} {cs : List C}
    (hf : fldOf P s f = some (o, t)) (ha : (P.underlying t).map descAgg = some true) (hn : (P.info? t).map (·.size) = some n)
    (hx : S.ev x = .agg cs) (hl : o + n ≤ cs.length)
    : Tells X P E S ⟨d, .field s x f, ty, ps, af, gd⟩ (.agg ((cs.drop o).take n)) := by
  obtain ⟨fs, fld, h1, h2, rfl, rfl⟩ := fldOf_spec hf
  exact T_fieldA h1 h2 ha hn hx hl
end
end Go.Proofs.YthaiegnohkiegaaGreat.Ab
/-
  The calculus, continued: slices that read as lists of one kind; quotients in range; make; what is frozen; function values.
-/
namespace Go.Proofs.YthaiegnohkiegaaGreat.Ab
open Go.RowKit (Below)
set_option linter.unusedVariables false
set_option linter.unusedSimpArgs false

def rd {α : Type} [Inhabited α] (l : List α) (i : Int) : α := l.getD i.toNat default
theorem rd_at {α : Type} [Inhabited α] {l : List α} {i : Int} (h0 : 0 ≤ i) (h1 : i < l.length) : l[i.toNat]? = some (rd l i) := by
  have : i.toNat < l.length := by omega
  simp [rd, this]

section
variable {X : Nat → Bool} {P : Program} {E : Ent} {S : St} {Q : Exit → St → Prop} {ops : Array Oper} {rest : List Oper}
  {d : Option Tmp} {ty : TypeId} {ps : String} {af : Array Edge} {gd : Option (Nat × Bool)}

theorem T_ixL {α : Type} [Inhabited α] {f : α → List D} {l : List α} {x ix : Operand} {t e : TypeId} {sz : Nat} {fr : Bool} {kk : IntKind} {i : Int}
    (hu : P.underlying t = some (.slice e)) (hz : (P.info? e).map (·.size) = some sz) (hx : slOf (S.ev x) = some (fr, l.map f))
    (hi : valOf (S.ev ix) = some (.int kk i)) (h0 : 0 ≤ i) (h1 : i < l.length) (hd : (f (rd l i)).length = sz)
    : Tells X P E S ⟨d, .indexAddr t x ix, ty, ps, af, gd⟩ (.c (.d fr (.pt (f (rd l i))))) :=
  T_indexAddr hu hz hx hi h0 (by rw [List.getElem?_map, rd_at h0 h1]; rfl) hd

theorem T_slL {α : Type} {f : α → List D} {l : List α} {x : Operand} {t e sz : Nat} {lo hi mx : Option Operand} {i j m : Int} {fr : Bool}
    (hu : P.underlying t = some (.slice e)) (hz : (P.info? e).map (·.size) = some sz) (hx : slOf (S.ev x) = some (fr, l.map f)) (hsz : ∀ a, (f a).length = sz)
    (hlo : bndI S 0 lo = some i) (hhi : bndI S l.length hi = some j) (hmx : mx = none ∨ (mx.isSome = true ∧ hi.isSome = true ∧ bndI S 0 mx = some m ∧ j ≤ m ∧ m ≤ l.length)) (h0 : 0 ≤ i) (h1 : i ≤ j) (h2 : j ≤ l.length) :
    Tells X P E S ⟨d, .slice t x lo hi mx, ty, ps, af, gd⟩ (.c (.d fr (.sl (((l.drop i.toNat).take (j.toNat - i.toNat)).map f)))) := by
  have := T_slice (X := X) (d := d) (ty := ty) (ps := ps) (af := af) (gd := gd) (E := E) (m := m) hu hz hx (fun ds hds => by obtain ⟨a, _, rfl⟩ := List.mem_map.1 hds; exact hsz a) hlo (by simpa using hhi) (by simpa using hmx) h0 h1 (by simpa using h2)
  simpa [List.map_drop, List.map_take] using this
theorem T_slXL {α : Type} {f : α → List D} {l : List α} {x : Operand} {t e sz : Nat} {lo hi mx : Option Operand} {i j : Int} {fr : Bool}
    (hu : P.underlying t = some (.slice e)) (hz : (P.info? e).map (·.size) = some sz) (hx : slOf (S.ev x) = some (fr, l.map f)) (hsz : ∀ a, (f a).length = sz)
    (hlo : bndI S 0 lo = some i) (hhi : bndI S l.length hi = some j) (hmx : mx.isSome = true ∧ hi.isSome = true ∧ bndI S 0 mx = some j) (h0 : 0 ≤ i) (h1 : i ≤ j) (h2 : j ≤ l.length) :
    Tells X P E S ⟨d, .slice t x lo hi mx, ty, ps, af, gd⟩ (.c (.ex fr (((l.drop i.toNat).take (j.toNat - i.toNat)).map f))) := by
  have := T_sliceX (X := X) (d := d) (ty := ty) (ps := ps) (af := af) (gd := gd) (E := E) hu hz hx (fun ds hds => by obtain ⟨a, _, rfl⟩ := List.mem_map.1 hds; exact hsz a) hlo (by simpa using hhi) hmx h0 h1 (by simpa using h2)
  simpa [List.map_drop, List.map_take] using this
theorem T_lenL {α : Type} {f : α → List D} {l : List α} {x : Operand} {t e : TypeId} {fr : Bool} (hu : P.underlying t = some (.slice e)) (hx : slOf (S.ev x) = some (fr, l.map f)) :
    Tells X P E S ⟨d, .call { callee := .builtin .len, args := #[x], argTypes := #[t] }, ty, ps, af, gd⟩ (vi .i64 l.length) := by
  have := T_len (X := X) (d := d) (ty := ty) (ps := ps) (af := af) (gd := gd) (E := E) hu hx
  simpa using this

theorem u64_in {a : Int} (h1 : 0 ≤ a) (h2 : a < 18446744073709551616) : IntKind.u64.wrap a = a := by
  simp only [IntKind.wrap, IntKind.signed, IntKind.bits]
  simp
  omega
theorem u64_wrap (a : Int) : IntKind.u64.wrap a = a % 18446744073709551616 := by
  simp only [IntKind.wrap, IntKind.signed, IntKind.bits]
  simp
theorem u32_wrap (a : Int) : IntKind.u32.wrap a = a % 4294967296 := by
  simp only [IntKind.wrap, IntKind.signed, IntKind.bits]
  simp

theorem tdiv_nn {a b : Int} (ha : 0 ≤ a) (hb : 0 < b) : a.tdiv b = a / b := Int.tdiv_eq_ediv_of_nonneg ha
theorem tmod_nn {a b : Int} (ha : 0 ≤ a) : a.tmod b = a % b := Int.tmod_eq_emod_of_nonneg ha
theorem div_le {a b : Int} (ha : 0 ≤ a) (hb : 0 < b) : 0 ≤ a / b ∧ a / b ≤ a := ⟨Int.ediv_nonneg ha (by omega), Int.ediv_le_self _ ha⟩

theorem T_quoN {t t' : TypeId} {x y : Operand} {a b : Int} (hx : valOf (S.ev x) = some (.int .i64 a)) (hy : valOf (S.ev y) = some (.int .i64 b)) (ha : 0 ≤ a) (hb : 0 < b) (hi : a ≤ 9223372036854775807)
    : Tells X P E S ⟨d, .binOp .quo t x y t', ty, ps, af, gd⟩ (vi .i64 (a / b)) := by
  have := T_quo (X := X) (d := d) (ty := ty) (ps := ps) (af := af) (gd := gd) (E := E) (P := P) (t := t) (t' := t') hx hy (show b ≠ 0 by omega)
  obtain ⟨h1, h2⟩ := div_le ha hb
  rw [tdiv_nn ha hb, wrap_in (by omega) (by omega)] at this
  exact this
theorem T_remN {t t' : TypeId} {x y : Operand} {a b : Int} {kk : IntKind} (hx : valOf (S.ev x) = some (.int kk a)) (hy : valOf (S.ev y) = some (.int kk b)) (ha : 0 ≤ a) (hb : 0 < b) (hi : a ≤ 18446744073709551615)
    : Tells X P E S ⟨d, .binOp .rem t x y t', ty, ps, af, gd⟩ (vi kk (a % b)) := by
  have := T_rem (X := X) (d := d) (ty := ty) (ps := ps) (af := af) (gd := gd) (E := E) (P := P) (t := t) (t' := t') hx hy (show b ≠ 0 by omega)
  rw [tmod_nn (b := b) ha] at this
  exact this
theorem T_quoU {t t' : TypeId} {x y : Operand} {a b : Int} (hx : valOf (S.ev x) = some (.int .u64 a)) (hy : valOf (S.ev y) = some (.int .u64 b)) (ha : 0 ≤ a) (hb : 0 < b) (hi : a < 18446744073709551616)
    : Tells X P E S ⟨d, .binOp .quo t x y t', ty, ps, af, gd⟩ (vi .u64 (a / b)) := by
  have := T_quo (X := X) (d := d) (ty := ty) (ps := ps) (af := af) (gd := gd) (E := E) (P := P) (t := t) (t' := t') hx hy (show b ≠ 0 by omega)
  obtain ⟨h1, h2⟩ := div_le ha hb
  rw [tdiv_nn ha hb, u64_in (by omega) (by omega)] at this
  exact this

theorem T_makeFunc {f : FuncId} {first cap : Array Operand} {fs cs : List C} (hf : first.toList.map S.ev = fs.map V.c) (hc : cap.toList.map S.ev = cs.map V.c) (hk : (fs ++ cs).all C.known = true)
    : Tells X P E S ⟨d, .makeFunc (.func f) first cap, ty, ps, af, gd⟩ (.c (.fn (.func f) fs cs)) :=
  fun a w G h => by
    have key : ∀ (l : Array Operand) (cs : List C), (∀ c ∈ cs, c.known = true) → l.toList.map S.ev = cs.map V.c →
        (l.map a.eval).size = cs.length ∧ (∀ (j : Nat) (c : C), cs[j]? = some c → RelC w G E.B (lvOf S.σ) ((l.map a.eval).getD j undef) c) ∧ ∀ (j : Nat), j < (l.map a.eval).size → ((l.map a.eval).getD j undef).oneCell' = true := fun l cs hk hl => by
      have hlen : l.size = cs.length := by simpa using congrArg List.length hl
      have hat : ∀ (j : Nat) (c : C), cs[j]? = some c → RelC w G E.B (lvOf S.σ) ((l.map a.eval).getD j undef) c := fun j c hc => by
        have hlt : j < l.size := by rw [hlen]; exact (List.getElem?_eq_some_iff.1 hc).1
        have h1 : (l.toList.map S.ev)[j]? = some (V.c c) := by rw [hl, List.getElem?_map, hc]; rfl
        rw [List.getElem?_map] at h1
        obtain ⟨o, ho, he⟩ := Option.map_eq_some_iff.1 h1
        have ho' : l[j]? = some o := by simpa using ho
        have := ev_rel h o
        rw [he] at this
        have e2 : (l.map a.eval).getD j undef = a.eval o := by simp [ho']
        rw [e2]
        generalize a.eval o = u at this
        cases this with
        | c q => exact q
      refine ⟨by simp [hlen], hat, fun j hj => ?_⟩
      have hj' : j < cs.length := by simp at hj; omega
      exact (hat j cs[j] (by simp [hj'])).oneCell (hk _ (List.getElem_mem hj'))
    have hk' : ∀ c ∈ fs ++ cs, c.known = true := fun c hc => List.all_eq_true.1 hk c hc
    obtain ⟨f1, f2, f3⟩ := key first fs (fun c hc => hk' c (by simp [hc])) hf
    obtain ⟨c1, c2, c3⟩ := key cap cs (fun c hc => hk' c (by simp [hc])) hc
    exact ⟨_, fun _ _ _ => by simp [execOp, Instr.makeFunc], .c (.fn _ _ f1 c1 f2 f3 c2 c3)⟩

theorem D_make (k : Nat) (hE : E.σ k = none) (hX : Free X S k) {t e : TypeId} {x : Operand} {z : Value} {bytes : Nat} {c : C} {n : Int}
    (hu : P.underlying t = some (.slice e)) (hz : (P.info? e).map (fun i => (i.size, i.bytes, i.zero)) = some (1, bytes, some z)) (hc : constV z = .c c) (hk : c.known = true)
    (hx : valOf (S.ev x) = some (.int .i64 n)) (h0 : 0 ≤ n) (h1 : n * bytes ≤ 281474976710656)
    (hn : n ≤ 281474976710656) :
    Does X P E S ⟨d, .makeSlice t x x, ty, ps, af, gd⟩ (((S.kill k).box k (some (.box (C.killL k (List.replicate n.toNat c))))).setO d (.c (.msl k 0 n.toNat n.toNat))) :=
  Does_op (fun a w G h => by
    obtain ⟨i, hi, hi2⟩ := Option.map_eq_some_iff.1 hz
    simp only [Prod.mk.injEq] at hi2
    obtain ⟨his, hib, hiz⟩ := hi2
    obtain ⟨ex, _⟩ := valOf_rel (ev_rel h x) hx
    have hzr := constV_rel w G E.B (lvOf S.σ) z
    rw [hc] at hzr
    have hzc : z.cells = #[z] ∧ RelC w G E.B (lvOf S.σ) z c := by
      cases hzr with
      | c q =>
        have := q.oneCell hk
        exact ⟨by cases z <;> simp_all [Value.cells, Value.oneCell'], q⟩
    let arr := (Array.range (n.toNat * 1)).map fun j => (if n.toNat * 1 = 0 then #[] else z.cells)[j % (if n.toNat * 1 = 0 then #[] else z.cells).size]!
    have hsz : arr.size = n.toNat := by simp [arr]
    have hget : ∀ j, j < n.toNat → arr.getD j undef = z := fun j hj => by
      have hne : ¬ n.toNat = 0 := by omega
      simp [arr, hj, hne, hzc.1]
      have : j % 1 = 0 := Nat.mod_one j
      simp [hzc.1, Nat.mod_one]
    obtain ⟨G', hkeep, hr⟩ := h.newBox (d := d) k hE hX (e := e) (arr := arr) (cs := List.replicate n.toNat c) (by simp [hsz]) (fun j c' hj => by
        have hlt : j < n.toNat := by have := (List.getElem?_eq_some_iff.1 hj).1; simpa using this
        rw [hget j hlt]
        rw [List.getElem?_replicate, if_pos hlt] at hj
        cases hj
        exact hzc.2) (v := .slice (some ⟨w.heap.size, 0, none⟩) n.toNat n.toNat) (x := .c (.msl k 0 n.toNat n.toNat)) (fun G' hG => .c (.msl hG (Nat.le_refl _)))
    refine ⟨_, _, G', .inl ?_, hkeep, hr⟩
    have hwr : IntKind.i64.wrap n = n := wrap_in (by omega) (by omega)
    have hn0 : ¬ n < 0 := by omega
    have hbytes : ¬ (281474976710656 < (bytes : Int) * n) := by rw [Int.mul_comm]; omega
    simp only [execOp]
    rw [Sem.run_bind]
    have hrun : (Instr.makeSlice t (a.eval x) (a.eval x)).run P w = .ok (.slice (some ⟨w.heap.size, 0, none⟩) n.toNat n.toNat) (w.alloc (.cells arr e)) := by
      rw [ex]
      by_cases hz0 : n.toNat = 0
      · simp [Instr.makeSlice, run_underlying hu, asInt, asIntOf, typeInfo, hi, his, hib, hwr, hn0, hbytes, sizeOf, hz0, newRow, arr]
      · simp [Instr.makeSlice, run_underlying hu, asInt, asIntOf, typeInfo, hi, his, hib, hiz, hwr, hn0, hbytes, sizeOf, zeroValue, hz0, newRow, arr]
    rw [hrun]
    rfl)

/-- A made slice of cells of data, told as data: nobody writes it any more. -/
theorem W_freeze {α : Type} (t id len cap : Nat) {l : List α} {f : α → D} {off : Nat} {cs : List C} (hE : E.σ id = none) (ht : Nat.blt t S.n = true) (hs : S.sl t = .c (.msl id off len cap)) (hb : S.σ id = some (.box cs))
    (hl : len = l.length) (hlc : len ≤ cap) (hcs : ∀ j, j < l.length → ∃ x, l[j]? = some x ∧ cs[off + j]? = some (.d true (f x))) :
    W E S (((S.kill id).box id none).set t (.c (.d true (.sl (l.map fun x => [f x]))))) := by
  intro a w G r
  · have hlt : t < a.tmps.size := by rw [r.size]; simpa [Nat.blt_eq] using ht
    have hv := r.slots t a.tmps[t] (by simp [hlt])
    rw [hs] at hv
    generalize hz : a.tmps[t] = z at hv
    · · have hso : (S.σ id).isSome = true := by simp [hb]
        obtain ⟨g, hE', hne, hbx⟩ : ∃ g, E.B.hi ≤ g ∧ (∀ i q, i ≠ id → (S.σ i).isSome = true → G.ι i = some q → q ≠ g) ∧ (cs ≠ [] → ∃ cells e, G.ι id = some g ∧ w.heap[g]? = some (.cells cells e (0, 0)) ∧ cs.length ≤ cells.size ∧
            ∀ j c, cs[j]? = some c → RelC w G E.B (lvOf S.σ) (cells.getD j undef) c) := by
          by_cases h0 : cs = []
          · exact ⟨w.heap.size, r.hist.step.size, fun i q hi h1 h2 h3 => absurd (r.good.lt i q h1 h2).1 (by omega), fun h => absurd h0 h⟩
          · obtain ⟨g, cells, e, hι, b1, b2, b3, b4⟩ := r.good.box id cs hb h0
            refine ⟨g, ?_, fun i q hi h1 h2 h3 => ?_, fun _ => ⟨cells, e, hι, b1, b2, b4⟩⟩
            · rcases r.good.wh id g hso hι with q | ⟨q, _⟩
              · exact q
              · rw [hE] at q; cases q
            · subst h3; exact hi (r.good.inj i id q h1 hso h2 hι)
        have hval : (∃ cells e c, (w.heap[g]? = some (.cells cells e (0, 0)) ∧ cs.length ≤ cells.size ∧ ∀ j c, cs[j]? = some c → RelC w G E.B (lvOf S.σ) (cells.getD j undef) c) ∧ cap ≤ c ∧ z = .slice (some ⟨g, off, none⟩) len c) ∨ (len = 0 ∧ ∃ a c, z = .slice a 0 c) := by
          cases hv with
          | c hv => cases hv with
            | @msl _ _ _ _ c g' q hc =>
              by_cases h0 : cs = []
              · right
                have : l.length = 0 := by
                  cases l with
                  | nil => rfl
                  | cons x l => obtain ⟨y, _, h⟩ := hcs 0 (by simp); rw [h0] at h; simp at h
                subst hl
                rw [this]
                exact ⟨rfl, _, _, rfl⟩
              · obtain ⟨cells, e, hι, b⟩ := hbx h0
                rw [hι] at q; cases q; exact .inl ⟨cells, e, c, b, hc, rfl⟩
            | mslE => exact .inr ⟨rfl, _, _, rfl⟩
        let G' : Env := { own := fun q => bif Nat.beq q g then none else G.own q, ι := fun q => bif Nat.beq q id then none else G.ι q }
        have hiid : G'.ι id = none := by simp [G']
        have hine : ∀ i, i ≠ id → G'.ι i = G.ι i := fun i hi => by simp only [G']; rw [beq_ne hi]; rfl
        have hog : G'.own g = none := by simp [G']
        have hon : ∀ q, q ≠ g → G'.own q = G.own q := fun q hq => by simp only [G']; rw [beq_ne hq]; rfl
        have hstep : Step w G.own w G'.own := by
          refine ⟨Nat.le_refl _, rfl, rfl, rfl, fun q hq hn => ⟨rfl, ?_⟩, fun q n c E' fz ho hb' => ⟨c, fz, hb', fun _ _ => rfl, fun n' hn' => ?_⟩, fun _ c _ fz hb' => ⟨c, fz, hb', Nat.le_refl _⟩⟩
          · by_cases e : q = g
            · subst e; exact hog
            · rw [hon q e]; exact hn
          · by_cases e : q = g
            · subst e; rw [hog] at hn'; cases hn'
            · rw [hon q e, ho] at hn'; cases hn'; exact Nat.le_refl _
        have hlv : lvOf ((S.kill id).box id none).σ = fun i => bif Nat.beq i id then false else lvOf S.σ i := by
          funext i
          by_cases e : i = id
          · subst e; simp [lvOf, St.box]
          · have := congrFun (lv_kill S id) i
            simp only [lvOf, St.box] at this ⊢
            rw [beq_ne e]
            exact this
        have hst : StayK id w G (lvOf S.σ) w G' (lvOf ((S.kill id).box id none).σ) := by
          refine ⟨hstep, fun i q hi hq => (hine i hi).trans hq, fun i hi hl => ?_, fun i hi _ => hine i hi⟩
          rw [hlv] at hl
          simp only at hl
          rw [beq_ne hi] at hl
          exact ⟨hl, fun q hq => ⟨rfl, hon q (hne i q hi (lv_some hl) hq)⟩⟩
        have hsome : ∀ i, i ≠ id → (((S.kill id).box id none).σ i).isSome = true → (S.σ i).isSome = true := fun i hi h => by
          simp only [St.box, St.kill] at h
          rw [beq_ne hi] at h
          simpa using h
        have hnid : ∀ i, (((S.kill id).box id none).σ i).isSome = true → i ≠ id := fun i h e => by subst e; simp [St.box] at h
        refine ⟨G', r.defers, r.size, fun u v hu => ?_, ⟨fun i q q1 q2 => ?_, fun i i' q q1 q2 q3 q4 => ?_, fun i q q1 q2 => ?_, fun i cs' q1 hne' => ?_⟩, ?_⟩
        · show RelV w G' E.B _ v (bif Nat.beq u t then _ else ((S.kill id).box id none).sl u)
          by_cases e : u = t
          · subst e
            simp only [Nat.beq_refl, cond_true]
            have hvz : v = z := by
              simp only [hlt, Array.getElem?_eq_getElem, Option.some.injEq] at hu
              exact hu.symm.trans hz
            subst hvz
            refine .c (.d ?_)
            subst hl
            rcases hval with ⟨cells, e, cap', ⟨b1, b2, b4⟩, hcc, rfl⟩ | ⟨h0, _, _, rfl⟩
            case inr => rw [List.eq_nil_of_length_eq_zero h0]; exact .emp _ _
            have : RelD w G'.own (E.B.at true) (.slice (some ⟨g, off, none⟩) (l.map fun x => [f x]).length cap') (.sl (l.map fun x => [f x])) := by
              refine .sl (sz := 1) (fun i _ => cells.getD (off + i) undef) hE' b1 (by simp; omega) (fun n hn => by rw [hog] at hn; cases hn) (fun ds hds => by obtain ⟨x, _, rfl⟩ := List.mem_map.1 hds; rfl) (fun i j hi hj => ?_) (fun i j ds x q1 q2 => ?_)
              · have hi' : i < l.length := by simpa using hi
                obtain ⟨x, _, hc⟩ := hcs i hi'
                have hlt' : off + i < cells.size := Nat.lt_of_lt_of_le (List.getElem?_eq_some_iff.1 hc).1 b2
                have : j = 0 := by omega
                subst this
                simp [hlt']
              · rw [List.getElem?_map] at q1
                obtain ⟨y, hy, rfl⟩ := Option.map_eq_some_iff.1 q1
                obtain ⟨x', h1, h2⟩ := hcs i (List.getElem?_eq_some_iff.1 hy).1
                rw [hy] at h1
                cases h1
                have : j = 0 := by
                  have := (List.getElem?_eq_some_iff.1 q2).1
                  simpa using this
                subst this
                simp only [List.getElem?_cons_zero, Option.some.injEq] at q2
                subst q2
                have := b4 _ _ h2
                generalize cells.getD (off + i) undef = u at this
                cases this with
                | d q => exact RelD.step hstep q
            simpa using this
          · rw [beq_ne e]
            exact (r.slots u v hu).stayK hst
        · exact r.good.wh i q (hsome i (hnid i q1) q1) ((hine i (hnid i q1)).symm.trans q2)
        · exact r.good.inj i i' q (hsome i (hnid i q1) q1) (hsome i' (hnid i' q2) q2) ((hine i (hnid i q1)).symm.trans q3) ((hine i' (hnid i' q2)).symm.trans q4)
        · have h2 := (hine i (hnid i q1)).symm.trans q2
          obtain ⟨a1, a2⟩ := r.good.lt i q (hsome i (hnid i q1) q1) h2
          exact ⟨a1, by rw [hon q (hne i q (hnid i q1) (hsome i (hnid i q1) q1) h2)]; exact a2⟩
        · have hi : i ≠ id := hnid i (by rw [show ((S.kill id).box id none).σ i = some (.box cs') from q1]; rfl)
          have q1' : ((S.σ i).map (O.kill id)) = some (.box cs') := by
            have : ((S.kill id).box id none).σ i = some (.box cs') := q1
            simp only [St.box, St.kill] at this
            rw [beq_ne hi] at this
            exact this
          obtain ⟨o', c1, c2⟩ := Option.map_eq_some_iff.1 q1'
          cases o' with
          | row => cases c2
          | box cs0 =>
            simp only [O.kill, O.box.injEq] at c2
            subst c2
            obtain ⟨q, cells', e', d1, d2, d3, d4, d5⟩ := r.good.box i cs0 c1 (fun e => hne' (by rw [e]; rfl))
            refine ⟨q, cells', e', (hine i hi).trans d1, d2, by rw [killL_length]; exact d3, (hon q (hne i q hi (by simp [c1]) d1)).trans d4, fun j c hj => ?_⟩
            rw [killL_get] at hj
            obtain ⟨y, hy, rfl⟩ := Option.map_eq_some_iff.1 hj
            exact (d5 j y hy).stayK hst
        · refine ⟨r.hist.step.trans hstep, fun q hq hn => ?_, fun i hi hg => (hine i fun e => by rw [e, hE] at hi; cases hi).trans (r.hist.ι i hi hg)⟩
          obtain ⟨h1, h2⟩ := r.hist.old q hq hn
          refine ⟨h1, ?_⟩
          by_cases e : q = g
          · subst e
            have : E.B.hi = E.w.heap.size := rfl
            omega
          · rw [hon q e]; exact h2
end
end Go.Proofs.YthaiegnohkiegaaGreat.Ab
/-
  The calculus, continued: regions whose operations come in any order that their edges let: one order is walked, told by a plan.
-/
namespace Go.Proofs.YthaiegnohkiegaaGreat.Ab
open Go.RowKit (Below)
set_option linter.unusedVariables false
set_option linter.unusedSimpArgs false

section
variable {X : Nat → Bool} {P : Program} {ops : Array Oper} {Q : Exit → Act → World → Prop}

/-- Whatever order comes: what is kept is kept behind each operation. -/
def anyX (X : Nat → Bool) (P : Program) (ops : Array Oper) (Q : Exit → Act → World → Prop) : Nat → Array Bool → Act → World → Env → Prop
  | 0, listed, a, w, _ => Region.ready .any ops listed = [] ∧ Q .normal a w
  | f + 1, listed, a, w, G => (Region.ready .any ops listed = [] → Q .normal a w) ∧
      ∀ i ∈ Region.ready .any ops listed, wpOp P ops Q i (fun a' w' => ∃ G', Keep X w G w' G' ∧ anyX X P ops Q f (listed.setIfInBounds i true) a' w' G') a w

theorem anyX_sound : ∀ (f : Nat) (listed : Array Bool) (a : Act) (w : World) (G : Env), anyX X P ops Q f listed a w G → wpAny P .any ops Q f listed a w
  | 0, _, _, _, _, h => h
  | f + 1, _, _, _, _, h => ⟨h.1, fun i hi => wpOp_mono (fun a' w' ⟨G', _, h'⟩ => anyX_sound f _ a' w' G' h') (h.2 i hi)⟩

/-- The operation yields v now and later, as long as what is kept is kept. -/
def YX (X : Nat → Bool) (P : Program) (ops : Array Oper) (o : Oper) (v : Value) (a : Act) (w : World) (G : Env) : Prop :=
  (Region.wanted o (yielded ops a.tmps) = true ∧ ∀ w' G', Keep X w G w' G' → (execOp a.eval o).run P w' = .ok (.value v) w') ∨ (Region.wanted o (yielded ops a.tmps) = false ∧ v = undef)

theorem YX.put {o : Oper} {v : Value} {a a' : Act} {w w' : World} {G G' : Env} (h : YX X P ops o v a w G) (hk : Keep X w G w' G') (he : execOp a'.eval o = execOp a.eval o)
    (hw : Region.wanted o (yielded ops a'.tmps) = Region.wanted o (yielded ops a.tmps)) : YX X P ops o v a' w' G' := by
  unfold YX at *
  rw [he, hw]
  exact h.imp (fun ⟨h1, h2⟩ => ⟨h1, fun w2 G2 k2 => h2 w2 G2 (hk.trans k2)⟩) id

theorem YX.op {i : Nat} {o : Oper} {v : Value} {a : Act} {w : World} {G : Env} (hi : ops[i]? = some o) (hy : YX X P ops o v a w G) {K : Act → World → Prop} (h : K (a.put o.dst v) w) : wpOp P ops Q i K a w := by
  unfold wpOp
  simp only [hi]
  rcases hy with ⟨hw, hv⟩ | ⟨hw, rfl⟩
  · simp only [hw, if_true, Oper.wp, hv w G (Keep.refl _ _ _), Oper.upon]; exact .inl h
  · simp only [hw, Bool.false_eq_true, if_false]; exact h

/-- Operation j apart from operation i: whether i's value is already there makes no difference. -/
theorem wpOp_apart {j : Nat} {oi oj : Oper} {v : Value} (hj : ops[j]? = some oj) (hap : oi.apart ops oj = true)
    (hsi : ∀ cs b, oi.op ≠ .select cs b) (hsj : ∀ cs b, oj.op ≠ .select cs b)
    (hQ : ∀ c a w, ¬ Q (.panic c) a w) {K : Act → World → Prop} {a : Act} {w : World} (h : wpOp P ops Q j K (a.put oi.dst v) w) :
    wpOp P ops Q j (fun a' w' => (execOp a'.eval oi = execOp a.eval oi ∧ Region.wanted oi (yielded ops a'.tmps) = Region.wanted oi (yielded ops a.tmps)) ∧ K (a'.put oi.dst v) w') a w := by
  obtain ⟨h1, h2, h3⟩ := Oper.apart_spec hap
  have keep : ∀ (b : Act) (u : Value), b.eval = a.eval → b.tmps = a.tmps → (execOp (b.put oj.dst u).eval oi = execOp a.eval oi ∧ Region.wanted oi (yielded ops (b.put oj.dst u).tmps) = Region.wanted oi (yielded ops a.tmps)) := fun b u e1 e2 =>
    ⟨(execOp_put oi hsi b oj.dst u h3).trans (by rw [e1]), (wanted_put oi b oj.dst u h3).trans (by rw [e2])⟩
  unfold wpOp at *
  simp only [hj] at *
  rw [wanted_put oj a oi.dst v h1] at h
  split
  · rename_i hw
    simp only [hw, if_true] at h
    rcases h with h | ⟨hasks, hlets⟩
    case inr => exact .inr ⟨by unfold Oper.asks at *; rw [execOp_put oj hsj a oi.dst v h1] at hasks; exact hasks, hlets⟩
    refine .inl ?_
    unfold Oper.wp at *
    rw [execOp_put oj hsj a oi.dst v h1] at h
    generalize (execOp a.eval oj).run P w = r at *
    cases r with
    | ok n w' =>
      cases n <;> simp only [Oper.upon] at h ⊢
      case value u => exact ⟨keep a u rfl rfl, by rw [← Act.put_comm a v u h2]; exact h⟩
      case skip => exact ⟨keep a _ rfl rfl, by rw [← Act.put_comm a v undef h2]; exact h⟩
      case defer d =>
        refine ⟨keep { a with defers := d :: a.defers } _ rfl rfl, ?_⟩
        rw [← Act.put_comm _ v undef h2, ← Act.put_defers]
        exact h
      case enter f args =>
        refine Calls.mono h fun e w'' he => ?_
        cases e with
        | returned u => exact ⟨keep a u rfl rfl, by rw [← Act.put_comm a v u h2]; exact he⟩
        | panicked c => exact absurd he (hQ _ _ _)
        | outgrown => exact he
      case row row args => exact Rows.mono h fun u w'' he => ⟨keep a u rfl rfl, by rw [← Act.put_comm a v u h2]; exact he⟩
    | halt x w' =>
      cases x <;> simp only [Oper.upon] at h ⊢
      case panic u => exact absurd h (hQ _ _ _)
  · rename_i hw
    simp only [hw] at h
    exact ⟨keep a _ rfl rfl, by rw [← Act.put_comm a v undef h2]; exact h⟩

theorem anyX_first {i : Nat} {oi : Oper} {v : Value} (hi : ops[i]? = some oi) (hsel : ∀ (j : Nat) (o : Oper) cs b, ops[j]? = some o → o.op ≠ .select cs b)
    (hQ : ∀ c a w, ¬ Q (.panic c) a w) :
    ∀ (f : Nat) (listed : Array Bool) (a : Act) (w : World) (G : Env),
      (∀ j oj, ops[j]? = some oj → j ≠ i → listed.getD j true = false → (∀ e ∈ oj.after, Region.binds .any e = true → e.on ≠ i) → oi.apart ops oj = true) →
      i ∈ Region.ready .any ops listed → YX X P ops oi v a w G →
      anyX X P ops Q f (listed.setIfInBounds i true) (a.put oi.dst v) w G → anyX X P ops Q (f + 1) listed a w G := by
  intro f
  induction f with
  | zero =>
    intro listed a w G _ hr hy H
    refine ⟨fun h => (by rw [h] at hr; cases hr), fun j hj => ?_⟩
    by_cases hji : j = i
    · subst hji; exact hy.op hi ⟨G, Keep.refl _ _ _, H⟩
    · have := ready_mono hj hji
      rw [H.1] at this
      cases this
  | succ f ih =>
    intro listed a w G hfree hr hy H
    refine ⟨fun h => (by rw [h] at hr; cases hr), fun j hj => ?_⟩
    by_cases hji : j = i
    · subst hji; exact hy.op hi ⟨G, Keep.refl _ _ _, H⟩
    · have h1 := H.2 j (ready_mono hj hji)
      obtain ⟨hjun, oj, hoj, hall⟩ := mem_ready.1 hj
      have hnot : ∀ e ∈ oj.after, Region.binds .any e = true → e.on ≠ i := fun e he hb heq => by
        have h1 := hall e he hb
        have h0 := (mem_ready.1 hr).1
        rw [heq] at h1
        rcases Nat.lt_or_ge i listed.size with h' | h'
        · simp [h'] at h0 h1; rw [h0] at h1; cases h1
        · simp [Array.getElem?_eq_none h'] at h1
      have h2 := wpOp_apart hoj (hfree j oj hoj hji hjun hnot) (fun cs b => hsel i oi cs b hi) (fun cs b => hsel j oj cs b hoj) hQ h1
      have hfree' : ∀ k ok, ops[k]? = some ok → k ≠ i → (listed.setIfInBounds j true).getD k true = false →
          (∀ e ∈ ok.after, Region.binds .any e = true → e.on ≠ i) → oi.apart ops ok = true := fun k ok hk hki hun hno => by
        refine hfree k ok hk hki ?_ hno
        by_cases hjk : j = k
        · subst hjk; exact hjun
        · rw [getD_set_ne true hjk] at hun; exact hun
      refine wpOp_mono (fun a' w' ⟨⟨s1, s2⟩, G', k', h3⟩ => ⟨G', k', ih (listed.setIfInBounds j true) a' w' G' hfree' (ready_mono hr (Ne.symm hji)) (hy.put k' s1 s2) ?_⟩) h2
      rw [Array.setIfInBounds_comm _ _ hji]
      exact h3
end

/-- In what order a region is walked: st: an operation that only tells; one: the only one that may come; two: one or the other. -/
inductive Plan where
  | done
  | st (i : Nat) (p : Plan)
  | one (i : Nat) (p : Plan)
  | two (i : Nat) (p : Plan) (j : Nat) (q : Plan)

def planB (ops : Array Oper) : Plan → Nat → Array Bool → Bool
  | .done, _, listed => (Region.ready .any ops listed).isEmpty
  | .st i p, f + 1, listed => (Region.ready .any ops listed).contains i && Region.free .any ops listed i && planB ops p f (listed.setIfInBounds i true)
  | .one i p, f + 1, listed => decide (Region.ready .any ops listed = [i]) && planB ops p f (listed.setIfInBounds i true)
  | .two i p j q, f + 1, listed => decide (Region.ready .any ops listed = [i, j]) && planB ops p f (listed.setIfInBounds i true) && planB ops q f (listed.setIfInBounds j true)
  | _, _, _ => false

def liftX (E : Ent) (Q : Exit → St → Prop) : Exit → Act → World → Prop
  | .panic _, _, _ => False
  | e, a, w => lift E Q e a w

def EVq (X : Nat → Bool) (P : Program) (E : Ent) (l : List Oper) (p : Plan) (S : St) (Q : Exit → St → Prop) : Prop :=
  Region.noSelect l.toArray = true → ∀ f listed, planB l.toArray p f listed = true → ∀ a w G, RS E S a w G → ∃ G0, Keep X w G w G0 ∧ anyX X P l.toArray (liftX E Q) f listed a w G0

section
variable {X : Nat → Bool} {P : Program} {E : Ent} {S : St} {Q : Exit → St → Prop} {l : List Oper} {p q : Plan}

theorem EV_draw {id : Nat} (X : Nat → Bool) (p : Plan) (hm : P.follows .mixedOrders = true) (hB : (Region.noSelect l.toArray && planB l.toArray p l.length (Array.replicate l.length false)) = true)
    (h : EVq X P E l p S Q) : EV P E (.region id l.toArray true) S Q := fun a w G r => by
  simp only [Bool.and_eq_true] at hB
  have r' : RS E S a { w with drawn := w.drawn + 1 } G := r.same ⟨Nat.le_refl _, rfl, rfl, rfl, fun _ _ => rfl, fun _ _ => rfl⟩
  obtain ⟨G0, _, h1⟩ := h hB.1 _ _ hB.2 a _ G r'
  have h2 : (Code.region id l.toArray true).wp P (liftX E Q) a w := wp_region_any hm (by simpa using anyX_sound _ _ _ _ _ h1)
  exact wp_mono h2 fun e a' w' he => by cases e <;> first | exact he | exact he.elim

theorem EVq_done (h : Q .normal S) : EVq X P E l .done S Q := fun _ f listed hB a w G r => by
  have hr : Region.ready .any l.toArray listed = [] := by
    cases f <;> simpa [planB, List.isEmpty_iff] using hB
  refine ⟨G, Keep.refl _ _ _, ?_⟩
  cases f with
  | zero => exact ⟨hr, S, G, h, r⟩
  | succ f => exact ⟨fun _ => ⟨S, G, h, r⟩, fun i hi => by rw [hr] at hi; cases hi⟩

theorem EVq_weak {S' : St} (hw : WX X E S S') (h : EVq X P E l p S' Q) : EVq X P E l p S Q := fun hs f listed hB a w G r => by
  obtain ⟨G', hk, r'⟩ := hw a w G r
  obtain ⟨G0, hk0, h0⟩ := h hs f listed hB a w G' r'
  exact ⟨G0, hk.trans hk0, h0⟩

theorem EVq_case (t : Nat) {fr : Bool} {b : Bool} (hs : S.sl t = .c (.d fr (.val (.bool b))))
    (h1 : b = true → EVq X P E l p (S.set t (vb true)) Q) (h2 : b = false → EVq X P E l p (S.set t (vb false)) Q) : EVq X P E l p S Q := by
  cases b with
  | true => exact EVq_weak (WX_case t hs true rfl) (h1 rfl)
  | false => exact EVq_weak (WX_case t hs false rfl) (h2 rfl)

theorem no_panic {E : Ent} {Q : Exit → St → Prop} : ∀ c a w, ¬ liftX E Q (.panic c) a w := fun _ _ _ h => h

theorem EVq_first {i : Nat} {o : Oper} (ho : l[i]? = some o)
    (h : ∀ a w G, RS E S a w G → ∃ S' v, YX X P l.toArray o v a w G ∧ RS E S' (a.put o.dst v) w G ∧ EVq X P E l p S' Q) : EVq X P E l (.st i p) S Q := fun hs f listed hB a w G r => by
  obtain ⟨S', v, hy, r', k⟩ := h a w G r
  cases f with
  | zero => simp [planB] at hB
  | succ f =>
    simp only [planB, Bool.and_eq_true] at hB
    obtain ⟨⟨h1, h2⟩, h3⟩ := hB
    have hi : l.toArray[i]? = some o := by simpa using ho
    obtain ⟨G0, hk, h0⟩ := k hs f _ h3 _ w G r'
    exact ⟨G0, hk, anyX_first hi (Region.noSelect_spec hs) no_panic f listed a w G0 (Region.free_spec hi h2) (by simpa using h1) (hy.put hk rfl rfl) h0⟩

theorem EVq_tc {i : Nat} {o : Oper} {C : V → Prop} (ho : l[i]? = some o) (hw : S.wants l.toArray o = some true) (h : TellsC X P E S o C) (k : ∀ r, C r → EVq X P E l p (S.setO o.dst r) Q) : EVq X P E l (.st i p) S Q :=
  EVq_first ho fun a w G r => by
    obtain ⟨x, hc, v, h1, h2⟩ := h a w G r
    exact ⟨S.setO o.dst x, v, .inl ⟨wants_sound hw r, h1⟩, r.put (Stay.refl _ _ _) r.hist r.good h2 rfl, k x hc⟩
theorem EVq_t {i : Nat} {o : Oper} {x : V} (ho : l[i]? = some o) (hw : S.wants l.toArray o = some true) (h : Tells X P E S o x) (k : EVq X P E l p (S.setO o.dst x) Q) : EVq X P E l (.st i p) S Q :=
  EVq_tc ho hw h.toC fun r' e => by rw [e]; exact k
theorem EVq_off {i : Nat} {o : Oper} (ho : l[i]? = some o) (hw : S.wants l.toArray o = some false) (k : EVq X P E l p (S.setO o.dst (.tup [])) Q) : EVq X P E l (.st i p) S Q :=
  EVq_first ho fun a w G r =>
    ⟨_, undef, .inr ⟨wants_sound hw r, rfl⟩, r.put (Stay.refl _ _ _) r.hist r.good (.tup #[] rfl (fun j x hj => by simp at hj)) rfl, k⟩

theorem EVq_step {i : Nat} {o : Oper} {S' : St} {f : Nat} {listed : Array Bool} (ho : l[i]? = some o) (hw : S.wants l.toArray o = some true) (h : Does X P E S o S') (hs : Region.noSelect l.toArray = true)
    (k : EVq X P E l p S' Q) (hB : planB l.toArray p f listed = true) {a : Act} {w : World} {G : Env} (r : RS E S a w G) :
    wpOp P l.toArray (liftX E Q) i (fun a' w' => ∃ G', Keep X w G w' G' ∧ anyX X P l.toArray (liftX E Q) f listed a' w' G') a w := by
  have hi : l.toArray[i]? = some o := by simpa using ho
  unfold wpOp
  simp only [hi]
  rw [if_pos (wants_sound hw r)]
  refine .inl (h a w G r _ _ fun a' w' G' hk r' => ?_)
  obtain ⟨G0, hk0, h0⟩ := k hs f listed hB a' w' G' r'
  exact ⟨G0, hk.trans hk0, h0⟩
theorem EVq_e {i : Nat} {o : Oper} {S' : St} (ho : l[i]? = some o) (hw : S.wants l.toArray o = some true) (h : Does X P E S o S') (k : EVq X P E l p S' Q) : EVq X P E l (.one i p) S Q := fun hs f listed hB a w G r => by
  cases f with
  | zero => simp [planB] at hB
  | succ f =>
    simp only [planB, Bool.and_eq_true, decide_eq_true_eq] at hB
    refine ⟨G, Keep.refl _ _ _, fun h0 => (by rw [hB.1] at h0; cases h0), fun j hj => ?_⟩
    rw [hB.1] at hj
    have : j = i := by simpa using hj
    subst this
    exact EVq_step ho hw h hs k hB.2 r
theorem EVq_e_off {i : Nat} {o : Oper} (ho : l[i]? = some o) (hw : S.wants l.toArray o = some false) (k : EVq X P E l p (S.setO o.dst (.tup [])) Q) : EVq X P E l (.one i p) S Q := fun hs f listed hB a w G r => by
  cases f with
  | zero => simp [planB] at hB
  | succ f =>
    simp only [planB, Bool.and_eq_true, decide_eq_true_eq] at hB
    refine ⟨G, Keep.refl _ _ _, fun h0 => (by rw [hB.1] at h0; cases h0), fun j hj => ?_⟩
    rw [hB.1] at hj
    have : j = i := by simpa using hj
    subst this
    have hi : l.toArray[j]? = some o := by simpa using ho
    unfold wpOp
    simp only [hi]
    rw [if_neg (by rw [wants_sound hw r]; simp)]
    exact k hs f _ hB.2 _ w G (r.put (Stay.refl _ _ _) r.hist r.good (.tup #[] rfl (fun j x hj => by simp at hj)) rfl)
theorem EVq_two {i j : Nat} {o o' : Oper} {S1 S2 : St} (ho : l[i]? = some o) (hw : S.wants l.toArray o = some true) (h : Does X P E S o S1) (ho' : l[j]? = some o') (hw' : S.wants l.toArray o' = some true) (h' : Does X P E S o' S2)
    (k : EVq X P E l p S1 Q) (k' : EVq X P E l q S2 Q) : EVq X P E l (.two i p j q) S Q := fun hs f listed hB a w G r => by
  cases f with
  | zero => simp [planB] at hB
  | succ f =>
    simp only [planB, Bool.and_eq_true, decide_eq_true_eq] at hB
    refine ⟨G, Keep.refl _ _ _, fun h0 => (by rw [hB.1.1] at h0; cases h0), fun m hm => ?_⟩
    rw [hB.1.1] at hm
    have : m = i ∨ m = j := by simpa using hm
    rcases this with rfl | rfl
    · exact EVq_step ho hw h hs k hB.1.2 r
    · exact EVq_step ho' hw' h' hs k' hB.2 r
end
end Go.Proofs.YthaiegnohkiegaaGreat.Ab
/-
  The calculus, continued: states by slots and boxes; boxes that read as lists.
-/
namespace Go.Proofs.YthaiegnohkiegaaGreat.Ab
open Go.RowKit (Below)
set_option linter.unusedVariables false
set_option linter.unusedSimpArgs false

def tabO : List (Nat × O) → Sto
  | [] => fun _ => none
  | (k, o) :: l => fun id => bif Nat.beq id k then some o else tabO l id
def keepsO (S : St) : List (Nat × O) → Prop
  | [] => True
  | (k, o) :: l => S.σ k = some o ∧ keepsO S l
theorem keepsO_look {S : St} : ∀ {l : List (Nat × O)}, keepsO S l → ∀ id o, tabO l id = some o → S.σ id = some o
  | [], _, id, o, h => by cases h
  | (k, o') :: l, hk, id, o, h => by
    simp only [tabO] at h
    by_cases e : id = k
    · subst e; simp only [Nat.beq_refl, cond_true, Option.some.injEq] at h; subst h; exact hk.1
    · rw [beq_ne e] at h; exact keepsO_look hk.2 id o h

/-- Boxes forgotten, slots forgotten. -/
theorem W_keep2 {E : Ent} {S : St} (l : List (Nat × V)) (lo : List (Nat × O)) {n : Nat} (h : keeps S l) (ho : keepsO S lo) (hn : S.n = n) : W E S (St.of l (tabO lo) n) := fun a w G r => by
  subst hn
  have hs : ∀ id, (tabO lo id).isSome = true → (S.σ id).isSome = true := fun id hi => by
    obtain ⟨o, e⟩ := Option.isSome_iff_exists.1 hi
    rw [keepsO_look ho id o e]; rfl
  have hlv : ∀ id, lvOf (tabO lo) id = true → lvOf S.σ id = true := fun id hi => by
    unfold lvOf at hi ⊢
    cases e : tabO lo id with
    | none => rw [e] at hi; cases hi
    | some o => rw [keepsO_look ho id o e]; rw [e] at hi; exact hi
  have hst : Stay w G (lvOf S.σ) w G (lvOf (tabO lo)) := ⟨Step.refl _ _, fun _ _ h => h, fun id hi => ⟨hlv id hi, fun _ _ => ⟨rfl, rfl⟩⟩, fun _ _ => rfl⟩
  refine ⟨G, r.defers, r.size, fun t v ht => ?_, ⟨fun id g h1 h2 => r.good.wh id g (hs id h1) h2, fun id id' g h1 h2 h3 h4 => r.good.inj id id' g (hs id h1) (hs id' h2) h3 h4, fun id g h1 h2 => r.good.lt id g (hs id h1) h2, fun id cs h1 hne => ?_⟩, r.hist⟩
  · show RelV w G E.B _ v (look l t)
    rcases keeps_look h t with e | e
    · rw [e]; exact (r.slots t v ht).stay hst
    · rw [e]; exact .c (.none _)
  · obtain ⟨g, cells, e, c1, c2, c3, c4, c5⟩ := r.good.box id cs (keepsO_look ho id _ h1) hne
    exact ⟨g, cells, e, c1, c2, c3, c4, fun j c hj => (c5 j c hj).stay hst⟩

/-- Ways that meet. -/
theorem EV_join {P : Program} {E : Ent} {S : St} {Q : Exit → St → Prop} {c1 c2 : Code} (I : St → Prop) (h1 : EV P E c1 S (thenQ (fun S' => ∃ S'', W E S' S'' ∧ I S'') Q)) (h2 : ∀ S, I S → EV P E c2 S Q) : EV P E (.seq c1 c2) S Q :=
  EV_seq (EV_mono h1 fun e S' hq => by
    cases e with
    | normal =>
      obtain ⟨S'', hw, hi⟩ := hq
      exact EV_weak hw (h2 S'' hi)
    | _ => exact hq)

/-- A box of words. -/
abbrev bx {α : Type} (g : α → C) (l : List α) : O := .box (l.map g)
theorem set_one {α : Type} (g : α → C) (l : List α) (off : Nat) (v : α) : setL (l.map g) off [g v] = (l.set off v).map g := by simp [setL, List.map_set]
theorem killL_map {α : Type} (g : α → C) (k : Nat) (h : ∀ x, (g x).kill k = g x) : ∀ l : List α, C.killL k (l.map g) = l.map g
  | [] => rfl
  | x :: l => by simp [C.killL, h, killL_map g k h l]
abbrev ci (k : IntKind) (x : Int) : C := .d true (.val (.int k x))
theorem ci_kill (k : Nat) (kk : IntKind) (x : Int) : (ci kk x).kill k = ci kk x := rfl
theorem rep_map {α : Type} (g : α → C) (n : Nat) (x : α) : List.replicate n (g x) = (List.replicate n x).map g := by simp

theorem fit_eq {fr f : Bool} {x : C} {y y' : D} (h : x.data = some (f, y')) (hf : fr = true → f = true) (e : y' = y) : V.fits fr (.c x) (.d y) := by
  subst e; exact .inl ⟨f, h, hf⟩
theorem fit_agg {fr f : Bool} {cs : List C} {ys ys' : List D} (h : dataL cs = some (f, ys')) (hf : fr = true → f = true) (e : ys' = ys) : V.fits fr (.agg cs) (.agg ys) := by
  subst e; exact ⟨f, h, hf⟩
theorem fit_d {fr f : Bool} {x : C} {y : D} (h : x.data = some (f, y)) (hf : fr = true → f = true) : V.fits fr (.c x) (.d y) := .inl ⟨f, h, hf⟩
theorem fit_raw {fr f : Bool} {x : C} {y : D} (h : x.raw = some (f, y)) (hf : fr = true → f = true) : V.fits fr (.c x) (.d y) := .inr ⟨f, h, hf⟩
theorem fit_ag {fr f : Bool} {cs : List C} {ys : List D} (h : dataL cs = some (f, ys)) (hf : fr = true → f = true) : V.fits fr (.agg cs) (.agg ys) := ⟨f, h, hf⟩
theorem fit_nil {fr : Bool} : fitsL fr [] [] := trivial
theorem fit_cons {fr : Bool} {v : V} {vs : List V} {p : P1} {ps : List P1} (h : V.fits fr v p) (k : fitsL fr vs ps) : fitsL fr (v :: vs) (p :: ps) := ⟨h, k⟩

section
variable {X : Nat → Bool} {P : Program} {E : Ent} {S : St} {Q : Exit → St → Prop} {ops : Array Oper} {rest : List Oper}
  {d : Option Tmp} {ty : TypeId} {ps : String} {af : Array Edge} {gd : Option (Nat × Bool)}
/-- A cell of a box that reads as a list. -/
theorem T_loadL {α : Type} [Inhabited α] {g : α → C} {l : List α} {x : Operand} {t : TypeId} {id off : Nat} {r : V}
    (hu : (P.underlying t).map descAgg = some false) (hx : S.ev x = .c (.ref id off)) (hs : S.σ id = some (.box (l.map g))) (hc : off < l.length) (hr : (V.c (g (l.getD off default))).view = some r) (hX : X id = true)
    : Tells X P E S ⟨d, .load t x, ty, ps, af, gd⟩ r := by
  rw [← view_eq hr]
  exact T_loadR hu hx hs (by rw [List.getElem?_map]; simp [hc]) hX
/-- A store into it. -/
theorem D_storeL {α : Type} {g : α → C} {l : List α} {t : TypeId} {x y : Operand} {id off : Nat} {v : α}
    (hx : S.ev x = .c (.ref id off)) (hX : Free X S id) (hs : S.σ id = some (.box (l.map g))) (hy : (S.ev y).cellsK = some [g v]) (hn : (P.info? t).map (·.size) = some 1) (hf : off < l.length) :
    Does X P E S ⟨d, .store t x y, ty, ps, af, gd⟩ ((S.box id (some (.box ((l.set off v).map g)))).setO d (.c .none)) := by
  rw [← set_one]
  exact D_store hx hX hs hy hn rfl (by simp; omega) (by cases l with | nil => simp at hf | cons => rfl)
/-- A slice of cells that are one scalar each, made. -/
theorem D_makeL (k : Nat) (hE : E.σ k = none) (hX : Free X S k) {t e : TypeId} {x : Operand} {kk : IntKind} {bytes : Nat} {n : Int}
    (hu : P.underlying t = some (.slice e)) (hz : (P.info? e).map (fun i => (i.size, i.bytes, i.zero)) = some (1, bytes, some (.int kk 0)))
    (hx : valOf (S.ev x) = some (.int .i64 n)) (h0 : 0 ≤ n) (h1 : n * bytes ≤ 281474976710656) (hn : n ≤ 281474976710656) :
    Does X P E S ⟨d, .makeSlice t x x, ty, ps, af, gd⟩ (((S.kill k).box k (some (.box ((List.replicate n.toNat (0 : Int)).map (ci kk))))).setO d (.c (.msl k 0 n.toNat n.toNat))) := by
  have := D_make (d := d) (ty := ty) (ps := ps) (af := af) (gd := gd) (E := E) (X := X) k hE hX hu hz (c := ci kk 0) rfl rfl hx h0 h1 hn
  rw [rep_map, killL_map _ _ (ci_kill k kk)] at this
  exact this
theorem W_freezeL {kk : IntKind} (t id off len cap : Nat) {l : List Int} (hE : E.σ id = none) (ht : Nat.blt t S.n = true) (hs : S.sl t = .c (.msl id off len cap)) (hb : S.σ id = some (.box (l.map (ci kk))))
    (hl : off + len ≤ l.length) (hlc : len ≤ cap) :
    W E S (((S.kill id).box id none).set t (.c (.d true (.sl (((l.drop off).take len).map fun x => [D.val (.int kk x)]))))) :=
  W_freeze (α := Int) (f := fun x => D.val (.int kk x)) (l := (l.drop off).take len) (off := off) t id len cap hE ht hs hb (by simp; omega) hlc (fun j hj => by
    simp at hj
    have : off + j < l.length := by omega
    refine ⟨l[off + j], ?_, ?_⟩
    · rw [List.getElem?_take, if_pos (by omega), List.getElem?_drop]; simp [this]
    · rw [List.getElem?_map]; simp [this])
end
end Go.Proofs.YthaiegnohkiegaaGreat.Ab
