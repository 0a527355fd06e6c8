/-
  Part 2 of the walks of the program and of the laws of its arithmetic: what each function of the program tells at every input that its premise takes.
-/
import Derived.Test.YthaiegnohkiegaaGreatT1
import Derived.Laws.Externs
import Derived.Laws.BitsAllLaws
import GoSem.Extern.MathBitsCarry
/-
  The calculus, continued: functions whose calls are known otherwise; functions of the model's own tables; masks and shifts by constants.
-/
namespace Go.Proofs.YthaiegnohkiegaaGreat.Ab
open Go.RowKit (Below)
set_option linter.unusedVariables false
set_option linter.unusedSimpArgs false

/-- Scalars. -/
def valsD (vs : List Value) : List P1 := vs.map fun v => .d (.val v)
theorem vals_eq {w : World} {own : Nat → Option Nat} {b0 : Nat} {vs : List Value} {vals : Array Value} (hs : vals.size = (valsD vs).length) (h : ∀ j p, (valsD vs)[j]? = some p → RelP1 w own b0 (vals.getD j undef) p) : vals = vs.toArray := by
  apply Array.ext
  · simpa [valsD] using hs
  · intro i h1 h2
    have h2' : i < vs.length := by simpa using h2
    have := h i (.d (.val vs[i])) (by simp [valsD, h2'])
    simp only [Array.getD_eq_getD_getElem?, Array.getElem?_eq_getElem h1, Option.getD_some] at this
    generalize vals[i] = u at this
    cases this
    simp

/-- A function of scalars, known by its calls. -/
theorem Fn_of_calls {P : Program} {f : FuncId} {vs : List Value} {r : Value} {pv : PV} (hc : callable P f = true) (hr : ∀ w own B, RelPV w own B r pv)
    (h : ∀ w, Calls P f vs.toArray w fun e w' => e = .returned r ∧ w' = w) : Fn P f (valsD vs) false pv :=
  ⟨hc, fun w own b0 vals hb0 hs hv => by
    rw [vals_eq hs hv]
    refine (h w).mono ?_
    rintro e w' ⟨rfl, rfl⟩
    exact ⟨r, rfl, ⟨rfl, rfl, rfl, Nat.le_refl _, fun g hg => rfl⟩, own, fun _ _ => rfl, hr _ _ _⟩⟩
theorem rel_int (w : World) (own : Nat → Option Nat) (B : Nat) (k : IntKind) (x : Int) : RelPV w own B (.int k x) (.one (.d (.val (.int k x)))) := RelD.val _ rfl

section
variable {X : Nat → Bool} {P : Program} {E : Ent} {S : St} {Q : Exit → St → Prop} {ops : Array Oper} {rest : List Oper}
  {d : Option Tmp} {ty : TypeId} {ps : String} {af : Array Edge} {gd : Option (Nat × Bool)}
theorem Tells.does {o : Oper} {r : V} (h : Tells X P E S o r) : Does X P E S o (S.setO o.dst r) := Does_op fun a w G hr => by
  obtain ⟨v, h1, h2⟩ := h a w G hr
  exact ⟨v, w, G, .inl (h1 w G (Keep.refl _ _ _)), Keep.refl _ _ _, hr.put (Stay.refl _ _ _) hr.hist hr.good h2 rfl⟩

theorem Tells.now {o : Oper} {r : V} (h : Tells (fun _ => true) P E S o r) : Does X P E S o (S.setO o.dst r) := Does_op fun a w G hr => by
  obtain ⟨v, h1, h2⟩ := h a w G hr
  exact ⟨v, w, G, .inl (h1 w G (Keep.refl _ _ _)), Keep.refl _ _ _, hr.put (Stay.refl _ _ _) hr.hist hr.good h2 rfl⟩
open Extern.MathBitsCarry in
theorem three_run (n : String) (k1 k2 k3 : IntKind) (x y c : Nat) (hc : c ≤ 1) (w : World) : (three n #[.int k1 (x : Int), .int k2 (y : Int), .int k3 (c : Int)]).run P w = .ok (x, y, c) w := by
  show Sem.run P (do
    let c := (← asInt (.int k3 (c : Int))).toNat
    if c > 1 then unsupported (.noEntry ("extern/math/bits." ++ n ++ ": a carry that is neither 0 nor 1"))
    pure ((← asInt (.int k1 (x : Int))).toNat, (← asInt (.int k2 (y : Int))).toNat, c)) w = _
  have hc' : ¬ 1 < c := by omega
  simp [asInt, asIntOf, hc']
  omega
/-- A function of the model's own tables. -/
def isExt (P : Program) (f : FuncId) (e : Array Value → Sem Value) : Prop := ∃ fn, P.funcs[f]? = some fn ∧ (fn.name == "runtime.NumGoroutine") = false ∧ fn.body.isNone = true ∧ Extern.findNext fn = none ∧ Extern.find fn = some e
abbrev eAdd64 : Array Value → Sem Value := fun args => do
    let (x, y, c) ← Extern.MathBitsCarry.three "Add64" args
    pure (Extern.MathBitsCarry.pair ((x + y + c) % Extern.MathBitsCarry.m64) ((x + y + c) / Extern.MathBitsCarry.m64))
abbrev eSub64 : Array Value → Sem Value := fun args => do
    let (x, y, b) ← Extern.MathBitsCarry.three "Sub64" args
    pure (Extern.MathBitsCarry.pair ((x + Extern.MathBitsCarry.m64 - y - b) % Extern.MathBitsCarry.m64) (if x < y + b then 1 else 0))
theorem add64_run (x y c : Nat) (hc : c ≤ 1) (w : World) : (eAdd64 #[.int .u64 (x : Int), .int .u64 (y : Int), .int .u64 (c : Int)]).run P w =
    .ok (.tuple #[.int .u64 (((x : Int) + y + c) % 18446744073709551616), .int .u64 (((x : Int) + y + c) / 18446744073709551616)]) w := by
  unfold eAdd64
  rw [Sem.run_bind, three_run _ _ _ _ x y c hc]
  rfl
theorem sub64_run (x y c : Nat) (hy : y < 18446744073709551616) (hc : c ≤ 1) (w : World) : (eSub64 #[.int .u64 (x : Int), .int .u64 (y : Int), .int .u64 (c : Int)]).run P w =
    .ok (.tuple #[.int .u64 (((x : Int) - y - c) % 18446744073709551616), .int .u64 (if (x : Int) < y + c then 1 else 0)]) w := by
  unfold eSub64
  rw [Sem.run_bind, three_run _ _ _ _ x y c hc]
  have e1 : (Int.ofNat ((x + Extern.MathBitsCarry.m64 - y - c) % Extern.MathBitsCarry.m64)) = ((x : Int) - y - c) % 18446744073709551616 := by
    have : Extern.MathBitsCarry.m64 = 18446744073709551616 := rfl
    rw [this]
    have e : ((x + 18446744073709551616 - y - c : Nat) : Int) = ((x : Int) - y - c) + 18446744073709551616 ∨ (x + 18446744073709551616 - y - c = 0 ∧ x = 0 ∧ y = 18446744073709551615 ∧ c = 1) := by omega
    rcases e with e | ⟨e, rfl, rfl, rfl⟩
    · show ((_ % _ : Nat) : Int) = _
      rw [Int.natCast_emod, e]
      omega
    · rfl
  have e2 : (if x < y + c then (1 : Nat) else 0 : Nat) = if (x : Int) < y + c then (1 : Nat) else 0 := by
    by_cases h : x < y + c
    · rw [if_pos h, if_pos (by omega)]
    · rw [if_neg h, if_neg (by omega)]
  show Result.ok (Value.tuple #[.int .u64 (Int.ofNat _), .int .u64 (Int.ofNat _)]) w = _
  rw [e1, e2]
  split <;> rfl
theorem T_ext3 {f : FuncId} {e : Array Value → Sem Value} {p1 p2 p3 : Operand} {ats : Array TypeId} {fn : Operand} {u1 u2 u3 : Value} {vs : List Value} (hf : isExt P f e) (hfn : S.ev fn = .c (.d true (.fn (.func f) [] [])))
    (h1 : valOf (S.ev p1) = some u1) (h2 : valOf (S.ev p2) = some u2) (h3 : valOf (S.ev p3) = some u3) (hr : ∀ w, (e #[u1, u2, u3]).run P w = .ok (.tuple vs.toArray) w) (hv : ∀ v ∈ vs, v.oneCell' = true)
    : Tells X P E S ⟨d, .call { callee := .value fn, args := #[p1, p2, p3], argTypes := ats }, ty, ps, af, gd⟩ (.tup (vs.map fun v => .c (.d true (.val v)))) :=
  fun a w G h => by
    obtain ⟨e1, _⟩ := valOf_rel (ev_rel h p1) h1
    obtain ⟨e2, _⟩ := valOf_rel (ev_rel h p2) h2
    obtain ⟨e3, _⟩ := valOf_rel (ev_rel h p3) h3
    have hv' := ev_rel h fn
    rw [hfn] at hv'
    generalize hz : a.eval fn = z at hv'
    cases hv' with
    | c hv' => cases hv' with
      | d hv' => cases hv' with
        | fn fv cv k1 k2 _ _ =>
          have q1 : fv = #[] := by simpa using k1
          have q2 : cv = #[] := by simpa using k2
          subst q1; subst q2
          obtain ⟨F, a1, a2, a3, a4, a5⟩ := hf
          refine ⟨.tuple vs.toArray, fun w' G' _ => ?_, .tup _ (by simp) (fun j r hj => ?_)⟩
          · simp only [execOp, resolve, hz, Deferred.ofValue]
            rw [Sem.run_bind, Sem.run_pure]
            simp only [Result.andThen_ok, invoke]
            have : (#[] ++ #[p1, p2, p3].map a.eval ++ #[] : Array Value) = #[u1, u2, u3] := by simp [e1, e2, e3]
            rw [this, run_callFunc_extern a1 a2 a3 a4 a5, hr]
            rfl
          · rw [List.getElem?_map] at hj
            obtain ⟨v, hj', rfl⟩ := Option.map_eq_some_iff.1 hj
            have hlt := (List.getElem?_eq_some_iff.1 hj').1
            have e : vs.toArray.getD j undef = v := by simp [hj']
            rw [e]
            exact rel_val (hv v (List.mem_of_getElem? hj'))
theorem T_add64 {f : FuncId} {p1 p2 p3 : Operand} {ats : Array TypeId} {fn : Operand} {x y c : Int} (hf : isExt P f eAdd64) (hfn : S.ev fn = .c (.d true (.fn (.func f) [] [])))
    (h1 : valOf (S.ev p1) = some (.int .u64 x)) (h2 : valOf (S.ev p2) = some (.int .u64 y)) (h3 : valOf (S.ev p3) = some (.int .u64 c)) (hx : 0 ≤ x) (hy : 0 ≤ y) (hc : 0 ≤ c ∧ c ≤ 1)
    : Tells X P E S ⟨d, .call { callee := .value fn, args := #[p1, p2, p3], argTypes := ats }, ty, ps, af, gd⟩ (.tup [vi .u64 ((x + y + c) % 18446744073709551616), vi .u64 ((x + y + c) / 18446744073709551616)]) := by
  obtain ⟨x', rfl⟩ := Int.eq_ofNat_of_zero_le hx
  obtain ⟨y', rfl⟩ := Int.eq_ofNat_of_zero_le hy
  obtain ⟨c', rfl⟩ := Int.eq_ofNat_of_zero_le hc.1
  exact T_ext3 (vs := [.int .u64 _, .int .u64 _]) hf hfn h1 h2 h3 (fun w => add64_run x' y' c' (by omega) w) (fun v hv => by simp at hv; rcases hv with rfl | rfl <;> rfl)
theorem T_sub64 {f : FuncId} {p1 p2 p3 : Operand} {ats : Array TypeId} {fn : Operand} {x y c : Int} (hf : isExt P f eSub64) (hfn : S.ev fn = .c (.d true (.fn (.func f) [] [])))
    (h1 : valOf (S.ev p1) = some (.int .u64 x)) (h2 : valOf (S.ev p2) = some (.int .u64 y)) (h3 : valOf (S.ev p3) = some (.int .u64 c)) (hx : 0 ≤ x) (hy : 0 ≤ y ∧ y < 18446744073709551616) (hc : 0 ≤ c ∧ c ≤ 1)
    : Tells X P E S ⟨d, .call { callee := .value fn, args := #[p1, p2, p3], argTypes := ats }, ty, ps, af, gd⟩ (.tup [vi .u64 ((x - y - c) % 18446744073709551616), vi .u64 (if x < y + c then 1 else 0)]) := by
  obtain ⟨x', rfl⟩ := Int.eq_ofNat_of_zero_le hx
  obtain ⟨y', rfl⟩ := Int.eq_ofNat_of_zero_le hy.1
  obtain ⟨c', rfl⟩ := Int.eq_ofNat_of_zero_le hc.1
  exact T_ext3 (vs := [.int .u64 _, .int .u64 _]) hf hfn h1 h2 h3 (fun w => sub64_run x' y' c' (by omega) (by omega) w) (fun v hv => by simp at hv; rcases hv with rfl | rfl <;> rfl)

/-- Shifts by a constant, masks. -/
theorem T_shrK {t t' : TypeId} {x y : Operand} {kk ky : IntKind} {a : Int} {b c : Nat} (hx : valOf (S.ev x) = some (.int kk a)) (hy : valOf (S.ev y) = some (.int ky (b : Int))) (hb : Nat.ble b kk.bits = true) (hc : 2 ^ b = c)
    : Tells X P E S ⟨d, .binOp .shr t x y t', ty, ps, af, gd⟩ (vi kk (a / (c : Int))) := by
  have := T_shr (X := X) (d := d) (ty := ty) (ps := ps) (af := af) (gd := gd) (E := E) (P := P) (t := t) (t' := t') hx hy (by omega)
  rw [Int.toNat_natCast, Nat.min_eq_left (Nat.le_of_ble_eq_true hb), show (2 : Int) ^ b = (c : Int) by rw [← hc]; simp] at this
  exact this
theorem T_shlK {t t' : TypeId} {x y : Operand} {kk ky : IntKind} {a : Int} {b c : Nat} (hx : valOf (S.ev x) = some (.int kk a)) (hy : valOf (S.ev y) = some (.int ky (b : Int))) (hb : Nat.ble b kk.bits = true) (hc : 2 ^ b = c)
    : Tells X P E S ⟨d, .binOp .shl t x y t', ty, ps, af, gd⟩ (vi kk (kk.wrap (a * (c : Int)))) := by
  have := T_shl (X := X) (d := d) (ty := ty) (ps := ps) (af := af) (gd := gd) (E := E) (P := P) (t := t) (t' := t') hx hy (by omega)
  rw [Int.toNat_natCast, Nat.min_eq_left (Nat.le_of_ble_eq_true hb), show (2 : Int) ^ b = (c : Int) by rw [← hc]; simp] at this
  exact this
theorem T_maskK {t t' : TypeId} {x y : Operand} {a : Int} {m : Nat} (b : Nat) (hx : valOf (S.ev x) = some (.int .u64 a)) (hy : valOf (S.ev y) = some (.int .u64 (m : Int))) (hm : 2 ^ b = m + 1) (hb : b ≤ 64) (h0 : 0 ≤ a) (h1 : a < 18446744073709551616)
    : Tells X P E S ⟨d, .binOp .and t x y t', ty, ps, af, gd⟩ (vi .u64 (a % ((m : Int) + 1))) := by
  have hp : 2 ^ b ≤ 2 ^ 64 := Nat.pow_le_pow_right (by decide) hb
  have e : bits .and .u64 a (m : Int) = a % ((m : Int) + 1) := by
    rw [u64_and a m h0 h1 (by omega) (by omega), Int.toNat_natCast, show m = 2 ^ b - 1 by omega, Nat.and_two_pow_sub_one_eq_mod]
    rw [hm]
    obtain ⟨n, rfl⟩ := Int.eq_ofNat_of_zero_le h0
    simp only [Nat.add_sub_cancel, Int.toNat_natCast]
    rw [Int.natCast_emod]
    simp
  exact T_bin hx hy (by simp [binV, e])
end
end Go.Proofs.YthaiegnohkiegaaGreat.Ab
/-
  The calculus, continued: functions that tell a new row of scalars which the caller may write (FnM).
-/
namespace Go.Proofs.YthaiegnohkiegaaGreat.Ab
open Go.RowKit (Below)
set_option linter.unusedVariables false
set_option linter.unusedSimpArgs false

/-- A new row. -/
def NewRow (w w' : World) (kk : IntKind) (l : List Int) (v : Value) : Prop :=
  (l = [] ∧ ∃ a c, v = .slice a 0 c) ∨ ∃ (g : Nat) (cells : Array Value) (e : TypeId) (c : Nat), v = .slice (some ⟨g, 0, none⟩) l.length c ∧ w.heap.size ≤ g ∧ g < w'.heap.size ∧ w'.heap[g]? = some (.cells cells e (0, 0)) ∧ l.length ≤ c ∧ l.length ≤ cells.size ∧
    ∀ (j : Nat) (x : Int), l[j]? = some x → cells[j]? = some (Value.int kk x)
def FnM (P : Program) (f : FuncId) (args : List P1) (kk : IntKind) (l : List Int) : Prop :=
  callable P f = true ∧ ∀ (w : World) (own : Nat → Option Nat) (b0 : Nat) (vals : Array Value), b0 ≤ w.heap.size → vals.size = args.length → (∀ j p, args[j]? = some p → RelP1 w own b0 (vals.getD j undef) p) →
    Calls P f vals w fun e w' => ∃ v, e = .returned v ∧ Below w.heap.size w w' ∧ NewRow w w' kk l v

theorem NewRow.rel {w w' : World} {kk : IntKind} {l : List Int} {v : Value} (h : NewRow w w' kk l v) (own : Nat → Option Nat) (ho : ∀ g, w.heap.size ≤ g → own g = none) : RelD w' own w.heap.size v (.sl (l.map fun x => [D.val (.int kk x)])) := by
  rcases h with ⟨rfl, a, c, rfl⟩ | ⟨g, cells, e, c, rfl, h1, h2, h3, h4, h5, h6⟩
  · exact .emp _ _
  · have := RelD.sl (w := w') (own := own) (B := w.heap.size) (g := g) (off := 0) (c := c) (sz := 1) (xs := l.map fun x => [D.val (.int kk x)]) (fun i _ => cells.getD i undef) h1 h3 (by simpa using h4) (fun n hn => by rw [ho g h1] at hn; cases hn)
      (fun ds hds => by obtain ⟨x, _, rfl⟩ := List.mem_map.1 hds; rfl) (fun i j hi hj => by
        have hi' : i < l.length := by simpa using hi
        have : j = 0 := by omega
        subst this
        have hlt : i < cells.size := by omega
        simp [hlt]) (fun i j ds x q1 q2 => by
        rw [List.getElem?_map] at q1
        obtain ⟨y, hy, rfl⟩ := Option.map_eq_some_iff.1 q1
        have : j = 0 := by
          have := (List.getElem?_eq_some_iff.1 q2).1
          simpa using this
        subst this
        simp only [List.getElem?_cons_zero, Option.some.injEq] at q2
        subst q2
        have := h6 i y hy
        have e : cells.getD i undef = .int kk y := by simp [this]
        rw [e]
        exact .val _ rfl)
    simpa using this
theorem FnM.toFn {P : Program} {f : FuncId} {args : List P1} {kk : IntKind} {l : List Int} (h : FnM P f args kk l) : Fn P f args true (.one (.d (.sl (l.map fun x => [D.val (.int kk x)])))) :=
  ⟨h.1, fun w own b0 vals h1 h2 h3 => (h.2 w own b0 vals h1 h2 h3).mono fun e w' ⟨v, e1, e2, e3⟩ =>
    ⟨v, e1, e2, fun g => bif Nat.blt g w.heap.size then own g else none, fun g hg => by simp only [show Nat.blt g w.heap.size = true by simpa [Nat.blt_eq] using hg]; rfl,
      e3.rel _ (fun g hg => by simp only [show Nat.blt g w.heap.size = false by cases e : Nat.blt g w.heap.size with | false => rfl | true => rw [Nat.blt_eq] at e; omega]; rfl)⟩⟩
theorem Fn.loose {P : Program} {f : FuncId} {args : List P1} {r : PV} (h : Fn P f args true r) : Fn P f args false r :=
  ⟨h.1, fun w own b0 vals h1 h2 h3 => (h.2 w own b0 vals h1 h2 h3).mono fun e w' ⟨v, e1, e2, own', e3, e4⟩ => by
    refine ⟨v, e1, e2, own', e3, ?_⟩
    cases r with
    | one p => cases p with
      | d x => exact RelD.mono h1 e4
      | agg xs => obtain ⟨a, q1, q2, q3⟩ := e4; exact ⟨a, q1, q2, fun j x hj => (q3 j x hj).mono h1⟩
      | dx xs => exact ⟨RelD.mono h1 e4.1, e4.2⟩
    | tup ps =>
      obtain ⟨a, q1, q2, q3⟩ := e4
      refine ⟨a, q1, q2, fun j p hj => ?_⟩
      have := q3 j p hj
      cases p with
      | d x => exact RelD.mono h1 this
      | agg xs => obtain ⟨a', k1, k2, k3⟩ := this; exact ⟨a', k1, k2, fun j x hj => (k3 j x hj).mono h1⟩
      | dx xs => exact ⟨RelD.mono h1 this.1, this.2⟩⟩
/-- A slice that ends with its room, told as any slice. -/
theorem Fn.loseX {P : Program} {f : FuncId} {args : List P1} {fr : Bool} {xs : List (List D)} (h : Fn P f args fr (.one (.dx xs))) : Fn P f args fr (.one (.d (.sl xs))) :=
  ⟨h.1, fun w own b0 vals h1 h2 h3 => (h.2 w own b0 vals h1 h2 h3).mono fun e w' ⟨v, e1, e2, own', e3, e4⟩ => ⟨v, e1, e2, own', e3, e4.1⟩⟩

section
variable {X : Nat → Bool} {P : Program} {E : Ent} {S : St} {Q : Exit → St → Prop} {ops : Array Oper} {rest : List Oper}
  {d : Option Tmp} {ty : TypeId} {ps : String} {af : Array Edge} {gd : Option (Nat × Bool)}

theorem args_rel {a : Act} {w : World} {G : Env} (h : RS E S a w G) (fa : Bool) {args : Array Operand} {fs cs : List C} {fv cv : Array Value} {as : List P1} (q1 : fv.size = fs.length) (q2 : cv.size = cs.length)
    (q3 : ∀ j c, fs[j]? = some c → RelC w G E.B (lvOf S.σ) (fv.getD j undef) c) (q4 : ∀ j c, cs[j]? = some c → RelC w G E.B (lvOf S.σ) (cv.getD j undef) c)
    (ha : fitsL fa (fs.map V.c ++ args.toList.map S.ev ++ cs.map V.c) as) :
    (fv ++ args.map a.eval ++ cv).size = as.length ∧ ∀ j p, as[j]? = some p → RelP1 w G.own (E.B.at fa) ((fv ++ args.map a.eval ++ cv).getD j undef) p := by
  obtain ⟨e1, e2⟩ := fitsL_get ha
  refine ⟨by simp only [Array.size_append, Array.size_map]; rw [← e1]; simp [q1, q2]; omega, fun j p hj => ?_⟩
  obtain ⟨v, hv, hp⟩ := e2 j p hj
  refine fits_rel (G := G) (B := E.B) (lv := lvOf S.σ) (fr := fa) ?_ hp
  rw [List.append_assoc, List.getElem?_append] at hv
  simp only [Array.getD_eq_getD_getElem?, Array.append_assoc, Array.getElem?_append, Array.size_map]
  split at hv
  · rename_i hlt
    rw [List.length_map] at hlt
    rw [if_pos (by omega)]
    rw [List.getElem?_map] at hv
    obtain ⟨c, hc, rfl⟩ := Option.map_eq_some_iff.1 hv
    have := q3 j c hc
    rw [Array.getD_eq_getD_getElem?] at this
    exact .c this
  · rename_i hge
    rw [List.length_map] at hge hv
    rw [if_neg (by omega)]
    rw [List.getElem?_append] at hv
    simp only [List.length_map, Array.length_toList] at hv
    split at hv
    · rename_i hlt
      rw [if_pos (by omega), q1]
      rw [List.getElem?_map] at hv
      obtain ⟨o, ho, rfl⟩ := Option.map_eq_some_iff.1 hv
      have ho' : args[j - fs.length]? = some o := by simpa using ho
      simp only [Array.getElem?_map, ho', Option.map_some, Option.getD_some]
      exact ev_rel h o
    · rename_i hge2
      rw [if_neg (by omega), q1]
      rw [List.getElem?_map] at hv
      obtain ⟨c, hc, rfl⟩ := Option.map_eq_some_iff.1 hv
      have := q4 _ c hc
      rw [Array.getD_eq_getD_getElem?] at this
      exact .c this

/-- A box told anew by id k: in block go of a later world, or in none if it is empty. -/
theorem RS.newBoxG {a : Act} {w w' : World} {G : Env} (r : RS E S a w G) (k : Nat) (hE : E.σ k = none) (hX : Free X S k) (go : Option Nat) {cs : List C}
    (hsz : w.heap.size ≤ w'.heap.size) (hos : w'.os = w.os) (htape : w'.tape = w.tape) (hout : w'.output = w.output) (hold : ∀ g, g < w.heap.size → w'.heap[g]? = w.heap[g]?)
    (hgo : ∀ g, go = some g → w.heap.size ≤ g ∧ g < w'.heap.size)
    (hbx : cs ≠ [] → ∃ g cells e, go = some g ∧ w'.heap[g]? = some (.cells cells e (0, 0)) ∧ cs.length ≤ cells.size ∧ ∀ j c, cs[j]? = some c → ∀ G' lv, RelC w' G' E.B lv (cells.getD j undef) (c.kill k)) {v : Value} {x : V}
    (hv : ∀ G' : Env, G'.ι k = go → RelV w' G' E.B (lvOf ((S.kill k).box k (some (.box (C.killL k cs)))).σ) v x) :
    ∃ G', Keep X w G w' G' ∧ RS E (((S.kill k).box k (some (.box (C.killL k cs)))).setO d x) (a.put d v) w' G' := by
  let G' : Env := { own := fun q => bif Nat.blt q w.heap.size then G.own q else (go.bind fun g => bif Nat.beq q g then some 0 else none), ι := fun i => bif Nat.beq i k then go else G.ι i }
  have blt_t : ∀ q, q < w.heap.size → Nat.blt q w.heap.size = true := fun q hq => by simpa [Nat.blt_eq] using hq
  have blt_f : ∀ q, w.heap.size ≤ q → Nat.blt q w.heap.size = false := fun q hq => by
    cases e : Nat.blt q w.heap.size with
    | false => rfl
    | true => rw [Nat.blt_eq] at e; omega
  have hp : PExt w G w' G' := ⟨hsz, hos, htape, hout, hold, fun g hg => by simp only [G', blt_t g hg]; rfl⟩
  have hog : ∀ g, go = some g → G'.own g = some 0 := fun g hg => by
    simp only [G', blt_f g (hgo g hg).1, hg, Option.bind_some, Nat.beq_refl]; rfl
  have hlv : ∀ id, id ≠ k → lvOf ((S.kill k).box k (some (.box (C.killL k cs)))).σ id = lvOf S.σ id := fun id hid => by
    have := congrFun (lv_kill S k) id
    simp only [lvOf, St.box] at this ⊢
    rw [beq_ne hid]
    exact this
  have hst : StayK k w G (lvOf S.σ) w' G' (lvOf ((S.kill k).box k (some (.box (C.killL k cs)))).σ) := by
    refine ⟨hp.step, fun id g hid hg => ?_, fun id hid hl => ?_, fun id hid hl => ?_⟩
    · simp only [G']; rw [beq_ne hid]; exact hg
    · rw [hlv id hid] at hl
      exact ⟨hl, fun g hg => ⟨hp.heap g (r.good.lt id g (lv_some hl) hg).1, hp.own g (r.good.lt id g (lv_some hl) hg).1⟩⟩
    · simp only [G']; rw [beq_ne hid]; rfl
  have hbox : ∀ id, id ≠ k → ∀ o, ((S.kill k).box k (some (.box (C.killL k cs)))).σ id = some o → ∃ o', S.σ id = some o' ∧ o = o'.kill k := fun id hid o h => by
    simp only [St.box, St.kill] at h
    rw [beq_ne hid] at h
    simp only [cond_false, Option.map_eq_some_iff] at h
    obtain ⟨o', h1, h2⟩ := h
    exact ⟨o', h1, h2.symm⟩
  have hsome : ∀ id, id ≠ k → (((S.kill k).box k (some (.box (C.killL k cs)))).σ id).isSome = true → (S.σ id).isSome = true := fun id hid h => by
    obtain ⟨o, ho⟩ := Option.isSome_iff_exists.1 h
    obtain ⟨o', h1, _⟩ := hbox id hid o ho
    simp [h1]
  have hιk : ∀ id, id ≠ k → G'.ι id = G.ι id := fun id hid => by simp only [G']; rw [beq_ne hid]; rfl
  have hιkk : G'.ι k = go := by simp [G']
  have hgood : Good w' G' E.B E.acc ((S.kill k).box k (some (.box (C.killL k cs)))).σ := by
    refine ⟨fun id g q1 q2 => ?_, fun id id' g q1 q2 q3 q4 => ?_, fun id g q1 q2 => ?_, fun id cs' q1 hne => ?_⟩
    · by_cases hid : id = k
      · subst hid
        rw [hιkk] at q2
        exact .inl (Nat.le_trans r.hist.step.size (hgo g q2).1)
      · rw [hιk id hid] at q2
        exact r.good.wh id g (hsome id hid q1) q2
    · by_cases hid : id = k
      · by_cases hid' : id' = k
        · exact hid.trans hid'.symm
        · subst hid
          rw [hιkk] at q3
          rw [hιk id' hid'] at q4
          have h1 := (hgo g q3).1
          exact absurd (r.good.lt id' g (hsome id' hid' q2) q4).1 (by omega)
      · by_cases hid' : id' = k
        · subst hid'
          rw [hιkk] at q4
          rw [hιk id hid] at q3
          have h1 := (hgo g q4).1
          exact absurd (r.good.lt id g (hsome id hid q1) q3).1 (by omega)
        · rw [hιk id hid] at q3
          rw [hιk id' hid'] at q4
          exact r.good.inj id id' g (hsome id hid q1) (hsome id' hid' q2) q3 q4
    · by_cases hid : id = k
      · subst hid
        rw [hιkk] at q2
        exact ⟨(hgo g q2).2, by rw [hog g q2]; rfl⟩
      · rw [hιk id hid] at q2
        obtain ⟨a1, a2⟩ := r.good.lt id g (hsome id hid q1) q2
        exact ⟨Nat.lt_of_lt_of_le a1 hsz, by rw [hp.own g a1]; exact a2⟩
    · by_cases hid : id = k
      · subst hid
        have : cs' = C.killL id cs := by simpa [St.box] using q1.symm
        subst this
        obtain ⟨g, cells, e, b1, b2, b3, b4⟩ := hbx (fun e => hne (by rw [e]; rfl))
        refine ⟨g, cells, e, hιkk.trans b1, b2, by rw [killL_length]; exact b3, hog g b1, fun j c hj => ?_⟩
        rw [killL_get] at hj
        obtain ⟨y, hy, rfl⟩ := Option.map_eq_some_iff.1 hj
        exact b4 j y hy _ _
      · obtain ⟨o', b1, b2⟩ := hbox id hid _ q1
        cases o' with
        | row => cases b2
        | box cs0 =>
          simp only [O.kill, O.box.injEq] at b2
          subst b2
          obtain ⟨g, cells, e', c1, c2, c3, c4, c5⟩ := r.good.box id cs0 b1 (fun e => hne (by rw [e]; rfl))
          have hg := lt_of_heap c2
          refine ⟨g, cells, e', (hιk id hid).trans c1, (hp.heap g hg).trans c2, by rw [killL_length]; exact c3, (hp.own g hg).trans c4, fun j c hj => ?_⟩
          rw [killL_get] at hj
          obtain ⟨y, hy, rfl⟩ := Option.map_eq_some_iff.1 hj
          exact (c5 j y hy).stayK hst
  have r0 : RS E ((S.kill k).box k (some (.box (C.killL k cs)))) a w' G' :=
    ⟨r.defers, r.size, fun t u hu => (r.slots t u hu).stayK hst, hgood, r.hist.ext hp (fun id hi => hιk id fun e => by rw [e, hE] at hi; cases hi)⟩
  refine ⟨G', ⟨hp.step, fun id g hXi hi hg ho => ?_⟩, r0.put (Stay.refl _ _ _) r0.hist r0.good (hv G' hιkk) rfl⟩
  have hid : id ≠ k := (hX id hXi).1
  exact ⟨(hιk id hid).trans hi, hp.heap g hg, (hp.own g hg).trans ho⟩

/-- A row that begins, told by id k. -/
theorem RS.newRowG {a : Act} {w w' : World} {G : Env} (r : RS E S a w G) (k : Nat) (hE : E.σ k = none) (hX : Free X S k) 
    (hsz : w.heap.size ≤ w'.heap.size) (hos : w'.os = w.os) (htape : w'.tape = w.tape) (hout : w'.output = w.output) (hold : ∀ g, g < w.heap.size → w'.heap[g]? = w.heap[g]?)
    {v : Value} {x : V}
    (hv : ∀ G' : Env, G'.ι k = none → RelV w' G' E.B (lvOf ((S.kill k).box k (some .row)).σ) v x) :
    ∃ G', Keep X w G w' G' ∧ RS E (((S.kill k).box k (some .row)).setO d x) (a.put d v) w' G' := by
  let G' : Env := { own := fun q => bif Nat.blt q w.heap.size then G.own q else none, ι := fun i => bif Nat.beq i k then none else G.ι i }
  have blt_t : ∀ q, q < w.heap.size → Nat.blt q w.heap.size = true := fun q hq => by simpa [Nat.blt_eq] using hq
  have blt_f : ∀ q, w.heap.size ≤ q → Nat.blt q w.heap.size = false := fun q hq => by
    cases e : Nat.blt q w.heap.size with
    | false => rfl
    | true => rw [Nat.blt_eq] at e; omega
  have hp : PExt w G w' G' := ⟨hsz, hos, htape, hout, hold, fun g hg => by simp only [G', blt_t g hg]; rfl⟩
  have hlv : ∀ id, id ≠ k → lvOf ((S.kill k).box k (some .row)).σ id = lvOf S.σ id := fun id hid => by
    have := congrFun (lv_kill S k) id
    simp only [lvOf, St.box] at this ⊢
    rw [beq_ne hid]
    exact this
  have hst : StayK k w G (lvOf S.σ) w' G' (lvOf ((S.kill k).box k (some .row)).σ) := by
    refine ⟨hp.step, fun id g hid hg => ?_, fun id hid hl => ?_, fun id hid hl => ?_⟩
    · simp only [G']; rw [beq_ne hid]; exact hg
    · rw [hlv id hid] at hl
      exact ⟨hl, fun g hg => ⟨hp.heap g (r.good.lt id g (lv_some hl) hg).1, hp.own g (r.good.lt id g (lv_some hl) hg).1⟩⟩
    · simp only [G']; rw [beq_ne hid]; rfl
  have hbox : ∀ id, id ≠ k → ∀ o, ((S.kill k).box k (some .row)).σ id = some o → ∃ o', S.σ id = some o' ∧ o = o'.kill k := fun id hid o h => by
    simp only [St.box, St.kill] at h
    rw [beq_ne hid] at h
    simp only [cond_false, Option.map_eq_some_iff] at h
    obtain ⟨o', h1, h2⟩ := h
    exact ⟨o', h1, h2.symm⟩
  have hsome : ∀ id, id ≠ k → (((S.kill k).box k (some .row)).σ id).isSome = true → (S.σ id).isSome = true := fun id hid h => by
    obtain ⟨o, ho⟩ := Option.isSome_iff_exists.1 h
    obtain ⟨o', h1, _⟩ := hbox id hid o ho
    simp [h1]
  have hιk : ∀ id, id ≠ k → G'.ι id = G.ι id := fun id hid => by simp only [G']; rw [beq_ne hid]; rfl
  have hιkk : G'.ι k = none := by simp [G']
  have hgood : Good w' G' E.B E.acc ((S.kill k).box k (some .row)).σ := by
    refine ⟨fun id g q1 q2 => ?_, fun id id' g q1 q2 q3 q4 => ?_, fun id g q1 q2 => ?_, fun id cs' q1 hne => ?_⟩
    · by_cases hid : id = k
      · subst hid
        rw [hιkk] at q2
        cases q2
      · rw [hιk id hid] at q2
        exact r.good.wh id g (hsome id hid q1) q2
    · by_cases hid : id = k
      · by_cases hid' : id' = k
        · exact hid.trans hid'.symm
        · subst hid
          rw [hιkk] at q3
          rw [hιk id' hid'] at q4
          cases q3
      · by_cases hid' : id' = k
        · subst hid'
          rw [hιkk] at q4
          rw [hιk id hid] at q3
          cases q4
        · rw [hιk id hid] at q3
          rw [hιk id' hid'] at q4
          exact r.good.inj id id' g (hsome id hid q1) (hsome id' hid' q2) q3 q4
    · by_cases hid : id = k
      · subst hid
        rw [hιkk] at q2
        cases q2
      · rw [hιk id hid] at q2
        obtain ⟨a1, a2⟩ := r.good.lt id g (hsome id hid q1) q2
        exact ⟨Nat.lt_of_lt_of_le a1 hsz, by rw [hp.own g a1]; exact a2⟩
    · by_cases hid : id = k
      · subst hid
        simp [St.box] at q1
      · obtain ⟨o', b1, b2⟩ := hbox id hid _ q1
        cases o' with
        | row => cases b2
        | box cs0 =>
          simp only [O.kill, O.box.injEq] at b2
          subst b2
          obtain ⟨g, cells, e', c1, c2, c3, c4, c5⟩ := r.good.box id cs0 b1 (fun e => hne (by rw [e]; rfl))
          have hg := lt_of_heap c2
          refine ⟨g, cells, e', (hιk id hid).trans c1, (hp.heap g hg).trans c2, by rw [killL_length]; exact c3, (hp.own g hg).trans c4, fun j c hj => ?_⟩
          rw [killL_get] at hj
          obtain ⟨y, hy, rfl⟩ := Option.map_eq_some_iff.1 hj
          exact (c5 j y hy).stayK hst
  have r0 : RS E ((S.kill k).box k (some .row)) a w' G' :=
    ⟨r.defers, r.size, fun t u hu => (r.slots t u hu).stayK hst, hgood, r.hist.ext hp (fun id hi => hιk id fun e => by rw [e, hE] at hi; cases hi)⟩
  refine ⟨G', ⟨hp.step, fun id g hXi hi hg ho => ?_⟩, r0.put (Stay.refl _ _ _) r0.hist r0.good (hv G' hιkk) rfl⟩
  have hid : id ≠ k := (hX id hXi).1
  exact ⟨(hιk id hid).trans hi, hp.heap g hg, (hp.own g hg).trans ho⟩

/-- An empty slice that is built begins a row. -/
theorem D_emptyRow (k : Nat) (hE : E.σ k = none) (hX : Free X S k) {t e sz : Nat} {z : Value}
    (hu : P.underlying t = some (.slice e)) (hz : (P.info? e).map (fun i => (i.size, i.zero)) = some (sz, some z)) :
    Does X P E S ⟨d, .buildSlice t 0 #[], ty, ps, af, gd⟩ (((S.kill k).box k (some .row)).setO d (.c (.own k e sz true []))) :=
  Does_op fun a w G h => by
    obtain ⟨i, hi, hi2⟩ := Option.map_eq_some_iff.1 hz
    simp only [Prod.mk.injEq] at hi2
    obtain ⟨his, hiz⟩ := hi2
    obtain ⟨G', hk, hr⟩ := h.newRowG (d := d) (w' := w.alloc (.cells #[] e)) k hE hX (by simp) rfl rfl rfl (fun g hg => heap_alloc_old w _ g hg) (v := .slice (some ⟨w.heap.size, 0, none⟩) 0 0) (x := .c (.own k e sz true []))
      (fun G' hG => .c (.own (.emp _ _) (fun _ h => by cases h) (fun _ => .inl ⟨⟨_, rfl⟩, rfl, hG⟩) (fun _ g hg => by rw [hG] at hg; cases hg)))
    refine ⟨_, _, G', .inl ?_, hk, hr⟩
    simp [execOp, Instr.buildSlice, run_underlying hu, sizeOf, typeInfo, hi, his, Instr.fill, newRow]
    rw [Array.eq_empty_of_size_eq_zero (xs := Array.map (fun _ => (default : Value)) (Array.range 0)) (by simp)]

/-- A call whose answer is a new row. -/
theorem D_callM (k : Nat) (hE : E.σ k = none) (hX : Free X S k) {f : FuncId} {x : Operand} {args : Array Operand} {ats : Array TypeId} {fs cs : List C} {as : List P1} {kk : IntKind} {l : List Int}
    (hF : FnM P f as kk l) (hx : calleeOf (S.ev x) = some (f, fs, cs)) (ha : fitsL false (fs.map V.c ++ args.toList.map S.ev ++ cs.map V.c) as) :
    Does X P E S ⟨d, .call { callee := .value x, args := args, argTypes := ats }, ty, ps, af, gd⟩ (((S.kill k).box k (some (.box (l.map (ci kk))))).setO d (.c (.msl k 0 l.length l.length))) := fun a w G h K Qx hK => by
  obtain ⟨fv, cv, q1, q2, q3, q4, hrun⟩ := callee_run (d := d) (ty := ty) (ps := ps) (af := af) (gd := gd) (args := args) (ats := ats) h hx hF.1
  obtain ⟨e1, e2⟩ := args_rel h false q1 q2 q3 q4 ha
  have hcall := hF.2 w G.own (E.B.at false) (fv ++ args.map a.eval ++ cv) (Nat.le_trans (E.B.at_hi false) h.hist.step.size) e1 e2
  unfold Oper.wp
  rw [hrun, Oper.upon_enter]
  refine hcall.mono ?_
  rintro e w' ⟨v, rfl, hb, hnew⟩
  have hkl : C.killL k (l.map (ci kk)) = l.map (ci kk) := killL_map _ _ (ci_kill k kk) l
  rw [← hkl] at hK
  rcases hnew with ⟨rfl, a', c, rfl⟩ | ⟨g, cells, e, c, rfl, h1, h2, h3, h4, h5, h6⟩
  · obtain ⟨G', hkeep, hr⟩ := h.newBoxG (d := d) k hE hX none (cs := ([] : List Int).map (ci kk)) hb.size hb.os hb.tape hb.output hb.block (fun g hg => by cases hg) (fun hne => absurd rfl hne) (v := .slice a' 0 c) (x := .c (.msl k 0 0 0)) (fun G' _ => .c .mslE)
    exact hK _ _ G' hkeep hr
  · obtain ⟨G', hkeep, hr⟩ := h.newBoxG (d := d) k hE hX (some g) (cs := l.map (ci kk)) hb.size hb.os hb.tape hb.output hb.block (fun g' hg => by cases hg; exact ⟨h1, h2⟩)
      (fun _ => ⟨g, cells, e, rfl, h3, by simpa using h5, fun j c' hj G' lv => by
        rw [List.getElem?_map] at hj
        obtain ⟨y, hy, rfl⟩ := Option.map_eq_some_iff.1 hj
        have e : cells.getD j undef = .int kk y := by simp [h6 j y hy]
        rw [e]
        exact .d (.val _ rfl)⟩) (v := .slice (some ⟨g, 0, none⟩) l.length c) (x := .c (.msl k 0 l.length l.length)) (fun G' hG => .c (.msl hG h4))
    exact hK _ _ G' hkeep hr

/-- A function that tells a row that it made: its body. -/
def retM (kk : IntKind) (l : List Int) (t : Nat) : Exit → St → Prop
  | .ret, S => Nat.blt t S.n = true ∧ ((l = [] ∧ ∃ fr, S.sl t = .c (.d fr (.val (.slice none 0 0)))) ∨ ∃ id e fr, S.sl t = .c (.own id e 1 fr (l.map fun x => [D.val (.int kk x)])) ∧ S.σ id = some .row)
  | _, _ => False
theorem FnM_of_EV {f : FuncId} {fn : Func} {c : Code} {as : List P1} {kk : IntKind} {l : List Int} {t : Nat} (hf : P.funcs[f]? = some fn) (hb : fn.body = some c) (hc : callable P f = true) (hn : Nat.ble as.length fn.ntmps = true) (hrv : fn.results.toList = [.tmp t])
    (h : ∀ E : Ent, (∀ id, Nat.blt id 900 = true → E.σ id = none) → EV P E c (St.init as fn.ntmps) (retM kk l t)) : FnM P f as kk l := by
  refine ⟨hc, fun w own b0 vals hb0 hsz hv => ?_⟩
  let E : Ent := { w := w, G := { own := own, ι := fun _ => none }, σ := fun _ => none, b0 := b0, hb := hb0 }
  have hle : as.length ≤ fn.ntmps := Nat.le_of_ble_eq_true hn
  refine calls_of_wp hf hb (wp_mono (h E (fun _ _ => rfl) _ w E.G ⟨rfl, ?_, fun t v ht => ?_, ⟨fun id g h1 => by simp [St.init] at h1, fun id id' g h1 => by simp [St.init] at h1, fun id g h1 => by simp [St.init] at h1, fun id cs h1 => by simp [St.init] at h1⟩,
    ⟨Step.refl _ _, fun g _ _ => ⟨rfl, rfl⟩, fun _ _ _ => rfl⟩⟩) fun e a' w' ⟨S', G', hq, hr⟩ => ?_)
  · simp [St.init, hsz]; omega
  · simp only [St.init]
    cases hp : as[t]? with
    | none => exact .c (.none _)
    | some p =>
      have hlt : t < vals.size := by rw [hsz]; exact (List.getElem?_eq_some_iff.1 hp).1
      rw [Array.getElem?_append_left hlt] at ht
      have := hv t p hp
      rw [Array.getD_eq_getD_getElem?, ht] at this
      exact toV_rel (B := E.B) (fr := false) this
  · cases e with
    | ret =>
      obtain ⟨k1, k2⟩ := hq
      have hlt : t < a'.tmps.size := by rw [hr.size]; simpa [Nat.blt_eq] using k1
      have hres : fn.results = #[.tmp t] := by
        have : fn.results = [ResultVar.tmp t].toArray := by rw [← hrv]
        simpa using this
      have hrun : (results fn a'.tmps).run P w' = .ok a'.tmps[t] w' := by
        rw [results_eq, hres]
        simp [resOne, hlt]
      have hs := hr.slots t a'.tmps[t] (by simp [hlt])
      refine ⟨hr.defers, a'.tmps[t], hrun, a'.tmps[t], rfl, ⟨hr.hist.step.os, hr.hist.step.tape, hr.hist.step.output, hr.hist.step.size, fun g hg => (hr.hist.old g hg (fun _ hs => by simp [E] at hs)).1⟩, ?_⟩
      generalize a'.tmps[t] = v at hs
      rcases k2 with ⟨rfl, fr, e1⟩ | ⟨id, e, fr, e1, e2⟩
      · rw [e1] at hs
        obtain ⟨rfl, _⟩ := valOf_rel hs rfl
        exact .inl ⟨rfl, _, _, rfl⟩
      · rw [e1] at hs
        cases hs with
        | c hs => cases hs with
          | own hd hds hl hB =>
            have hlv : lvOf S'.σ id = true := by simp [lvOf, e2]
            rcases hl hlv with ⟨⟨_, rfl⟩, h0, _⟩ | ⟨g, cap, cur, rfl, hι, hbk, h1, h2, h3, h4⟩
            · have : l = [] := List.eq_nil_of_length_eq_zero (by simpa using h0)
              exact .inl ⟨this, _, _, rfl⟩
            · obtain ⟨cvx, hcx, hrx⟩ := head_elems hd hbk hds
              have hgB : w.heap.size ≤ g := by
                rcases hr.good.wh id g (by simp [e2]) hι with q | ⟨q, _⟩
                · exact q
                · simp [E] at q
              refine .inr ⟨g, cur, e, cap, by simp, hgB, lt_of_heap hbk, hbk, by simpa using h1, by simp at h1; omega, fun j y hj => ?_⟩
              have hj' : j < l.length := (List.getElem?_eq_some_iff.1 hj).1
              have c1 := hcx j 0 (by simpa using hj') (by omega)
              have c2 := hrx j 0 [D.val (.int kk y)] (D.val (.int kk y)) (by rw [List.getElem?_map, hj]; rfl) rfl
              simp only [Nat.mul_one, Nat.add_zero] at c1
              rw [c1]
              generalize cvx j 0 = u at c2
              cases c2
              rfl
    | _ => exact hq.elim
end
end Go.Proofs.YthaiegnohkiegaaGreat.Ab
/-
  The calculus, continued: functions that write boxes of the caller's (FnS), and their calls.
-/
namespace Go.Proofs.YthaiegnohkiegaaGreat.Ab
open Go.RowKit (Below)
set_option linter.unusedVariables false
set_option linter.unusedSimpArgs false

def bxs (bs : List (Nat × List C)) : List (Nat × O) := bs.map fun x => (x.1, .box x.2)
theorem bxs_lv (bs : List (Nat × List C)) : ∀ id, lvOf (tabO (bxs bs)) id = false := by
  induction bs with
  | nil => intro id; rfl
  | cons x bs ih =>
    intro id
    have := ih id
    simp only [bxs, List.map_cons, lvOf, tabO] at this ⊢
    cases Nat.beq id x.1 with
    | true => rfl
    | false => exact this
theorem bxs_some {bs : List (Nat × List C)} {id : Nat} {o : O} (h : tabO (bxs bs) id = some o) : ∃ cs, (id, cs) ∈ bs ∧ o = .box cs ∧ tab bs id = some cs := by
  induction bs with
  | nil => cases h
  | cons x bs ih =>
    simp only [bxs, List.map_cons, tabO] at h
    by_cases e : id = x.1
    · subst e
      simp only [Nat.beq_refl, cond_true, Option.some.injEq] at h
      exact ⟨x.2, by simp, h.symm, by simp [tab]⟩
    · rw [beq_ne e] at h
      obtain ⟨cs, h1, h2, h3⟩ := ih h
      refine ⟨cs, by simp [h1], h2, ?_⟩
      simp only [tab]
      rw [beq_ne e]
      exact h3
theorem bxs_of_tab {bs : List (Nat × List C)} {id : Nat} {cs : List C} (h : tab bs id = some cs) : tabO (bxs bs) id = some (.box cs) := by
  induction bs with
  | nil => cases h
  | cons x bs ih =>
    simp only [tab] at h
    simp only [bxs, List.map_cons, tabO]
    by_cases e : id = x.1
    · subst e
      simp only [Nat.beq_refl, cond_true, Option.some.injEq] at h ⊢
      rw [h]
    · rw [beq_ne e] at h ⊢
      exact ih h
theorem tab_keys {α β : Type} {l : List (Nat × α)} {m : List (Nat × β)} (h : l.map (·.1) = m.map (·.1)) (id : Nat) : (tab l id).isSome = (tab m id).isSome := by
  induction l generalizing m with
  | nil => cases m with
    | nil => rfl
    | cons => cases h
  | cons x l ih => cases m with
    | nil => cases h
    | cons y m =>
      simp only [List.map_cons, List.cons.injEq] at h
      simp only [tab, h.1]
      cases Nat.beq id y.1 with
      | true => rfl
      | false => exact ih h.2

/-- A function that writes boxes. -/
def FnS (P : Program) (f : FuncId) (args : List V) (bs : List (Nat × List C)) (r : V) (bs' : List (Nat × List C)) : Prop :=
  callable P f = true ∧ ∀ (E : Ent) (vals : Array Value), E.σ = tabO (bxs bs) → vals.size = args.length → (∀ j x, args[j]? = some x → RelV E.w E.G E.B (fun _ => false) (vals.getD j undef) x) → Good E.w E.G E.B E.acc E.σ →
    Calls P f vals E.w fun e w' => ∃ v G', e = .returned v ∧ Hist E w' G' ∧ RelV w' G' E.B (fun _ => false) v r ∧ Good w' G' E.B E.acc (tabO (bxs bs'))

/-- What the caller's cells are to the callee. m: the callee's ids, the caller's. -/
def inv (m : List (Nat × Nat)) (id : Nat) : Option Nat := match m with
  | [] => none
  | (k, j) :: m => bif Nat.beq id j then some k else inv m id
mutual
def C.tr (m : List (Nat × Nat)) : C → Option C
  | .d _ (.val v) => some (.d true (.val v))
  | .d _ x => some (.d false x)
  | .own _ _ _ _ xs => some (.d false (.sl xs))
  | .ref id o => (inv m id).map (.ref · o)
  | .msl id o l c => (inv m id).map (.msl · o l c)
  | .ex _ xs => some (.ex false xs)
  | .gro id e l z => (inv m id).map (.gro · e l z)
  | .fn f fs cs => match C.trL m fs, C.trL m cs with
    | some fs', some cs' => some (.fn f fs' cs')
    | _, _ => Option.none
  | .none => some .none
def C.trL (m : List (Nat × Nat)) : List C → Option (List C)
  | [] => some []
  | c :: cs => match C.tr m c, C.trL m cs with
    | some c', some cs' => some (c' :: cs')
    | _, _ => Option.none
end
def V.tr (m : List (Nat × Nat)) : V → Option V
  | .c x => (C.tr m x).map .c
  | .agg cs => (C.trL m cs).map .agg
  | .tup _ => none
def trV (m : List (Nat × Nat)) : List V → Option (List V)
  | [] => some []
  | c :: cs => match V.tr m c, trV m cs with
    | some c', some cs' => some (c' :: cs')
    | _, _ => none
/-! And back. -/
mutual
def C.bk (m : List (Nat × Nat)) : C → C
  | .d fr x => .d fr x
  | .own _ _ _ fr xs => .d fr (.sl xs)
  | .ref id o => match tab m id with | some k => .ref k o | Option.none => .none
  | .msl id o l c => match tab m id with | some k => .msl k o l c | Option.none => .none
  | .ex fr xs => .ex fr xs
  | .gro id e l z => match tab m id with | some k => .gro k e l z | Option.none => .none
  | .fn f fs cs => .fn f (C.bkL m fs) (C.bkL m cs)
  | .none => .none
def C.bkL (m : List (Nat × Nat)) : List C → List C
  | [] => []
  | c :: cs => C.bk m c :: C.bkL m cs
end
mutual
def V.bk (m : List (Nat × Nat)) : V → V
  | .c x => .c (C.bk m x)
  | .agg cs => .agg (C.bkL m cs)
  | .tup vs => .tup (V.bkL m vs)
def V.bkL (m : List (Nat × Nat)) : List V → List V
  | [] => []
  | v :: vs => V.bk m v :: V.bkL m vs
end
theorem bkL_get (m : List (Nat × Nat)) : ∀ (cs : List C) (j : Nat), (C.bkL m cs)[j]? = (cs[j]?).map (C.bk m)
  | [], j => by simp [C.bkL]
  | c :: cs, 0 => by simp [C.bkL]
  | c :: cs, j + 1 => by simp only [C.bkL, List.getElem?_cons_succ]; exact bkL_get m cs j
theorem bkL_length (m : List (Nat × Nat)) : ∀ cs : List C, (C.bkL m cs).length = cs.length
  | [] => by simp [C.bkL]
  | c :: cs => by simp [C.bkL, bkL_length m cs]
theorem VbkL_get (m : List (Nat × Nat)) : ∀ (cs : List V) (j : Nat), (V.bkL m cs)[j]? = (cs[j]?).map (V.bk m)
  | [], j => by simp [V.bkL]
  | c :: cs, 0 => by simp [V.bkL]
  | c :: cs, j + 1 => by simp only [V.bkL, List.getElem?_cons_succ]; exact VbkL_get m cs j
theorem VbkL_length (m : List (Nat × Nat)) : ∀ cs : List V, (V.bkL m cs).length = cs.length
  | [] => by simp [V.bkL]
  | c :: cs => by simp [V.bkL, VbkL_length m cs]
theorem trL_get {m : List (Nat × Nat)} : ∀ {cs cs' : List C}, C.trL m cs = some cs' → cs'.length = cs.length ∧ ∀ (j : Nat) (c' : C), cs'[j]? = some c' → ∃ c, cs[j]? = some c ∧ C.tr m c = some c'
  | [], cs', h => by simp only [C.trL, Option.some.injEq] at h; subst h; exact ⟨rfl, fun j c h => by simp at h⟩
  | c :: cs, cs', h => by
    simp only [C.trL] at h
    split at h
    · rename_i c1 cs1 h1 h2
      simp only [Option.some.injEq] at h
      subst h
      obtain ⟨q1, q2⟩ := trL_get h2
      refine ⟨by simp [q1], fun j x hj => ?_⟩
      cases j with
      | zero => cases hj; exact ⟨c, rfl, h1⟩
      | succ j => simpa using q2 j x (by simpa using hj)
    · cases h
theorem trV_get {m : List (Nat × Nat)} : ∀ {cs cs' : List V}, trV m cs = some cs' → cs'.length = cs.length ∧ ∀ (j : Nat) (c' : V), cs'[j]? = some c' → ∃ c, cs[j]? = some c ∧ V.tr m c = some c'
  | [], cs', h => by simp only [trV, Option.some.injEq] at h; subst h; exact ⟨rfl, fun j c h => by simp at h⟩
  | c :: cs, cs', h => by
    simp only [trV] at h
    split at h
    · rename_i c1 cs1 h1 h2
      simp only [Option.some.injEq] at h
      subst h
      obtain ⟨q1, q2⟩ := trV_get h2
      refine ⟨by simp [q1], fun j x hj => ?_⟩
      cases j with
      | zero => cases hj; exact ⟨c, rfl, h1⟩
      | succ j => simpa using q2 j x (by simpa using hj)
    · cases h
theorem inv_mem {m : List (Nat × Nat)} {id k : Nat} (h : inv m id = some k) : (k, id) ∈ m := by
  induction m with
  | nil => cases h
  | cons x m ih =>
    obtain ⟨a, b⟩ := x
    simp only [inv] at h
    by_cases e : id = b
    · subst e; simp only [Nat.beq_refl, cond_true, Option.some.injEq] at h; subst h; simp
    · rw [beq_ne e] at h; exact List.mem_cons_of_mem _ (ih h)
/-- The callee's ids are apart, the caller's too. -/
def apartM : List (Nat × Nat) → Bool
  | [] => true
  | (k, j) :: m => m.all (fun x => !Nat.beq x.1 k && !Nat.beq x.2 j) && apartM m
theorem apart_tab {m : List (Nat × Nat)} (h : apartM m = true) {k j : Nat} (hm : (k, j) ∈ m) : tab m k = some j := by
  induction m with
  | nil => cases hm
  | cons x m ih =>
    obtain ⟨a, b⟩ := x
    simp only [apartM, Bool.and_eq_true, List.all_eq_true] at h
    simp only [tab]
    rcases List.mem_cons.1 hm with e | e
    · cases e; simp
    · have h1 := h.1 (k, j) e
      simp only [Bool.and_eq_true, Bool.not_eq_true'] at h1
      rw [h1.1]
      exact ih h.2 e
theorem apart_inj {m : List (Nat × Nat)} (h : apartM m = true) {k k' j : Nat} (h1 : (k, j) ∈ m) (h2 : (k', j) ∈ m) : k = k' := by
  induction m with
  | nil => cases h1
  | cons x m ih =>
    obtain ⟨a, b⟩ := x
    simp only [apartM, Bool.and_eq_true, List.all_eq_true] at h
    have hb : ∀ k'', (k'', b) ∈ m → False := fun k'' e => by
      have := h.1 (k'', b) e
      simp only [Bool.and_eq_true, Bool.not_eq_true'] at this
      have := this.2
      simp at this
    rcases List.mem_cons.1 h1 with e | e
    · cases e
      rcases List.mem_cons.1 h2 with e' | e'
      · cases e'; rfl
      · exact (hb _ e').elim
    · rcases List.mem_cons.1 h2 with e' | e'
      · cases e'; exact (hb _ e).elim
      · exact ih h.2 e e'

theorem tr_rel {w : World} {G G' : Env} {B B' : Base} {lv lv' : Nat → Bool} {m : List (Nat × Nat)} (ho : G'.own = G.own) (hB : B'.lo ≤ B.lo) (hm : ∀ k id g, (k, id) ∈ m → G.ι id = some g → G'.ι k = some g)
    {v : Value} {c : C} (h : RelC w G B lv v c) : ∀ c', C.tr m c = some c' → RelC w G' B' lv' v c' := by
  have hlo : ∀ f, B'.at false ≤ B.at f := fun f => by have := B.le; cases f <;> simp [Base.at] <;> omega
  induction h with
  | @d v fr x h =>
    intro c' hc
    cases x with
    | val u => simp only [C.tr, Option.some.injEq] at hc; subst hc; cases h; exact .d (.val _ (by assumption))
    | sl xs => simp only [C.tr, Option.some.injEq] at hc; subst hc; exact .d (ho ▸ h.mono (hlo fr))
    | pt xs => simp only [C.tr, Option.some.injEq] at hc; subst hc; exact .d (ho ▸ h.mono (hlo fr))
    | fn f a b => simp only [C.tr, Option.some.injEq] at hc; subst hc; exact .d (ho ▸ h.mono (hlo fr))
  | @own v id e sz fr xs h hs hl hB' => intro c' hc; simp only [C.tr, Option.some.injEq] at hc; subst hc; exact .d (ho ▸ h.mono (hlo fr))
  | ref h =>
    intro c' hc
    simp only [C.tr, Option.map_eq_some_iff] at hc
    obtain ⟨k, h1, rfl⟩ := hc
    exact .ref (hm _ _ _ (inv_mem h1) h)
  | msl h hcap =>
    intro c' hc
    simp only [C.tr, Option.map_eq_some_iff] at hc
    obtain ⟨k, h1, rfl⟩ := hc
    exact .msl (hm _ _ _ (inv_mem h1) h) hcap
  | mslE =>
    intro c' hc
    simp only [C.tr, Option.map_eq_some_iff] at hc
    obtain ⟨k, h1, rfl⟩ := hc
    exact .mslE
  | @ex v fr xs h hx => intro c' hc; simp only [C.tr, Option.some.injEq] at hc; subst hc; exact .ex (ho ▸ h.mono (hlo fr)) hx
  | gro h h0 hl hmx hb =>
    intro c' hc
    simp only [C.tr, Option.map_eq_some_iff] at hc
    obtain ⟨k, h1, rfl⟩ := hc
    exact .gro (hm _ _ _ (inv_mem h1) h) h0 hl hmx hb
  | groE =>
    intro c' hc
    simp only [C.tr, Option.map_eq_some_iff] at hc
    obtain ⟨k, h1, rfl⟩ := hc
    exact .groE
  | @fn f fs cs fv cv h1 h2 hf hf1 hc hc1 ihf ihc =>
    intro c' hcc
    simp only [C.tr] at hcc
    split at hcc
    · rename_i fs' cs' e1 e2
      simp only [Option.some.injEq] at hcc
      subst hcc
      obtain ⟨q1, q2⟩ := trL_get e1
      obtain ⟨q3, q4⟩ := trL_get e2
      exact .fn fv cv (by omega) (by omega) (fun j d hj => by obtain ⟨c, a1, a2⟩ := q2 j d hj; exact ihf j c a1 d a2) hf1 (fun j d hj => by obtain ⟨c, a1, a2⟩ := q4 j d hj; exact ihc j c a1 d a2) hc1
    · cases hcc
  | none v => intro c' hc; simp only [C.tr, Option.some.injEq] at hc; subst hc; exact .none _
theorem trV_rel {w : World} {G G' : Env} {B B' : Base} {lv lv' : Nat → Bool} {m : List (Nat × Nat)} (ho : G'.own = G.own) (hB : B'.lo ≤ B.lo) (hm : ∀ k id g, (k, id) ∈ m → G.ι id = some g → G'.ι k = some g)
    {v : Value} {x x' : V} (h : RelV w G B lv v x) (hx : V.tr m x = some x') : RelV w G' B' lv' v x' := by
  cases h with
  | c h =>
    simp only [V.tr, Option.map_eq_some_iff] at hx
    obtain ⟨c, h1, rfl⟩ := hx
    exact .c (tr_rel ho hB hm h c h1)
  | agg a h1 h =>
    simp only [V.tr, Option.map_eq_some_iff] at hx
    obtain ⟨cs', h2, rfl⟩ := hx
    obtain ⟨q1, q2⟩ := trL_get h2
    exact .agg a (by omega) fun j c hj => by obtain ⟨c0, a1, a2⟩ := q2 j c hj; exact tr_rel ho hB hm (h j c0 a1) c a2
  | tup a h1 h => cases hx
theorem bk_rel {w : World} {G G' : Env} {B B' : Base} {lv lv' : Nat → Bool} {m : List (Nat × Nat)} (ho : ∀ g n, G'.own g = some n → G.own g = some n) (hlo : ∀ f, B'.at f ≤ B.at f) (hm : ∀ k id g, tab m k = some id → G.ι k = some g → G'.ι id = some g)
    {v : Value} {c : C} (h : RelC w G B lv v c) : RelC w G' B' lv' v (c.bk m) := by
  induction h with
  | d h => exact .d ((h.unown ho).mono (hlo _))
  | own h => exact .d ((h.unown ho).mono (hlo _))
  | ref h =>
    simp only [C.bk]
    split
    · rename_i k e; exact .ref (hm _ _ _ e h)
    · exact .none _
  | msl h hcap =>
    simp only [C.bk]
    split
    · rename_i k e; exact .msl (hm _ _ _ e h) hcap
    · exact .none _
  | mslE =>
    simp only [C.bk]
    split
    · exact .mslE
    · exact .none _
  | ex h hx => exact .ex ((h.unown ho).mono (hlo _)) hx
  | gro h h0 hl hmx hb =>
    simp only [C.bk]
    split
    · rename_i k e; exact .gro (hm _ _ _ e h) h0 hl hmx hb
    · exact .none _
  | groE =>
    simp only [C.bk]
    split
    · exact .groE
    · exact .none _
  | fn fv cv h1 h2 hf hf1 hc hc1 ihf ihc =>
    refine .fn fv cv (by rw [bkL_length]; exact h1) (by rw [bkL_length]; exact h2) (fun j d hj => ?_) hf1 (fun j d hj => ?_) hc1
    · rw [bkL_get] at hj
      obtain ⟨c, a1, rfl⟩ := Option.map_eq_some_iff.1 hj
      exact ihf j c a1
    · rw [bkL_get] at hj
      obtain ⟨c, a1, rfl⟩ := Option.map_eq_some_iff.1 hj
      exact ihc j c a1
  | none v => exact .none _
theorem bkV_rel {w : World} {G G' : Env} {B B' : Base} {lv lv' : Nat → Bool} {m : List (Nat × Nat)} (ho : ∀ g n, G'.own g = some n → G.own g = some n) (hlo : ∀ f, B'.at f ≤ B.at f) (hm : ∀ k id g, tab m k = some id → G.ι k = some g → G'.ι id = some g)
    {v : Value} {x : V} (h : RelV w G B lv v x) : RelV w G' B' lv' v (x.bk m) := by
  induction h with
  | c h => exact .c (bk_rel ho hlo hm h)
  | agg a h1 h =>
    refine .agg a (by rw [bkL_length]; exact h1) fun j c hj => ?_
    rw [bkL_get] at hj
    obtain ⟨c, a1, rfl⟩ := Option.map_eq_some_iff.1 hj
    exact bk_rel ho hlo hm (h j c a1)
  | tup a h1 h ih =>
    refine .tup a (by rw [VbkL_length]; exact h1) fun j c hj => ?_
    rw [VbkL_get] at hj
    obtain ⟨c, a1, rfl⟩ := Option.map_eq_some_iff.1 hj
    exact ih j c a1

/-- The boxes, as the callee leaves them. -/
def St.upd (S : St) (m : List (Nat × Nat)) : List (Nat × List C) → St
  | [] => S
  | (k, cs) :: bs => match tab m k with
    | some id => (St.upd S m bs).box id (some (.box (C.bkL m cs)))
    | none => St.upd S m bs
def boxesIn (S : St) (m : List (Nat × Nat)) : List (Nat × List C) → Prop
  | [] => True
  | (k, cs') :: bs => (∃ id cs, tab m k = some id ∧ S.σ id = some (.box cs) ∧ C.trL m cs = some cs') ∧ boxesIn S m bs
theorem boxesIn_get {S : St} {m : List (Nat × Nat)} : ∀ {bs : List (Nat × List C)}, boxesIn S m bs → ∀ k cs', tab bs k = some cs' → ∃ id cs, tab m k = some id ∧ S.σ id = some (.box cs) ∧ C.trL m cs = some cs'
  | [], _, k, cs', h => by cases h
  | (a, b) :: bs, hb, k, cs', h => by
    simp only [tab] at h
    by_cases e : k = a
    · subst e; simp only [Nat.beq_refl, cond_true, Option.some.injEq] at h; subst h; exact hb.1
    · rw [beq_ne e] at h; exact boxesIn_get hb.2 k cs' h
theorem upd_sl (S : St) (m : List (Nat × Nat)) : ∀ bs, (S.upd m bs).sl = S.sl ∧ (S.upd m bs).n = S.n
  | [] => ⟨rfl, rfl⟩
  | (k, cs) :: bs => by
    simp only [St.upd]
    split
    · exact upd_sl S m bs
    · exact upd_sl S m bs
theorem upd_σ {S : St} {m : List (Nat × Nat)} (hm : apartM m = true) : ∀ (bs : List (Nat × List C)) (id : Nat),
    (∃ k cs, tab m k = some id ∧ tab bs k = some cs ∧ (S.upd m bs).σ id = some (.box (C.bkL m cs))) ∨ ((∀ k, tab m k = some id → tab bs k = none) ∧ (S.upd m bs).σ id = S.σ id)
  | [], id => .inr ⟨fun _ _ => rfl, rfl⟩
  | (a, b) :: bs, id => by
    have ih := upd_σ hm bs id (S := S)
    simp only [St.upd]
    cases ha : tab m a with
    | none =>
      simp only
      rcases ih with ⟨k, cs, h1, h2, h3⟩ | ⟨h1, h2⟩
      · have : k ≠ a := fun e => by rw [e, ha] at h1; cases h1
        exact .inl ⟨k, cs, h1, by simp only [tab]; rw [beq_ne this]; exact h2, h3⟩
      · refine .inr ⟨fun k hk => ?_, h2⟩
        have : k ≠ a := fun e => by rw [e, ha] at hk; cases hk
        simp only [tab]; rw [beq_ne this]; exact h1 k hk
    | some i =>
      simp only [St.box]
      by_cases e : id = i
      · subst e
        simp only [Nat.beq_refl, cond_true]
        exact .inl ⟨a, b, ha, by simp [tab], rfl⟩
      · rw [beq_ne e]
        simp only [cond_false]
        rcases ih with ⟨k, cs, h1, h2, h3⟩ | ⟨h1, h2⟩
        · have : k ≠ a := fun e' => by rw [e', ha] at h1; cases h1; exact e rfl
          exact .inl ⟨k, cs, h1, by simp only [tab]; rw [beq_ne this]; exact h2, h3⟩
        · refine .inr ⟨fun k hk => ?_, h2⟩
          have : k ≠ a := fun e' => by rw [e', ha] at hk; cases hk; exact e rfl
          simp only [tab]; rw [beq_ne this]; exact h1 k hk

section
variable {X : Nat → Bool} {P : Program} {E : Ent} {S : St} {Q : Exit → St → Prop} {ops : Array Oper} {rest : List Oper}
  {d : Option Tmp} {ty : TypeId} {ps : String} {af : Array Edge} {gd : Option (Nat × Bool)}

theorem D_callS (m : List (Nat × Nat)) {f : FuncId} {x : Operand} {args : Array Operand} {ats : Array TypeId} {fs cs : List C} {as : List V} {bs bs' : List (Nat × List C)} {r : V}
    (hF : FnS P f as bs r bs') (hx : calleeOf (S.ev x) = some (f, fs, cs)) (hm : apartM m = true) (hk : m.map (·.1) = bs.map (·.1)) (hk' : m.map (·.1) = bs'.map (·.1)) (hX : ∀ id, id ∈ m.map (·.2) → Free X S id)
    (ha : trV m (fs.map V.c ++ args.toList.map S.ev ++ cs.map V.c) = some as) (hb : boxesIn S m bs) (hne : ∀ k cs, tab bs k = some cs → cs ≠ []) (hne' : ∀ k cs, tab bs' k = some cs → cs ≠ []) (hfix : m.all (fun x => !Nat.ble 950 x.1) = true := by rfl) :
    Does X P E S ⟨d, .call { callee := .value x, args := args, argTypes := ats }, ty, ps, af, gd⟩ ((S.upd m bs').setO d (r.bk m)) := fun a w G h K Qx hK => by
  have hfx : ∀ k id, tab m k = some id → Nat.ble 950 k = false := fun k id h1 => by
    have := List.all_eq_true.1 hfix _ (tab_mem h1)
    simpa using this
  obtain ⟨fv, cv, q1, q2, q3, q4, hrun⟩ := callee_run (d := d) (ty := ty) (ps := ps) (af := af) (gd := gd) (args := args) (ats := ats) h hx hF.1
  have hB0 : E.b0 ≤ w.heap.size := Nat.le_trans E.hb h.hist.step.size
  let E' : Ent := { w := w, G := { own := G.own, ι := fun i => (tab m i).bind G.ι }, σ := tabO (bxs bs), b0 := E.b0, hb := hB0 }
  have hmι : ∀ k id g, (k, id) ∈ m → G.ι id = some g → E'.G.ι k = some g := fun k id g h1 h2 => by
    show (tab m k).bind G.ι = some g
    rw [apart_tab hm h1]; exact h2
  have hsome : ∀ k, (E'.σ k).isSome = true → ∃ id cs cs', tab m k = some id ∧ S.σ id = some (.box cs) ∧ C.trL m cs = some cs' ∧ tab bs k = some cs' ∧ cs ≠ [] := fun k hk0 => by
    obtain ⟨o, ho⟩ := Option.isSome_iff_exists.1 hk0
    obtain ⟨cs', h1, h2, h3⟩ := bxs_some (show tabO (bxs bs) k = some o from ho)
    obtain ⟨id, cs, h4, h5, h6⟩ := boxesIn_get hb k cs' h3
    refine ⟨id, cs, cs', h4, h5, h6, h3, fun e => hne k cs' h3 ?_⟩
    have := (trL_get h6).1
    rw [e] at this
    exact List.eq_nil_of_length_eq_zero (by simpa using this)
  have hgood' : Good w E'.G E'.B E'.acc E'.σ := by
    refine ⟨fun k g h1 h2 => .inr ⟨h1, h2⟩, fun k k' g h1 h2 h3 h4 => ?_, fun k g h1 h2 => ?_, fun k cs0 h1 hne0 => ?_⟩
    · obtain ⟨id, c1, c1', a1, a2, _⟩ := hsome k h1
      obtain ⟨id', c2, c2', b1, b2, _⟩ := hsome k' h2
      have h3' : G.ι id = some g := by have : (tab m k).bind G.ι = some g := h3; rwa [a1] at this
      have h4' : G.ι id' = some g := by have : (tab m k').bind G.ι = some g := h4; rwa [b1] at this
      have := h.good.inj id id' g (by simp [a2]) (by simp [b2]) h3' h4'
      subst this
      exact apart_inj hm (tab_mem a1) (tab_mem b1)
    · obtain ⟨id, c1, c1', a1, a2, _⟩ := hsome k h1
      have h2' : G.ι id = some g := by have : (tab m k).bind G.ι = some g := h2; rwa [a1] at this
      exact h.good.lt id g (by simp [a2]) h2'
    · obtain ⟨id, c1, c1', a1, a2, a3, a4, a5⟩ := hsome k (by rw [h1]; rfl)
      have e0 : cs0 = c1' := by
        have := bxs_of_tab a4
        have h1' : tabO (bxs bs) k = some (.box cs0) := h1
        rw [this] at h1'; cases h1'; rfl
      subst e0
      obtain ⟨g, cells, e, b1, b2, b3, b4, b5⟩ := h.good.box id c1 a2 a5
      obtain ⟨t1, t2⟩ := trL_get a3
      refine ⟨g, cells, e, by show (tab m k).bind G.ι = some g; rw [a1]; exact b1, b2, by omega, b4, fun j c hj => ?_⟩
      obtain ⟨c0, u1, u2⟩ := t2 j c hj
      exact tr_rel (G := G) (G' := E'.G) (B := E.B) (B' := E'.B) rfl (Nat.le_refl _) hmι (b5 j c0 u1) c u2
  obtain ⟨t1, t2⟩ := trV_get ha
  have hcall := hF.2 E' (fv ++ args.map a.eval ++ cv) rfl (by simp only [Array.size_append, Array.size_map]; rw [t1]; simp [q1, q2]; omega) (fun j p hj => by
    obtain ⟨v, hv, hp⟩ := t2 j p hj
    refine trV_rel (G := G) (G' := E'.G) (B := E.B) (B' := E'.B) (lv := lvOf S.σ) rfl (Nat.le_refl _) hmι ?_ hp
    rw [List.append_assoc, List.getElem?_append] at hv
    simp only [Array.getD_eq_getD_getElem?, Array.append_assoc, Array.getElem?_append, Array.size_map]
    split at hv
    · rename_i hlt
      rw [List.length_map] at hlt
      rw [if_pos (by omega)]
      rw [List.getElem?_map] at hv
      obtain ⟨c, hc, rfl⟩ := Option.map_eq_some_iff.1 hv
      have := q3 j c hc
      rw [Array.getD_eq_getD_getElem?] at this
      exact .c this
    · rename_i hge
      rw [List.length_map] at hge hv
      rw [if_neg (by omega)]
      rw [List.getElem?_append] at hv
      simp only [List.length_map, Array.length_toList] at hv
      split at hv
      · rename_i hlt
        rw [if_pos (by omega), q1]
        rw [List.getElem?_map] at hv
        obtain ⟨o, ho, rfl⟩ := Option.map_eq_some_iff.1 hv
        have ho' : args[j - fs.length]? = some o := by simpa using ho
        simp only [Array.getElem?_map, ho', Option.map_some, Option.getD_some]
        exact ev_rel h o
      · rename_i hge2
        rw [if_neg (by omega), q1]
        rw [List.getElem?_map] at hv
        obtain ⟨c, hc, rfl⟩ := Option.map_eq_some_iff.1 hv
        have := q4 _ c hc
        rw [Array.getD_eq_getD_getElem?] at this
        exact .c this) hgood'
  unfold Oper.wp
  rw [hrun, Oper.upon_enter]
  refine hcall.mono ?_
  rintro e w' ⟨v, G1, rfl, hh, hr, hg1⟩
  -- the boxes that were passed
  have hacc : ∀ k id, tab m k = some id → ∃ cs cs', S.σ id = some (.box cs) ∧ cs ≠ [] ∧ tab bs' k = some cs' ∧ cs' ≠ [] ∧ (E'.σ k).isSome = true := fun k id h1 => by
    have s1 : (tab bs k).isSome = true := by rw [← tab_keys hk k, h1]; rfl
    have s2 : (tab bs' k).isSome = true := by rw [← tab_keys hk' k, h1]; rfl
    obtain ⟨c1, e1⟩ := Option.isSome_iff_exists.1 s1
    obtain ⟨c2, e2⟩ := Option.isSome_iff_exists.1 s2
    have hs : (E'.σ k).isSome = true := by show (tabO (bxs bs) k).isSome = true; rw [bxs_of_tab e1]; rfl
    obtain ⟨id', cs, cs', a1, a2, _, _, a5⟩ := hsome k hs
    rw [h1] at a1; cases a1
    exact ⟨cs, c2, a2, a5, e2, hne' k c2 e2, hs⟩
  have hnot : ∀ g, (∀ k id, tab m k = some id → G.ι id ≠ some g) → g < w.heap.size → w'.heap[g]? = w.heap[g]? ∧ G1.own g = G.own g := fun g hg hlt => by
    refine hh.old g hlt fun k hs hι => ?_
    obtain ⟨id, _, _, a1, _⟩ := hsome k hs
    have : (tab m k).bind G.ι = some g := hι
    rw [a1] at this
    exact hg k id a1 this
  have hown : ∀ g, g < w.heap.size → G1.own g = G.own g := fun g hlt => by
    by_cases hg : ∃ k id, tab m k = some id ∧ G.ι id = some g
    · obtain ⟨k, id, h1, h2⟩ := hg
      obtain ⟨cs, cs', a1, a2, a3, a4, a5⟩ := hacc k id h1
      obtain ⟨g0, _, _, b1, _, _, b4, _⟩ := h.good.box id cs a1 a2
      rw [h2] at b1; cases b1
      obtain ⟨g1, _, _, c1, _, _, c4, _⟩ := hg1.box k cs' (bxs_of_tab a3) a4
      have : G1.ι k = (tab m k).bind G.ι := hh.ι k a5 (hfx k id h1)
      rw [this, h1] at c1
      have c1' : G.ι id = some g1 := c1
      rw [h2] at c1'; cases c1'
      rw [b4, c4]
    · exact (hnot g (fun k id h1 h2 => hg ⟨k, id, h1, h2⟩) hlt).2
  let G2 : Env := { own := fun g => bif Nat.blt g w.heap.size then G.own g else none, ι := G.ι }
  have blt_t : ∀ q, q < w.heap.size → Nat.blt q w.heap.size = true := fun q hq => by simpa [Nat.blt_eq] using hq
  have hG2 : ∀ g, g < w.heap.size → G2.own g = G.own g := fun g hg => by simp only [G2, blt_t g hg]; rfl
  have hun : ∀ g n, G2.own g = some n → G1.own g = some n := fun g n hn => by
    simp only [G2] at hn
    cases e : Nat.blt g w.heap.size with
    | false => rw [e] at hn; cases hn
    | true => rw [e] at hn; rw [Nat.blt_eq] at e; rw [hown g e]; exact hn
  have hstep : Step w G.own w' G2.own := by
    refine ⟨hh.step.size, hh.step.os, hh.step.tape, hh.step.output, fun g hg hn => ⟨(hh.step.free g hg hn).1, (hG2 g hg).trans hn⟩, fun g n c E0 fz ho hb => ?_, hh.step.big⟩
    obtain ⟨c', fz', a1, a2, a3⟩ := hh.step.kept g n c E0 fz ho hb
    exact ⟨c', fz', a1, a2, fun n' hn' => by rw [hG2 g (lt_of_heap hb)] at hn'; rw [show G.own g = some n from ho] at hn'; cases hn'; exact Nat.le_refl _⟩
  have hbkι : ∀ k id g, tab m k = some id → G1.ι k = some g → G2.ι id = some g := fun k id g h1 h2 => by
    obtain ⟨_, _, _, _, _, _, a5⟩ := hacc k id h1
    have : G1.ι k = (tab m k).bind G.ι := hh.ι k a5 (hfx k id h1)
    rw [this, h1] at h2
    exact h2
  have hat : ∀ f, E.B.at f ≤ E'.B.at f := fun f => by
    cases f with
    | false => exact Nat.le_refl _
    | true => exact h.hist.step.size
  obtain ⟨hsl, hn⟩ := upd_sl S m bs'
  have hσ := upd_σ (S := S) hm bs'
  have hsomeS : ∀ id, ((S.upd m bs').σ id).isSome = true → (S.σ id).isSome = true := fun id h1 => by
    rcases hσ id with ⟨k, c, b1, _, _⟩ | ⟨_, b2⟩
    · obtain ⟨cs, _, a1, _⟩ := hacc k id b1; simp [a1]
    · rwa [b2] at h1
  have hlv : lvOf (S.upd m bs').σ = lvOf S.σ := by
    funext id
    rcases hσ id with ⟨k, c, b1, _, b3⟩ | ⟨_, b2⟩
    · obtain ⟨cs, _, a1, _⟩ := hacc k id b1
      simp [lvOf, b3, a1]
    · simp [lvOf, b2]
  have hfar : ∀ id g, (S.σ id).isSome = true → G.ι id = some g → (∀ k, tab m k ≠ some id) → w'.heap[g]? = w.heap[g]? ∧ G2.own g = G.own g := fun id g h1 h2 h3 => by
    have hlt := (h.good.lt id g h1 h2).1
    refine ⟨(hnot g (fun k id' e1 e2 => ?_) hlt).1, hG2 g hlt⟩
    obtain ⟨cs, _, a1, _⟩ := hacc k id' e1
    have := h.good.inj id id' g h1 (by simp [a1]) h2 e2
    subst this
    exact h3 k e1
  have hst : Stay w G (lvOf S.σ) w' G2 (lvOf S.σ) := by
    refine ⟨hstep, fun _ _ h => h, fun id hl => ⟨hl, fun g hg => hfar id g (lv_some hl) hg fun k e => ?_⟩, fun _ _ => rfl⟩
    obtain ⟨cs, _, a1, _⟩ := hacc k id e
    rw [lvOf, a1] at hl; cases hl
  have r0 : RS E (S.upd m bs') a w' G2 := by
    refine ⟨h.defers, by rw [hn]; exact h.size, fun t u hu => ?_, ⟨fun id g h1 h2 => h.good.wh id g (hsomeS id h1) h2, fun id id' g h1 h2 h3 h4 => h.good.inj id id' g (hsomeS id h1) (hsomeS id' h2) h3 h4, fun id g h1 h2 => ?_, fun id cs0 h1 hne0 => ?_⟩, ⟨h.hist.step.trans hstep, fun g hg hn => ?_, h.hist.ι⟩⟩
    · rw [hsl, hlv]; exact (h.slots t u hu).stay hst
    · obtain ⟨a1, a2⟩ := h.good.lt id g (hsomeS id h1) h2
      exact ⟨Nat.lt_of_lt_of_le a1 hstep.size, by rw [hG2 g a1]; exact a2⟩
    · rw [hlv]
      rcases hσ id with ⟨k, c, b1, b2, b3⟩ | ⟨b1, b2⟩
      · rw [b3] at h1; cases h1
        obtain ⟨cs, cs', a1, a2, a3, a4, a5⟩ := hacc k id b1
        rw [b2] at a3; cases a3
        obtain ⟨g, cells, e, c1, c2, c3, c4, c5⟩ := hg1.box k c (bxs_of_tab b2) a4
        have hgι : G.ι id = some g := hbkι k id g b1 c1
        have hlt := (h.good.lt id g (by simp [a1]) hgι).1
        refine ⟨g, cells, e, hgι, c2, by rw [bkL_length]; exact c3, by rw [hG2 g hlt, ← hown g hlt]; exact c4, fun j c' hj => ?_⟩
        rw [bkL_get] at hj
        obtain ⟨y, hy, rfl⟩ := Option.map_eq_some_iff.1 hj
        exact bk_rel hun hat hbkι (c5 j y hy)
      · rw [b2] at h1
        obtain ⟨g, cells, e, c1, c2, c3, c4, c5⟩ := h.good.box id cs0 h1 hne0
        obtain ⟨f1, f2⟩ := hfar id g (by simp [h1]) c1 fun k e => by
          have := b1 k e
          obtain ⟨_, _, _, _, a3, _⟩ := hacc k id e
          rw [this] at a3; cases a3
        exact ⟨g, cells, e, c1, f1.trans c2, c3, f2.trans c4, fun j c' hj => (c5 j c' hj).stay hst⟩
    · obtain ⟨o1, o2⟩ := h.hist.old g hg hn
      have hlt := Nat.lt_of_lt_of_le hg h.hist.step.size
      refine ⟨(hnot g (fun k id e1 e2 => ?_) hlt).1.trans o1, (hG2 g hlt).trans o2⟩
      obtain ⟨cs, _, a1, _⟩ := hacc k id e1
      rcases h.good.wh id g (by simp [a1]) e2 with q | ⟨q, q'⟩
      · exact Nat.lt_irrefl _ (Nat.lt_of_lt_of_le hg q)
      · exact hn id q q'
  refine hK _ _ G2 ⟨hstep, fun id g hXi hi hg ho => ?_⟩ (r0.put (Stay.refl _ _ _) r0.hist r0.good (bkV_rel hun hat hbkι hr) rfl)
  refine ⟨hi, (hnot g (fun k id' e1 e2 => ?_) hg).1, (hG2 g hg).trans ho⟩
  obtain ⟨f1, f2⟩ := hX id' (List.mem_map.2 ⟨(k, id'), tab_mem e1, rfl⟩) id hXi
  obtain ⟨cs, _, a1, _⟩ := hacc k id' e1
  exact f1 (h.good.inj id id' g f2 (by simp [a1]) hi e2)

/-- A slot may be told as this. -/
def V.as (x r : V) : Prop := x = r ∨ ∃ p : P1, V.fits false x p ∧ r = p.toV false
theorem as_rel {w : World} {G : Env} {B : Base} {lv : Nat → Bool} {v : Value} {x r : V} (h : RelV w G B lv v x) (ha : V.as x r) : RelV w G B lv v r := by
  rcases ha with rfl | ⟨p, h1, rfl⟩
  · exact h
  · exact toV_rel (fits_rel h h1)
def ansS (P : Program) (S : St) : List ResultVar → V → Prop
  | [], .tup [] => True
  | [rv], r => ∃ x, resV P S rv x ∧ V.as x r
  | [rv1, rv2], .tup [r1, r2] => ∃ x1 x2, resV P S rv1 x1 ∧ resV P S rv2 x2 ∧ V.as x1 r1 ∧ V.as x2 r2
  | _, _ => False
def retS (P : Program) (rvs : List ResultVar) (r : V) (bs' : List (Nat × List C)) : Exit → St → Prop
  | .ret, S => ansS P S rvs r ∧ keepsO S (bxs bs')
  | .normal, S => ansS P S rvs r ∧ keepsO S (bxs bs')
  | _, _ => False
theorem resultsS_run {fn : Func} {rvs : List ResultVar} (hrv : fn.results.toList = rvs) {a : Act} {w : World} {G : Env} (h : RS E S a w G) {r : V} (hq : ansS P S rvs r) :
    ∃ v, (results fn a.tmps).run P w = .ok v w ∧ RelV w G E.B (lvOf S.σ) v r := by
  have hres : fn.results = rvs.toArray := by rw [← hrv]
  rw [results_eq, hres]
  unfold ansS at hq
  split at hq
  · exact ⟨.tuple #[], by simp, .tup #[] rfl (fun j x hj => by simp at hj)⟩
  · rename_i rv r'
    obtain ⟨x, h1, h2⟩ := hq
    obtain ⟨v, e1, e2⟩ := resV_run h h1
    exact ⟨v, by simp [e1], as_rel e2 h2⟩
  · rename_i rv1 rv2 r1 r2
    obtain ⟨x1, x2, h1, h2, h3, h4⟩ := hq
    obtain ⟨v1, e1, e2⟩ := resV_run h h1
    obtain ⟨v2, k1, k2⟩ := resV_run h h2
    refine ⟨.tuple #[v1, v2], by simp [e1, k1], .tup #[v1, v2] rfl (fun j x hj => ?_)⟩
    match j, hj with
    | 0, hj => cases hj; exact as_rel e2 h3
    | 1, hj => cases hj; exact as_rel k2 h4
  · exact hq.elim

def St.initS (as : List V) (bs : List (Nat × List C)) (n : Nat) : St :=
  { sl := fun t => match as[t]? with | some p => p | none => .c .none, σ := tabO (bxs bs), n := n }

theorem FnS_of_EV {f : FuncId} {fn : Func} {c : Code} {as : List V} {bs bs' : List (Nat × List C)} {r : V} (hf : P.funcs[f]? = some fn) (hb : fn.body = some c) (hc : callable P f = true) (hn : Nat.ble as.length fn.ntmps = true) {rvs : List ResultVar} (hrv : fn.results.toList = rvs)
    (hids : bs.all (fun x => Nat.ble 900 x.1) = true)
    (h : ∀ E : Ent, (∀ id, Nat.blt id 900 = true → E.σ id = none) → EV P E c (St.initS as bs fn.ntmps) (retS P rvs r bs')) : FnS P f as bs r bs' := by
  refine ⟨hc, fun E vals hσ hsz hv hgood => ?_⟩
  have hle : as.length ≤ fn.ntmps := Nat.le_of_ble_eq_true hn
  have hE : ∀ id, Nat.blt id 900 = true → E.σ id = none := fun id hid => by
    rw [hσ]
    cases e : tabO (bxs bs) id with
    | none => rfl
    | some o =>
      obtain ⟨cs, h1, _⟩ := bxs_some e
      have := List.all_eq_true.1 hids _ h1
      have := Nat.le_of_ble_eq_true this
      simp only [Nat.blt_eq] at hid
      omega
  have hlv : ∀ bs, lvOf (tabO (bxs bs)) = fun _ => false := fun bs => funext (bxs_lv bs)
  refine calls_of_wp hf hb (wp_mono (h E hE _ E.w E.G ⟨rfl, ?_, fun t v ht => ?_, by simpa [St.initS, hσ] using hgood, ⟨Step.refl _ _, fun g _ _ => ⟨rfl, rfl⟩, fun _ _ _ => rfl⟩⟩) fun e a' w' ⟨S', G', hq, hr⟩ => ?_)
  · simp [St.initS, hsz]; omega
  · simp only [St.initS]
    rw [hlv]
    cases hp : as[t]? with
    | none => exact .c (.none _)
    | some p =>
      have hlt : t < vals.size := by rw [hsz]; exact (List.getElem?_eq_some_iff.1 hp).1
      rw [Array.getElem?_append_left hlt] at ht
      have := hv t p hp
      rw [Array.getD_eq_getD_getElem?, ht] at this
      exact this
  · have fin : ansS P S' rvs r ∧ keepsO S' (bxs bs') → a'.defers = [] ∧ ∃ v, (results fn a'.tmps).run P w' = .ok v w' ∧ ∃ v' G', Ending.returned v = .returned v' ∧ Hist E w' G' ∧ RelV w' G' E.B (fun _ => false) v' r ∧ Good w' G' E.B E.acc (tabO (bxs bs')) := fun ⟨h1, h2⟩ => by
      obtain ⟨v, e1, e2⟩ := resultsS_run (P := P) hrv hr h1
      obtain ⟨G2, r2⟩ := W_keep2 (E := E) [] (bxs bs') trivial h2 rfl a' w' G' hr
      obtain ⟨v2, e1', e2'⟩ := resultsS_run (P := P) hrv hr h1
      rw [e1] at e1'
      have hst : Stay w' G' (lvOf S'.σ) w' G' (fun _ => false) := ⟨Step.refl _ _, fun _ _ h => h, fun id hi => (by cases hi), fun id hi => (by cases hi)⟩
      refine ⟨hr.defers, v, e1, v, G', rfl, hr.hist, e2.stay hst, ?_⟩
      have hs : ∀ id, (tabO (bxs bs') id).isSome = true → (S'.σ id).isSome = true := fun id hi => by
        obtain ⟨o, e⟩ := Option.isSome_iff_exists.1 hi
        rw [keepsO_look h2 id o e]; rfl
      refine ⟨fun id g h1 h2 => hr.good.wh id g (hs id h1) h2, fun id id' g h1 h2 h3 h4 => hr.good.inj id id' g (hs id h1) (hs id' h2) h3 h4, fun id g h1 h2 => hr.good.lt id g (hs id h1) h2, fun id cs h1' hne => ?_⟩
      obtain ⟨g, cells, e, c1, c2, c3, c4, c5⟩ := hr.good.box id cs (keepsO_look h2 id _ h1') hne
      refine ⟨g, cells, e, c1, c2, c3, c4, fun j c hj => ?_⟩
      rw [hlv]
      exact (c5 j c hj).stay hst
    cases e with
    | normal => exact fin hq
    | ret => exact fin hq
    | _ => exact hq.elim

/-- A state told anew: by what is known of its slots. -/
theorem EV_cut {c : Code} (I : St → Prop) (h0 : ∃ S'', W E S S'' ∧ I S'') (h : ∀ S, I S → EV P E c S Q) : EV P E c S Q := by
  obtain ⟨S'', hw, hi⟩ := h0
  exact EV_weak hw (h S'' hi)

theorem trL_ci (m : List (Nat × Nat)) (kk : IntKind) : ∀ l : List Int, C.trL m (l.map (ci kk)) = some (l.map (ci kk))
  | [] => rfl
  | x :: l => by
    have := trL_ci m kk l
    simp only [List.map_cons, C.trL, this, C.tr]
theorem bkL_ci (m : List (Nat × Nat)) (kk : IntKind) : ∀ l : List Int, C.bkL m (l.map (ci kk)) = l.map (ci kk)
  | [] => rfl
  | x :: l => by
    have := bkL_ci m kk l
    simp only [List.map_cons, C.bkL, this, C.bk]
/-- A call that writes one box of scalars. -/
theorem D_callS1 (id : Nat) (hX : Free X S id) {f : FuncId} {x : Operand} {args : Array Operand} {ats : Array TypeId} {fs cs : List C} {as : List V} {kk : IntKind} {l l' : List Int} {r : V}
    (hF : FnS P f as [(900, l.map (ci kk))] r [(900, l'.map (ci kk))]) (hx : calleeOf (S.ev x) = some (f, fs, cs)) (hb : S.σ id = some (.box (l.map (ci kk))))
    (ha : trV [(900, id)] (fs.map V.c ++ args.toList.map S.ev ++ cs.map V.c) = some as) (hl : l ≠ []) (hl' : l' ≠ []) :
    Does X P E S ⟨d, .call { callee := .value x, args := args, argTypes := ats }, ty, ps, af, gd⟩ ((S.box id (some (.box (l'.map (ci kk))))).setO d (r.bk [(900, id)])) := by
  have hne : ∀ (l : List Int), l ≠ [] → ∀ k cs, tab [(900, l.map (ci kk))] k = some cs → cs ≠ [] := fun l hl k cs h => by
    simp only [tab] at h
    by_cases e : k = 900
    · subst e; simp only [Nat.beq_refl, cond_true, Option.some.injEq] at h; subst h; simpa using hl
    · rw [beq_ne e] at h; cases h
  have := D_callS (d := d) (ty := ty) (ps := ps) (af := af) (gd := gd) (E := E) (X := X) (ats := ats) [(900, id)] hF hx rfl rfl rfl (fun i hi => by simp at hi; subst hi; exact hX) ha ⟨⟨id, _, rfl, hb, trL_ci _ kk l⟩, trivial⟩ (hne l hl) (hne l' hl')
  simp only [St.upd, tab, Nat.beq_refl, cond_true, bkL_ci] at this
  exact this
end
end Go.Proofs.YthaiegnohkiegaaGreat.Ab
/-
  The calculus, continued: append to a slice that ends with its room: a new box.
-/
namespace Go.Proofs.YthaiegnohkiegaaGreat.Ab
open Go.RowKit (Below)
set_option linter.unusedVariables false
set_option linter.unusedSimpArgs false
section
variable {X : Nat → Bool} {P : Program} {E : Ent} {S : St} {Q : Exit → St → Prop} {ops : Array Oper} {rest : List Oper}
  {d : Option Tmp} {ty : TypeId} {ps : String} {af : Array Edge} {gd : Option (Nat × Bool)}

theorem D_appendX (k : Nat) (hE : E.σ k = none) (hX : Free X S k) {s y : Operand} {t e bytes : Nat} {kk : IntKind} {fx fy : Bool} {xs : List Int} {v : Int}
    (hu : P.underlying t = some (.slice e)) (hz : (P.info? e).map (fun i => (i.size, i.bytes, i.zero)) = some (1, bytes, some (.int kk 0)))
    (hx : S.ev s = .c (.ex fx (xs.map fun x => [D.val (.int kk x)]))) (hy : slOf (S.ev y) = some (fy, [[D.val (.int kk v)]]))
    (hlen : (xs.length + 1) * bytes ≤ 140737488355328) (hlen2 : xs.length + 1 ≤ 4611686018427387904) :
    Does X P E S ⟨d, .call { callee := .builtin .append, args := #[s, y], argTypes := #[t, t] }, ty, ps, af, gd⟩ (((S.kill k).box k (some (.box ((xs ++ [v]).map (ci kk))))).setO d (.c (.msl k 0 (xs.length + 1) (xs.length + 1)))) :=
  Does_op (fun a w G h => by
    obtain ⟨i, hi, hi2⟩ := Option.map_eq_some_iff.1 hz
    simp only [Prod.mk.injEq] at hi2
    obtain ⟨his, hib, hiz⟩ := hi2
    have hvx := ev_rel h s
    rw [hx] at hvx
    have hdy := slOf_rel (ev_rel h y) hy
    have hop : ∀ r w', (Builtin.append_ #[t, t] ty #[a.eval s, a.eval y]).run P w = .ok r w' →
        (execOp a.eval ⟨d, .call { callee := .builtin .append, args := #[s, y], argTypes := #[t, t] }, ty, ps, af, gd⟩).run P w = .ok (.value r) w' := fun r w' hr => by
      simp [execOp, resolve, invoke, builtin, hr]
    generalize a.eval s = vx at hvx hop
    generalize a.eval y = vy at hdy hop
    have hkl : C.killL k ((xs ++ [v]).map (ci kk)) = (xs ++ [v]).map (ci kk) := killL_map _ _ (ci_kill k kk) _
    obtain ⟨ay, cy, hy1, hy2⟩ : ∃ (ay : Addr) (cy : Nat), vy = .slice (some ay) 1 cy ∧ ∀ j u, [Value.int kk v][j]? = some u → w.cell? (ay.add j) = some u := by
      rcases any_elems hdy (sz := 1) (fun ds hds => by simp at hds; rw [hds]; rfl) with ⟨_, _, _, q⟩ | ⟨g, off, c, rfl, cv, h1, h2⟩
      · cases q
      · refine ⟨⟨g, off, none⟩, c, rfl, fun j u hj => ?_⟩
        have : j = 0 := by
          have := (List.getElem?_eq_some_iff.1 hj).1
          simpa using this
        subst this
        simp at hj
        subst hj
        have q1 := h1 0 0 (by simp) (by omega)
        have q2 := h2 0 0 _ _ rfl rfl
        generalize cv 0 0 = z at q1 q2
        cases q2
        simpa [add_at] using q1
    subst hy1
    -- the end
    have fin : ∀ (cap : Nat) (arr : Array Value), (∀ (j : Nat) (x : Int), (xs ++ [v])[j]? = some x → arr[j]? = some (Value.int kk x)) → xs.length + 1 ≤ cap → xs.length + 1 ≤ arr.size →
        (Builtin.append_ #[t, t] ty #[vx, .slice (some ay) 1 cy]).run P w = .ok (.slice (some ⟨w.heap.size, 0, none⟩) (xs.length + 1) cap) (w.drew.alloc (.cells arr e)) →
        ∃ v' w'' G'', ((execOp a.eval ⟨d, .call { callee := .builtin .append, args := #[s, y], argTypes := #[t, t] }, ty, ps, af, gd⟩).run P w = .ok (.value v') w'' ∨
          ((execOp a.eval ⟨d, .call { callee := .builtin .append, args := #[s, y], argTypes := #[t, t] }, ty, ps, af, gd⟩).run P w = .ok .skip w'' ∧ v' = undef)) ∧ Keep X w G w'' G'' ∧
          RS E (((S.kill k).box k (some (.box ((xs ++ [v]).map (ci kk))))).setO d (.c (.msl k 0 (xs.length + 1) (xs.length + 1)))) (a.put d v') w'' G'' := by
      intro cap arr harr hcap hsz hrun
      obtain ⟨G', hk, hr⟩ := h.newBoxG (d := d) (w' := w.drew.alloc (.cells arr e)) k hE hX (some w.heap.size) (cs := (xs ++ [v]).map (ci kk)) (by simp) rfl rfl rfl (fun g hg => heap_alloc_old w.drew _ g hg)
        (fun g hg => by cases hg; exact ⟨Nat.le_refl _, by simp⟩)
        (fun _ => ⟨w.heap.size, arr, e, rfl, heap_alloc_new w.drew _, by simpa using hsz, fun j c hj G' lv => by
          rw [List.getElem?_map] at hj
          obtain ⟨x, hx, rfl⟩ := Option.map_eq_some_iff.1 hj
          have e : arr.getD j undef = .int kk x := by simp [harr j x hx]
          rw [e]
          exact .d (.val _ rfl)⟩)
        (v := .slice (some ⟨w.heap.size, 0, none⟩) (xs.length + 1) cap) (x := .c (.msl k 0 (xs.length + 1) (xs.length + 1))) (fun G' hG => .c (.msl hG hcap))
      rw [hkl] at hr
      exact ⟨_, _, G', .inl (hop _ _ hrun), hk, hr⟩
    have h63 : ((xs.length + 1 : Nat) : Int) ≤ 9223372036854775807 := by omega
    cases hvx with
    | c hvx => cases hvx with
      | ex hd hex =>
        obtain ⟨a0, hva⟩ := hex
        simp only [List.length_map] at hva
        rcases any_elems hd (sz := 1) (fun ds hds => by obtain ⟨x, _, rfl⟩ := List.mem_map.1 hds; rfl) with ⟨a1, c1, hv1, hx0⟩ | ⟨g, off, c, hv1, cv, h1, h2⟩
        · have hx0 : xs = [] := by simpa using hx0
          subst hx0
          cases a0 with
          | none =>
            have hrun := run_append_nil (P := P) w t ty e i _ hu hi hiz ay 1 cy [Value.int kk v] (by rw [his]; rfl) hy2 (by omega) (by omega) (by simp only [List.length_nil, Nat.zero_add] at hlen; rw [hib]; omega)
            have hge := grownCap_ge w 1 0 e
            rw [show Value.slice none 0 0 = vx from hva.symm] at hrun
            refine fin (grownCap w 1 0 e) _ (fun j x hj => ?_) (by simpa using hge) (by simp only [Array.size_append, List.size_toArray, List.length_cons, List.length_nil, List.length_map]; omega) hrun
            have hj0 : j = 0 := by
              have := (List.getElem?_eq_some_iff.1 hj).1
              simpa using this
            subst hj0
            simp at hj
            subst hj
            rw [Array.getElem?_append_left (by simp)]
            rfl
          | some ad =>
            have hrun := run_append_grow (P := P) w t ty e i _ hu hi hiz ad 0 0 [] (by simp) (fun q v hq => by simp at hq) ay 1 cy [Value.int kk v] (by rw [his]; rfl) hy2 (by omega) (by omega)
              (growslice_fits (by omega) (by simp only [List.length_nil, Nat.zero_add] at hlen ⊢; rw [hib]; simpa using hlen))
            have hge := grownCap_ge w (0 + 1) 0 e
            rw [show Value.slice (some ad) 0 0 = vx from hva.symm] at hrun
            refine fin _ _ (fun j x hj => ?_) hge (by simp only [Array.size_append, List.size_toArray, List.length_cons, List.length_nil, List.length_map]; omega) hrun
            have hj0 : j = 0 := by
              have := (List.getElem?_eq_some_iff.1 hj).1
              simpa using this
            subst hj0
            simp at hj
            subst hj
            rw [Array.getElem?_append_left (by simp)]
            rfl
        · simp only [List.length_map] at hv1
          have hq : a0 = some ⟨g, off, none⟩ ∧ c = xs.length := by rw [hva] at hv1; cases hv1; exact ⟨rfl, rfl⟩
          obtain ⟨rfl, rfl⟩ := hq
          have holds : ∀ q u, (xs.map fun x => Value.int kk x)[q]? = some u → w.cell? ((⟨g, off, none⟩ : Addr).add q) = some u := fun q u hq => by
            rw [List.getElem?_map] at hq
            obtain ⟨x, hx, rfl⟩ := Option.map_eq_some_iff.1 hq
            have hlt : q < xs.length := (List.getElem?_eq_some_iff.1 hx).1
            have q1 := h1 q 0 (by simpa using hlt) (by omega)
            have q2 := h2 q 0 [D.val (.int kk x)] (D.val (.int kk x)) (by rw [List.getElem?_map, hx]; rfl) rfl
            generalize cv q 0 = z at q1 q2
            cases q2
            simpa [add_at] using q1
          have hrun := run_append_grow (P := P) w t ty e i _ hu hi hiz ⟨g, off, none⟩ xs.length xs.length (xs.map fun x => Value.int kk x) (by rw [his]; simp) holds ay 1 cy [Value.int kk v] (by rw [his]; rfl) hy2 (by omega) h63
            (growslice_fits (by omega) (by rw [hib]; exact hlen))
          have hge := grownCap_ge w (xs.length + 1) xs.length e
          rw [← hva] at hrun
          refine fin _ _ (fun j x hj => ?_) hge (by simp only [Array.size_append, List.size_toArray, List.length_cons, List.length_nil, List.length_map]; omega) hrun
          have hlt : j < xs.length + 1 := by
            have := (List.getElem?_eq_some_iff.1 hj).1
            simpa using this
          rw [Array.getElem?_append_left (by simp; omega)]
          have e2 : (List.map (fun x => Value.int kk x) xs).toArray ++ [Value.int kk v].toArray = ((xs ++ [v]).map fun x => Value.int kk x).toArray := by simp
          rw [e2, List.getElem?_toArray, List.getElem?_map, hj]
          rfl)

/-- A slice of noughts that is made, told as a row that may grow. -/
theorem D_makeRow (k : Nat) (hE : E.σ k = none) (hX : Free X S k) {t e : TypeId} {x : Operand} {kk : IntKind} {bytes : Nat} {n : Int}
    (hu : P.underlying t = some (.slice e)) (hz : (P.info? e).map (fun i => (i.size, i.bytes, i.zero)) = some (1, bytes, some (.int kk 0)))
    (hx : valOf (S.ev x) = some (.int .i64 n)) (h0 : 0 ≤ n) (h1 : n * bytes ≤ 281474976710656) (hn : n ≤ 4398046511104) :
    Does X P E S ⟨d, .makeSlice t x x, ty, ps, af, gd⟩ ((((S.kill k).box k (some .row)).kill k).setO d (.c (.own k e 1 true ((List.replicate n.toNat (0 : Int)).map fun x => [D.val (.int kk x)])))) :=
  Does_op (fun a w G h => by
    obtain ⟨i, hi, hi2⟩ := Option.map_eq_some_iff.1 hz
    simp only [Prod.mk.injEq] at hi2
    obtain ⟨his, hib, hiz⟩ := hi2
    obtain ⟨ex, _⟩ := valOf_rel (ev_rel h x) hx
    let arr := (Array.range (n.toNat * 1)).map fun j => (if n.toNat * 1 = 0 then #[] else (Value.int kk 0).cells)[j % (if n.toNat * 1 = 0 then #[] else (Value.int kk 0).cells).size]!
    have hsz : arr.size = n.toNat := by simp [arr]
    have hget : ∀ j, j < n.toNat → arr[j]? = some (Value.int kk 0) := fun j hj => by
      have hne : ¬ n.toNat = 0 := by omega
      simp [arr, hj, hne, Value.cells, Nat.mod_one]
    have hwr : IntKind.i64.wrap n = n := wrap_in (by omega) (by omega)
    have hn0 : ¬ n < 0 := by omega
    have hbytes : ¬ (281474976710656 < (bytes : Int) * n) := by rw [Int.mul_comm]; omega
    have hrun : (Instr.makeSlice t (a.eval x) (a.eval x)).run P w = .ok (.slice (some ⟨w.heap.size, 0, none⟩) n.toNat n.toNat) (w.alloc (.cells arr e)) := by
      rw [ex]
      by_cases hz0 : n.toNat = 0
      · simp [Instr.makeSlice, run_underlying hu, asInt, asIntOf, typeInfo, hi, his, hib, hwr, hn0, hbytes, sizeOf, hz0, newRow, arr]
      · simp [Instr.makeSlice, run_underlying hu, asInt, asIntOf, typeInfo, hi, his, hib, hiz, hwr, hn0, hbytes, sizeOf, zeroValue, hz0, newRow, arr]
    obtain ⟨G1, hk1, r1⟩ := h.newRowG (d := none) (w' := w) k hE hX (Nat.le_refl _) rfl rfl rfl (fun _ _ => rfl) (v := undef) (x := .c .none) (fun G' _ => .c (.none _))
    have r1 : RS E ((S.kill k).box k (some .row)) a w G1 := r1
    have hrow : ((S.kill k).box k (some .row)).σ k = some .row := by simp [St.box]
    let G' : Env := { own := fun g => bif Nat.beq g w.heap.size then some (n.toNat * 1) else G1.own g, ι := fun q => bif Nat.beq q k then some w.heap.size else G1.ι q }
    have hog : G'.own w.heap.size = some (n.toNat * 1) := by simp [G']
    have hone : ∀ g, g ≠ w.heap.size → G'.own g = G1.own g := fun g hg => by simp only [G']; rw [beq_ne hg]; rfl
    have hιk : G'.ι k = some w.heap.size := by simp [G']
    have hι : ∀ q, q ≠ k → G'.ι q = G1.ι q := fun q hq => by simp only [G']; rw [beq_ne hq]; rfl
    have hold : ∀ g, g < w.heap.size → (w.alloc (.cells arr e)).heap[g]? = w.heap[g]? := fun g hg => heap_alloc_old w _ g hg
    have hstep : Step w G1.own (w.alloc (.cells arr e)) G'.own := by
      refine ⟨by simp, rfl, rfl, rfl, fun g hg hn => ⟨hold g hg, ?_⟩, fun g n' cells E' fr ho hb => ⟨cells, fr, (hold g (lt_of_heap hb)).trans hb, fun _ _ => rfl, fun n2 h2 => ?_⟩, fun g cells E' fr hb => ⟨cells, fr, (hold g (lt_of_heap hb)).trans hb, Nat.le_refl _⟩⟩
      · rw [hone g (by omega)]; exact hn
      · rw [hone g (by have := lt_of_heap hb; omega), ho] at h2; cases h2; exact Nat.le_refl _
    have r2 : RS E (((S.kill k).box k (some .row)).kill k) a (w.alloc (.cells arr e)) G' := by
      refine r1.row hE hrow hstep (fun g hg _ => ⟨hold g hg, hone g (by omega)⟩) hι (fun g hg => ?_)
      rw [hιk] at hg
      cases hg
      exact ⟨by simp, by simp [hog], .inr (Nat.le_refl _)⟩
    refine ⟨.slice (some ⟨w.heap.size, 0, none⟩) n.toNat n.toNat, _, G', .inl ?_, hk1.trans ⟨hstep, fun q g hXq hq hg ho => ?_⟩, r2.put (Stay.refl _ _ _) r2.hist r2.good ?_ rfl⟩
    · simp only [execOp]
      rw [Sem.run_bind, hrun]
      rfl
    · have hqk : q ≠ k := (hX q hXq).1
      refine ⟨(hι q hqk).trans hq, hold g hg, (hone g (by omega)).trans ho⟩
    · have hlen : ((List.replicate n.toNat (0 : Int)).map fun x => [D.val (.int kk x)]).length = n.toNat := by simp
      have hds : ∀ ds ∈ (List.replicate n.toNat (0 : Int)).map (fun x => [D.val (.int kk x)]), ds.length = 1 := fun ds hds => by
        obtain ⟨y, _, rfl⟩ := List.mem_map.1 hds; rfl
      have hBle : E.B.at true ≤ w.heap.size := Nat.le_trans (E.B.at_hi true) h.hist.step.size
      have hrel : RelD (w.alloc (.cells arr e)) G'.own (E.B.at true) (.slice (some ⟨w.heap.size, 0, none⟩) n.toNat n.toNat) (.sl ((List.replicate n.toNat (0 : Int)).map fun x => [D.val (.int kk x)])) := by
        refine RelD.sl0 hlen.symm hBle (heap_alloc_new w _) (by rw [hlen]; exact Nat.le_refl _) (.inl (by rw [hlen]; exact hog)) hds (fun _ _ => Value.int kk 0) (fun i j hi hj => ?_) (fun i j ds d q1 q2 => ?_)
        · rw [hlen] at hi
          have : j = 0 := by omega
          subst this
          simpa using hget i hi
        · rw [List.getElem?_map] at q1
          obtain ⟨y, hy, rfl⟩ := Option.map_eq_some_iff.1 q1
          have hy0 : y = 0 := by
            have := List.mem_of_getElem? hy
            exact List.eq_of_mem_replicate this
          have hj : j = 0 := by
            have := (List.getElem?_eq_some_iff.1 q2).1
            simpa using this
          subst hj; subst hy0
          simp at q2
          subst q2
          exact .val _ rfl
      refine .c (.own hrel hds (fun _ => .inr ⟨w.heap.size, n.toNat, arr, by rw [hlen], hιk, heap_alloc_new w _, by rw [hlen]; exact Nat.le_refl _, by unfold maxLen; omega, by omega, by rw [hlen]; exact hog⟩) (fun _ g hg => ?_))
      rw [hιk] at hg
      cases hg
      exact hBle)
theorem fit_dx {fr f : Bool} {xs ys : List (List D)} (hf : fr = true → f = true) (e : xs = ys) : V.fits fr (.c (.ex f xs)) (.dx ys) := .inl ⟨f, by rw [e], hf⟩
theorem fit_dx0 {fr f : Bool} {ys : List (List D)} (e : [] = ys) : V.fits fr (.c (.d f (.val (.slice none 0 0)))) (.dx ys) := .inr ⟨e.symm, f, rfl⟩
end
end Go.Proofs.YthaiegnohkiegaaGreat.Ab
/-
  The calculus, continued: calls in which rows of the caller's may grow (FnS with ids from 950 on), append to such rows.
-/
namespace Go.Proofs.YthaiegnohkiegaaGreat.Ab
open Go.RowKit (Below)
set_option linter.unusedVariables false
set_option linter.unusedSimpArgs false

def C.killA : List Nat → C → C
  | [], c => c
  | k :: ks, c => C.killA ks (c.kill k)
def V.killA : List Nat → V → V
  | [], x => x
  | k :: ks, x => V.killA ks (x.kill k)
def O.killA : List Nat → O → O
  | [], c => c
  | k :: ks, c => O.killA ks (c.kill k)
def St.killA (S : St) : List Nat → St
  | [] => S
  | k :: ks => St.killA (S.kill k) ks
theorem killA_sl : ∀ (ks : List Nat) (S : St), (S.killA ks).sl = (fun t => (S.sl t).killA ks) ∧ (S.killA ks).n = S.n ∧ (S.killA ks).σ = fun id => (S.σ id).map (O.killA ks)
  | [], S => ⟨rfl, rfl, by funext id; cases h : S.σ id <;> simp [St.killA, h, O.killA]⟩
  | k :: ks, S => by
    obtain ⟨h1, h2, h3⟩ := killA_sl ks (S.kill k)
    refine ⟨h1, h2, ?_⟩
    simp only [St.killA]
    rw [h3]
    funext id
    simp only [St.kill, Option.map_map]
    rfl
theorem killA_box : ∀ (ks : List Nat) (cs : List C), O.killA ks (.box cs) = .box (cs.map (C.killA ks))
  | [], cs => by simp [O.killA, C.killA]
  | k :: ks, cs => by
    simp only [O.killA, O.kill]
    rw [killA_box ks]
    have e : C.killL k cs = cs.map (C.kill k) := by
      apply List.ext_getElem?
      intro j
      rw [killL_get, List.getElem?_map]
    rw [e, List.map_map]
    rfl
theorem killA_row : ∀ (ks : List Nat), O.killA ks .row = .row
  | [] => rfl
  | k :: ks => by simp only [O.killA, O.kill]; exact killA_row ks
/-- An env without these ids. -/
def Env.dropA (G : Env) : List Nat → Env
  | [] => G
  | k :: ks => Env.dropA { G with ι := fun id => bif Nat.beq id k then none else G.ι id } ks
theorem dropA_own : ∀ (ks : List Nat) (G : Env), (G.dropA ks).own = G.own
  | [], G => rfl
  | k :: ks, G => dropA_own ks _
theorem dropA_ι : ∀ (ks : List Nat) (G : Env) (id g : Nat), (G.dropA ks).ι id = some g → id ∉ ks ∧ G.ι id = some g
  | [], G, id, g, h => ⟨by simp, h⟩
  | k :: ks, G, id, g, h => by
    obtain ⟨h1, h2⟩ := dropA_ι ks _ id g h
    by_cases e : id = k
    · subst e; simp at h2
    · simp only at h2
      rw [beq_ne e] at h2
      exact ⟨by simp [e, h1], h2⟩
theorem dropA_keep : ∀ (ks : List Nat) (G : Env) (id : Nat), id ∉ ks → (G.dropA ks).ι id = G.ι id
  | [], G, id, h => rfl
  | k :: ks, G, id, h => by
    simp only [List.mem_cons, not_or] at h
    have := dropA_keep ks { G with ι := fun i => bif Nat.beq i k then none else G.ι i } id h.2
    simp only [Env.dropA]
    rw [this]
    simp only
    rw [beq_ne h.1]; rfl
theorem stayK_drop {w : World} {G : Env} {lv : Nat → Bool} (k : Nat) : StayK k w G lv w { G with ι := fun id => bif Nat.beq id k then none else G.ι id } lv := by
  refine ⟨Step.refl _ _, fun id g hne hg => ?_, fun id _ hl => ⟨hl, fun _ _ => ⟨rfl, rfl⟩⟩, fun id hne _ => ?_⟩
  · simp only; rw [beq_ne hne]; exact hg
  · simp only; rw [beq_ne hne]; rfl
theorem RelC.dropA {w : World} {B : Base} {lv : Nat → Bool} : ∀ (ks : List Nat) {G : Env} {v : Value} {c : C}, RelC w G B lv v c → RelC w (G.dropA ks) B lv v (c.killA ks)
  | [], G, v, c, h => h
  | k :: ks, G, v, c, h => RelC.dropA ks (h.stayK (stayK_drop k))
theorem RelV.dropA {w : World} {B : Base} {lv : Nat → Bool} : ∀ (ks : List Nat) {G : Env} {v : Value} {x : V}, RelV w G B lv v x → RelV w (G.dropA ks) B lv v (x.killA ks)
  | [], G, v, x, h => h
  | k :: ks, G, v, x, h => RelV.dropA ks (h.stayK (stayK_drop k))

/-- The caller's ids that may grow. -/
def grows (m : List (Nat × Nat)) : List Nat := (m.filter fun x => Nat.ble 950 x.1).map (·.2)
def growOk (E : Ent) : List (Nat × Nat) → Prop
  | [] => True
  | (k, id) :: m => (Nat.ble 950 k = false ∨ E.σ id = none ∨ Nat.ble 950 id = true) ∧ growOk E m
theorem growOk_mem {E : Ent} : ∀ {m : List (Nat × Nat)}, growOk E m → ∀ k id, (k, id) ∈ m → Nat.ble 950 k = false ∨ E.σ id = none ∨ Nat.ble 950 id = true
  | [], _, k, id, h => by cases h
  | (a, b) :: m, hm, k, id, h => by
    rcases List.mem_cons.1 h with e | h
    · cases e; exact hm.1
    · exact growOk_mem hm.2 k id h
theorem inv_none {m : List (Nat × Nat)} {id : Nat} (h : inv m id = none) : ∀ k, (k, id) ∉ m := by
  induction m with
  | nil => intro k h'; cases h'
  | cons x m ih =>
    obtain ⟨a, b⟩ := x
    simp only [inv] at h
    by_cases e : id = b
    · subst e; simp at h
    · rw [beq_ne e] at h
      intro k hk
      rcases List.mem_cons.1 hk with e' | hk
      · cases e'; exact e rfl
      · exact ih h k hk

section
variable {X : Nat → Bool} {P : Program} {E : Ent} {S : St} {Q : Exit → St → Prop} {ops : Array Oper} {rest : List Oper}
  {d : Option Tmp} {ty : TypeId} {ps : String} {af : Array Edge} {gd : Option (Nat × Bool)}

theorem D_callG (m : List (Nat × Nat)) {f : FuncId} {x : Operand} {args : Array Operand} {ats : Array TypeId} {fs cs : List C} {as : List V} {bs bs' : List (Nat × List C)} {r : V}
    (hF : FnS P f as bs r bs') (hx : calleeOf (S.ev x) = some (f, fs, cs)) (hm : apartM m = true) (hk : m.map (·.1) = bs.map (·.1)) (hk' : m.map (·.1) = bs'.map (·.1)) (hX : ∀ id, Free X S id)
    (ha : trV m (fs.map V.c ++ args.toList.map S.ev ++ cs.map V.c) = some as) (hb : boxesIn S m bs) (hgr : growOk E m) :
    Does X P E S ⟨d, .call { callee := .value x, args := args, argTypes := ats }, ty, ps, af, gd⟩ (((S.killA (grows m)).upd m bs').setO d (r.bk m)) := fun a w G h K Qx hK => by
  obtain ⟨fv, cv, q1, q2, q3, q4, hrun⟩ := callee_run (d := d) (ty := ty) (ps := ps) (af := af) (gd := gd) (args := args) (ats := ats) h hx hF.1
  have hB0 : E.b0 ≤ w.heap.size := Nat.le_trans E.hb h.hist.step.size
  let E' : Ent := { w := w, G := { own := G.own, ι := fun i => (tab m i).bind G.ι }, σ := tabO (bxs bs), b0 := E.b0, hb := hB0 }
  have hmι : ∀ k id g, (k, id) ∈ m → G.ι id = some g → E'.G.ι k = some g := fun k id g h1 h2 => by
    show (tab m k).bind G.ι = some g
    rw [apart_tab hm h1]; exact h2
  have hsome : ∀ k, (E'.σ k).isSome = true → ∃ id cs cs', tab m k = some id ∧ S.σ id = some (.box cs) ∧ C.trL m cs = some cs' ∧ tab bs k = some cs' := fun k hk0 => by
    obtain ⟨o, ho⟩ := Option.isSome_iff_exists.1 hk0
    obtain ⟨cs', h1, h2, h3⟩ := bxs_some (show tabO (bxs bs) k = some o from ho)
    obtain ⟨id, cs, h4, h5, h6⟩ := boxesIn_get hb k cs' h3
    exact ⟨id, cs, cs', h4, h5, h6, h3⟩
  have hgood' : Good w E'.G E'.B E'.acc E'.σ := by
    refine ⟨fun k g h1 h2 => .inr ⟨h1, h2⟩, fun k k' g h1 h2 h3 h4 => ?_, fun k g h1 h2 => ?_, fun k cs0 h1 hne0 => ?_⟩
    · obtain ⟨id, c1, c1', a1, a2, _⟩ := hsome k h1
      obtain ⟨id', c2, c2', b1, b2, _⟩ := hsome k' h2
      have h3' : G.ι id = some g := by have : (tab m k).bind G.ι = some g := h3; rwa [a1] at this
      have h4' : G.ι id' = some g := by have : (tab m k').bind G.ι = some g := h4; rwa [b1] at this
      have := h.good.inj id id' g (by simp [a2]) (by simp [b2]) h3' h4'
      subst this
      exact apart_inj hm (tab_mem a1) (tab_mem b1)
    · obtain ⟨id, c1, c1', a1, a2, _⟩ := hsome k h1
      have h2' : G.ι id = some g := by have : (tab m k).bind G.ι = some g := h2; rwa [a1] at this
      exact h.good.lt id g (by simp [a2]) h2'
    · obtain ⟨id, c1, c1', a1, a2, a3, a4⟩ := hsome k (by rw [h1]; rfl)
      have e0 : cs0 = c1' := by
        have := bxs_of_tab a4
        have h1' : tabO (bxs bs) k = some (.box cs0) := h1
        rw [this] at h1'; cases h1'; rfl
      subst e0
      obtain ⟨t1, t2⟩ := trL_get a3
      have hne1 : c1 ≠ [] := fun e => by
        rw [e] at t1
        exact hne0 (List.eq_nil_of_length_eq_zero (by simpa using t1))
      obtain ⟨g, cells, e, b1, b2, b3, b4, b5⟩ := h.good.box id c1 a2 hne1
      refine ⟨g, cells, e, by show (tab m k).bind G.ι = some g; rw [a1]; exact b1, b2, by omega, b4, fun j c hj => ?_⟩
      obtain ⟨c0, u1, u2⟩ := t2 j c hj
      exact tr_rel (G := G) (G' := E'.G) (B := E.B) (B' := E'.B) rfl (Nat.le_refl _) hmι (b5 j c0 u1) c u2
  obtain ⟨t1, t2⟩ := trV_get ha
  have hcall := hF.2 E' (fv ++ args.map a.eval ++ cv) rfl (by simp only [Array.size_append, Array.size_map]; rw [t1]; simp [q1, q2]; omega) (fun j p hj => by
    obtain ⟨v, hv, hp⟩ := t2 j p hj
    refine trV_rel (G := G) (G' := E'.G) (B := E.B) (B' := E'.B) (lv := lvOf S.σ) rfl (Nat.le_refl _) hmι ?_ hp
    rw [List.append_assoc, List.getElem?_append] at hv
    simp only [Array.getD_eq_getD_getElem?, Array.append_assoc, Array.getElem?_append, Array.size_map]
    split at hv
    · rename_i hlt
      rw [List.length_map] at hlt
      rw [if_pos (by omega)]
      rw [List.getElem?_map] at hv
      obtain ⟨c, hc, rfl⟩ := Option.map_eq_some_iff.1 hv
      have := q3 j c hc
      rw [Array.getD_eq_getD_getElem?] at this
      exact .c this
    · rename_i hge
      rw [List.length_map] at hge hv
      rw [if_neg (by omega)]
      rw [List.getElem?_append] at hv
      simp only [List.length_map, Array.length_toList] at hv
      split at hv
      · rename_i hlt
        rw [if_pos (by omega), q1]
        rw [List.getElem?_map] at hv
        obtain ⟨o, ho, rfl⟩ := Option.map_eq_some_iff.1 hv
        have ho' : args[j - fs.length]? = some o := by simpa using ho
        simp only [Array.getElem?_map, ho', Option.map_some, Option.getD_some]
        exact ev_rel h o
      · rename_i hge2
        rw [if_neg (by omega), q1]
        rw [List.getElem?_map] at hv
        obtain ⟨c, hc, rfl⟩ := Option.map_eq_some_iff.1 hv
        have := q4 _ c hc
        rw [Array.getD_eq_getD_getElem?] at this
        exact .c this) hgood'
  unfold Oper.wp
  rw [hrun, Oper.upon_enter]
  refine hcall.mono ?_
  rintro e w' ⟨v, G1, rfl, hh, hr, hg1⟩
  have hacc : ∀ k id, (k, id) ∈ m → ∃ cs cs', S.σ id = some (.box cs) ∧ tab bs' k = some cs' ∧ (E'.σ k).isSome = true ∧ tab m k = some id := fun k id h0 => by
    have h1 := apart_tab hm h0
    have s1 : (tab bs k).isSome = true := by rw [← tab_keys hk k, h1]; rfl
    have s2 : (tab bs' k).isSome = true := by rw [← tab_keys hk' k, h1]; rfl
    obtain ⟨c1, e1⟩ := Option.isSome_iff_exists.1 s1
    obtain ⟨c2, e2⟩ := Option.isSome_iff_exists.1 s2
    have hs : (E'.σ k).isSome = true := by show (tabO (bxs bs) k).isSome = true; rw [bxs_of_tab e1]; rfl
    obtain ⟨id', cs, cs', a1, a2, _, _⟩ := hsome k hs
    rw [h1] at a1; cases a1
    exact ⟨cs, c2, a2, e2, hs, h1⟩
  have hnot : ∀ g, (∀ k id, (k, id) ∈ m → G.ι id ≠ some g) → g < w.heap.size → w'.heap[g]? = w.heap[g]? ∧ G1.own g = G.own g := fun g hg hlt => by
    refine hh.old g hlt fun k hs hι => ?_
    obtain ⟨id, _, _, a1, _⟩ := hsome k hs
    have : (tab m k).bind G.ι = some g := hι
    rw [a1] at this
    exact hg k id (tab_mem a1) this
  let G2 : Env := { own := G1.own, ι := fun id => match inv m id with | some k => G1.ι k | none => G.ι id }
  have hstep : Step w G.own w' G2.own := hh.step
  have hin : ∀ k id, (k, id) ∈ m → G2.ι id = G1.ι k := fun k id h0 => by
    simp only [G2]
    cases e : inv m id with
    | none => exact absurd h0 (inv_none e k)
    | some k' =>
      have := apart_inj hm h0 (inv_mem e)
      subst this; rfl
  have hout : ∀ id, (∀ k, (k, id) ∉ m) → G2.ι id = G.ι id := fun id h0 => by
    simp only [G2]
    cases e : inv m id with
    | none => rfl
    | some k' => exact absurd (inv_mem e) (h0 k')
  have hfixι : ∀ k id, (k, id) ∈ m → Nat.ble 950 k = false → G2.ι id = G.ι id := fun k id h0 hf => by
    obtain ⟨_, _, _, _, hs, ht⟩ := hacc k id h0
    rw [hin k id h0, hh.ι k hs hf]
    show (tab m k).bind G.ι = G.ι id
    rw [ht]; rfl
  have hbkι : ∀ k id g, tab m k = some id → G1.ι k = some g → G2.ι id = some g := fun k id g h1 h2 => by rw [hin k id (tab_mem h1)]; exact h2
  have hun : ∀ g n, G2.own g = some n → G1.own g = some n := fun _ _ h => h
  have hat : ∀ f, E.B.at f ≤ E'.B.at f := fun f => by
    cases f with
    | false => exact Nat.le_refl _
    | true => exact h.hist.step.size
  -- the state in between
  obtain ⟨z1, z2, z3⟩ := killA_sl (grows m) S
  obtain ⟨hsl, hn⟩ := upd_sl (S.killA (grows m)) m bs'
  have hσ := upd_σ (S := S.killA (grows m)) hm bs'
  have hold : ∀ id, (∀ k, (k, id) ∉ m) → ((S.killA (grows m)).upd m bs').σ id = (S.σ id).map (O.killA (grows m)) := fun id h0 => by
    rcases hσ id with ⟨k, c, b1, _, _⟩ | ⟨_, b2⟩
    · exact absurd (tab_mem b1) (h0 k)
    · rw [b2, z3]
  have hnew : ∀ k id, (k, id) ∈ m → ∃ c, tab bs' k = some c ∧ ((S.killA (grows m)).upd m bs').σ id = some (.box (C.bkL m c)) := fun k id h0 => by
    obtain ⟨_, cs', _, a2, _, a4⟩ := hacc k id h0
    rcases hσ id with ⟨k', c, b1, b2, b3⟩ | ⟨b1, _⟩
    · have := apart_inj hm h0 (tab_mem b1)
      subst this
      exact ⟨c, b2, b3⟩
    · have := b1 k a4
      rw [this] at a2; cases a2
  have hsomeS : ∀ id, (((S.killA (grows m)).upd m bs').σ id).isSome = true → (S.σ id).isSome = true := fun id h1 => by
    by_cases hp : ∃ k, (k, id) ∈ m
    · obtain ⟨k, hp⟩ := hp
      obtain ⟨cs, _, a1, _⟩ := hacc k id hp; simp [a1]
    · rw [hold id (fun k hk => hp ⟨k, hk⟩)] at h1
      simpa using h1
  have hlv : lvOf ((S.killA (grows m)).upd m bs').σ = lvOf S.σ := by
    funext id
    by_cases hp : ∃ k, (k, id) ∈ m
    · obtain ⟨k, hp⟩ := hp
      obtain ⟨cs, _, a1, _⟩ := hacc k id hp
      obtain ⟨c, _, b2⟩ := hnew k id hp
      simp [lvOf, b2, a1]
    · simp only [lvOf]
      rw [hold id (fun k hk => hp ⟨k, hk⟩)]
      cases e : S.σ id with
      | none => rfl
      | some o => cases o with
        | row => simp [killA_row]
        | box cs => simp [killA_box]
  have hblk : ∀ id g, (S.σ id).isSome = true → G.ι id = some g → (∀ k, (k, id) ∉ m) → ∀ k id', (k, id') ∈ m → G.ι id' ≠ some g := fun id g h1 h2 h3 k id' e1 e2 => by
    obtain ⟨cs, _, a1, _⟩ := hacc k id' e1
    have := h.good.inj id id' g h1 (by simp [a1]) h2 e2
    subst this
    exact h3 k e1
  have hfar : ∀ id g, (S.σ id).isSome = true → G.ι id = some g → (∀ k, (k, id) ∉ m) → w'.heap[g]? = w.heap[g]? ∧ G2.own g = G.own g := fun id g h1 h2 h3 =>
    hnot g (hblk id g h1 h2 h3) (h.good.lt id g h1 h2).1
  have hrowout : ∀ id, lvOf S.σ id = true → ∀ k, (k, id) ∉ m := fun id hl k e => by
    obtain ⟨cs, _, a1, _⟩ := hacc k id e
    rw [lvOf, a1] at hl; cases hl
  have hst : Stay w (G.dropA (grows m)) (lvOf S.σ) w' G2 (lvOf S.σ) := by
    have hgm : ∀ id, id ∈ grows m → ∃ k, (k, id) ∈ m := fun id hid => by
      obtain ⟨⟨k, id'⟩, h1, rfl⟩ := List.mem_map.1 hid
      exact ⟨k, (List.mem_filter.1 h1).1⟩
    refine ⟨by rw [dropA_own]; exact hstep, fun id g hg => ?_, fun id hl => ⟨hl, fun g hg => ?_⟩, fun id hl => ?_⟩
    · obtain ⟨h1, h2⟩ := dropA_ι _ _ _ _ hg
      by_cases hp : ∃ k, (k, id) ∈ m
      · obtain ⟨k, hp⟩ := hp
        cases ef : Nat.ble 950 k with
        | true => exact absurd (List.mem_map.2 ⟨(k, id), List.mem_filter.2 ⟨hp, ef⟩, rfl⟩) h1
        | false => rw [hfixι k id hp ef]; exact h2
      · rw [hout id fun k hk => hp ⟨k, hk⟩]; exact h2
    · rw [dropA_own]
      exact hfar id g (lv_some hl) (dropA_ι _ _ _ _ hg).2 (hrowout id hl)
    · rw [hout id (hrowout id hl), dropA_keep _ _ _ fun hid => by
        obtain ⟨k, hk⟩ := hgm id hid
        exact hrowout id hl k hk]
  have r0 : RS E ((S.killA (grows m)).upd m bs') a w' G2 := by
    refine ⟨h.defers, by rw [hn, z2]; exact h.size, fun t u hu => ?_, ⟨fun id g h1 h2 => ?_, fun id id' g h1 h2 h3 h4 => ?_, fun id g h1 h2 => ?_, fun id cs0 h1 hne0 => ?_⟩, ⟨h.hist.step.trans hstep, fun g hg hn => ?_, fun id hid hng => ?_⟩⟩
    · rw [hsl, hlv, z1]; exact (RelV.dropA (grows m) (h.slots t u hu)).stay hst
    · by_cases hp : ∃ k, (k, id) ∈ m
      · obtain ⟨k, hp⟩ := hp
        rw [hin k id hp] at h2
        obtain ⟨c, b1, _⟩ := hnew k id hp
        rcases hg1.wh k g (by rw [bxs_of_tab b1]; rfl) h2 with q | ⟨q, q'⟩
        · exact .inl (Nat.le_trans h.hist.step.size q)
        · have q' : (tab m k).bind G.ι = some g := q'
          rw [apart_tab hm hp] at q'
          exact h.good.wh id g (hsomeS id h1) q'
      · rw [hout id fun k hk => hp ⟨k, hk⟩] at h2
        exact h.good.wh id g (hsomeS id h1) h2
    · have key : ∀ k id id', (k, id) ∈ m → (∀ k, (k, id') ∉ m) → (S.σ id').isSome = true → G1.ι k = some g → G.ι id' = some g → id = id' := fun k id id' hp hq hs e1 e2 => by
        obtain ⟨c, b1, _⟩ := hnew k id hp
        obtain ⟨cs, _, a1, _⟩ := hacc k id hp
        have hlt := (h.good.lt id' g hs e2).1
        rcases hg1.wh k g (by rw [bxs_of_tab b1]; rfl) e1 with q | ⟨q, q'⟩
        · exact absurd hlt (Nat.not_lt.2 q)
        · have q' : (tab m k).bind G.ι = some g := q'
          rw [apart_tab hm hp] at q'
          exact h.good.inj id id' g (by simp [a1]) hs q' e2
      by_cases hp : ∃ k, (k, id) ∈ m
      · obtain ⟨k, hp⟩ := hp
        rw [hin k id hp] at h3
        by_cases hp' : ∃ k, (k, id') ∈ m
        · obtain ⟨k', hp'⟩ := hp'
          rw [hin k' id' hp'] at h4
          obtain ⟨c, b1, _⟩ := hnew k id hp
          obtain ⟨c', b1', _⟩ := hnew k' id' hp'
          have := hg1.inj k k' g (by rw [bxs_of_tab b1]; rfl) (by rw [bxs_of_tab b1']; rfl) h3 h4
          subst this
          have e1 := apart_tab hm hp
          rw [apart_tab hm hp'] at e1
          cases e1; rfl
        · rw [hout id' fun k hk => hp' ⟨k, hk⟩] at h4
          exact key k id id' hp (fun k hk => hp' ⟨k, hk⟩) (hsomeS id' h2) h3 h4
      · rw [hout id fun k hk => hp ⟨k, hk⟩] at h3
        by_cases hp' : ∃ k, (k, id') ∈ m
        · obtain ⟨k', hp'⟩ := hp'
          rw [hin k' id' hp'] at h4
          exact (key k' id' id hp' (fun k hk => hp ⟨k, hk⟩) (hsomeS id h1) h4 h3).symm
        · rw [hout id' fun k hk => hp' ⟨k, hk⟩] at h4
          exact h.good.inj id id' g (hsomeS id h1) (hsomeS id' h2) h3 h4
    · by_cases hp : ∃ k, (k, id) ∈ m
      · obtain ⟨k, hp⟩ := hp
        rw [hin k id hp] at h2
        obtain ⟨c, b1, _⟩ := hnew k id hp
        exact hg1.lt k g (by rw [bxs_of_tab b1]; rfl) h2
      · rw [hout id fun k hk => hp ⟨k, hk⟩] at h2
        obtain ⟨a1, a2⟩ := h.good.lt id g (hsomeS id h1) h2
        exact ⟨Nat.lt_of_lt_of_le a1 hstep.size, by rw [(hfar id g (hsomeS id h1) h2 fun k hk => hp ⟨k, hk⟩).2]; exact a2⟩
    · rw [hlv]
      by_cases hp : ∃ k, (k, id) ∈ m
      · obtain ⟨k, hp⟩ := hp
        obtain ⟨c, b1, b2⟩ := hnew k id hp
        rw [b2] at h1; cases h1
        have hcne : c ≠ [] := fun e => hne0 (by rw [e]; rfl)
        obtain ⟨g, cells, e, c1, c2, c3, c4, c5⟩ := hg1.box k c (bxs_of_tab b1) hcne
        refine ⟨g, cells, e, (hin k id hp).trans c1, c2, by rw [bkL_length]; exact c3, c4, fun j c' hj => ?_⟩
        rw [bkL_get] at hj
        obtain ⟨y, hy, rfl⟩ := Option.map_eq_some_iff.1 hj
        exact bk_rel hun hat hbkι (c5 j y hy)
      · have hq : ∀ k, (k, id) ∉ m := fun k hk => hp ⟨k, hk⟩
        rw [hold id hq] at h1
        obtain ⟨o, ho, he⟩ := Option.map_eq_some_iff.1 h1
        cases o with
        | row => rw [killA_row] at he; cases he
        | box cs1 =>
          rw [killA_box] at he; cases he
          obtain ⟨g, cells, e, c1, c2, c3, c4, c5⟩ := h.good.box id cs1 ho (fun e => hne0 (by rw [e]; rfl))
          obtain ⟨f1, f2⟩ := hfar id g (by simp [ho]) c1 hq
          refine ⟨g, cells, e, (hout id hq).trans c1, f1.trans c2, by simpa using c3, f2.trans c4, fun j c' hj => ?_⟩
          rw [List.getElem?_map] at hj
          obtain ⟨y, hy, rfl⟩ := Option.map_eq_some_iff.1 hj
          exact (RelC.dropA (grows m) (c5 j y hy)).stay hst
    · obtain ⟨o1, o2⟩ := h.hist.old g hg hn
      have hlt := Nat.lt_of_lt_of_le hg h.hist.step.size
      obtain ⟨f1, f2⟩ := hnot g (fun k id e1 e2 => by
        obtain ⟨cs, _, a1, _⟩ := hacc k id e1
        rcases h.good.wh id g (by simp [a1]) e2 with q | ⟨q, q'⟩
        · exact Nat.lt_irrefl _ (Nat.lt_of_lt_of_le hg q)
        · exact hn id q q') hlt
      exact ⟨f1.trans o1, f2.trans o2⟩
    · by_cases hp : ∃ k, (k, id) ∈ m
      · obtain ⟨k, hp⟩ := hp
        rcases growOk_mem hgr k id hp with q | q | q
        · rw [hfixι k id hp q]; exact h.hist.ι id hid hng
        · rw [q] at hid; cases hid
        · rw [q] at hng; cases hng
      · rw [hout id fun k hk => hp ⟨k, hk⟩]; exact h.hist.ι id hid hng
  refine hK _ _ G2 ⟨hstep, fun id g hXi hi hg ho => ?_⟩ (r0.put (Stay.refl _ _ _) r0.hist r0.good (bkV_rel hun hat hbkι hr) rfl)
  have hnp : ∀ k, (k, id) ∉ m := fun k hk => (hX id id hXi).1 rfl
  obtain ⟨f1, f2⟩ := hfar id g (hX 0 id hXi).2 hi hnp
  exact ⟨(hout id hnp).trans hi, f1, f2.trans ho⟩
end
end Go.Proofs.YthaiegnohkiegaaGreat.Ab
/-
  The calculus, continued: rows that grow and may be written: append, their begin, their end.
-/
namespace Go.Proofs.YthaiegnohkiegaaGreat.Ab
open Go.RowKit (Below)
set_option linter.unusedVariables false
set_option linter.unusedSimpArgs false
section
variable {X : Nat → Bool} {P : Program} {E : Ent} {S : St} {Q : Exit → St → Prop} {ops : Array Oper} {rest : List Oper}
  {d : Option Tmp} {ty : TypeId} {ps : String} {af : Array Edge} {gd : Option (Nat × Bool)}

/-- A box turns, in its block or in a new one: all that was said of it elsewhere is forgotten. -/
theorem RS.regro {a : Act} {w w' : World} {G : Env} (r : RS E S a w G) {id : Nat} {cs cs' : List C} (hE : E.σ id = none ∨ Nat.ble 950 id = true) (hX : Free X S id) (hb : S.σ id = some (.box cs))
    (go : Option Nat) (hsz : w.heap.size ≤ w'.heap.size) (hos : w'.os = w.os) (htape : w'.tape = w.tape) (hout : w'.output = w.output)
    (hoth : ∀ g, g < w.heap.size → G.ι id ≠ some g → w'.heap[g]? = w.heap[g]?)
    (hid : ∀ (g : Nat) (c : Array Value) (e : TypeId) (f : Nat × Nat) (n : Nat), G.ι id = some g → G.own g = some n → w.heap[g]? = some (.cells c e f) →
      ∃ (c' : Array Value) (f' : Nat × Nat), w'.heap[g]? = some (.cells c' e f') ∧ c.size ≤ c'.size ∧ (∀ i, i < n → c'[i]? = c[i]?) ∧ (go = some g → n = 0))
    (hgo : ∀ g, go = some g → (G.ι id = some g ∨ w.heap.size ≤ g) ∧ g < w'.heap.size)
    (hc : cs' ≠ [] → ∃ g arr e, go = some g ∧ w'.heap[g]? = some (.cells arr e (0, 0)) ∧ cs'.length ≤ arr.size ∧ ∀ (j : Nat) (c : C), cs'[j]? = some c → ∃ c0 v0, c = C.kill id c0 ∧ RelC w G E.B (lvOf S.σ) v0 c0 ∧ arr[j]? = some v0) :
    ∃ G', G'.ι id = go ∧ Keep X w G w' G' ∧ RS E ((S.kill id).box id (some (.box cs'))) a w' G' := by
  let G' : Env := { own := fun q => if go = some q then some 0 else G.own q, ι := fun i => bif Nat.beq i id then go else G.ι i }
  have hso : (S.σ id).isSome = true := by simp [hb]
  have hιid : G'.ι id = go := by simp [G']
  have hι : ∀ i, i ≠ id → G'.ι i = G.ι i := fun i hi => by simp only [G']; rw [beq_ne hi]; rfl
  have hog : ∀ g, go = some g → G'.own g = some 0 := fun g hg => by simp only [G']; rw [if_pos hg]
  have hon : ∀ g, go ≠ some g → G'.own g = G.own g := fun g hg => by simp only [G']; rw [if_neg hg]
  have hgne : ∀ g, g < w.heap.size → G.ι id ≠ some g → go ≠ some g := fun g hlt hne e => by
    rcases (hgo g e).1 with q | q
    · exact hne q
    · omega
  have hstep : Step w G.own w' G'.own := by
    refine ⟨hsz, hos, htape, hout, fun g hg hn => ?_, fun g n c e f ho hb' => ?_, fun g c e f hb' => ?_⟩
    · have hne : G.ι id ≠ some g := fun e => by
        have := (r.good.lt id g hso e).2
        rw [hn] at this; cases this
      exact ⟨hoth g hg hne, (hon g (hgne g hg hne)).trans hn⟩
    · have hlt := lt_of_heap hb'
      by_cases hιg : G.ι id = some g
      · obtain ⟨c', f', q1, q2, q3, q4⟩ := hid g c e f n hιg ho hb'
        refine ⟨c', f', q1, q3, fun n' hn' => ?_⟩
        by_cases eg : go = some g
        · rw [q4 eg]; exact Nat.zero_le _
        · rw [hon g eg, ho] at hn'; cases hn'; exact Nat.le_refl _
      · refine ⟨c, f, (hoth g hlt hιg).trans hb', fun _ _ => rfl, fun n' hn' => ?_⟩
        rw [hon g (hgne g hlt hιg), ho] at hn'; cases hn'; exact Nat.le_refl _
    · have hlt := lt_of_heap hb'
      by_cases hιg : G.ι id = some g
      · obtain ⟨n, hn⟩ := Option.isSome_iff_exists.1 (r.good.lt id g hso hιg).2
        obtain ⟨c', f', q1, q2, _⟩ := hid g c e f n hιg hn hb'
        exact ⟨c', f', q1, q2⟩
      · exact ⟨c, f, (hoth g hlt hιg).trans hb', Nat.le_refl _⟩
  have hbox : ∀ i, i ≠ id → ∀ o, ((S.kill id).box id (some (.box cs'))).σ i = some o → ∃ o', S.σ i = some o' ∧ o = o'.kill id := fun i hi o h => by
    simp only [St.box, St.kill] at h
    rw [beq_ne hi] at h
    simp only [cond_false, Option.map_eq_some_iff] at h
    obtain ⟨o', h1, h2⟩ := h
    exact ⟨o', h1, h2.symm⟩
  have hsome : ∀ i, i ≠ id → (((S.kill id).box id (some (.box cs'))).σ i).isSome = true → (S.σ i).isSome = true := fun i hi h => by
    obtain ⟨o, ho⟩ := Option.isSome_iff_exists.1 h
    obtain ⟨o', h1, _⟩ := hbox i hi o ho
    simp [h1]
  have hlv : ∀ i, lvOf ((S.kill id).box id (some (.box cs'))).σ i = lvOf S.σ i := fun i => by
    by_cases hi : i = id
    · subst hi; simp [lvOf, St.box, hb]
    · have := congrFun (lv_kill S id) i
      simp only [lvOf, St.box] at this ⊢
      rw [beq_ne hi]
      exact this
  have hfar : ∀ i g, i ≠ id → (S.σ i).isSome = true → G.ι i = some g → w'.heap[g]? = w.heap[g]? ∧ G'.own g = G.own g := fun i g hi hs hg => by
    have hlt := (r.good.lt i g hs hg).1
    have hne : G.ι id ≠ some g := fun e => hi (r.good.inj i id g hs hso hg e)
    exact ⟨hoth g hlt hne, hon g (hgne g hlt hne)⟩
  have hst : StayK id w G (lvOf S.σ) w' G' (lvOf ((S.kill id).box id (some (.box cs'))).σ) := by
    refine ⟨hstep, fun i g hi hg => (hι i hi).trans hg, fun i hi hl => ?_, fun i hi hl => hι i hi⟩
    rw [hlv] at hl
    exact ⟨hl, fun g hg => hfar i g hi (lv_some hl) hg⟩
  refine ⟨G', hιid, ⟨hstep, fun i g hXi hi hg ho => ?_⟩, r.defers, r.size, fun t v ht => ?_, ⟨fun i g h1 h2 => ?_, fun i i' g h1 h2 h3 h4 => ?_, fun i g h1 h2 => ?_, fun i cs0 h1 hne => ?_⟩, ⟨r.hist.step.trans hstep, fun g hg hn => ?_, fun i hi hng => ?_⟩⟩
  · obtain ⟨hne, hsm⟩ := hX i hXi
    obtain ⟨f1, f2⟩ := hfar i g hne hsm hi
    exact ⟨(hι i hne).trans hi, f1, f2.trans ho⟩
  · exact (r.slots t v ht).stayK hst
  · by_cases hi : i = id
    · subst hi
      rw [hιid] at h2
      rcases (hgo g h2).1 with q | q
      · exact r.good.wh _ g hso q
      · exact .inl (Nat.le_trans r.hist.step.size q)
    · rw [hι i hi] at h2
      exact r.good.wh i g (hsome i hi h1) h2
  · have key : ∀ i, i ≠ id → (S.σ i).isSome = true → G.ι i = some g → go = some g → i = id := fun i hi hs e1 e2 => by
      rcases (hgo g e2).1 with q | q
      · exact r.good.inj i id g hs hso e1 q
      · exact absurd (r.good.lt i g hs e1).1 (Nat.not_lt.2 q)
    by_cases hi : i = id
    · subst hi
      by_cases hi' : i' = i
      · exact hi'.symm
      · rw [hιid] at h3
        rw [hι i' hi'] at h4
        exact (key i' hi' (hsome i' hi' h2) h4 h3).symm
    · rw [hι i hi] at h3
      by_cases hi' : i' = id
      · subst hi'
        rw [hιid] at h4
        exact key i hi (hsome i hi h1) h3 h4
      · rw [hι i' hi'] at h4
        exact r.good.inj i i' g (hsome i hi h1) (hsome i' hi' h2) h3 h4
  · by_cases hi : i = id
    · subst hi
      rw [hιid] at h2
      exact ⟨(hgo g h2).2, by rw [hog g h2]; rfl⟩
    · rw [hι i hi] at h2
      obtain ⟨a1, a2⟩ := r.good.lt i g (hsome i hi h1) h2
      exact ⟨Nat.lt_of_lt_of_le a1 hsz, by rw [(hfar i g hi (hsome i hi h1) h2).2]; exact a2⟩
  · by_cases hi : i = id
    · subst hi
      have e0 : cs0 = cs' := by
        simp only [St.box, Nat.beq_refl, cond_true, Option.some.injEq, O.box.injEq] at h1
        exact h1.symm
      subst e0
      obtain ⟨g, arr, e, q1, q2, q3, q4⟩ := hc hne
      refine ⟨g, arr, e, hιid.trans q1, q2, q3, hog g q1, fun j c hj => ?_⟩
      obtain ⟨c0, v0, rfl, k1, k2⟩ := q4 j c hj
      have e1 : arr.getD j undef = v0 := by simp [k2]
      rw [e1]
      exact k1.stayK hst
    · obtain ⟨o', b1, b2⟩ := hbox i hi _ h1
      cases o' with
      | row => cases b2
      | box cs1 =>
        simp only [O.kill, O.box.injEq] at b2
        subst b2
        obtain ⟨g, cells, e', c1, c2, c3, c4, c5⟩ := r.good.box i cs1 b1 (fun e => hne (by rw [e]; rfl))
        obtain ⟨f1, f2⟩ := hfar i g hi (by simp [b1]) c1
        refine ⟨g, cells, e', (hι i hi).trans c1, f1.trans c2, by rw [killL_length]; exact c3, f2.trans c4, fun j c hj => ?_⟩
        rw [killL_get] at hj
        obtain ⟨y, hy, rfl⟩ := Option.map_eq_some_iff.1 hj
        exact (c5 j y hy).stayK hst
  · obtain ⟨o1, o2⟩ := r.hist.old g hg hn
    have hlt := Nat.lt_of_lt_of_le hg r.hist.step.size
    have hne : G.ι id ≠ some g := fun e => by
      rcases r.good.wh id g hso e with q | ⟨q, q'⟩
      · exact Nat.lt_irrefl _ (Nat.lt_of_lt_of_le hg q)
      · exact hn id q q'
    exact ⟨(hoth g hlt hne).trans o1, (hon g (hgne g hlt hne)).trans o2⟩
  · have hne : i ≠ id := fun e => by
      subst e
      rcases hE with q | q
      · rw [q] at hi; cases hi
      · rw [q] at hng; cases hng
    exact (hι i hne).trans (r.hist.ι i hi hng)

theorem D_appendG {s y : Operand} {t id e len sz bytes : Nat} {z : Value} {fy : Bool} {cs : List C} {ys : List (List D)}
    (hu : P.underlying t = some (.slice e)) (hz : (P.info? e).map (fun i => (i.size, i.bytes, i.zero)) = some (sz, bytes, some z)) (hsz : 0 < sz) (hzs : z.cells.size = sz)
    (hx : S.ev s = .c (.gro id e len sz)) (hE : E.σ id = none ∨ Nat.ble 950 id = true) (hX : Free X S id) (hb : S.σ id = some (.box cs)) (hcs : cs.length = len * sz)
    (hy : slOf (S.ev y) = some (fy, ys)) (hys : ∀ ds ∈ ys, ds.length = sz) (hlen : (len + ys.length) * bytes ≤ 140737488355328) (hlen2 : len + ys.length ≤ 4611686018427387904) :
    Does X P E S ⟨d, .call { callee := .builtin .append, args := #[s, y], argTypes := #[t, t] }, ty, ps, af, gd⟩
      (((S.kill id).box id (some (.box (C.killL id (cs ++ ys.flatten.map (C.nd fy)))))).setO d (.c (.gro id e (len + ys.length) sz))) :=
  Does_op (fun a w G h => by
    obtain ⟨i, hi, hi2⟩ := Option.map_eq_some_iff.1 hz
    simp only [Prod.mk.injEq] at hi2
    obtain ⟨his, hib, hiz⟩ := hi2
    have hvx := ev_rel h s
    rw [hx] at hvx
    have hdy := slOf_rel (ev_rel h y) hy
    have hop : ∀ r w', (Builtin.append_ #[t, t] ty #[a.eval s, a.eval y]).run P w = .ok r w' →
        (execOp a.eval ⟨d, .call { callee := .builtin .append, args := #[s, y], argTypes := #[t, t] }, ty, ps, af, gd⟩).run P w = .ok (.value r) w' := fun r w' hr => by
      simp [execOp, resolve, invoke, builtin, hr]
    generalize a.eval s = vx at hvx hop
    generalize a.eval y = vy at hdy hop
    have hmax : len + ys.length ≤ maxLen := by unfold maxLen; omega
    have h63 : ((len + ys.length : Nat) : Int) ≤ 9223372036854775807 := by omega
    have hfl : (ys.flatten).length = ys.length * sz := by
      clear hdy hlen hlen2 hmax h63 hy
      induction ys with
      | nil => simp
      | cons x ys ih =>
        rw [List.flatten_cons, List.length_append, ih (fun ds hd => hys ds (by simp [hd])), hys x (by simp), List.length_cons, Nat.add_mul, Nat.one_mul, Nat.add_comm]
    have hfg : ∀ q dd, ys.flatten[q]? = some dd → ∃ ds, ys[q / sz]? = some ds ∧ ds[q % sz]? = some dd ∧ q / sz < ys.length ∧ q % sz < sz := by
      clear hdy hlen hlen2 hmax h63 hy hfl
      induction ys with
      | nil => intro q dd hq; simp at hq
      | cons x ys ih =>
        intro q dd hq
        have hxl := hys x (by simp)
        rw [List.flatten_cons, List.getElem?_append] at hq
        by_cases hlt : q < x.length
        · rw [if_pos hlt] at hq
          rw [hxl] at hlt
          rw [Nat.div_eq_of_lt hlt, Nat.mod_eq_of_lt hlt]
          exact ⟨x, rfl, hq, by simp, hlt⟩
        · rw [if_neg hlt, hxl] at hq
          rw [hxl] at hlt
          obtain ⟨ds, h1, h2, h3, h4⟩ := ih (fun ds hd => hys ds (by simp [hd])) (q - sz) dd hq
          have e1 : q / sz = (q - sz) / sz + 1 := by
            conv => lhs; rw [show q = (q - sz) + sz by omega, Nat.add_div_right _ hsz]
          have e2 : q % sz = (q - sz) % sz := by
            conv => lhs; rw [show q = (q - sz) + sz by omega, Nat.add_mod_right]
          rw [e1, e2]
          exact ⟨ds, by simpa using h1, h2, by simp; omega, h4⟩
    -- the elements that come
    obtain ⟨cvy, hys1, hys2⟩ : ∃ cvy : Nat → Nat → Value, (∀ q dd, ys.flatten[q]? = some dd → RelD w G.own (E.B.at fy) (cvy (q / sz) (q % sz)) dd) ∧
        ((ys = [] ∧ ∃ ay cy, vy = .slice ay 0 cy) ∨ ∃ ad cy, vy = .slice (some ad) ys.length cy ∧ (∀ q v, (flat cvy ys.length sz)[q]? = some v → w.cell? (ad.add q) = some v)) := by
      rcases any_elems hdy hys with ⟨ay, cy, rfl, rfl⟩ | ⟨gy, oy, cy, rfl, cvy, hcy, hry⟩
      · exact ⟨fun _ _ => undef, fun q dd hq => by simp at hq, .inl ⟨rfl, _, _, rfl⟩⟩
      · refine ⟨cvy, fun q dd hq => ?_, .inr ⟨_, _, rfl, fun q v hq => ?_⟩⟩
        · obtain ⟨ds, h1, h2, h3, h4⟩ := hfg q dd hq
          exact hry _ _ ds dd h1 h2
        · obtain ⟨q1, q2, q3, q4⟩ := flat_back hq
          rw [add_at, q3, show oy + q = oy + q / sz * sz + q % sz by omega]
          exact hcy _ _ q1 q2
    have hone : ∀ u ∈ flat cvy ys.length sz, u.oneCell' = true := fun u hu => by
      obtain ⟨q, hq⟩ := List.getElem?_of_mem hu
      obtain ⟨q1, q2, q3, q4⟩ := flat_back hq
      have hq' : q < ys.flatten.length := by
        rw [hfl]
        have := (List.getElem?_eq_some_iff.1 hq).1
        rwa [flat_length] at this
      have := (hys1 q _ (List.getElem?_eq_getElem hq')).oneCell
      rw [q3]; exact this
    -- the end
    have fin : ∀ (w' : World) (g' cap : Nat) (arr : Array Value) (olds : List Value), olds.length = len * sz → (∀ (j : Nat) (c : C), cs[j]? = some c → ∃ v0, olds[j]? = some v0 ∧ RelC w G E.B (lvOf S.σ) v0 c) →
        w.heap.size ≤ w'.heap.size → w'.os = w.os → w'.tape = w.tape → w'.output = w.output → (∀ g, g < w.heap.size → G.ι id ≠ some g → w'.heap[g]? = w.heap[g]?) →
        (∀ (g : Nat) (c : Array Value) (e : TypeId) (f : Nat × Nat) (n : Nat), G.ι id = some g → G.own g = some n → w.heap[g]? = some (.cells c e f) →
          ∃ (c' : Array Value) (f' : Nat × Nat), w'.heap[g]? = some (.cells c' e f') ∧ c.size ≤ c'.size ∧ (∀ i, i < n → c'[i]? = c[i]?) ∧ (some g' = some g → n = 0)) →
        (G.ι id = some g' ∨ w.heap.size ≤ g') → g' < w'.heap.size → w'.heap[g']? = some (.cells arr e (0, 0)) → (∀ (j : Nat) (v : Value), (olds ++ flat cvy ys.length sz)[j]? = some v → arr[j]? = some v) →
        0 < len + ys.length → len + ys.length ≤ cap → cap ≤ maxLen → cap * sz ≤ arr.size →
        (Builtin.append_ #[t, t] ty #[vx, vy]).run P w = .ok (.slice (some ⟨g', 0, none⟩) (len + ys.length) cap) w' →
        ∃ v w'' G'', ((execOp a.eval ⟨d, .call { callee := .builtin .append, args := #[s, y], argTypes := #[t, t] }, ty, ps, af, gd⟩).run P w = .ok (.value v) w'' ∨
          ((execOp a.eval ⟨d, .call { callee := .builtin .append, args := #[s, y], argTypes := #[t, t] }, ty, ps, af, gd⟩).run P w = .ok .skip w'' ∧ v = undef)) ∧ Keep X w G w'' G'' ∧
          RS E (((S.kill id).box id (some (.box (C.killL id (cs ++ ys.flatten.map (C.nd fy)))))).setO d (.c (.gro id e (len + ys.length) sz))) (a.put d v) w'' G'' := by
      intro w' g' cap arr olds holen holds hsize hos htape hout hoth hidb hwhere hlt hbk harr hpos hcap hcm hasz hrun
      have hlall : (C.killL id (cs ++ ys.flatten.map (C.nd fy))).length = (len + ys.length) * sz := by
        rw [killL_length, List.length_append, List.length_map, hcs, hfl, Nat.add_mul]
      obtain ⟨G', hG, hkeep, hr⟩ := h.regro (X := X) (cs' := C.killL id (cs ++ ys.flatten.map (C.nd fy))) hE hX hb (some g') hsize hos htape hout hoth hidb (fun g hg => by cases hg; exact ⟨hwhere, hlt⟩)
        (fun _ => ⟨g', arr, e, rfl, hbk, by
          rw [hlall]
          exact Nat.le_trans (Nat.mul_le_mul_right _ hcap) hasz, fun j c hj => by
          rw [killL_get] at hj
          obtain ⟨c0, h0, rfl⟩ := Option.map_eq_some_iff.1 hj
          rw [List.getElem?_append] at h0
          by_cases hjl : j < cs.length
          · rw [if_pos hjl] at h0
            obtain ⟨v0, k1, k2⟩ := holds j c0 h0
            exact ⟨c0, v0, rfl, k2, harr j v0 (by rw [List.getElem?_append_left (by rw [holen, ← hcs]; exact hjl)]; exact k1)⟩
          · rw [if_neg hjl, List.getElem?_map] at h0
            obtain ⟨dd, hd, rfl⟩ := Option.map_eq_some_iff.1 h0
            have hrd := hys1 _ dd hd
            obtain ⟨ds, h1, h2, h3, h4⟩ := hfg _ dd hd
            refine ⟨_, _, rfl, .nd hrd, harr j _ ?_⟩
            rw [List.getElem?_append_right (by rw [holen, ← hcs]; omega), holen, ← hcs]
            have hdm := Nat.div_add_mod (j - cs.length) sz
            have := flat_get cvy h3 h4
            rw [show (j - cs.length) / sz * sz + (j - cs.length) % sz = j - cs.length by rw [Nat.mul_comm]; exact hdm] at this
            exact this⟩)
      refine ⟨_, w', G', .inl (hop _ _ hrun), hkeep, hr.put (Stay.refl _ _ _) hr.hist hr.good (.c (.gro hG hpos hcap hcm ⟨arr, _, hbk, hasz⟩)) rfl⟩
    -- nothing comes
    have nothing : ∀ (go : Option Nat), ys = [] → RelC w G E.B (lvOf S.σ) vx (.gro id e len sz) → (∀ g, go = some g → G.ι id = some g) → (cs ≠ [] → go = G.ι id) → (∀ g, go = some g → G.own g = some 0) → (go = none → len = 0) →
        (Builtin.append_ #[t, t] ty #[vx, vy]).run P w = .ok vx w →
        ∃ v w'' G'', ((execOp a.eval ⟨d, .call { callee := .builtin .append, args := #[s, y], argTypes := #[t, t] }, ty, ps, af, gd⟩).run P w = .ok (.value v) w'' ∨
          ((execOp a.eval ⟨d, .call { callee := .builtin .append, args := #[s, y], argTypes := #[t, t] }, ty, ps, af, gd⟩).run P w = .ok .skip w'' ∧ v = undef)) ∧ Keep X w G w'' G'' ∧
          RS E (((S.kill id).box id (some (.box (C.killL id (cs ++ ys.flatten.map (C.nd fy)))))).setO d (.c (.gro id e (len + ys.length) sz))) (a.put d v) w'' G'' := by
      intro go he hr0 hgo1 hgo2 hgo3 hgo4 hrun
      subst he
      obtain ⟨G', hG, hkeep, hr⟩ := h.regro (X := X) (w' := w) (cs' := C.killL id (cs ++ ([] : List (List D)).flatten.map (C.nd fy))) hE hX hb go (Nat.le_refl _) rfl rfl rfl (fun _ _ _ => rfl)
        (fun g c e f n hg hn hb' => ⟨c, f, hb', Nat.le_refl _, fun _ _ => rfl, fun eg => by rw [hgo3 g eg] at hn; cases hn; rfl⟩) (fun g hg => ⟨.inl (hgo1 g hg), (h.good.lt id g (by simp [hb]) (hgo1 g hg)).1⟩)
        (fun hne => by
          have hne1 : cs ≠ [] := fun e => hne (by rw [e]; rfl)
          obtain ⟨g0, cells, e0, b1, b2, b3, b4, b5⟩ := h.good.box id cs hb hne1
          refine ⟨g0, cells, e0, (hgo2 hne1).trans b1, b2, by rw [killL_length]; simpa using b3, fun j c hj => ?_⟩
          rw [killL_get] at hj
          obtain ⟨c0, h0, rfl⟩ := Option.map_eq_some_iff.1 hj
          have h0 : cs[j]? = some c0 := by simpa using h0
          have hjl := (List.getElem?_eq_some_iff.1 h0).1
          refine ⟨c0, cells.getD j undef, rfl, b5 j c0 h0, ?_⟩
          have : j < cells.size := by omega
          simp [this])
      refine ⟨_, w, G', .inl (hop _ _ hrun), hkeep, hr.put (Stay.refl _ _ _) hr.hist hr.good ?_ rfl⟩
      cases hr0 with
      | gro h1 h2 h3 h4 h5 =>
        cases go with
        | none => have := hgo4 rfl; omega
        | some g1 => have := hgo1 g1 rfl; rw [h1] at this; cases this; exact .c (.gro hG h2 h3 h4 h5)
      | groE => exact .c .groE
    have hoa : ∀ g c e (f : Nat × Nat) n arr, G.ι id = some g → G.own g = some n → w.heap[g]? = some (.cells c e f) →
        ∃ (c' : Array Value) (f' : Nat × Nat), (w.drew.alloc arr).heap[g]? = some (.cells c' e f') ∧ c.size ≤ c'.size ∧ (∀ i, i < n → c'[i]? = c[i]?) ∧ (some w.heap.size = some g → n = 0) := fun g c e f n arr hg hn hb' =>
      ⟨c, f, (heap_alloc_old w.drew _ g (lt_of_heap hb')).trans hb', Nat.le_refl _, fun _ _ => rfl, fun eg => by cases eg; exact absurd (lt_of_heap hb') (Nat.lt_irrefl _)⟩
    cases hvx with
    | c hvx => cases hvx with
      | @groE _ _ _ a0 =>
        have hcs0 : cs = [] := List.eq_nil_of_length_eq_zero (by simpa using hcs)
        rcases hys2 with ⟨hy0, ay, cy, rfl⟩ | ⟨ad, cy, rfl, hnews⟩
        · refine nothing none hy0 .groE (fun g hg => by cases hg) (fun hne => absurd hcs0 hne) (fun g hg => by cases hg) (fun _ => rfl) ?_
          cases a0 <;> cases ay <;> simp [Builtin.append_, run_underlying hu, sizeOf, typeInfo, hi, Builtin.lenOf, Builtin.firstCells, loadCells, loadCellsFrom, storeCells]
        · by_cases hm : ys.length = 0
          · have hy0 : ys = [] := List.eq_nil_of_length_eq_zero hm
            refine nothing none hy0 .groE (fun g hg => by cases hg) (fun hne => absurd hcs0 hne) (fun g hg => by cases hg) (fun _ => rfl) ?_
            subst hy0
            cases a0 <;> simp [Builtin.append_, run_underlying hu, sizeOf, typeInfo, hi, Builtin.lenOf, Builtin.firstCells, loadCells, loadCellsFrom, storeCells]
          · have hge := grownCap_ge w (0 + ys.length) 0 e
            cases a0 with
            | none =>
              have hrun := run_append_nil (P := P) w t ty e i z hu hi hiz ad ys.length cy (flat cvy ys.length sz) (by rw [flat_length, his]) hnews (by omega) (by simpa using h63) (by
                simp only [Nat.zero_add] at hlen
                rw [hib]; omega)
              have hge := grownCap_ge w ys.length 0 e
              refine fin (w.drew.alloc _) w.heap.size (grownCap w ys.length 0 e) _ [] (by simp) (fun j c hj => by rw [hcs0] at hj; simp at hj) (by simp) rfl rfl rfl (fun g hg _ => heap_alloc_old w.drew _ g hg) (fun g c e f n hg hn hb' => hoa g c e f n _ hg hn hb')
                (.inr (Nat.le_refl _)) (by simp) (heap_alloc_new w.drew _) (fun j v hj => ?_) (by omega) (by simpa using hge) (grownCap_le_maxLen w ys.length 0 e (by simpa using hmax)) ?_ (by simpa using hrun)
              · have hjl := (List.getElem?_eq_some_iff.1 hj).1
                rw [Array.getElem?_append_left (by simpa using hjl)]
                simpa using hj
              · simp only [Array.size_append, List.size_toArray, size_zeroCells, hzs, flat_length, ← Nat.add_mul]
                exact Nat.le_of_eq (by congr 1; omega)
            | some ad0 =>
              have hrun := run_append_grow (P := P) w t ty e i z hu hi hiz ad0 0 0 [] (by simp) (fun q v hq => by simp at hq) ad ys.length cy (flat cvy ys.length sz) (by rw [flat_length, his]) hnews (by omega) (by simpa using h63)
                (growslice_fits (by omega) (by simp only [Nat.zero_add] at hlen ⊢; rw [hib]; exact hlen))
              refine fin (w.drew.alloc _) w.heap.size (grownCap w (0 + ys.length) 0 e) _ [] (by simp) (fun j c hj => by rw [hcs0] at hj; simp at hj) (by simp) rfl rfl rfl (fun g hg _ => heap_alloc_old w.drew _ g hg) (fun g c e f n hg hn hb' => hoa g c e f n _ hg hn hb')
                (.inr (Nat.le_refl _)) (by simp) (heap_alloc_new w.drew _) (fun j v hj => ?_) (by omega) hge (grownCap_le_maxLen w (0 + ys.length) 0 e hmax) ?_ hrun
              · have hjl := (List.getElem?_eq_some_iff.1 hj).1
                rw [Array.getElem?_append_left (by simpa using hjl)]
                simpa using hj
              · simp only [Array.size_append, List.size_toArray, size_zeroCells, hzs, flat_length, List.length_nil, ← Nat.add_mul]
                simp only [Nat.zero_add] at hge ⊢
                rw [← Nat.add_mul]
                exact Nat.le_of_eq (by congr 1; omega)
      | @gro _ _ _ _ c g hιg hpos hlc hmc hblk =>
        obtain ⟨cells, fr, hb1, hb2⟩ := hblk
        have hne : cs ≠ [] := fun e0 => by
          rw [e0] at hcs
          have := Nat.mul_pos hpos hsz
          simp at hcs; omega
        obtain ⟨g0, cur, e0, b1, b2, b3, b4, b5⟩ := h.good.box id cs hb hne
        rw [hιg] at b1; cases b1
        rw [hb1] at b2; cases b2
        have hglt := lt_of_heap hb1
        have holds : ∀ q v, (cells.toList.take (len * sz))[q]? = some v → w.cell? ((⟨g, 0, none⟩ : Addr).add q) = some v := fun q v hq => by
          rw [add_at, cell_at hb1]
          rw [List.getElem?_take] at hq
          split at hq
          · simpa using hq
          · cases hq
        have hol : (cells.toList.take (len * sz)).length = len * sz := by
          rw [List.length_take, Array.length_toList]
          omega
        have hol2 : ∀ (j : Nat) (c : C), cs[j]? = some c → ∃ v0, (cells.toList.take (len * sz))[j]? = some v0 ∧ RelC w G E.B (lvOf S.σ) v0 c := fun j c hj => by
          have hjl := (List.getElem?_eq_some_iff.1 hj).1
          refine ⟨cells.getD j undef, ?_, b5 j c hj⟩
          rw [List.getElem?_take, if_pos (by omega)]
          have : j < cells.size := by omega
          simp [this]
        rcases hys2 with ⟨hy0, ay, cy, rfl⟩ | ⟨ad, cy, rfl, hnews⟩
        · refine nothing (some g) hy0 (.gro hιg hpos hlc hmc ⟨cells, _, hb1, hb2⟩) (fun g' hg => by cases hg; exact hιg) (fun _ => hιg.symm) (fun g' hg => by cases hg; exact b4) (fun hg => by cases hg) ?_
          cases ay <;> simp [Builtin.append_, run_underlying hu, sizeOf, typeInfo, hi, Builtin.lenOf, Builtin.firstCells, loadCells, loadCellsFrom, storeCells, hlc]
        · by_cases hroom : len + ys.length ≤ c
          · have hfit : len * sz + (flat cvy ys.length sz).length ≤ cells.size := by
              rw [flat_length, ← Nat.add_mul]; exact Nat.le_trans (Nat.mul_le_mul_right _ hroom) hb2
            have hrun := run_append_room (P := P) w t ty e i hu hi g len c cells hb1 ad ys.length cy (flat cvy ys.length sz) (by rw [flat_length, his]) hnews hone hroom (by rw [his]; exact hfit)
            rw [his] at hrun
            refine fin (w.setRow g _) g c _ (cells.toList.take (len * sz)) hol hol2 (by simp) rfl rfl rfl (fun g2 hg2 hne2 => setRow_other w g g2 _ (fun e' => hne2 (by rw [e']; exact hιg))) (fun g2 c2 e2 f2 n2 q1 q2 q3 => ?_)
              (.inl hιg) (by simpa using hglt) (setRow_heap w g cells _ e _ hb1) (fun j v hj => ?_) (by omega) hroom hmc ?_ hrun
            · rw [hιg] at q1; cases q1
              rw [b4] at q2; cases q2
              rw [hb1] at q3; cases q3
              refine ⟨_, _, setRow_heap w g cells _ e _ hb1, ?_, fun i hi => absurd hi (Nat.not_lt_zero i), fun _ => rfl⟩
              simp only [List.size_toArray, List.length_append, List.length_take, List.length_drop, Array.length_toList]
              omega
            · rw [List.getElem?_toArray, List.getElem?_append_left (by exact (List.getElem?_eq_some_iff.1 hj).1)]
              exact hj
            · simp only [List.size_toArray, List.length_append, List.length_take, List.length_drop, Array.length_toList]
              omega
          · have hrun := run_append_grow (P := P) w t ty e i z hu hi hiz ⟨g, 0, none⟩ len c (cells.toList.take (len * sz)) (by rw [hol, his]) holds ad ys.length cy (flat cvy ys.length sz) (by rw [flat_length, his]) hnews (by omega) h63
              (growslice_fits (by omega) (by rw [hib]; exact hlen))
            have hge := grownCap_ge w (len + ys.length) c e
            refine fin (w.drew.alloc _) w.heap.size _ _ (cells.toList.take (len * sz)) hol hol2 (by simp) rfl rfl rfl (fun g2 hg2 _ => heap_alloc_old w.drew _ g2 hg2) (fun g c e f n hg hn hb' => hoa g c e f n _ hg hn hb')
              (.inr (Nat.le_refl _)) (by simp) (heap_alloc_new w.drew _) (fun j v hj => ?_) (by omega) hge (grownCap_le_maxLen w _ c e hmax) ?_ hrun
            · have hjl := (List.getElem?_eq_some_iff.1 hj).1
              rw [Array.getElem?_append_left (by simpa using hjl)]
              have e2 : (cells.toList.take (len * sz)).toArray ++ (flat cvy ys.length sz).toArray = (cells.toList.take (len * sz) ++ flat cvy ys.length sz).toArray := by simp
              rw [e2, List.getElem?_toArray]
              exact hj
            · simp only [Array.size_append, List.size_toArray, size_zeroCells, hzs, flat_length, hol, ← Nat.add_mul]
              exact Nat.le_of_eq (by congr 1; omega))
end
end Go.Proofs.YthaiegnohkiegaaGreat.Ab
