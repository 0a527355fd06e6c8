/-
  For every list of asks of bulk at most 1048576 gaugelaw21.ScaleThen returns true, and its argument reads behind the call as it read before.
-/
import Derived.Test.YthaiegnohkiegaaGreatRows
import Derived.Test.YthaiegnohkiegaaGreatT6
import Derived.WalkKit
import Derived.ProofKit
import Derived.OpenShut
import Derived.JoinedCond
import Derived.Carry
namespace Go.Proofs.YthaiegnohkiegaaGreat.scaleThen
open Go.ChangeShapes Go.WideShapes Go.ChangeAt Go.RowKit
open Go.Proofs.YthaiegnohkiegaaGreat.Ab (law_ScaleThen rdf_asks okAsk_of sum_mem wAsk okRAsk ownN encAsk ib RelP1 RelD P1 D)
open Go.Proofs.YthaiegnohkiegaaGreat.Rows (uptoBulk uptoBulkAll)

theorem own : ownKnob Tryz.prog.godebug = none := by kernel_rfl
theorem laidOut : laidOutB Tryz.prog = true := by kernel_rfl
theorem und4 : Tryz.prog.underlying 4 = some .bool := Go.Proofs.YthaiegnohkiegaaGreat.Ab.uB

/-- What the form asks behind a call that leaves all as it was below the heap's old end. -/
theorem post_below {H : Type} {enc : TypeId × Value → H} {P : Program} {f : Func} {s : ChangeSpec} {apart fresh handsOn again : Bool} {W W' : World} {args : Array Value} {v : Value} {ds gs : List (DataW H)} {before pa pv : List MemPlace}
    (hW : DataW.Whole enc P f.params.toList s.vars apart W args.toList ds gs before)
    (hres : ∀ (b : Nat) (sp : Nat → Bool) (hd : Bool), DataW.TrodAll enc P W' b sp hd f.resultTypes.toList (v.resultList f.resultTypes.size) (s.fn H (ds ++ gs)).results [])
    (hargs : ∀ sp : Nat → Bool, (∀ p ∈ before, sp p.block = true) → DataW.TrodAll enc P W' 0 sp true f.params.toList args.toList (s.fn H (ds ++ gs)).args pa)
    (hvars : ∀ sp : Nat → Bool, (∀ p ∈ before, sp p.block = true) → DataW.TrodVars enc P W' sp s.vars (s.fn H (ds ++ gs)).vars pv)
    (hps : before = pa ++ pv) (hb : Below W.heap.size W W')
    (hok : ∀ (j : Nat) (t : TypeId) (r : Value), f.resultTypes[j]? = some t → (v.resultList f.resultTypes.size)[j]? = some r → Value.okWide P W' .any 0 t r) :
    s.post enc P f apart fresh handsOn again W args v W' := by
  have hold : ∀ p ∈ before, (fun b => decide (b < W.heap.size)) p.block = true := fun p hp => by simpa using hW.lt p hp
  have hlt : ∀ p ∈ before, p.block < W.heap.size := fun p hp => hW.lt p hp
  refine ⟨ds, gs, before, [], pa, pv, hW, hres _ _ _, hargs _ hold, hvars _ hold, World.keptBut_mono (fun p hp => ⟨hp, ?_⟩) (hb.frame (· ∈ before)), fun _ => ?_⟩
  · rw [hps, List.mem_append] at hp
    exact Or.inr hp
  · obtain ⟨_, _, _, _, _, hz, hn⟩ := hW
    refine ⟨hok, _, _, ([] ++ pa) ++ pv, ⟨[] ++ pa, pv, trodAll_append (hargs _ (fun _ _ => rfl)) (hres _ _ _), hvars _ (fun _ _ => rfl), rfl, ?_, ?_⟩, ?_⟩
    · intro b off hp
      have hp' : MemPlace.cell b off ∈ before := by rw [hps]; simpa using hp
      rw [hb.frozen (p := ⟨b, off, none⟩) (hlt _ hp')]
      exact hz b off hp'
    · intro ha
      have := hn ha
      rw [hps] at this
      simpa using this
    · intro p hp _
      rw [hps]
      simpa using hp

/-- The walk: at an argument that reads. -/
theorem walk {H : Type} {enc : TypeId × Value → H} {W : World} {v0 : Value} {d0 : DataW H} {p : List MemPlace} (h0 : DataW.Trod enc Tryz.prog W 0 (fun _ => true) true 22 v0 d0 p) (hs : uptoBulkAll [d0] ≤ 1048576) (hv : v0.cells.toList = [v0]) :
    Calls Tryz.prog 4 #[v0] W fun e W' => e = .returned (.bool true) ∧ Below W.heap.size W W' := by
  obtain ⟨fuel, hf⟩ := h0
  obtain ⟨rows, h1, h2, h3⟩ := rdf_asks fuel _ _ hf
  simp only [uptoBulkAll] at hs
  rw [hv] at h3
  obtain ⟨v, e1, hr⟩ := h3.2 0 _ rfl
  cases e1
  have hlen := Go.Proofs.YthaiegnohkiegaaGreat.Ab.sum_len (wg := wAsk) (fun x => by unfold wAsk; have := Go.Proofs.YthaiegnohkiegaaGreat.Ab.wTy_pos x.t; omega) rows
  refine ((law_ScaleThen rows (by simp only at h2; omega) (fun r hr => okAsk_of (h1 r hr) (by have := sum_mem (wg := wAsk) hr; simp only at h2; omega))).2 W ownN 0 #[v0] (Nat.zero_le _) rfl (fun j q hj => ?_)).mono ?_
  · match j, hj with
    | 0, hj => cases hj; exact hr
    | j + 1, hj => simp at hj
  · rintro e W' ⟨u, rfl, hb, own', _, hr⟩
    refine ⟨?_, hb⟩
    cases hr with
    | val u hu => rfl

set_option maxRecDepth 100000 in
theorem lifted (os : Os) (started : os.Started) (H : Type) (enc : TypeId × Value → H) (F : Stop.Interp) :
    ReturnsInHanded {} Tryz.checked os 4 .any ((Rows.OpenSpec.upto Rows.scaleThenSpec).pre6 enc Tryz.prog Tryz.f4 Rows.scaleThenUptoRow.domain false) (((Rows.OpenSpec.upto Rows.scaleThenSpec).at F).post enc Tryz.prog Tryz.f4 false true false false) := by
  refine returnsInHanded_of_cond (C := Tryz.checked) (s := Rows.OpenSpec.upto Rows.scaleThenSpec) (k := Rows.uptoSmall) rfl own started (by kernel_rfl) Tryz.func4
    (OpenSpec.witness (enc := enc) (C := Tryz.checked) (s := Rows.OpenSpec.upto Rows.scaleThenSpec) (k := Rows.uptoSmall) rfl false ⟨#[], #[.slice none 0 0], []⟩ 8 (by kernel_rfl) (by kernel_rfl) (by kernel_rfl)
      (x := ([.nil], [], [])) (by kernel_rfl) rfl (by kernel_rfl)) ?_
  intro W base args ds gs before hval0 hW _ hk _
  have hval : ∀ (j : Nat) t v, Tryz.f4.params[j]? = some t → args[j]? = some v → Value.okWide Tryz.prog W .any base t v := hval0
  have hW' := hW
  obtain ⟨p, q, hA0, hV, rfl, hfz, hnd⟩ := hW
  have hA : DataW.TrodAll enc Tryz.prog W 0 (fun _ => true) true Tryz.f4.params.toList args.toList ds p := hA0
  rw [Tryz.params4] at hA hval
  obtain ⟨v0, d0, rfl, rfl, h0⟩ := trodAll_one hA
  obtain ⟨rfl, rfl⟩ := trodVars_none hV
  obtain ⟨a0, len, cap, rfl⟩ := okWide_slice Tryz.underlying22 (hval 0 22 v0 rfl rfl)
  have h0k := h0
  clear hA0 hval0
  simp only [List.append_nil] at hW' hk
  have hlt : ∀ x ∈ p, x.block < W.heap.size := fun x hx => by simpa using hW'.lt x hx
  refine (walk h0 (of_decide_eq_true hk) rfl).mono fun e W' ⟨he, hb⟩ => ?_
  subst he
  exact ⟨_, rfl, post_below (pa := p) (pv := []) hW' (fun _ _ _ => trodAll_cons_mk (shut_bool und4 _) trodAll_mk0)
    (fun sp hsp => trodAll_mk1 (WideElems.Trod_stays laidOut (by kernel_rfl) (of_decide_eq_true (by kernel_rfl)) h0k (fun x hx => hb.same (hlt x hx)) hsp)) (fun _ _ => rfl) (by simp) hb (ok_one (by kernel_rfl) rfl (okWide_bool_mk und4 _))⟩

theorem proved : Rows.ScaleThenUptoSaid :=
  OpenClaim.holds_of_cond 4 Tryz.f4 rfl rfl rfl rfl rfl rfl rfl ⟨rfl, rfl, rfl, rfl, rfl⟩ rfl rfl rfl rfl rfl (by kernel_rfl) Tryz.func4 (by kernel_rfl)
    (of_decide_eq_true (by kernel_rfl)) (by unfold Func.isWrapper; first | (rw [if_pos (by decide +kernel)]; kernel_rfl) | (rw [if_neg (by decide +kernel)]; exact ⟨rfl, rfl⟩))
    (fun os started H enc _ F => lifted os started H enc F)
#print axioms proved
end Go.Proofs.YthaiegnohkiegaaGreat.scaleThen
