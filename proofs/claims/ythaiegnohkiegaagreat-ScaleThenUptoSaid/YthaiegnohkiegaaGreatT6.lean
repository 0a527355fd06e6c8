/-
  Part 6 of the walks of the program and of the laws of its arithmetic: what each function of the program tells at every input that its premise takes.
-/
import Derived.Test.YthaiegnohkiegaaGreatT5
import Derived.Test.YthaiegnohkiegaaGreatRows
import Derived.SizedLaws
import Derived.ChangeSlices
import Derived.ChangeArms
import Derived.DataReads
/-
 The law of powers: it wakes.
-/
namespace Go.Proofs.YthaiegnohkiegaaGreat.Ab
set_option linter.unusedVariables false
set_option linter.unusedSimpArgs false
set_option maxRecDepth 20000
set_option maxHeartbeats 4000000
attribute [local irreducible] Tells Does EVo EV EVq EVr TellsC


theorem ref6_OneU : Fn Tryz.prog 62 [.agg (atD 1 0 s0)] false (.one (.d (encU (ofU 1 0 s0 1)))) := ref6_One 1 0 s0
theorem ref_EqT (a b : Rat) (ha : szQ a ≤ 17592186044416) (hb : szQ b ≤ 17592186044416) (h : a = b) : Fn Tryz.prog 13 [.agg (encQ a), .agg (encQ b)] false (.one (.d (ib true))) := by
 have := ref_EqQ a b ha hb
 rw [decide_eq_true h] at this
 exact this
theorem row_facts {neg : Bool} {l m : List Int} (hk : okL l) (hkm : okL m) (hg : ratB neg l m = true) : limbs (ratV neg l m).num.natAbs = l ∧ limbs (ratV neg l m).den = m := by
 obtain ⟨e1, e2⟩ := ratV_parts hkm hg
 rw [e1, e2, zval_natAbs]
 simp only [ratB, goodZ, Bool.and_eq_true] at hg
 exact ⟨limbs_val hk hg.1.1.1.1, limbs_val hkm hg.1.1.2⟩
theorem row_P {neg : Bool} {l m : List Int} (hk : okL l) (hkm : okL m) (hg : ratB neg l m = true) (h1 : l.length ≤ 3) (h2 : m.length ≤ 3) : bitsQ (ratV neg l m) 256 = false ∧ szQ (ratV neg l m) ≤ 16 := by
 obtain ⟨f1, f2⟩ := row_facts hk hkm hg
 refine ⟨bitsQ_le (bits_of (m := 3) (by rw [f1]; exact h1) (by rw [f2]; exact h2)) (by decide), ?_⟩
 unfold szQ
 rw [f1, f2]
 omega
theorem row_x {neg : Bool} {l m : List Int} (hk : okL l) (hkm : okL m) (hg : ratB neg l m = true) (h1 : l.length + m.length ≤ 8) : bitsQ (ratV neg l m) 4096 = false ∧ szQ (ratV neg l m) ≤ 16 := by
 obtain ⟨f1, f2⟩ := row_facts hk hkm hg
 refine ⟨bitsQ_le (bits_of (m := 8) (by rw [f1]; omega) (by rw [f2]; omega)) (by decide), ?_⟩
 unfold szQ
 rw [f1, f2]
 omega
theorem tmod_20 (n : Int) : -19 ≤ Int.tmod n 20 ∧ Int.tmod n 20 ≤ 19 := by
 have h1 := Int.tmod_lt_of_pos n (show (0 : Int) < 20 by decide)
 have h2 := Int.lt_tmod_of_pos n (show (0 : Int) < 20 by decide)
 omega

theorem law_wakes : Fn Tryz.prog 17 [] false (.one (.d (ib true))) := by
 refine Fn_of_EV Tryz.func17 rfl (by kernel_rfl) rfl rfl (fun E hE => ?_)
 iterate 6 refine τ ?_
 refine EVo_e rfl (D_call false (ref6_Var 0) rfl (φd rfl φn)) ?_
 refine EVo_e rfl (D_call false (ref6_OneU) rfl (φa rfl φn)) ?_
 iterate 5 refine τ ?_
 refine EVo_e rfl (D_buildSlice (uOk rfl) bz66 rfl rfl rfl (by simp)) ?_
 refine EVo_t rfl (T_build ly27 rfl rfl) ?_
 refine EVo_e rfl (D_call false (ref6_Var 0) rfl (φd rfl φn)) ?_
 refine EVo_e rfl (D_call false (ref2_From 2 (by omega) (by omega)) rfl (φd rfl φn)) ?_
 refine EVo_e rfl (D_call false (ref6_Of 1 0 s0 2 (by decide)) rfl (φa rfl (φa rfl φn))) ?_
 refine EVo_e rfl (D_buildSlice (uOk rfl) bz66 rfl rfl rfl (by simp)) ?_
 refine EVo_t rfl (T_build ly27 rfl rfl) ?_
 refine EVo_e rfl (D_buildSlice (uOk rfl) bz27 rfl rfl rfl (by simp)) ?_
 refine EVo_t rfl (T_build ly27 rfl rfl) ?_
 refine EVo_e rfl (D_alloc 1 (hE 1 rfl) Free_no zr27 rfl) ?_
 iterate 2 refine τ ?_
 refine EV_join (fun S => S = St.of [(3, V.c (.d false (encQs [powQ (mkRat 5 1) (mkRat 3 2) 1]))), (4, V.c (.ref 2 0)), (5, vi .i64 0)] (tabO [(2, .box ((encQ (powQ 1 (mkRat 3 2) 2)).map (C.nd false)))]) 49 ∧ True) ?_ ?_
 ·
  refine EV_drawR (inX [1]) 15 rfl Tryz.mixed (by kernel_rfl) ?_
  refine EVr_t (i := 0) (by kernel_rfl) rfl rfl (T_loadRA (gOk rfl) (zOk rfl) rfl rfl (Nat.le_of_ble_eq_true rfl) rfl rfl) ?_
  refine EVr_t (i := 1) (by kernel_rfl) rfl rfl (T_build ly29 rfl rfl) ?_
  refine EVr_two (i1 := 2) (i2 := 11) (by kernel_rfl) rfl rfl (D_call false (law_of32) rfl (φd rfl (φd rfl φn))) rfl rfl (D_alloc 2 (hE 2 rfl) (Free_in rfl) zr40 rfl) ?_ ?_
  ·
   refine EVr_three (i1 := 3) (i2 := 4) (i3 := 11) (by kernel_rfl) rfl rfl (D_buildSlice (uOk rfl) bz40 rfl rfl rfl (by simp)) rfl rfl (D_call false (law_of51) rfl (φd rfl (φd rfl φn))) rfl rfl (D_alloc 2 (hE 2 rfl) (Free_in rfl) zr40 rfl) ?_ ?_ ?_
   ·
    refine EVr_of (.two 4 (.two 5 (.two 6 (.st 7 (.st 8 (.st 9 (.st 10 (.one 11 (.st 12 (.one 13 (.st 14 .done)))))))) 11 (.one 6 (.st 7 (.st 8 (.st 9 (.st 10 (.st 12 (.one 13 (.st 14 .done))))))))) 11 (.one 5 (.one 6 (.st 7 (.st 8 (.st 9 (.st 10 (.st 12 (.one 13 (.st 14 .done)))))))))) 11 (.one 4 (.one 5 (.one 6 (.st 7 (.st 8 (.st 9 (.st 10 (.st 12 (.one 13 (.st 14 .done))))))))))) (by kernel_rfl) ?_
    refine EVq_two rfl rfl (D_call false (law_of51) rfl (φd rfl (φd rfl φn))) rfl rfl (D_alloc 2 (hE 2 rfl) (Free_in rfl) zr40 rfl) ?_ ?_
    ·
     refine EVq_two rfl rfl (D_buildSlice (uOk rfl) bz40 rfl rfl rfl (by simp)) rfl rfl (D_alloc 2 (hE 2 rfl) (Free_in rfl) zr40 rfl) ?_ ?_
     ·
      refine EVq_two rfl rfl (D_call false (law_ScaleIn 1 2 (mkRat 3 2) (mkRat 5 1) (by decide) (by decide) (by decide) (by decide) (by decide) (by decide) (by decide)) rfl (φa rfl (φd rfl (φd rfl φn)))) rfl rfl (D_alloc 2 (hE 2 rfl) (Free_in rfl) zr40 rfl) ?_ ?_
      ·
       refine EVq_t rfl rfl (T_move rfl) ?_
       refine EVq_t rfl rfl (T_extract rfl rfl) ?_
       refine EVq_t rfl rfl (T_extract rfl rfl) ?_
       refine EVq_t rfl rfl (T_extract rfl rfl) ?_
       refine EVq_e rfl rfl (D_alloc 2 (hE 2 rfl) (Free_in rfl) zr40 rfl) ?_
       refine EVq_t rfl rfl (T_assign rfl) ?_
       refine EVq_e rfl rfl (D_store rfl (Free_in rfl) rfl rfl (zOk rfl) rfl (Nat.le_of_ble_eq_true rfl) rfl) ?_
       refine EVq_t rfl rfl (T_assign rfl) ?_
       refine EVq_done ?_
       refine ω ⟨_, ⟨rfl, ?_⟩, W_keep2 _ _ ⟨rfl, rfl, rfl, trivial⟩ ⟨rfl, trivial⟩ rfl⟩
       trivial
      ·
       refine EVq_e rfl rfl (D_call false (law_ScaleIn 1 2 (mkRat 3 2) (mkRat 5 1) (by decide) (by decide) (by decide) (by decide) (by decide) (by decide) (by decide)) rfl (φa rfl (φd rfl (φd rfl φn)))) ?_
       refine EVq_t rfl rfl (T_move rfl) ?_
       refine EVq_t rfl rfl (T_extract rfl rfl) ?_
       refine EVq_t rfl rfl (T_extract rfl rfl) ?_
       refine EVq_t rfl rfl (T_extract rfl rfl) ?_
       refine EVq_t rfl rfl (T_assign rfl) ?_
       refine EVq_e rfl rfl (D_store rfl (Free_in rfl) rfl rfl (zOk rfl) rfl (Nat.le_of_ble_eq_true rfl) rfl) ?_
       refine EVq_t rfl rfl (T_assign rfl) ?_
       refine EVq_done ?_
       refine ω ⟨_, ⟨rfl, ?_⟩, W_keep2 _ _ ⟨rfl, rfl, rfl, trivial⟩ ⟨rfl, trivial⟩ rfl⟩
       trivial
     ·
      refine EVq_e rfl rfl (D_buildSlice (uOk rfl) bz40 rfl rfl rfl (by simp)) ?_
      refine EVq_e rfl rfl (D_call false (law_ScaleIn 1 2 (mkRat 3 2) (mkRat 5 1) (by decide) (by decide) (by decide) (by decide) (by decide) (by decide) (by decide)) rfl (φa rfl (φd rfl (φd rfl φn)))) ?_
      refine EVq_t rfl rfl (T_move rfl) ?_
      refine EVq_t rfl rfl (T_extract rfl rfl) ?_
      refine EVq_t rfl rfl (T_extract rfl rfl) ?_
      refine EVq_t rfl rfl (T_extract rfl rfl) ?_
      refine EVq_t rfl rfl (T_assign rfl) ?_
      refine EVq_e rfl rfl (D_store rfl (Free_in rfl) rfl rfl (zOk rfl) rfl (Nat.le_of_ble_eq_true rfl) rfl) ?_
      refine EVq_t rfl rfl (T_assign rfl) ?_
      refine EVq_done ?_
      refine ω ⟨_, ⟨rfl, ?_⟩, W_keep2 _ _ ⟨rfl, rfl, rfl, trivial⟩ ⟨rfl, trivial⟩ rfl⟩
      trivial
    ·
     refine EVq_e rfl rfl (D_call false (law_of51) rfl (φd rfl (φd rfl φn))) ?_
     refine EVq_e rfl rfl (D_buildSlice (uOk rfl) bz40 rfl rfl rfl (by simp)) ?_
     refine EVq_e rfl rfl (D_call false (law_ScaleIn 1 2 (mkRat 3 2) (mkRat 5 1) (by decide) (by decide) (by decide) (by decide) (by decide) (by decide) (by decide)) rfl (φa rfl (φd rfl (φd rfl φn)))) ?_
     refine EVq_t rfl rfl (T_move rfl) ?_
     refine EVq_t rfl rfl (T_extract rfl rfl) ?_
     refine EVq_t rfl rfl (T_extract rfl rfl) ?_
     refine EVq_t rfl rfl (T_extract rfl rfl) ?_
     refine EVq_t rfl rfl (T_assign rfl) ?_
     refine EVq_e rfl rfl (D_store rfl (Free_in rfl) rfl rfl (zOk rfl) rfl (Nat.le_of_ble_eq_true rfl) rfl) ?_
     refine EVq_t rfl rfl (T_assign rfl) ?_
     refine EVq_done ?_
     refine ω ⟨_, ⟨rfl, ?_⟩, W_keep2 _ _ ⟨rfl, rfl, rfl, trivial⟩ ⟨rfl, trivial⟩ rfl⟩
     trivial
   ·
    refine EVr_three (i1 := 3) (i2 := 5) (i3 := 11) (by kernel_rfl) rfl rfl (D_buildSlice (uOk rfl) bz40 rfl rfl rfl (by simp)) rfl rfl (D_buildSlice (uOk rfl) bz40 rfl rfl rfl (by simp)) rfl rfl (D_alloc 2 (hE 2 rfl) (Free_in rfl) zr40 rfl) ?_ ?_ ?_
    ·
     refine EVr_of (.two 5 (.two 6 (.st 7 (.st 8 (.st 9 (.st 10 (.one 11 (.st 12 (.one 13 (.st 14 .done)))))))) 11 (.one 6 (.st 7 (.st 8 (.st 9 (.st 10 (.st 12 (.one 13 (.st 14 .done))))))))) 11 (.one 5 (.one 6 (.st 7 (.st 8 (.st 9 (.st 10 (.st 12 (.one 13 (.st 14 .done)))))))))) (by kernel_rfl) ?_
     refine EVq_two rfl rfl (D_buildSlice (uOk rfl) bz40 rfl rfl rfl (by simp)) rfl rfl (D_alloc 2 (hE 2 rfl) (Free_in rfl) zr40 rfl) ?_ ?_
     ·
      refine EVq_two rfl rfl (D_call false (law_ScaleIn 1 2 (mkRat 3 2) (mkRat 5 1) (by decide) (by decide) (by decide) (by decide) (by decide) (by decide) (by decide)) rfl (φa rfl (φd rfl (φd rfl φn)))) rfl rfl (D_alloc 2 (hE 2 rfl) (Free_in rfl) zr40 rfl) ?_ ?_
      ·
       refine EVq_t rfl rfl (T_move rfl) ?_
       refine EVq_t rfl rfl (T_extract rfl rfl) ?_
       refine EVq_t rfl rfl (T_extract rfl rfl) ?_
       refine EVq_t rfl rfl (T_extract rfl rfl) ?_
       refine EVq_e rfl rfl (D_alloc 2 (hE 2 rfl) (Free_in rfl) zr40 rfl) ?_
       refine EVq_t rfl rfl (T_assign rfl) ?_
       refine EVq_e rfl rfl (D_store rfl (Free_in rfl) rfl rfl (zOk rfl) rfl (Nat.le_of_ble_eq_true rfl) rfl) ?_
       refine EVq_t rfl rfl (T_assign rfl) ?_
       refine EVq_done ?_
       refine ω ⟨_, ⟨rfl, ?_⟩, W_keep2 _ _ ⟨rfl, rfl, rfl, trivial⟩ ⟨rfl, trivial⟩ rfl⟩
       trivial
      ·
       refine EVq_e rfl rfl (D_call false (law_ScaleIn 1 2 (mkRat 3 2) (mkRat 5 1) (by decide) (by decide) (by decide) (by decide) (by decide) (by decide) (by decide)) rfl (φa rfl (φd rfl (φd rfl φn)))) ?_
       refine EVq_t rfl rfl (T_move rfl) ?_
       refine EVq_t rfl rfl (T_extract rfl rfl) ?_
       refine EVq_t rfl rfl (T_extract rfl rfl) ?_
       refine EVq_t rfl rfl (T_extract rfl rfl) ?_
       refine EVq_t rfl rfl (T_assign rfl) ?_
       refine EVq_e rfl rfl (D_store rfl (Free_in rfl) rfl rfl (zOk rfl) rfl (Nat.le_of_ble_eq_true rfl) rfl) ?_
       refine EVq_t rfl rfl (T_assign rfl) ?_
       refine EVq_done ?_
       refine ω ⟨_, ⟨rfl, ?_⟩, W_keep2 _ _ ⟨rfl, rfl, rfl, trivial⟩ ⟨rfl, trivial⟩ rfl⟩
       trivial
     ·
      refine EVq_e rfl rfl (D_buildSlice (uOk rfl) bz40 rfl rfl rfl (by simp)) ?_
      refine EVq_e rfl rfl (D_call false (law_ScaleIn 1 2 (mkRat 3 2) (mkRat 5 1) (by decide) (by decide) (by decide) (by decide) (by decide) (by decide) (by decide)) rfl (φa rfl (φd rfl (φd rfl φn)))) ?_
      refine EVq_t rfl rfl (T_move rfl) ?_
      refine EVq_t rfl rfl (T_extract rfl rfl) ?_
      refine EVq_t rfl rfl (T_extract rfl rfl) ?_
      refine EVq_t rfl rfl (T_extract rfl rfl) ?_
      refine EVq_t rfl rfl (T_assign rfl) ?_
      refine EVq_e rfl rfl (D_store rfl (Free_in rfl) rfl rfl (zOk rfl) rfl (Nat.le_of_ble_eq_true rfl) rfl) ?_
      refine EVq_t rfl rfl (T_assign rfl) ?_
      refine EVq_done ?_
      refine ω ⟨_, ⟨rfl, ?_⟩, W_keep2 _ _ ⟨rfl, rfl, rfl, trivial⟩ ⟨rfl, trivial⟩ rfl⟩
      trivial
    ·
     refine EVr_of (.two 3 (.two 6 (.st 7 (.st 8 (.st 9 (.st 10 (.one 11 (.st 12 (.one 13 (.st 14 .done)))))))) 11 (.one 6 (.st 7 (.st 8 (.st 9 (.st 10 (.st 12 (.one 13 (.st 14 .done))))))))) 11 (.one 3 (.one 6 (.st 7 (.st 8 (.st 9 (.st 10 (.st 12 (.one 13 (.st 14 .done)))))))))) (by kernel_rfl) ?_
     refine EVq_two rfl rfl (D_buildSlice (uOk rfl) bz40 rfl rfl rfl (by simp)) rfl rfl (D_alloc 2 (hE 2 rfl) (Free_in rfl) zr40 rfl) ?_ ?_
     ·
      refine EVq_two rfl rfl (D_call false (law_ScaleIn 1 2 (mkRat 3 2) (mkRat 5 1) (by decide) (by decide) (by decide) (by decide) (by decide) (by decide) (by decide)) rfl (φa rfl (φd rfl (φd rfl φn)))) rfl rfl (D_alloc 2 (hE 2 rfl) (Free_in rfl) zr40 rfl) ?_ ?_
      ·
       refine EVq_t rfl rfl (T_move rfl) ?_
       refine EVq_t rfl rfl (T_extract rfl rfl) ?_
       refine EVq_t rfl rfl (T_extract rfl rfl) ?_
       refine EVq_t rfl rfl (T_extract rfl rfl) ?_
       refine EVq_e rfl rfl (D_alloc 2 (hE 2 rfl) (Free_in rfl) zr40 rfl) ?_
       refine EVq_t rfl rfl (T_assign rfl) ?_
       refine EVq_e rfl rfl (D_store rfl (Free_in rfl) rfl rfl (zOk rfl) rfl (Nat.le_of_ble_eq_true rfl) rfl) ?_
       refine EVq_t rfl rfl (T_assign rfl) ?_
       refine EVq_done ?_
       refine ω ⟨_, ⟨rfl, ?_⟩, W_keep2 _ _ ⟨rfl, rfl, rfl, trivial⟩ ⟨rfl, trivial⟩ rfl⟩
       trivial
      ·
       refine EVq_e rfl rfl (D_call false (law_ScaleIn 1 2 (mkRat 3 2) (mkRat 5 1) (by decide) (by decide) (by decide) (by decide) (by decide) (by decide) (by decide)) rfl (φa rfl (φd rfl (φd rfl φn)))) ?_
       refine EVq_t rfl rfl (T_move rfl) ?_
       refine EVq_t rfl rfl (T_extract rfl rfl) ?_
       refine EVq_t rfl rfl (T_extract rfl rfl) ?_
       refine EVq_t rfl rfl (T_extract rfl rfl) ?_
       refine EVq_t rfl rfl (T_assign rfl) ?_
       refine EVq_e rfl rfl (D_store rfl (Free_in rfl) rfl rfl (zOk rfl) rfl (Nat.le_of_ble_eq_true rfl) rfl) ?_
       refine EVq_t rfl rfl (T_assign rfl) ?_
       refine EVq_done ?_
       refine ω ⟨_, ⟨rfl, ?_⟩, W_keep2 _ _ ⟨rfl, rfl, rfl, trivial⟩ ⟨rfl, trivial⟩ rfl⟩
       trivial
     ·
      refine EVq_e rfl rfl (D_buildSlice (uOk rfl) bz40 rfl rfl rfl (by simp)) ?_
      refine EVq_e rfl rfl (D_call false (law_ScaleIn 1 2 (mkRat 3 2) (mkRat 5 1) (by decide) (by decide) (by decide) (by decide) (by decide) (by decide) (by decide)) rfl (φa rfl (φd rfl (φd rfl φn)))) ?_
      refine EVq_t rfl rfl (T_move rfl) ?_
      refine EVq_t rfl rfl (T_extract rfl rfl) ?_
      refine EVq_t rfl rfl (T_extract rfl rfl) ?_
      refine EVq_t rfl rfl (T_extract rfl rfl) ?_
      refine EVq_t rfl rfl (T_assign rfl) ?_
      refine EVq_e rfl rfl (D_store rfl (Free_in rfl) rfl rfl (zOk rfl) rfl (Nat.le_of_ble_eq_true rfl) rfl) ?_
      refine EVq_t rfl rfl (T_assign rfl) ?_
      refine EVq_done ?_
      refine ω ⟨_, ⟨rfl, ?_⟩, W_keep2 _ _ ⟨rfl, rfl, rfl, trivial⟩ ⟨rfl, trivial⟩ rfl⟩
      trivial
    ·
     refine EVr_of (.two 3 (.one 5 (.one 6 (.st 7 (.st 8 (.st 9 (.st 10 (.st 12 (.one 13 (.st 14 .done))))))))) 5 (.one 3 (.one 6 (.st 7 (.st 8 (.st 9 (.st 10 (.st 12 (.one 13 (.st 14 .done)))))))))) (by kernel_rfl) ?_
     refine EVq_two rfl rfl (D_buildSlice (uOk rfl) bz40 rfl rfl rfl (by simp)) rfl rfl (D_buildSlice (uOk rfl) bz40 rfl rfl rfl (by simp)) ?_ ?_
     ·
      refine EVq_e rfl rfl (D_buildSlice (uOk rfl) bz40 rfl rfl rfl (by simp)) ?_
      refine EVq_e rfl rfl (D_call false (law_ScaleIn 1 2 (mkRat 3 2) (mkRat 5 1) (by decide) (by decide) (by decide) (by decide) (by decide) (by decide) (by decide)) rfl (φa rfl (φd rfl (φd rfl φn)))) ?_
      refine EVq_t rfl rfl (T_move rfl) ?_
      refine EVq_t rfl rfl (T_extract rfl rfl) ?_
      refine EVq_t rfl rfl (T_extract rfl rfl) ?_
      refine EVq_t rfl rfl (T_extract rfl rfl) ?_
      refine EVq_t rfl rfl (T_assign rfl) ?_
      refine EVq_e rfl rfl (D_store rfl (Free_in rfl) rfl rfl (zOk rfl) rfl (Nat.le_of_ble_eq_true rfl) rfl) ?_
      refine EVq_t rfl rfl (T_assign rfl) ?_
      refine EVq_done ?_
      refine ω ⟨_, ⟨rfl, ?_⟩, W_keep2 _ _ ⟨rfl, rfl, rfl, trivial⟩ ⟨rfl, trivial⟩ rfl⟩
      trivial
     ·
      refine EVq_e rfl rfl (D_buildSlice (uOk rfl) bz40 rfl rfl rfl (by simp)) ?_
      refine EVq_e rfl rfl (D_call false (law_ScaleIn 1 2 (mkRat 3 2) (mkRat 5 1) (by decide) (by decide) (by decide) (by decide) (by decide) (by decide) (by decide)) rfl (φa rfl (φd rfl (φd rfl φn)))) ?_
      refine EVq_t rfl rfl (T_move rfl) ?_
      refine EVq_t rfl rfl (T_extract rfl rfl) ?_
      refine EVq_t rfl rfl (T_extract rfl rfl) ?_
      refine EVq_t rfl rfl (T_extract rfl rfl) ?_
      refine EVq_t rfl rfl (T_assign rfl) ?_
      refine EVq_e rfl rfl (D_store rfl (Free_in rfl) rfl rfl (zOk rfl) rfl (Nat.le_of_ble_eq_true rfl) rfl) ?_
      refine EVq_t rfl rfl (T_assign rfl) ?_
      refine EVq_done ?_
      refine ω ⟨_, ⟨rfl, ?_⟩, W_keep2 _ _ ⟨rfl, rfl, rfl, trivial⟩ ⟨rfl, trivial⟩ rfl⟩
      trivial
   ·
    refine EVr_of (.two 3 (.one 4 (.one 5 (.one 6 (.st 7 (.st 8 (.st 9 (.st 10 (.st 12 (.one 13 (.st 14 .done)))))))))) 4 (.two 3 (.one 5 (.one 6 (.st 7 (.st 8 (.st 9 (.st 10 (.st 12 (.one 13 (.st 14 .done))))))))) 5 (.one 3 (.one 6 (.st 7 (.st 8 (.st 9 (.st 10 (.st 12 (.one 13 (.st 14 .done))))))))))) (by kernel_rfl) ?_
    refine EVq_two rfl rfl (D_buildSlice (uOk rfl) bz40 rfl rfl rfl (by simp)) rfl rfl (D_call false (law_of51) rfl (φd rfl (φd rfl φn))) ?_ ?_
    ·
     refine EVq_e rfl rfl (D_call false (law_of51) rfl (φd rfl (φd rfl φn))) ?_
     refine EVq_e rfl rfl (D_buildSlice (uOk rfl) bz40 rfl rfl rfl (by simp)) ?_
     refine EVq_e rfl rfl (D_call false (law_ScaleIn 1 2 (mkRat 3 2) (mkRat 5 1) (by decide) (by decide) (by decide) (by decide) (by decide) (by decide) (by decide)) rfl (φa rfl (φd rfl (φd rfl φn)))) ?_
     refine EVq_t rfl rfl (T_move rfl) ?_
     refine EVq_t rfl rfl (T_extract rfl rfl) ?_
     refine EVq_t rfl rfl (T_extract rfl rfl) ?_
     refine EVq_t rfl rfl (T_extract rfl rfl) ?_
     refine EVq_t rfl rfl (T_assign rfl) ?_
     refine EVq_e rfl rfl (D_store rfl (Free_in rfl) rfl rfl (zOk rfl) rfl (Nat.le_of_ble_eq_true rfl) rfl) ?_
     refine EVq_t rfl rfl (T_assign rfl) ?_
     refine EVq_done ?_
     refine ω ⟨_, ⟨rfl, ?_⟩, W_keep2 _ _ ⟨rfl, rfl, rfl, trivial⟩ ⟨rfl, trivial⟩ rfl⟩
     trivial
    ·
     refine EVq_two rfl rfl (D_buildSlice (uOk rfl) bz40 rfl rfl rfl (by simp)) rfl rfl (D_buildSlice (uOk rfl) bz40 rfl rfl rfl (by simp)) ?_ ?_
     ·
      refine EVq_e rfl rfl (D_buildSlice (uOk rfl) bz40 rfl rfl rfl (by simp)) ?_
      refine EVq_e rfl rfl (D_call false (law_ScaleIn 1 2 (mkRat 3 2) (mkRat 5 1) (by decide) (by decide) (by decide) (by decide) (by decide) (by decide) (by decide)) rfl (φa rfl (φd rfl (φd rfl φn)))) ?_
      refine EVq_t rfl rfl (T_move rfl) ?_
      refine EVq_t rfl rfl (T_extract rfl rfl) ?_
      refine EVq_t rfl rfl (T_extract rfl rfl) ?_
      refine EVq_t rfl rfl (T_extract rfl rfl) ?_
      refine EVq_t rfl rfl (T_assign rfl) ?_
      refine EVq_e rfl rfl (D_store rfl (Free_in rfl) rfl rfl (zOk rfl) rfl (Nat.le_of_ble_eq_true rfl) rfl) ?_
      refine EVq_t rfl rfl (T_assign rfl) ?_
      refine EVq_done ?_
      refine ω ⟨_, ⟨rfl, ?_⟩, W_keep2 _ _ ⟨rfl, rfl, rfl, trivial⟩ ⟨rfl, trivial⟩ rfl⟩
      trivial
     ·
      refine EVq_e rfl rfl (D_buildSlice (uOk rfl) bz40 rfl rfl rfl (by simp)) ?_
      refine EVq_e rfl rfl (D_call false (law_ScaleIn 1 2 (mkRat 3 2) (mkRat 5 1) (by decide) (by decide) (by decide) (by decide) (by decide) (by decide) (by decide)) rfl (φa rfl (φd rfl (φd rfl φn)))) ?_
      refine EVq_t rfl rfl (T_move rfl) ?_
      refine EVq_t rfl rfl (T_extract rfl rfl) ?_
      refine EVq_t rfl rfl (T_extract rfl rfl) ?_
      refine EVq_t rfl rfl (T_extract rfl rfl) ?_
      refine EVq_t rfl rfl (T_assign rfl) ?_
      refine EVq_e rfl rfl (D_store rfl (Free_in rfl) rfl rfl (zOk rfl) rfl (Nat.le_of_ble_eq_true rfl) rfl) ?_
      refine EVq_t rfl rfl (T_assign rfl) ?_
      refine EVq_done ?_
      refine ω ⟨_, ⟨rfl, ?_⟩, W_keep2 _ _ ⟨rfl, rfl, rfl, trivial⟩ ⟨rfl, trivial⟩ rfl⟩
      trivial
  ·
   refine EVr_of (.one 2 (.two 3 (.one 4 (.one 5 (.one 6 (.st 7 (.st 8 (.st 9 (.st 10 (.st 12 (.one 13 (.st 14 .done)))))))))) 4 (.two 3 (.one 5 (.one 6 (.st 7 (.st 8 (.st 9 (.st 10 (.st 12 (.one 13 (.st 14 .done))))))))) 5 (.one 3 (.one 6 (.st 7 (.st 8 (.st 9 (.st 10 (.st 12 (.one 13 (.st 14 .done)))))))))))) (by kernel_rfl) ?_
   refine EVq_e rfl rfl (D_call false (law_of32) rfl (φd rfl (φd rfl φn))) ?_
   refine EVq_two rfl rfl (D_buildSlice (uOk rfl) bz40 rfl rfl rfl (by simp)) rfl rfl (D_call false (law_of51) rfl (φd rfl (φd rfl φn))) ?_ ?_
   ·
    refine EVq_e rfl rfl (D_call false (law_of51) rfl (φd rfl (φd rfl φn))) ?_
    refine EVq_e rfl rfl (D_buildSlice (uOk rfl) bz40 rfl rfl rfl (by simp)) ?_
    refine EVq_e rfl rfl (D_call false (law_ScaleIn 1 2 (mkRat 3 2) (mkRat 5 1) (by decide) (by decide) (by decide) (by decide) (by decide) (by decide) (by decide)) rfl (φa rfl (φd rfl (φd rfl φn)))) ?_
    refine EVq_t rfl rfl (T_move rfl) ?_
    refine EVq_t rfl rfl (T_extract rfl rfl) ?_
    refine EVq_t rfl rfl (T_extract rfl rfl) ?_
    refine EVq_t rfl rfl (T_extract rfl rfl) ?_
    refine EVq_t rfl rfl (T_assign rfl) ?_
    refine EVq_e rfl rfl (D_store rfl (Free_in rfl) rfl rfl (zOk rfl) rfl (Nat.le_of_ble_eq_true rfl) rfl) ?_
    refine EVq_t rfl rfl (T_assign rfl) ?_
    refine EVq_done ?_
    refine ω ⟨_, ⟨rfl, ?_⟩, W_keep2 _ _ ⟨rfl, rfl, rfl, trivial⟩ ⟨rfl, trivial⟩ rfl⟩
    trivial
   ·
    refine EVq_two rfl rfl (D_buildSlice (uOk rfl) bz40 rfl rfl rfl (by simp)) rfl rfl (D_buildSlice (uOk rfl) bz40 rfl rfl rfl (by simp)) ?_ ?_
    ·
     refine EVq_e rfl rfl (D_buildSlice (uOk rfl) bz40 rfl rfl rfl (by simp)) ?_
     refine EVq_e rfl rfl (D_call false (law_ScaleIn 1 2 (mkRat 3 2) (mkRat 5 1) (by decide) (by decide) (by decide) (by decide) (by decide) (by decide) (by decide)) rfl (φa rfl (φd rfl (φd rfl φn)))) ?_
     refine EVq_t rfl rfl (T_move rfl) ?_
     refine EVq_t rfl rfl (T_extract rfl rfl) ?_
     refine EVq_t rfl rfl (T_extract rfl rfl) ?_
     refine EVq_t rfl rfl (T_extract rfl rfl) ?_
     refine EVq_t rfl rfl (T_assign rfl) ?_
     refine EVq_e rfl rfl (D_store rfl (Free_in rfl) rfl rfl (zOk rfl) rfl (Nat.le_of_ble_eq_true rfl) rfl) ?_
     refine EVq_t rfl rfl (T_assign rfl) ?_
     refine EVq_done ?_
     refine ω ⟨_, ⟨rfl, ?_⟩, W_keep2 _ _ ⟨rfl, rfl, rfl, trivial⟩ ⟨rfl, trivial⟩ rfl⟩
     trivial
    ·
     refine EVq_e rfl rfl (D_buildSlice (uOk rfl) bz40 rfl rfl rfl (by simp)) ?_
     refine EVq_e rfl rfl (D_call false (law_ScaleIn 1 2 (mkRat 3 2) (mkRat 5 1) (by decide) (by decide) (by decide) (by decide) (by decide) (by decide) (by decide)) rfl (φa rfl (φd rfl (φd rfl φn)))) ?_
     refine EVq_t rfl rfl (T_move rfl) ?_
     refine EVq_t rfl rfl (T_extract rfl rfl) ?_
     refine EVq_t rfl rfl (T_extract rfl rfl) ?_
     refine EVq_t rfl rfl (T_extract rfl rfl) ?_
     refine EVq_t rfl rfl (T_assign rfl) ?_
     refine EVq_e rfl rfl (D_store rfl (Free_in rfl) rfl rfl (zOk rfl) rfl (Nat.le_of_ble_eq_true rfl) rfl) ?_
     refine EVq_t rfl rfl (T_assign rfl) ?_
     refine EVq_done ?_
     refine ω ⟨_, ⟨rfl, ?_⟩, W_keep2 _ _ ⟨rfl, rfl, rfl, trivial⟩ ⟨rfl, trivial⟩ rfl⟩
     trivial
 ·rintro S ⟨rfl, _⟩
  refine τ ?_
  refine EV_draw (inX [2]) (.st 0 (.one 1 (.st 2 (.st 3 (.st 4 (.st 5 (.st 6 (.st 7 (.st 8 (.st 9 (.st 10 (.st 11 (.one 12 (.one 13 (.st 14 (.st 15 (.st 16 (.one 17 (.one 18 (.st 19 (.st 20 .done))))))))))))))))))))) Tryz.mixed (by kernel_rfl) ?_
  refine EVq_t rfl rfl (T_move rfl) ?_
  refine EVq_e rfl rfl (D_call false (law_num _) rfl (φd rfl φn)) ?_
  refine EVq_t rfl rfl (T_bin rfl rfl rfl) ?_
  refine EVq_t rfl rfl (T_move rfl) ?_
  refine EVq_case 32 rfl (fun hb1 => ?_) (fun hb1 => ?_)
  ·try simp only [zz] at hb1
   refine EVq_t rfl rfl (T_move rfl) ?_
   refine EVq_t rfl rfl (T_lenL (uOk rfl) rfl) ?_
   refine EVq_t rfl rfl (T_bin rfl rfl rfl) ?_
   refine EVq_t rfl rfl (T_pick rfl rfl) ?_
   refine EVq_t rfl rfl (T_move rfl) ?_
   refine EVq_case 37 rfl (fun hb2 => ?_) (fun hb2 => ?_)
   ·try simp only [zz] at hb2
    refine EVq_t rfl rfl (T_move rfl) ?_
    refine EVq_t rfl rfl (T_ixL (uOk rfl) (zOk rfl) rfl rfl (by omega) (by omega) (rfl)) ?_
    refine EVq_t rfl rfl (T_loadA (gOk rfl) (zOk rfl) rfl (Nat.le_of_ble_eq_true rfl)) ?_
    refine EVq_e rfl rfl (D_call false (law_of152) rfl (φd rfl (φd rfl φn))) ?_
    refine EVq_e rfl rfl (D_call false (ref_EqT _ _ (by rw [wake_1]; decide) (by decide) wake_1) rfl (φa rfl (φa rfl φn))) ?_
    refine EVq_t rfl rfl (T_pick rfl rfl) ?_
    refine EVq_t rfl rfl (T_move rfl) ?_
    refine EVq_t rfl rfl (T_loadRA (gOk rfl) (zOk rfl) rfl rfl (Nat.le_of_ble_eq_true rfl) rfl rfl) ?_
    refine EVq_e rfl rfl (D_call false (law_of94) rfl (φd rfl (φd rfl φn))) ?_
    refine EVq_e rfl rfl (D_call false (ref_EqT _ _ (by rw [wake_2]; decide) (by decide) wake_2) rfl (φa rfl (φa rfl φn))) ?_
    refine EVq_t rfl rfl (T_pick rfl rfl) ?_
    refine EVq_t rfl rfl (T_assign rfl) ?_
    refine EVq_done ?_
    refine τ ?_
    refine ⟨_, ⟨rfl, rfl⟩, fit_eq rfl nofun rfl⟩
   ·try simp only [zz] at hb2
    simp at hb2
  ·try simp only [zz] at hb1
   simp at hb1

end Go.Proofs.YthaiegnohkiegaaGreat.Ab
/-
  By some rates and then by others is by their products; by 1 throughout nothing: plain.
-/
namespace Go.Proofs.YthaiegnohkiegaaGreat.Ab
set_option linter.unusedVariables false
set_option linter.unusedSimpArgs false

theorem compactUpTo_last {l : List Int} : ∀ m, 0 < m → (Lib.compactUpTo l.toArray m).getLast? = some (l.toArray[m - 1]!)
  | 0, h => absurd h (by omega)
  | 1, _ => by rw [Lib.compactUpTo_succ]; simp [Lib.compactUpTo, Lib.keeps]
  | m + 2, _ => by
    rw [Lib.compactUpTo_succ]
    by_cases hk : Lib.keeps l.toArray (m + 1) = true
    · rw [if_pos hk]; simp
    · rw [if_neg hk, List.append_nil, compactUpTo_last (m + 1) (by omega)]
      simp [Lib.keeps] at hk
      simpa using hk.symm
theorem lastOk_all {l : List Int} {b : Int} (h : lastOk (scL l) b = true) : ∀ v ∈ l, v < b := fun v hv => by
  have hm : v ∈ l.mergeSort fun x y => decide (x ≤ y) := by simpa using hv
  have hp : (l.mergeSort fun x y => decide (x ≤ y)).Pairwise fun x y => x ≤ y := by
    have := List.pairwise_mergeSort (le := fun (x y : Int) => decide (x ≤ y)) (fun a b c h1 h2 => by simp at *; omega) (fun a b => by simp; omega) l
    simpa using this
  have hs : scL l = Lib.compact (l.mergeSort fun x y => decide (x ≤ y)) := rfl
  generalize (l.mergeSort fun x y => decide (x ≤ y)) = s at hm hp hs
  have hpos : 0 < s.length := List.length_pos_of_mem hm
  have hlast := compactUpTo_last (l := s) s.length hpos
  have he : scL l = Lib.compactUpTo s.toArray s.length := hs
  rw [← he] at hlast
  generalize scL l = c at hlast h
  have hcn : c ≠ [] := fun e => by subst e; simp at hlast
  have hcl : 0 < c.length := List.length_pos_iff.2 hcn
  unfold lastOk at h
  simp only [Bool.or_eq_true, decide_eq_true_eq] at h
  rcases h with h | h
  · omega
  · have e1 : rd c ((c.length : Int) - 1) = s.toArray[s.length - 1]! := by
      rw [List.getLast?_eq_getElem?] at hlast
      unfold rd
      rw [show ((c.length : Int) - 1).toNat = c.length - 1 by omega, List.getD_eq_getElem?_getD, hlast]
      rfl
    rw [e1] at h
    obtain ⟨i, hi, rfl⟩ := List.getElem_of_mem hm
    have e2 : s.toArray[s.length - 1]! = s[s.length - 1] := by
      rw [getElem!_pos s.toArray (s.length - 1) (by simp; omega)]
      simp
    rw [e2] at h
    by_cases e : i = s.length - 1
    · subst e; exact h
    · have := (List.pairwise_iff_getElem.1 hp) i (s.length - 1) hi (by omega) (by omega)
      omega

theorem usL_mem {l : List (List Pw)} {u : List Pw} (hu : u ∈ l) : ∀ v ∈ varsU u, v ∈ usL l := fun v hv => by
  induction l with
  | nil => cases hu
  | cons a l ih =>
    simp only [usL, List.mem_append]
    rcases List.mem_cons.1 hu with rfl | h
    · exact .inl hv
    · exact .inr (ih h)
theorem usTs_mem {l : List Ty} {t : Ty} (ht : t ∈ l) : ∀ v ∈ usT t, v ∈ usTs l := fun v hv => by
  induction l with
  | nil => cases ht
  | cons a l ih =>
    simp only [usTs, List.mem_append]
    rcases List.mem_cons.1 ht with rfl | h
    · exact .inl hv
    · exact .inr (ih h)
theorem nums_us : ∀ (n : Nat) (t : Ty), shT t → ∀ x ∈ numsN n t, ∀ v ∈ usT x, v ∈ usT t
  | 0, t, hs, x, hx, v, hv => by simp [numsN] at hx; subst hx; exact hv
  | n + 1, t, hs, x, hx, v, hv => by
    simp only [numsN] at hx
    split at hx
    · rename_i hk
      have hl := shT_arrow hs hk
      rw [usT_eq]
      refine List.mem_append.2 (.inr ?_)
      rcases List.mem_cons.1 hx with rfl | h
      · exact usTs_mem (mem_rd (by omega) (by omega)) v hv
      · exact usTs_mem (mem_rd (by omega) (by omega)) v (nums_us n _ ((shT_eq hs).2 _ (mem_rd (by omega) (by omega))) x h v hv)
    · simp at hx; subst hx; exact hv
theorem varsL_mem : ∀ {u : List Pw} {q : Pw}, q ∈ u → q.k = 1 → q.n ∈ varsL u
  | [], q, h, _ => by cases h
  | p :: l, q, h, hk => by
    simp only [varsL]
    rcases List.mem_cons.1 h with rfl | h
    · rw [if_pos hk]; exact List.mem_cons_self
    · have := varsL_mem h hk
      split
      · exact List.mem_cons_of_mem _ this
      · exact this
theorem walkG_fine {t : Ty} {a b : Int} (h : (walkG t a b).1 = true) : ∀ u ∈ t.us, fineU u = true := fun u hu => by
  rw [walkG_eq] at h
  have hs : (seeG t a b).1 = true := by
    by_cases e : (seeG t a b).1 = true
    · exact e
    · rw [if_neg e] at h; exact h
  unfold seeG at hs
  split at hs
  · split at hs
    · simp only [Bool.not_eq_true', List.any_eq_false] at hs
      have := hs u hu
      simpa using this
    · cases hs
  · cases hs
/-- In a scheme of small powers each unit of its numbers scales. -/
theorem units_ok {a b : Int} {t : Ty} {p : List Rat} (ht : szT t) (hg : goodS a b t = true) (hn : (numsT t).any badN = false) (hp : (p.length : Int) = b) : ∀ x ∈ numsT t, okS p (rd x.us 0) := fun x hx q hq => by
  unfold goodS at hg
  simp only [Bool.and_eq_true] at hg
  have hsh := shT_good hg.1.1.1.2
  obtain ⟨s1, s2⟩ := numsN_mem _ t hsh ht x hx
  have hu1 := badN_no hsh ht hx hn
  have hmem : rd x.us 0 ∈ x.us := mem_rd (by omega) (by omega)
  obtain ⟨a', b', hw⟩ := s1
  have hf := walkG_fine hw _ hmem
  unfold fineU at hf
  simp only [Bool.and_eq_true] at hf
  have hb := any_false hn x hx
  unfold badN smallT at hb
  simp only [Bool.or_eq_false_iff, Bool.not_eq_false', Bool.not_eq_true'] at hb
  have hbig := bigP_no (any_false hb.2 q hq)
  obtain ⟨i, hi, rfl⟩ := List.getElem_of_mem hq
  have hat := goodU_at hf.1 hi
  have e : rd (rd x.us 0) (i : Int) = (rd x.us 0)[i] := by
    generalize rd x.us 0 = u at hi
    unfold rd
    simp [hi]
  unfold okAt at hat
  simp only [e, Bool.and_eq_true] at hat
  refine ⟨((szT_eq s2).2.2.2.1 _ hmem).2 _ hq, hat.1.1.2, hbig.1, fun hk => ⟨?_, ?_⟩⟩
  · have h1 := hat.1.1.1
    unfold atomB at h1
    rw [if_pos (.inl hk)] at h1
    simp only [numB, Bool.and_eq_true, decide_eq_true_eq] at h1
    exact h1.1.1
  · rw [hp]
    refine lastOk_all hg.2 _ (nums_us _ t hsh x hx _ ?_)
    rw [usT_eq]
    refine List.mem_append.2 (.inl (usL_mem hmem _ ?_))
    unfold varsU
    rw [if_pos hf.1]
    exact varsL_mem hq hk

theorem mulN_both (P Q : Rat) : ∀ n, mulN 1 (P * Q) n = mulN 1 P n * mulN 1 Q n
  | 0 => by simp [mulN, Rat.mul_one]
  | n + 1 => by
    simp only [mulN]
    rw [mulN_both P Q n]
    grind
theorem mul_ne {P Q : Rat} (hP : P ≠ 0) (hQ : Q ≠ 0) : P * Q ≠ 0 := fun h => by
  rcases Rat.mul_eq_zero.1 h with h | h
  · exact hP h
  · exact hQ h
theorem powQ_both {P Q : Rat} (hP : P ≠ 0) (hQ : Q ≠ 0) (z : Int) : powQ 1 (P * Q) z = powQ 1 P z * powQ 1 Q z := by
  unfold powQ
  split
  · rw [divN_inv (mul_ne hP hQ), divN_inv hP, divN_inv hQ, mulN_both, Rat.inv_mul_rev, Rat.mul_comm]
  · exact mulN_both P Q _
theorem scaleQ_mul (p : List Rat) : ∀ (u : List Pw) (x : Rat), scaleQ p u x = x * scaleQ p u 1
  | [], x => by simp [scaleQ, Rat.mul_one]
  | q :: u, x => by
    simp only [scaleQ]
    split
    · rw [scaleQ_mul p u (powQ x _ _), scaleQ_mul p u (powQ 1 _ _), powQ_mul, Rat.mul_assoc]
    · exact scaleQ_mul p u x
def bothQ (p q : List Rat) : List Rat := List.zipWith (· * ·) p q
theorem bothQ_len (p q : List Rat) : (bothQ p q).length = min p.length q.length := by simp [bothQ]
theorem rd_both {p q : List Rat} {n : Int} (h0 : 0 ≤ n) (h1 : n < p.length) (h2 : n < q.length) : rd (bothQ p q) n = rd p n * rd q n := by
  unfold rd bothQ
  have a1 : n.toNat < p.length := by omega
  have a2 : n.toNat < q.length := by omega
  simp only [List.getD_eq_getElem?_getD, List.getElem?_zipWith, List.getElem?_eq_getElem a1, List.getElem?_eq_getElem a2]
  rfl
theorem scaleQ_both {p q : List Rat} (hp : ∀ P ∈ p, P ≠ 0) (hq : ∀ P ∈ q, P ≠ 0) (hl : p.length = q.length) : ∀ u, okS p u → scaleQ (bothQ p q) u 1 = scaleQ p u 1 * scaleQ q u 1
  | [], _ => by simp [scaleQ, Rat.mul_one]
  | w :: u, hu => by
    have ih := scaleQ_both hp hq hl u fun x hx => hu x (by simp [hx])
    simp only [scaleQ]
    split
    · rename_i hk
      obtain ⟨n0, n1⟩ := (hu w (by simp)).2.2.2 hk
      rw [scaleQ_mul _ u (powQ 1 (rd (bothQ p q) w.n) w.z), scaleQ_mul p u (powQ 1 (rd p w.n) w.z), scaleQ_mul q u (powQ 1 (rd q w.n) w.z), rd_both n0 n1 (by omega), powQ_both (hp _ (mem_rd n0 n1)) (hq _ (mem_rd n0 (by omega))), ih]
      grind
    · exact ih
theorem scaleQ_then {p q : List Rat} (hp : ∀ P ∈ p, P ≠ 0) (hq : ∀ P ∈ q, P ≠ 0) (hl : p.length = q.length) {u : List Pw} (hu : okS p u) (x : Rat) : scaleQ q u (scaleQ p u x) = scaleQ (bothQ p q) u x := by
  rw [scaleQ_mul q u, scaleQ_mul p u, scaleQ_mul (bothQ p q) u, scaleQ_both hp hq hl u hu, Rat.mul_assoc]
theorem loopR_then {p q : List Rat} (hp : ∀ P ∈ p, P ≠ 0) (hq : ∀ P ∈ q, P ≠ 0) (hl : p.length = q.length) : ∀ (l : List Ty) (xs ys zs vs : List Rat), (∀ t ∈ l, okS p (rd t.us 0)) → loopR p l xs = some ys → loopR q l ys = some zs → loopR (bothQ p q) l xs = some vs → zs = vs
  | [], xs, ys, zs, vs, hu, h1, h2, h3 => by
    simp [loopR] at h1 h2 h3
    rw [h2, h3]
  | t :: l, [], ys, zs, vs, hu, h1, h2, h3 => by
    simp [loopR] at h1 h3
    subst h1
    simp [loopR] at h2
    rw [h2, h3]
  | t :: l, x :: xs, ys, zs, vs, hu, h1, h2, h3 => by
    simp only [loopR] at h1 h3
    split at h1
    · cases h1
    split at h3
    · cases h3
    obtain ⟨ys', e1, rfl⟩ := Option.map_eq_some_iff.1 h1
    obtain ⟨vs', e3, rfl⟩ := Option.map_eq_some_iff.1 h3
    simp only [loopR] at h2
    split at h2
    · cases h2
    obtain ⟨zs', e2, rfl⟩ := Option.map_eq_some_iff.1 h2
    rw [loopR_then hp hq hl l xs ys' zs' vs' (fun t ht => hu t (by simp [ht])) e1 e2 e3, scaleQ_then hp hq hl (hu t (by simp))]
theorem powQ_one (x : Rat) (z : Int) : powQ x 1 z = x := by
  have h1 : ∀ n, mulN x 1 n = x := fun n => by
    induction n with
    | zero => rfl
    | succ n ih => simp only [mulN]; rw [ih, Rat.mul_one]
  have h2 : ∀ n, divN x 1 n = x := fun n => by
    induction n with
    | zero => rfl
    | succ n ih => simp only [divN]; rw [ih, Rat.div_def, inv_1, Rat.mul_one]
  unfold powQ
  split
  · exact h2 _
  · exact h1 _
def onesQ (n : Nat) : List Rat := List.replicate n 1
theorem rd_ones {n : Nat} {i : Int} (h0 : 0 ≤ i) (h1 : i < n) : rd (onesQ n) i = 1 := by
  have : i.toNat < n := by omega
  unfold rd onesQ
  simp [this]
theorem scaleQ_ones {n : Nat} : ∀ (u : List Pw) (x : Rat), okS (onesQ n) u → scaleQ (onesQ n) u x = x
  | [], x, _ => rfl
  | w :: u, x, hu => by
    have ih := fun x => scaleQ_ones u x fun y hy => hu y (by simp [hy])
    simp only [scaleQ]
    split
    · rename_i hk
      obtain ⟨n0, n1⟩ := (hu w (by simp)).2.2.2 hk
      rw [rd_ones n0 (by simpa [onesQ] using n1), powQ_one, ih]
    · exact ih x
theorem loopR_ones {n : Nat} {p : List Rat} : ∀ (l : List Ty) (xs ys : List Rat), (∀ t ∈ l, okS (onesQ n) (rd t.us 0)) → xs.length ≤ l.length → loopR p l xs = some ys → loopR (onesQ n) l xs = some xs
  | [], [], ys, hu, hl, h => rfl
  | [], x :: xs, ys, hu, hl, h => by simp at hl
  | t :: l, [], ys, hu, hl, h => rfl
  | t :: l, x :: xs, ys, hu, hl, h => by
    simp only [loopR] at h ⊢
    split at h
    · cases h
    rename_i hc
    obtain ⟨ys', e1, rfl⟩ := Option.map_eq_some_iff.1 h
    rw [scaleQ_ones _ _ (hu t (by simp)), loopR_ones l xs ys' (fun t ht => hu t (by simp [ht])) (by simpa using hl) e1, if_neg ?_]
    · rfl
    · rintro ⟨c1, c2⟩
      refine hc ⟨c1, fun ⟨c3, _⟩ => c2 ⟨c3, c3⟩⟩
theorem scaleR_ok {a b : Int} {t : Ty} {p xs : List Rat} (h : (scaleR a b t p xs).2.2 = 0) :
    goodS a b t = true ∧ 2 ≤ (numsT t).length ∧ (numsT t).any badN = false ∧ (p.length : Int) = b ∧ (xs.length : Int) = (numsT t).length - 1 ∧ p.any (fun q => bitsQ q 256) = false ∧ xs.any (fun q => bitsQ q 4096) = false ∧ p.any (fun q => decide (q.num ≤ 0)) = false ∧
      ∃ l, loopR p (numsT t) xs = some l ∧ scaleR a b t p xs = (l, some (scaleQ p (rd (rd (numsT t) ((numsT t).length - 1)).us 0) 1), 0) := by
  by_cases hg : goodS a b t = true
  case neg => rw [scaleR_1 (by simpa using hg)] at h; cases h
  by_cases h12 : (decide (2 ≤ (numsT t).length) && !(numsT t).any badN) = true
  case neg => rw [scaleR_2 hg (by simpa using h12)] at h; cases h
  simp only [Bool.and_eq_true, decide_eq_true_eq, Bool.not_eq_true'] at h12
  obtain ⟨h1, h2⟩ := h12
  by_cases h34 : (p.length : Int) = b ∧ (xs.length : Int) = (numsT t).length - 1
  case neg => rw [scaleR_3 hg h1 h2 h34] at h; cases h
  obtain ⟨h3, h4⟩ := h34
  by_cases h56 : p.any (fun q => bitsQ q 256) = true ∨ xs.any (fun q => bitsQ q 4096) = true
  case pos => rw [scaleR_4 hg h1 h2 h3 h4 h56] at h; cases h
  have h5 : p.any (fun q => bitsQ q 256) = false := by
    cases e : p.any (fun q => bitsQ q 256) with
    | false => rfl
    | true => exact absurd (.inl e) h56
  have h6 : xs.any (fun q => bitsQ q 4096) = false := by
    cases e : xs.any (fun q => bitsQ q 4096) with
    | false => rfl
    | true => exact absurd (.inr e) h56
  cases h7 : p.any (fun q => decide (q.num ≤ 0)) with
  | true => rw [scaleR_5 hg h1 h2 h3 h4 h5 h6 h7] at h; cases h
  | false =>
    cases hl : loopR p (numsT t) xs with
    | none => rw [scaleR_6 hg h1 h2 h3 h4 h5 h6 h7 hl] at h; cases h
    | some l => exact ⟨hg, h1, h2, h3, h4, h5, h6, rfl, l, rfl, scaleR_7 hg h1 h2 h3 h4 h5 h6 h7 hl⟩
theorem pos_ne {p : List Rat} (h : p.any (fun q => decide (q.num ≤ 0)) = false) : ∀ P ∈ p, P ≠ 0 := fun P hP e => by
  have := any_false h P hP
  subst e
  simp at this
/-- What the law asks, of what Scale tells. -/
theorem law_then {a b : Int} {t : Ty} {p q xs : List Rat} (ht : szT t) (h : (scaleR a b t p xs).2.2 = 0) :
    ∃ B1, (scaleR a b t p xs).2.1 = some B1 ∧
      ((scaleR a b t q (scaleR a b t p xs).1).2.2 = 0 → (scaleR a b t (bothQ p q) xs).2.2 = 0 →
        (scaleR a b t q (scaleR a b t p xs).1).1 = (scaleR a b t (bothQ p q) xs).1 ∧ ∃ B2, (scaleR a b t q (scaleR a b t p xs).1).2.1 = some B2 ∧ (scaleR a b t (bothQ p q) xs).2.1 = some (B1 * B2)) ∧
      scaleR a b t (onesQ p.length) xs = (xs, some 1, 0) := by
  obtain ⟨hg, n2, hn, hpl, hxl, hb1, hb2, hs, l, hl, he⟩ := scaleR_ok h
  rw [he]
  refine ⟨_, rfl, fun hf hd => ?_, ?_⟩
  · obtain ⟨_, _, _, hql, _, _, _, hqs, l2, hl2, he2⟩ := scaleR_ok hf
    obtain ⟨_, _, _, hvl, _, _, _, _, l3, hl3, he3⟩ := scaleR_ok hd
    have hpq : p.length = q.length := by omega
    have hu := units_ok ht hg hn hpl
    rw [he2, he3]
    refine ⟨loopR_then (pos_ne hs) (pos_ne hqs) hpq _ xs l l2 l3 hu hl hl2 hl3, _, rfl, ?_⟩
    have hm : rd (numsT t) ((numsT t).length - 1) ∈ numsT t := mem_rd (by omega) (by omega)
    simp only
    rw [scaleQ_both (pos_ne hs) (pos_ne hqs) hpq _ (hu _ hm)]
  · have ho : ((onesQ p.length).length : Int) = b := by simpa [onesQ] using hpl
    have hu := units_ok ht hg hn ho
    have hm : rd (numsT t) ((numsT t).length - 1) ∈ numsT t := mem_rd (by omega) (by omega)
    rw [scaleR_7 hg n2 hn ho hxl ?_ hb2 ?_ (loopR_ones _ _ _ hu (by omega) hl), scaleQ_ones _ _ (hu _ hm)]
    · rw [List.any_eq_false]
      intro x hx
      rw [List.eq_of_mem_replicate hx]
      decide
    · rw [List.any_eq_false]
      intro x hx
      rw [List.eq_of_mem_replicate hx]
      decide
end Go.Proofs.YthaiegnohkiegaaGreat.Ab
/-
 Contracts of the copies of the reference: numbers, units.
-/
namespace Go.Proofs.YthaiegnohkiegaaGreat.Ab
set_option linter.unusedVariables false
set_option linter.unusedSimpArgs false
set_option maxRecDepth 20000
set_option maxHeartbeats 4000000
attribute [local irreducible] Tells Does EVo EV EVq EVr TellsC


/-- A number with a sign and a denominator, as it is read. -/
structure Rq where
 neg : Bool
 num : List Int
 den : List Int
instance : Inhabited Rq := ⟨⟨false, [], []⟩⟩
def encRq (r : Rq) : List D := [ib r.neg, encN r.num, encN r.den]
abbrev encRqs (l : List Rq) : D := .sl (l.map encRq)
theorem rd_get {α : Type} [Inhabited α] {l : List α} {j : Nat} (h : j < l.length) : rd l (j : Int) = l[j] := by
 unfold rd
 simp [h]
def szRq (r : Rq) : Prop := (r.num.length ≤ 549755813888 ∧ r.den.length ≤ 549755813888) ∧ okL r.num ∧ okL r.den
def szRqs (l : List Rq) : Prop := l.length ≤ 549755813888 ∧ ∀ r ∈ l, szRq r
theorem szRqs_rd {l : List Rq} (h : szRqs l) {i : Int} (h0 : 0 ≤ i) (h1 : i < l.length) : szRq (rd l i) := h.2 _ (mem_rd h0 h1)

theorem cop_Nat (l : List Int) (hl : l.length ≤ 17592186044416) : Fn Tryz.prog 83 [.d (encN l)] true (.one (.d (encN l))) := by
 refine Fn_of_EV Tryz.func83 rfl (by kernel_rfl) rfl rfl (fun E hE => ?_)
 iterate 12 refine τ ?_
 refine EVo_weak (W_nilRow 1 4 58 1 (hE 1 rfl) rfl) ?_
 refine EVo_e rfl (D_appendF (fe := true) (.inr (by simp)) (uOk rfl) ap58 (by decide) rfl rfl (hE 1 rfl) Free_no rfl rfl (by simp) (by simp; omega) (by simp; omega)) ?_
 iterate 8 refine τ ?_
 refine ⟨_, ⟨rfl, rfl⟩, fit_eq rfl (fun _ => rfl) rfl⟩

theorem cop_Int (neg : Bool) (l : List Int) (hl : l.length ≤ 17592186044416) : Fn Tryz.prog 82 [.agg [ib neg, encN l]] true (.one (.agg [ib neg, encN l])) := by
 refine Fn_of_EV Tryz.func82 rfl (by kernel_rfl) rfl rfl (fun E hE => ?_)
 iterate 2 refine τ ?_
 refine EVo_e rfl (D_box 1 (hE 1 rfl) Free_no rfl) ?_
 refine EVo_e rfl (D_alloc 2 (hE 2 rfl) Free_no zr38 rfl) ?_
 iterate 2 refine τ ?_
 refine EV_draw (inX [1]) (.st 0 (.st 1 (.st 2 (.st 3 (.one 4 (.st 5 (.one 6 .done))))))) Tryz.mixed (by kernel_rfl) ?_
 refine EVq_t rfl rfl (T_faR (fOk rfl) (zOk rfl) rfl) ?_
 refine EVq_t rfl rfl (T_loadR (gOk rfl) rfl rfl rfl rfl) ?_
 refine EVq_t rfl rfl (T_faR (fOk rfl) (zOk rfl) rfl) ?_
 refine EVq_t rfl rfl (T_loadR (gOk rfl) rfl rfl rfl rfl) ?_
 refine EVq_e rfl rfl (D_call false (cop_Nat _ (by omega)) rfl (φd rfl φn)) ?_
 refine EVq_t rfl rfl (T_build ly38 rfl rfl) ?_
 refine EVq_e rfl rfl (D_store rfl (Free_in rfl) rfl rfl (zOk rfl) rfl (Nat.le_of_ble_eq_true rfl) rfl) ?_
 refine EVq_done ?_
 refine τ ?_
 refine ⟨_, ⟨rfl, _, _, _, rfl, rfl, rfl, .inl ⟨_, gOk rfl, zOk rfl, Nat.le_of_ble_eq_true rfl, rfl⟩⟩, fit_agg rfl (fun _ => rfl) rfl⟩

theorem cop_Rat (r : Rq) (hr : szRq r) : Fn Tryz.prog 32 [.agg (encRq r)] true (.one (.agg (encRq r))) := by
 obtain ⟨⟨hr1, hr2⟩, hr3, hr4⟩ := hr
 refine Fn_of_EV Tryz.func32 rfl (by kernel_rfl) rfl rfl (fun E hE => ?_)
 iterate 2 refine τ ?_
 refine EVo_e rfl (D_box 1 (hE 1 rfl) Free_no rfl) ?_
 refine EVo_e rfl (D_alloc 2 (hE 2 rfl) Free_no zr40 rfl) ?_
 iterate 2 refine τ ?_
 refine EV_draw (inX [1]) (.st 0 (.st 1 (.st 3 (.st 4 (.one 2 (.one 5 (.st 6 (.one 7 .done)))))))) Tryz.mixed (by kernel_rfl) ?_
 refine EVq_t rfl rfl (T_faR (fOk rfl) (zOk rfl) rfl) ?_
 refine EVq_t rfl rfl (T_loadRA (gOk rfl) (zOk rfl) rfl rfl (Nat.le_of_ble_eq_true rfl) rfl rfl) ?_
 refine EVq_t rfl rfl (T_faR (fOk rfl) (zOk rfl) rfl) ?_
 refine EVq_t rfl rfl (T_loadR (gOk rfl) rfl rfl rfl rfl) ?_
 refine EVq_e rfl rfl (D_call false (cop_Int _ _ (by omega)) rfl (φa rfl φn)) ?_
 refine EVq_e rfl rfl (D_call false (cop_Nat _ (by omega)) rfl (φd rfl φn)) ?_
 refine EVq_t rfl rfl (T_build ly40 rfl rfl) ?_
 refine EVq_e rfl rfl (D_store rfl (Free_in rfl) rfl rfl (zOk rfl) rfl (Nat.le_of_ble_eq_true rfl) rfl) ?_
 refine EVq_done ?_
 refine τ ?_
 refine ⟨_, ⟨rfl, _, _, _, rfl, rfl, rfl, .inl ⟨_, gOk rfl, zOk rfl, Nat.le_of_ble_eq_true rfl, rfl⟩⟩, fit_agg rfl (fun _ => rfl) rfl⟩

theorem cop_Power (p : Pw) (hp : szP p) : Fn Tryz.prog 151 [.agg (encPw p)] true (.one (.agg (encPw p))) := by
 obtain ⟨hp1, hp2, hp3⟩ := hp
 refine Fn_of_EV Tryz.func151 rfl (by kernel_rfl) rfl rfl (fun E hE => ?_)
 iterate 2 refine τ ?_
 refine EVo_e rfl (D_box 1 (hE 1 rfl) Free_no rfl) ?_
 refine EVo_e rfl (D_alloc 2 (hE 2 rfl) Free_no zr84 rfl) ?_
 iterate 4 refine τ ?_
 refine EVo_e rfl (D_alloc 3 (hE 3 rfl) Free_no zr84 rfl) ?_
 iterate 6 refine τ ?_
 refine EVo_e rfl (D_call false (cop_Int _ _ (by omega)) rfl (φa rfl φn)) ?_
 iterate 9 refine τ ?_
 refine ⟨_, ⟨rfl, _, _, _, rfl, rfl, rfl, .inl ⟨_, gOk rfl, zOk rfl, Nat.le_of_ble_eq_true rfl, rfl⟩⟩, fit_agg rfl (fun _ => rfl) rfl⟩

theorem cop_Rats (u : List Rq) (hu : szRqs u) : Fn Tryz.prog 8 [.d (.sl (u.map encRq))] true (.one (.d (.sl (u.map encRq)))) := by
 refine Fn_of_EV Tryz.func8 rfl (by kernel_rfl) rfl rfl (fun E hE => ?_)
 iterate 14 refine τ ?_
 refine EV_weak (W_nilRow 1 3 40 3 (hE 1 rfl) rfl) ?_
 refine EV_wl (fun mm S => ∃ i : Int, ∃ L : List Rq, mm = ((u.length : Int) - i).toNat ∧ S = St.of [(0, V.c (.d false (.sl (u.map encRq)))), (3, V.c (.own 1 40 3 true (L.map encRq))), (4, vi .i64 i)] (tabO [(1, .row)]) 20 ∧ 0 ≤ i ∧ i ≤ u.length ∧ L = u.take i.toNat) _ ⟨_, ⟨0, ([] : List Rq), rfl, rfl, ⟨by omega, by omega, rfl⟩⟩, W_keep2 _ _ ⟨rfl, rfl, rfl, trivial⟩ ⟨rfl, trivial⟩ rfl⟩ ?_
 rintro mm S ⟨i, L, rfl, rfl, ⟨h0, h1, h2⟩⟩
 have hln := congrArg List.length h2
 simp only [List.length_take] at hln
 iterate 8 refine τ ?_
 refine EV_cond rfl rfl rfl (fun hb1 => ?_) (fun hb1 => ?_)
 ·try simp only [zz] at hb1
  have hsr := szRqs_rd hu h0 (by omega)
  have hul := hu.1
  iterate 7 refine τ ?_
  refine EVo_t rfl (T_ixL (uOk rfl) (zOk rfl) rfl rfl (by omega) (by omega) (rfl)) ?_
  refine τ ?_
  refine EVo_e rfl (D_call false (cop_Rat _ (by assumption)) rfl (φa rfl φn)) ?_
  refine EVo_e rfl (D_buildSlice (uOk rfl) bz40 rfl rfl rfl (by simp)) ?_
  refine EVo_e rfl (D_append (uOk rfl) ap40 (by decide) rfl rfl (hE 1 rfl) Free_no rfl rfl (by simp) (by simp; omega) (by simp; omega)) ?_
  iterate 7 refine τ ?_
  refine ⟨_, ?_, ω ⟨_, ⟨i + 1, L ++ [rd u i], rfl, rfl, ?_⟩, W_keep2 _ _ ⟨rfl, (own_app (by simp [encRq])), rfl, trivial⟩ ⟨rfl, trivial⟩ rfl⟩⟩
  ·omega
  ·refine ⟨by omega, by omega, ?_⟩
   rw [h2, show (i + 1).toNat = i.toNat + 1 by omega, take_rdT (by omega), show (i.toNat : Int) = i by omega]
 ·try simp only [zz] at hb1
  iterate 7 refine τ ?_
  refine ⟨_, ⟨rfl, rfl⟩, fit_eq rfl (fun _ => rfl) ?_⟩
  ·rw [h2, List.take_of_length_le (by omega)]

theorem cop_Unit (u : List Pw) (hu : szU u) : Fn Tryz.prog 122 [.d (.sl (u.map encPw))] true (.one (.d (.sl (u.map encPw)))) := by
 refine Fn_of_EV Tryz.func122 rfl (by kernel_rfl) rfl rfl (fun E hE => ?_)
 iterate 14 refine τ ?_
 refine EV_weak (W_nilRow 1 3 84 5 (hE 1 rfl) rfl) ?_
 refine EV_wl (fun mm S => ∃ i : Int, ∃ L : List Pw, mm = ((u.length : Int) - i).toNat ∧ S = St.of [(0, V.c (.d false (.sl (u.map encPw)))), (3, V.c (.own 1 84 5 true (L.map encPw))), (4, vi .i64 i)] (tabO [(1, .row)]) 20 ∧ 0 ≤ i ∧ i ≤ u.length ∧ L = u.take i.toNat) _ ⟨_, ⟨0, ([] : List Pw), rfl, rfl, ⟨by omega, by omega, rfl⟩⟩, W_keep2 _ _ ⟨rfl, rfl, rfl, trivial⟩ ⟨rfl, trivial⟩ rfl⟩ ?_
 rintro mm S ⟨i, L, rfl, rfl, ⟨h0, h1, h2⟩⟩
 have hln := congrArg List.length h2
 simp only [List.length_take] at hln
 iterate 8 refine τ ?_
 refine EV_cond rfl rfl rfl (fun hb1 => ?_) (fun hb1 => ?_)
 ·try simp only [zz] at hb1
  have hsr := szU_rd hu h0 (by omega)
  have hul := hu.1
  iterate 7 refine τ ?_
  refine EVo_t rfl (T_ixL (uOk rfl) (zOk rfl) rfl rfl (by omega) (by omega) (rfl)) ?_
  refine τ ?_
  refine EVo_e rfl (D_call false (cop_Power _ (by assumption)) rfl (φa rfl φn)) ?_
  refine EVo_e rfl (D_buildSlice (uOk rfl) bz84 rfl rfl rfl (by simp)) ?_
  refine EVo_e rfl (D_append (uOk rfl) ap84 (by decide) rfl rfl (hE 1 rfl) Free_no rfl rfl (by simp) (by simp; omega) (by simp; omega)) ?_
  iterate 7 refine τ ?_
  refine ⟨_, ?_, ω ⟨_, ⟨i + 1, L ++ [rd u i], rfl, rfl, ?_⟩, W_keep2 _ _ ⟨rfl, (own_app (by simp [encPw])), rfl, trivial⟩ ⟨rfl, trivial⟩ rfl⟩⟩
  ·omega
  ·refine ⟨by omega, by omega, ?_⟩
   rw [h2, show (i + 1).toNat = i.toNat + 1 by omega, take_rdT (by omega), show (i.toNat : Int) = i by omega]
 ·try simp only [zz] at hb1
  iterate 7 refine τ ?_
  refine ⟨_, ⟨rfl, rfl⟩, fit_eq rfl (fun _ => rfl) ?_⟩
  ·rw [h2, List.take_of_length_le (by omega)]

end Go.Proofs.YthaiegnohkiegaaGreat.Ab
/-
 Contracts of what the laws share: copies, comparisons, weights.
-/
namespace Go.Proofs.YthaiegnohkiegaaGreat.Ab
set_option linter.unusedVariables false
set_option linter.unusedSimpArgs false
set_option maxRecDepth 20000
set_option maxHeartbeats 4000000
attribute [local irreducible] Tells Does EVo EV EVq EVr TellsC


def szUsL (l : List (List Pw)) : Prop := l.length ≤ 549755813888 ∧ ∀ u ∈ l, szU u
theorem szT_us {t : Ty} (h : szT t) : szUsL t.us := ⟨(szT_eq h).2.2.1, (szT_eq h).2.2.2.1⟩
theorem szUsL_rd {l : List (List Pw)} (h : szUsL l) {i : Int} (h0 : 0 ≤ i) (h1 : i < l.length) : szU (rd l i) := h.2 _ (mem_rd h0 h1)
def CpT (x : Ty) : Prop := Fn Tryz.prog 31 [.agg (tyD x)] true (.one (.agg (tyD x)))

theorem cop_Units (u : List (List Pw)) (hu : szUsL u) : Fn Tryz.prog 81 [.d (.sl (u.map (fun u => [encU u])))] true (.one (.d (.sl (u.map (fun u => [encU u]))))) := by
 refine Fn_of_EV Tryz.func81 rfl (by kernel_rfl) rfl rfl (fun E hE => ?_)
 iterate 14 refine τ ?_
 refine EV_weak (W_nilRow 1 3 66 1 (hE 1 rfl) rfl) ?_
 refine EV_wl (fun mm S => ∃ i : Int, ∃ L : List (List Pw), mm = ((u.length : Int) - i).toNat ∧ S = St.of [(0, V.c (.d false (.sl (u.map (fun u => [encU u]))))), (3, V.c (.own 1 66 1 true (L.map (fun u => [encU u])))), (4, vi .i64 i)] (tabO [(1, .row)]) 20 ∧ 0 ≤ i ∧ i ≤ u.length ∧ L = u.take i.toNat) _ ⟨_, ⟨0, ([] : List (List Pw)), rfl, rfl, ⟨by omega, by omega, rfl⟩⟩, W_keep2 _ _ ⟨rfl, rfl, rfl, trivial⟩ ⟨rfl, trivial⟩ rfl⟩ ?_
 rintro mm S ⟨i, L, rfl, rfl, ⟨h0, h1, h2⟩⟩
 have hln := congrArg List.length h2
 simp only [List.length_take] at hln
 iterate 8 refine τ ?_
 refine EV_cond rfl rfl rfl (fun hb1 => ?_) (fun hb1 => ?_)
 ·try simp only [zz] at hb1
  have hsr := szUsL_rd hu h0 (by omega)
  have hul := hu.1
  iterate 7 refine τ ?_
  refine EVo_t rfl (T_ixL (uOk rfl) (zOk rfl) rfl rfl (by omega) (by omega) (rfl)) ?_
  refine τ ?_
  refine EVo_e rfl (D_call false (cop_Unit _ (by assumption)) rfl (φd rfl φn)) ?_
  refine EVo_e rfl (D_buildSlice (uOk rfl) bz66 rfl rfl rfl (by simp)) ?_
  refine EVo_e rfl (D_append (uOk rfl) ap66 (by decide) rfl rfl (hE 1 rfl) Free_no rfl rfl (by simp) (by simp; omega) (by simp; omega)) ?_
  iterate 7 refine τ ?_
  refine ⟨_, ?_, ω ⟨_, ⟨i + 1, L ++ [rd u i], rfl, rfl, ?_⟩, W_keep2 _ _ ⟨rfl, (own_app (by simp)), rfl, trivial⟩ ⟨rfl, trivial⟩ rfl⟩⟩
  ·omega
  ·refine ⟨by omega, by omega, ?_⟩
   rw [h2, show (i + 1).toNat = i.toNat + 1 by omega, take_rdT (by omega), show (i.toNat : Int) = i by omega]
 ·try simp only [zz] at hb1
  iterate 7 refine τ ?_
  refine ⟨_, ⟨rfl, rfl⟩, fit_eq rfl (fun _ => rfl) ?_⟩
  ·rw [h2, List.take_of_length_le (by omega)]

theorem cop_TypesA (u : List Ty) (hu : u.length ≤ 549755813888) (hc : ∀ x ∈ u, CpT x) : Fn Tryz.prog 80 [.d (.sl (u.map encTy))] true (.one (.d (.sl (u.map encTy)))) := by
 refine Fn_of_EV Tryz.func80 rfl (by kernel_rfl) rfl rfl (fun E hE => ?_)
 iterate 14 refine τ ?_
 refine EV_weak (W_nilRow 1 3 27 5 (hE 1 rfl) rfl) ?_
 refine EV_wl (fun mm S => ∃ i : Int, ∃ L : List Ty, mm = ((u.length : Int) - i).toNat ∧ S = St.of [(0, V.c (.d false (.sl (u.map encTy)))), (3, V.c (.own 1 27 5 true (L.map encTy))), (4, vi .i64 i)] (tabO [(1, .row)]) 20 ∧ 0 ≤ i ∧ i ≤ u.length ∧ L = u.take i.toNat) _ ⟨_, ⟨0, ([] : List Ty), rfl, rfl, ⟨by omega, by omega, rfl⟩⟩, W_keep2 _ _ ⟨rfl, rfl, rfl, trivial⟩ ⟨rfl, trivial⟩ rfl⟩ ?_
 rintro mm S ⟨i, L, rfl, rfl, ⟨h0, h1, h2⟩⟩
 have hln := congrArg List.length h2
 simp only [List.length_take] at hln
 iterate 8 refine τ ?_
 refine EV_cond rfl rfl rfl (fun hb1 => ?_) (fun hb1 => ?_)
 ·try simp only [zz] at hb1
  have hmm := mem_rd (l := u) h0 (by omega)
  iterate 7 refine τ ?_
  refine EVo_t rfl (T_ixL (uOk rfl) (zOk rfl) rfl rfl (by omega) (by omega) (encTy_len _)) ?_
  rw [encTy_eq]
  refine τ ?_
  refine EVo_e rfl (D_call false (hc _ hmm) rfl (φa rfl φn)) ?_
  refine EVo_e rfl (D_buildSlice (uOk rfl) bz27 rfl rfl rfl (by simp)) ?_
  refine EVo_e rfl (D_append (uOk rfl) ap27 (by decide) rfl rfl (hE 1 rfl) Free_no rfl rfl (by simp) (by simp; omega) (by simp; omega)) ?_
  iterate 7 refine τ ?_
  refine ⟨_, ?_, ω ⟨_, ⟨i + 1, L ++ [rd u i], rfl, rfl, ?_⟩, W_keep2 _ _ ⟨rfl, (own_app (by simp [encTy_eq])), rfl, trivial⟩ ⟨rfl, trivial⟩ rfl⟩⟩
  ·omega
  ·refine ⟨by omega, by omega, ?_⟩
   rw [h2, show (i + 1).toNat = i.toNat + 1 by omega, take_rdT (by omega), show (i.toNat : Int) = i by omega]
 ·try simp only [zz] at hb1
  iterate 7 refine τ ?_
  refine ⟨_, ⟨rfl, rfl⟩, fit_eq rfl (fun _ => rfl) ?_⟩
  ·rw [h2, List.take_of_length_le (by omega)]

theorem cop_TypeA (t : Ty) (ht : szT t) (hc : Fn Tryz.prog 80 [.d (.sl (t.ar.map encTy))] true (.one (.d (.sl (t.ar.map encTy))))) : Fn Tryz.prog 31 [.agg (tyD t)] true (.one (.agg (tyD t))) := by
 refine Fn_of_EV Tryz.func31 rfl (by kernel_rfl) rfl rfl (fun E hE => ?_)
 iterate 2 refine τ ?_
 refine EVo_e rfl (D_box 1 (hE 1 rfl) Free_no rfl) ?_
 refine EVo_e rfl (D_alloc 2 (hE 2 rfl) Free_no zr27 rfl) ?_
 iterate 4 refine τ ?_
 refine EVo_e rfl (D_alloc 3 (hE 3 rfl) Free_no zr27 rfl) ?_
 iterate 6 refine τ ?_
 refine EVo_e rfl (D_call false (hc) rfl (φd rfl φn)) ?_
 iterate 7 refine τ ?_
 refine EVo_e rfl (D_call false (cop_Units _ (szT_us ht)) rfl (φd rfl φn)) ?_
 iterate 9 refine τ ?_
 refine ⟨_, ⟨rfl, _, _, _, rfl, rfl, rfl, .inl ⟨_, gOk rfl, zOk rfl, Nat.le_of_ble_eq_true rfl, rfl⟩⟩, ?_⟩
 ·exact ⟨true, by kernel_rfl, fun _ => rfl⟩

theorem cop_TypeN : ∀ (n : Nat) (t : Ty), nT t ≤ n → szT t → CpT t
 | 0, t, h, _ => absurd (nT_pos t) (by omega)
 | n + 1, t, h, hs => cop_TypeA t hs (cop_TypesA t.ar (szT_eq hs).2.1 fun x hx => cop_TypeN n x (by have := nTs_mem hx; have := nT_eq t; omega) ((szT_eq hs).2.2.2.2 x hx))
theorem cop_Type (t : Ty) (hs : szT t) : Fn Tryz.prog 31 [.agg (tyD t)] true (.one (.agg (tyD t))) := cop_TypeN _ t (Nat.le_refl _) hs

theorem cop_Scheme (a b : Int) (t : Ty) (ht : szT t) : Fn Tryz.prog 7 [.agg (scD a b t)] true (.one (.agg (scD a b t))) := by
 refine Fn_of_EV Tryz.func7 rfl (by kernel_rfl) rfl rfl (fun E hE => ?_)
 iterate 2 refine τ ?_
 refine EVo_e rfl (D_box 1 (hE 1 rfl) Free_no rfl) ?_
 refine EVo_e rfl (D_alloc 2 (hE 2 rfl) Free_no zr29 rfl) ?_
 iterate 4 refine τ ?_
 refine EVo_e rfl (D_alloc 3 (hE 3 rfl) Free_no zr29 rfl) ?_
 iterate 6 refine τ ?_
 refine EVo_e rfl (D_call false (cop_Type _ (by assumption)) rfl (φa rfl φn)) ?_
 iterate 9 refine τ ?_
 refine ⟨_, ⟨rfl, _, _, _, rfl, rfl, rfl, .inl ⟨_, gOk rfl, zOk rfl, Nat.le_of_ble_eq_true rfl, rfl⟩⟩, ?_⟩
 ·exact ⟨true, by kernel_rfl, fun _ => rfl⟩

theorem law_may (l : List Rq) (hl : szRqs l) : Fn Tryz.prog 18 [.d (encRqs l)] false (.one (.d (ib (l.all fun r => ratB r.neg r.num r.den)))) := by
 refine Fn_of_EV Tryz.func18 rfl (by kernel_rfl) rfl rfl (fun E hE => ?_)
 iterate 10 refine τ ?_
 refine EV_wl (fun mm S => ∃ i : Int, mm = ((l.length : Int) - i).toNat ∧ S = St.of [(0, V.c (.d false (encRqs l))), (3, vi .i64 i)] (tabO []) 16 ∧ 0 ≤ i ∧ i ≤ l.length ∧ ∀ j : Nat, (j : Int) < i → ratB (rd l (j : Int)).neg (rd l (j : Int)).num (rd l (j : Int)).den = true) _ ⟨_, ⟨0, rfl, rfl, ⟨by omega, by omega, fun j hj => absurd hj (by omega)⟩⟩, W_keep2 _ _ ⟨rfl, rfl, trivial⟩ trivial rfl⟩ ?_
 rintro mm S ⟨i, rfl, rfl, ⟨h0, h1, h2⟩⟩
 iterate 8 refine τ ?_
 refine EV_cond rfl rfl rfl (fun hb1 => ?_) (fun hb1 => ?_)
 ·try simp only [zz] at hb1
  have hul := hl.1
  obtain ⟨⟨hr1, hr2⟩, hr3, hr4⟩ := szRqs_rd hl h0 (by omega)
  iterate 7 refine τ ?_
  refine EVo_t rfl (T_ixL (uOk rfl) (zOk rfl) rfl rfl (by omega) (by omega) (rfl)) ?_
  refine τ ?_
  refine EVo_e rfl (D_call false (ref3_May _ _ _ (by omega) (by omega) (by assumption) (by assumption)) rfl (φa rfl φn)) ?_
  iterate 2 refine τ ?_
  refine EV_cond rfl rfl rfl (fun hb2 => ?_) (fun hb2 => ?_)
  ·try simp only [zz] at hb2
   have hz := hb2
   iterate 5 refine τ ?_
   refine ⟨_, ⟨rfl, rfl⟩, fit_eq rfl nofun ?_⟩
   ·refine congrArg ib ?_
    symm; rw [List.all_eq_false]; exact ⟨_, mem_rd h0 (by omega), by simpa using hz⟩
  ·try simp only [zz] at hb2
   have hz := hb2
   iterate 6 refine τ ?_
   refine ⟨_, ?_, ω ⟨_, ⟨i + 1, rfl, rfl, ?_⟩, W_keep2 _ _ ⟨rfl, rfl, trivial⟩ trivial rfl⟩⟩
   ·omega
   ·refine ⟨by omega, by omega, fun j hj => ?_⟩
    by_cases e : (j : Int) = i
    ·rw [e]; simpa using hz
    ·exact h2 j (by omega)
 ·try simp only [zz] at hb1
  iterate 6 refine τ ?_
  refine ⟨_, ⟨rfl, rfl⟩, fit_eq rfl nofun ?_⟩
  ·refine congrArg ib ?_
   symm; rw [List.all_eq_true]; intro r hr; obtain ⟨j, hj, rfl⟩ := List.getElem_of_mem hr
   have := h2 j (by omega); rw [rd_get hj] at this; exact this

theorem ref_EqRats (a b : List Rat) (ha : a.length ≤ 549755813888) (hb : b.length ≤ 549755813888) (hsa : ∀ q ∈ a, szQ q ≤ 17592186044416) (hsb : ∀ q ∈ b, szQ q ≤ 17592186044416) : Fn Tryz.prog 12 [.d (encQs a), .d (encQs b)] false (.one (.d (ib (decide (a = b))))) := by
 refine Fn_of_EV Tryz.func12 rfl (by kernel_rfl) rfl rfl (fun E hE => ?_)
 iterate 13 refine τ ?_
 refine EV_cond rfl rfl rfl (fun hb1 => ?_) (fun hb1 => ?_)
 ·try simp only [zz] at hb1
  iterate 5 refine τ ?_
  refine ⟨_, ⟨rfl, rfl⟩, fit_eq rfl nofun ?_⟩
  ·refine congrArg ib ?_
   symm; rw [decide_eq_false_iff_not]; intro e; subst e; simp_all
 ·try simp only [zz] at hb1
  have hlen := hb1
  iterate 7 refine τ ?_
  refine EV_wl (fun mm S => ∃ i : Int, mm = ((a.length : Int) - i).toNat ∧ S = St.of [(0, V.c (.d false (encQs a))), (1, V.c (.d false (encQs b))), (5, vi .i64 i)] (tabO []) 27 ∧ 0 ≤ i ∧ i ≤ a.length ∧ ∀ j : Nat, (j : Int) < i → rd a (j : Int) = rd b (j : Int)) _ ⟨_, ⟨0, rfl, rfl, ⟨by omega, by omega, fun j hj => absurd hj (by omega)⟩⟩, W_keep2 _ _ ⟨rfl, rfl, rfl, trivial⟩ trivial rfl⟩ ?_
  rintro mm S ⟨i, rfl, rfl, ⟨h0, h1, h2⟩⟩
  iterate 8 refine τ ?_
  refine EV_cond rfl rfl rfl (fun hb2 => ?_) (fun hb2 => ?_)
  ·try simp only [zz] at hb2
   have hqa := hsa _ (mem_rd (i := i) h0 (by omega))
   have hqb := hsb _ (mem_rd (i := i) h0 (by omega))
   iterate 4 refine τ ?_
   refine EV_draw (inX []) (.st 0 (.st 1 (.st 2 (.st 3 (.st 4 (.st 5 (.st 6 (.st 7 (.one 8 (.st 9 .done)))))))))) Tryz.mixed (by kernel_rfl) ?_
   refine EVq_t rfl rfl (T_move rfl) ?_
   refine EVq_t rfl rfl (T_move rfl) ?_
   refine EVq_t rfl rfl (T_ixL (uOk rfl) (zOk rfl) rfl rfl (by omega) (by omega) (rfl)) ?_
   refine EVq_t rfl rfl (T_loadA (gOk rfl) (zOk rfl) rfl (Nat.le_of_ble_eq_true rfl)) ?_
   refine EVq_t rfl rfl (T_move rfl) ?_
   refine EVq_t rfl rfl (T_move rfl) ?_
   refine EVq_t rfl rfl (T_ixL (uOk rfl) (zOk rfl) rfl rfl (by omega) (by omega) (rfl)) ?_
   refine EVq_t rfl rfl (T_loadA (gOk rfl) (zOk rfl) rfl (Nat.le_of_ble_eq_true rfl)) ?_
   refine EVq_e rfl rfl (D_call false (ref_EqQ _ _ (by omega) (by omega)) rfl (φa rfl (φa rfl φn))) ?_
   refine EVq_t rfl rfl (T_un rfl rfl) ?_
   refine EVq_done ?_
   refine EV_cond rfl rfl rfl (fun hb3 => ?_) (fun hb3 => ?_)
   ·try simp only [zz] at hb3
    have hz := hb3
    iterate 5 refine τ ?_
    refine ⟨_, ⟨rfl, rfl⟩, fit_eq rfl nofun ?_⟩
    ·refine congrArg ib ?_
     symm; rw [decide_eq_false_iff_not]; intro e; subst e; simp at hz
   ·try simp only [zz] at hb3
    have hz := hb3
    iterate 6 refine τ ?_
    refine ⟨_, ?_, ω ⟨_, ⟨i + 1, rfl, rfl, ?_⟩, W_keep2 _ _ ⟨rfl, rfl, rfl, trivial⟩ trivial rfl⟩⟩
    ·omega
    ·refine ⟨by omega, by omega, fun j hj => ?_⟩
     by_cases e : (j : Int) = i
     ·rw [e]; simpa using hz
     ·exact h2 j (by omega)
  ·try simp only [zz] at hb2
   iterate 6 refine τ ?_
   refine ⟨_, ⟨rfl, rfl⟩, fit_eq rfl nofun ?_⟩
   ·refine congrArg ib ?_
    symm; rw [decide_eq_true_eq]; refine List.ext_getElem (by omega) fun j h3 h4 => ?_
    have := h2 j (by omega); rw [rd_get h3, rd_get h4] at this; exact this

theorem law_both (a b : List Rat) (ha : a.length ≤ 549755813888) (hb : b.length ≤ 549755813888) (hsa : ∀ q ∈ a, szQ q ≤ 274877906944) (hsb : ∀ q ∈ b, szQ q ≤ 274877906944) : Fn Tryz.prog 19 [.d (encQs a), .d (encQs b)] false (.one (.d (encQs (bothQ a b)))) := by
 refine Fn_of_EV Tryz.func19 rfl (by kernel_rfl) rfl rfl (fun E hE => ?_)
 iterate 14 refine τ ?_
 refine EV_weak (W_nilRow 1 5 40 3 (hE 1 rfl) rfl) ?_
 refine EV_wl (fun mm S => ∃ i : Int, ∃ L : List Rat, ∃ f : Bool, mm = ((a.length : Int) - i).toNat ∧ S = St.of [(0, V.c (.d false (encQs a))), (1, V.c (.d false (encQs b))), (5, V.c (.own 1 40 3 f (L.map encQ))), (6, vi .i64 i)] (tabO [(1, .row)]) 32 ∧ 0 ≤ i ∧ i ≤ a.length ∧ i ≤ b.length ∧ L = (bothQ a b).take i.toNat) _ ⟨_, ⟨0, ([] : List Rat), true, rfl, rfl, ⟨by omega, by omega, by omega, rfl⟩⟩, W_keep2 _ _ ⟨rfl, rfl, rfl, rfl, trivial⟩ ⟨rfl, trivial⟩ rfl⟩ ?_
 rintro mm S ⟨i, L, f, rfl, rfl, ⟨h0, h1, h1b, h2⟩⟩
 have hbl := bothQ_len a b
 have hln := congrArg List.length h2
 simp only [List.length_take] at hln
 iterate 8 refine τ ?_
 refine EVo_case 11 rfl (fun hb1 => ?_) (fun hb1 => ?_)
 ·try simp only [zz] at hb1
  iterate 6 refine τ ?_
  refine EV_cond rfl rfl rfl (fun hb2 => ?_) (fun hb2 => ?_)
  ·try simp only [zz] at hb2
   iterate 3 refine τ ?_
   refine EV_draw (inX []) (.st 0 (.st 1 (.st 2 (.st 3 (.st 4 (.st 5 (.st 6 (.st 7 (.st 8 (.one 9 (.one 10 (.one 11 (.st 12 .done))))))))))))) Tryz.mixed (by kernel_rfl) ?_
   refine EVq_t rfl rfl (T_move rfl) ?_
   refine EVq_t rfl rfl (T_move rfl) ?_
   refine EVq_t rfl rfl (T_move rfl) ?_
   have hqa := hsa _ (mem_rd (i := i) h0 (by omega))
   have hqb := hsb _ (mem_rd (i := i) h0 (by omega))
   refine EVq_t rfl rfl (T_ixL (uOk rfl) (zOk rfl) rfl rfl (by omega) (by omega) (rfl)) ?_
   refine EVq_t rfl rfl (T_loadA (gOk rfl) (zOk rfl) rfl (Nat.le_of_ble_eq_true rfl)) ?_
   refine EVq_t rfl rfl (T_move rfl) ?_
   refine EVq_t rfl rfl (T_move rfl) ?_
   refine EVq_t rfl rfl (T_ixL (uOk rfl) (zOk rfl) rfl rfl (by omega) (by omega) (rfl)) ?_
   refine EVq_t rfl rfl (T_loadA (gOk rfl) (zOk rfl) rfl (Nat.le_of_ble_eq_true rfl)) ?_
   refine EVq_e rfl rfl (D_call false (ref3_Times _ _ (by omega)) rfl (φa rfl (φa rfl φn))) ?_
   refine EVq_e rfl rfl (D_buildSlice (uOk rfl) bz40 rfl rfl rfl (by simp)) ?_
   refine EVq_e rfl rfl (D_append (uOk rfl) ap40 (by decide) rfl rfl (hE 1 rfl) (Free_in rfl) rfl rfl (by simp) (by simp; omega) (by simp; omega)) ?_
   refine EVq_t rfl rfl (T_assign rfl) ?_
   refine EVq_done ?_
   iterate 5 refine τ ?_
   refine ⟨_, ?_, ω ⟨_, ⟨i + 1, L ++ [rd a i * rd b i], _, rfl, rfl, ?_⟩, W_keep2 _ _ ⟨rfl, rfl, (own_app (by rfl)), rfl, trivial⟩ ⟨rfl, trivial⟩ rfl⟩⟩
   ·omega
   ·refine ⟨by omega, by omega, by omega, ?_⟩
    rw [h2, show (i + 1).toNat = i.toNat + 1 by omega, take_rdT (by omega), show (i.toNat : Int) = i by omega, rd_both h0 (by omega) (by omega)]
  ·try simp only [zz] at hb2
   iterate 7 refine τ ?_
   refine ⟨_, ⟨rfl, rfl⟩, fit_eq rfl nofun ?_⟩
   ·rw [h2, List.take_of_length_le (by omega)]
 ·try simp only [zz] at hb1
  iterate 6 refine τ ?_
  refine EV_cond rfl rfl rfl (fun h => by first | cases h | (exfalso; simp_all; done)) (fun _ => ?_)
  iterate 7 refine τ ?_
  refine ⟨_, ⟨rfl, rfl⟩, fit_eq rfl nofun ?_⟩
  ·rw [h2, List.take_of_length_le (by omega)]

/-- What is told of a weight: a number that fits. -/
def WgT (x : Ty) : Prop := ∀ n : Int, 0 ≤ n → n ≤ 1500 → FnE Tryz.prog 121 [.agg (tyD x), .d (ii n)] false (fun r => ∃ n : Int, r = .one (.d (ii n)) ∧ 0 ≤ n ∧ n ≤ 1000000000000000000)
def SlT (x : Ty) : Prop := ∀ n : Int, 0 ≤ n → n ≤ 100 → FnE Tryz.prog 78 [.agg (tyD x), .d (ii n), .d (ii 100)] false (fun r => ∃ n : Int, r = .one (.d (ii n)) ∧ 0 ≤ n ∧ n ≤ 549755814000)
def LoT (x : Ty) : Prop := FnE Tryz.prog 79 [.agg (tyD x)] false (fun r => ∃ b : Bool, r = .one (.d (ib b)))

theorem each_T {p : Ty → Prop} (h : ∀ t, szT t → (∀ x ∈ t.ar, p x) → p t) : ∀ (n : Nat) (t : Ty), nT t ≤ n → szT t → p t
 | 0, t, hn, _ => absurd (nT_pos t) (by omega)
 | n + 1, t, hn, hs => h t hs fun x hx => each_T h n x (by have := nTs_mem hx; have := nT_eq t; omega) ((szT_eq hs).2.2.2.2 x hx)
theorem all_T {p : Ty → Prop} (h : ∀ t, szT t → (∀ x ∈ t.ar, p x) → p t) (t : Ty) (ht : szT t) : p t := each_T h _ t (Nat.le_refl _) ht

theorem hev_weighA (t : Ty) (ht : szT t) (hR : ∀ x ∈ t.ar, WgT x) (n : Int) (hn0 : 0 ≤ n) (hn1 : n ≤ 1500) : FnE Tryz.prog 121 [.agg (tyD t), .d (ii n)] false ((fun r => ∃ n : Int, r = .one (.d (ii n)) ∧ 0 ≤ n ∧ n ≤ 1000000000000000000)) := by
 have ht1 := (szT_eq ht).1
 have ht2 := (szT_eq ht).2.1
 have ht3 := szT_us ht
 have ht4 := ht3.1
 have ht5 := (szT_eq ht).2.2.2.2
 refine FnE_of_EV Tryz.func121 rfl (by kernel_rfl) rfl rfl (fun E hE => ?_)
 iterate 2 refine τ ?_
 refine EVo_e rfl (D_box 1 (hE 1 rfl) Free_no rfl) ?_
 iterate 9 refine τ ?_
 refine EVo_t rfl (T_quoN rfl rfl (by omega) (by decide) (by omega)) ?_
 iterate 9 refine τ ?_
 refine EV_wl (fun mm S => ∃ i : Int, ∃ m : Int, mm = ((t.us.length : Int) - i).toNat ∧ S = St.of [(1, vi .i64 m), (2, V.c (.ref 1 0)), (5, vi .i64 i)] (tabO [(1, .box ((tyD t).map (C.nd false)))]) 88 ∧ 0 ≤ i ∧ i ≤ t.us.length ∧ 0 ≤ m ∧ m ≤ 1000000000000000000) _ ⟨_, ⟨0, _, rfl, rfl, ⟨by omega, by omega, by omega, by omega⟩⟩, W_keep2 _ _ ⟨rfl, rfl, rfl, trivial⟩ ⟨rfl, trivial⟩ rfl⟩ ?_
 rintro mm S ⟨i, m, rfl, rfl, ⟨h0, h1, h2, h3⟩⟩
 iterate 9 refine τ ?_
 refine EVo_case 20 rfl (fun hb1 => ?_) (fun hb1 => ?_)
 ·try simp only [zz] at hb1
  iterate 4 refine τ ?_
  refine EV_cond rfl rfl rfl (fun hb2 => ?_) (fun hb2 => ?_)
  ·try simp only [zz] at hb2
   have hu := szUsL_rd ht3 h0 (by omega)
   have hu1 := hu.1
   iterate 14 refine τ ?_
   refine EV_wl (fun mm S => ∃ k : Int, ∃ r : Int, mm = (((rd t.us i).length : Int) - k).toNat ∧ S = St.of [(1, vi .i64 r), (2, V.c (.ref 1 0)), (5, vi .i64 i), (6, vi .i64 k)] (tabO [(1, .box ((tyD t).map (C.nd false)))]) 88 ∧ 0 ≤ k ∧ k ≤ (rd t.us i).length ∧ 0 ≤ r ∧ r ≤ 1000000000000000000) _ ⟨_, ⟨0, _, rfl, rfl, ⟨by omega, by omega, by omega, by omega⟩⟩, W_keep2 _ _ ⟨rfl, rfl, rfl, rfl, trivial⟩ ⟨rfl, trivial⟩ rfl⟩ ?_
   rintro mm S ⟨k, r, rfl, rfl, ⟨k0, k1, k2, k3⟩⟩
   iterate 7 refine τ ?_
   refine EVo_t rfl (T_ixL (uOk rfl) (zOk rfl) rfl rfl (by omega) (by omega) (rfl)) ?_
   iterate 4 refine τ ?_
   refine EVo_case 36 rfl (fun hb3 => ?_) (fun hb3 => ?_)
   ·try simp only [zz] at hb3
    iterate 4 refine τ ?_
    refine EV_cond rfl rfl rfl (fun hb4 => ?_) (fun hb4 => ?_)
    ·try simp only [zz] at hb4
     obtain ⟨hp1, hp2, hp3⟩ := szU_rd hu k0 (by omega)
     iterate 3 refine τ ?_
     refine EV_draw (inX [1]) (.st 0 (.st 1 (.st 2 (.st 3 (.st 4 (.st 5 (.st 6 (.st 7 (.st 8 (.st 9 (.st 10 (.st 11 (.st 12 (.st 13 (.st 14 (.st 15 (.st 16 (.st 17 (.st 18 (.st 19 (.st 20 (.st 21 (.st 22 (.st 23 (.st 24 (.st 25 (.st 26 (.st 27 .done)))))))))))))))))))))))))))) Tryz.mixed (by kernel_rfl) ?_
     refine EVq_t rfl rfl (T_move rfl) ?_
     refine EVq_t rfl rfl (T_binI rfl rfl rfl (by omega) (by omega)) ?_
     refine EVq_t rfl rfl (T_faR (fOk rfl) (zOk rfl) rfl) ?_
     refine EVq_t rfl rfl (T_loadR (gOk rfl) rfl rfl rfl rfl) ?_
     refine EVq_t rfl rfl (T_move rfl) ?_
     refine EVq_t rfl rfl (T_ixL (uOk rfl) (zOk rfl) rfl rfl (by omega) (by omega) (rfl)) ?_
     refine EVq_t rfl rfl (T_load (gOk rfl) rfl) ?_
     refine EVq_t rfl rfl (T_move rfl) ?_
     refine EVq_t rfl rfl (T_ixL (uOk rfl) (zOk rfl) rfl rfl (by omega) (by omega) (rfl)) ?_
     refine EVq_t rfl rfl (T_fa (fOk rfl) (zOk rfl) rfl (Nat.le_of_ble_eq_true rfl)) ?_
     refine EVq_t rfl rfl (T_fa (fOk rfl) (zOk rfl) rfl (Nat.le_of_ble_eq_true rfl)) ?_
     refine EVq_t rfl rfl (T_load (gOk rfl) rfl) ?_
     refine EVq_t rfl rfl (T_lenL (uOk rfl) rfl) ?_
     refine EVq_t rfl rfl (T_binI rfl rfl rfl (by omega) (by omega)) ?_
     refine EVq_t rfl rfl (T_faR (fOk rfl) (zOk rfl) rfl) ?_
     refine EVq_t rfl rfl (T_loadR (gOk rfl) rfl rfl rfl rfl) ?_
     refine EVq_t rfl rfl (T_move rfl) ?_
     refine EVq_t rfl rfl (T_ixL (uOk rfl) (zOk rfl) rfl rfl (by omega) (by omega) (rfl)) ?_
     refine EVq_t rfl rfl (T_load (gOk rfl) rfl) ?_
     refine EVq_t rfl rfl (T_move rfl) ?_
     refine EVq_t rfl rfl (T_ixL (uOk rfl) (zOk rfl) rfl rfl (by omega) (by omega) (rfl)) ?_
     refine EVq_t rfl rfl (T_fa (fOk rfl) (zOk rfl) rfl (Nat.le_of_ble_eq_true rfl)) ?_
     refine EVq_t rfl rfl (T_fa (fOk rfl) (zOk rfl) rfl (Nat.le_of_ble_eq_true rfl)) ?_
     refine EVq_t rfl rfl (T_load (gOk rfl) rfl) ?_
     refine EVq_t rfl rfl (T_lenS (uOk rfl) rfl) ?_
     refine EVq_t rfl rfl (T_quoN rfl rfl (by omega) (by decide) (by omega)) ?_
     refine EVq_t rfl rfl (T_binI rfl rfl rfl (by omega) (by omega)) ?_
     refine EVq_t rfl rfl (T_assign rfl) ?_
     refine EVq_done ?_
     iterate 5 refine τ ?_
     refine ⟨_, ?_, ω ⟨_, ⟨k + 1, _, rfl, rfl, ?_⟩, W_keep2 _ _ ⟨rfl, rfl, rfl, rfl, trivial⟩ ⟨rfl, trivial⟩ rfl⟩⟩
     ·omega
     ·exact ⟨by omega, by omega, by omega, by omega⟩
    ·try simp only [zz] at hb4
     iterate 6 refine τ ?_
     refine ⟨_, ?_, ω ⟨_, ⟨i + 1, _, rfl, rfl, ?_⟩, W_keep2 _ _ ⟨rfl, rfl, rfl, trivial⟩ ⟨rfl, trivial⟩ rfl⟩⟩
     ·omega
     ·exact ⟨by omega, by omega, by omega, by omega⟩
   ·try simp only [zz] at hb3
    iterate 4 refine τ ?_
    refine EV_cond rfl rfl rfl (fun h => by first | cases h | (exfalso; simp_all; done)) (fun _ => ?_)
    iterate 6 refine τ ?_
    refine ⟨_, ?_, ω ⟨_, ⟨i + 1, _, rfl, rfl, ?_⟩, W_keep2 _ _ ⟨rfl, rfl, rfl, trivial⟩ ⟨rfl, trivial⟩ rfl⟩⟩
    ·omega
    ·exact ⟨by omega, by omega, by omega, by omega⟩
  ·try simp only [zz] at hb2
   iterate 7 refine τ ?_
   refine EV_wl (fun mm S => ∃ i : Int, ∃ m : Int, mm = ((t.ar.length : Int) - i).toNat ∧ S = St.of [(1, vi .i64 m), (2, V.c (.ref 1 0)), (7, vi .i64 i)] (tabO [(1, .box ((tyD t).map (C.nd false)))]) 88 ∧ 0 ≤ i ∧ i ≤ t.ar.length ∧ 0 ≤ m ∧ m ≤ 1000000000000000000) _ ⟨_, ⟨0, _, rfl, rfl, ⟨by omega, by omega, by omega, by omega⟩⟩, W_keep2 _ _ ⟨rfl, rfl, rfl, trivial⟩ ⟨rfl, trivial⟩ rfl⟩ ?_
   rintro mm S ⟨i, m, rfl, rfl, ⟨h0, h1, h2, h3⟩⟩
   iterate 9 refine τ ?_
   refine EVo_case 74 rfl (fun hb5 => ?_) (fun hb5 => ?_)
   ·try simp only [zz] at hb5
    iterate 4 refine τ ?_
    refine EV_cond rfl rfl rfl (fun hb6 => ?_) (fun hb6 => ?_)
    ·try simp only [zz] at hb6
     have hmm := mem_rd (l := t.ar) h0 (by omega)
     iterate 7 refine τ ?_
     refine EVo_t rfl (T_ixL (uOk rfl) (zOk rfl) rfl rfl (by omega) (by omega) (encTy_len _)) ?_
     rw [encTy_eq]
     iterate 2 refine τ ?_
     refine EVo_ce false rfl (hR _ hmm _ (by omega) (by omega)) rfl (φa rfl (φd rfl φn)) ?_
     rintro _ ⟨nw7, rfl, hw0, hw1⟩
     iterate 7 refine τ ?_
     refine ⟨_, ?_, ω ⟨_, ⟨i + 1, _, rfl, rfl, ?_⟩, W_keep2 _ _ ⟨rfl, rfl, rfl, trivial⟩ ⟨rfl, trivial⟩ rfl⟩⟩
     ·omega
     ·exact ⟨by omega, by omega, by omega, by omega⟩
    ·try simp only [zz] at hb6
     iterate 7 refine τ ?_
     refine ⟨_, ⟨_, rfl, ?_, ?_⟩, _, ⟨rfl, rfl⟩, fit_eq rfl nofun rfl⟩
     ·omega
     ·omega
   ·try simp only [zz] at hb5
    iterate 4 refine τ ?_
    refine EV_cond rfl rfl rfl (fun h => by first | cases h | (exfalso; simp_all; done)) (fun _ => ?_)
    iterate 7 refine τ ?_
    refine ⟨_, ⟨_, rfl, ?_, ?_⟩, _, ⟨rfl, rfl⟩, fit_eq rfl nofun rfl⟩
    ·omega
    ·omega
 ·try simp only [zz] at hb1
  iterate 4 refine τ ?_
  refine EV_cond rfl rfl rfl (fun h => by first | cases h | (exfalso; simp_all; done)) (fun _ => ?_)
  iterate 7 refine τ ?_
  refine EV_wl (fun mm S => ∃ i : Int, ∃ m : Int, mm = ((t.ar.length : Int) - i).toNat ∧ S = St.of [(1, vi .i64 m), (2, V.c (.ref 1 0)), (7, vi .i64 i)] (tabO [(1, .box ((tyD t).map (C.nd false)))]) 88 ∧ 0 ≤ i ∧ i ≤ t.ar.length ∧ 0 ≤ m ∧ m ≤ 1000000000000000000) _ ⟨_, ⟨0, _, rfl, rfl, ⟨by omega, by omega, by omega, by omega⟩⟩, W_keep2 _ _ ⟨rfl, rfl, rfl, trivial⟩ ⟨rfl, trivial⟩ rfl⟩ ?_
  rintro mm S ⟨i, m, rfl, rfl, ⟨h0, h1, h2, h3⟩⟩
  iterate 9 refine τ ?_
  refine EVo_case 74 rfl (fun hb8 => ?_) (fun hb8 => ?_)
  ·try simp only [zz] at hb8
   iterate 4 refine τ ?_
   refine EV_cond rfl rfl rfl (fun hb9 => ?_) (fun hb9 => ?_)
   ·try simp only [zz] at hb9
    have hmm := mem_rd (l := t.ar) h0 (by omega)
    iterate 7 refine τ ?_
    refine EVo_t rfl (T_ixL (uOk rfl) (zOk rfl) rfl rfl (by omega) (by omega) (encTy_len _)) ?_
    rw [encTy_eq]
    iterate 2 refine τ ?_
    refine EVo_ce false rfl (hR _ hmm _ (by omega) (by omega)) rfl (φa rfl (φd rfl φn)) ?_
    rintro _ ⟨nw10, rfl, hw0, hw1⟩
    iterate 7 refine τ ?_
    refine ⟨_, ?_, ω ⟨_, ⟨i + 1, _, rfl, rfl, ?_⟩, W_keep2 _ _ ⟨rfl, rfl, rfl, trivial⟩ ⟨rfl, trivial⟩ rfl⟩⟩
    ·omega
    ·exact ⟨by omega, by omega, by omega, by omega⟩
   ·try simp only [zz] at hb9
    iterate 7 refine τ ?_
    refine ⟨_, ⟨_, rfl, ?_, ?_⟩, _, ⟨rfl, rfl⟩, fit_eq rfl nofun rfl⟩
    ·omega
    ·omega
  ·try simp only [zz] at hb8
   iterate 4 refine τ ?_
   refine EV_cond rfl rfl rfl (fun h => by first | cases h | (exfalso; simp_all; done)) (fun _ => ?_)
   iterate 7 refine τ ?_
   refine ⟨_, ⟨_, rfl, ?_, ?_⟩, _, ⟨rfl, rfl⟩, fit_eq rfl nofun rfl⟩
   ·omega
   ·omega

theorem hev_weigh (t : Ty) (ht : szT t) : WgT t := all_T (fun t ht hR n h0 h1 => hev_weighA t ht hR n h0 h1) t ht

theorem hev_Heavy (t : Ty) (ht : szT t) : FnE Tryz.prog 77 [.agg (tyD t)] false ((fun r => ∃ b : Bool, r = .one (.d (ib b)))) := by
 refine FnE_of_EV Tryz.func77 rfl (by kernel_rfl) rfl rfl (fun E hE => ?_)
 iterate 2 refine τ ?_
 refine EVo_e rfl (D_box 1 (hE 1 rfl) Free_no rfl) ?_
 iterate 5 refine τ ?_
 refine EVo_ce false rfl (hev_weigh _ ht _ (by omega) (by omega)) rfl (φa rfl (φd rfl φn)) ?_
 rintro _ ⟨nw1, rfl, hw0, hw1⟩
 iterate 4 refine τ ?_
 refine ⟨_, ⟨_, rfl⟩, _, ⟨rfl, rfl⟩, fit_eq rfl nofun rfl⟩

theorem hev_SlotsA (t : Ty) (ht : szT t) (hR : ∀ x ∈ t.ar, SlT x) (n : Int) (hn0 : 0 ≤ n) (hn1 : n ≤ 100) : FnE Tryz.prog 78 [.agg (tyD t), .d (ii n), .d (ii 100)] false ((fun r => ∃ n : Int, r = .one (.d (ii n)) ∧ 0 ≤ n ∧ n ≤ 549755814000)) := by
 have ht1 := (szT_eq ht).1
 have ht2 := (szT_eq ht).2.1
 have ht3 := szT_us ht
 have ht4 := ht3.1
 have ht5 := (szT_eq ht).2.2.2.2
 refine FnE_of_EV Tryz.func78 rfl (by kernel_rfl) rfl rfl (fun E hE => ?_)
 iterate 2 refine τ ?_
 refine EVo_e rfl (D_box 1 (hE 1 rfl) Free_no rfl) ?_
 iterate 17 refine τ ?_
 refine EV_wl (fun mm S => ∃ i : Int, ∃ m : Int, mm = ((t.ar.length : Int) - i).toNat ∧ S = St.of [(1, vi .i64 m), (2, vi .i64 100), (3, V.c (.ref 1 0)), (7, vi .i64 i)] (tabO [(1, .box ((tyD t).map (C.nd false)))]) 34 ∧ 0 ≤ i ∧ i ≤ t.ar.length ∧ 0 ≤ m ∧ m ≤ 549755814000) _ ⟨_, ⟨0, _, rfl, rfl, ⟨by omega, by omega, by omega, by omega⟩⟩, W_keep2 _ _ ⟨rfl, rfl, rfl, rfl, trivial⟩ ⟨rfl, trivial⟩ rfl⟩ ?_
 rintro mm S ⟨i, m, rfl, rfl, ⟨h0, h1, h2, h3⟩⟩
 iterate 9 refine τ ?_
 refine EVo_case 18 rfl (fun hb1 => ?_) (fun hb1 => ?_)
 ·try simp only [zz] at hb1
  iterate 5 refine τ ?_
  refine EV_cond rfl rfl rfl (fun hb2 => ?_) (fun hb2 => ?_)
  ·try simp only [zz] at hb2
   have hmm := mem_rd (l := t.ar) h0 (by omega)
   iterate 7 refine τ ?_
   refine EVo_t rfl (T_ixL (uOk rfl) (zOk rfl) rfl rfl (by omega) (by omega) (encTy_len _)) ?_
   rw [encTy_eq]
   iterate 3 refine τ ?_
   refine EVo_ce false rfl (hR _ hmm _ (by omega) (by omega)) rfl (φa rfl (φd rfl (φd rfl φn))) ?_
   rintro _ ⟨nw3, rfl, hw0, hw1⟩
   iterate 7 refine τ ?_
   refine ⟨_, ?_, ω ⟨_, ⟨i + 1, _, rfl, rfl, ?_⟩, W_keep2 _ _ ⟨rfl, rfl, rfl, rfl, trivial⟩ ⟨rfl, trivial⟩ rfl⟩⟩
   ·omega
   ·exact ⟨by omega, by omega, by omega, by omega⟩
  ·try simp only [zz] at hb2
   iterate 7 refine τ ?_
   refine ⟨_, ⟨_, rfl, ?_, ?_⟩, _, ⟨rfl, rfl⟩, fit_eq rfl nofun rfl⟩
   ·omega
   ·omega
 ·try simp only [zz] at hb1
  iterate 5 refine τ ?_
  refine EV_cond rfl rfl rfl (fun h => by first | cases h | (exfalso; simp_all; done)) (fun _ => ?_)
  iterate 7 refine τ ?_
  refine ⟨_, ⟨_, rfl, ?_, ?_⟩, _, ⟨rfl, rfl⟩, fit_eq rfl nofun rfl⟩
  ·omega
  ·omega

theorem hev_Slots (t : Ty) (ht : szT t) : SlT t := all_T (fun t ht hR n h0 h1 => hev_SlotsA t ht hR n h0 h1) t ht

theorem hev_longA (t : Ty) (ht : szT t) (hR : ∀ x ∈ t.ar, LoT x) : FnE Tryz.prog 79 [.agg (tyD t)] false ((fun r => ∃ b : Bool, r = .one (.d (ib b)))) := by
 have ht1 := (szT_eq ht).1
 have ht2 := (szT_eq ht).2.1
 have ht3 := szT_us ht
 have ht4 := ht3.1
 have ht5 := (szT_eq ht).2.2.2.2
 refine FnE_of_EV Tryz.func79 rfl (by kernel_rfl) rfl rfl (fun E hE => ?_)
 iterate 2 refine τ ?_
 refine EVo_e rfl (D_box 1 (hE 1 rfl) Free_no rfl) ?_
 iterate 8 refine τ ?_
 refine EV_wl (fun mm S => ∃ i : Int, mm = ((t.us.length : Int) - i).toNat ∧ S = St.of [(1, V.c (.ref 1 0)), (3, vi .i64 i)] (tabO [(1, .box ((tyD t).map (C.nd false)))]) 55 ∧ 0 ≤ i ∧ i ≤ t.us.length) _ ⟨_, ⟨0, rfl, rfl, ⟨by omega, by omega⟩⟩, W_keep2 _ _ ⟨rfl, rfl, trivial⟩ ⟨rfl, trivial⟩ rfl⟩ ?_
 rintro mm S ⟨i, rfl, rfl, ⟨h0, h1⟩⟩
 iterate 9 refine τ ?_
 refine EV_cond rfl rfl rfl (fun hb1 => ?_) (fun hb1 => ?_)
 ·try simp only [zz] at hb1
  have hu := szUsL_rd ht3 h0 (by omega)
  have hu1 := hu.1
  iterate 9 refine τ ?_
  refine EVo_t rfl (T_ixL (uOk rfl) (zOk rfl) rfl rfl (by omega) (by omega) (rfl)) ?_
  iterate 4 refine τ ?_
  refine EV_cond rfl rfl rfl (fun hb2 => ?_) (fun hb2 => ?_)
  ·try simp only [zz] at hb2
   iterate 5 refine τ ?_
   refine ⟨_, ⟨_, rfl⟩, _, ⟨rfl, rfl⟩, fit_eq rfl nofun rfl⟩
  ·try simp only [zz] at hb2
   iterate 6 refine τ ?_
   refine EV_wl (fun mm S => ∃ k : Int, mm = (((rd t.us i).length : Int) - k).toNat ∧ S = St.of [(1, V.c (.ref 1 0)), (3, vi .i64 i), (4, vi .i64 k)] (tabO [(1, .box ((tyD t).map (C.nd false)))]) 55 ∧ 0 ≤ k ∧ k ≤ (rd t.us i).length) _ ⟨_, ⟨0, rfl, rfl, ⟨by omega, by omega⟩⟩, W_keep2 _ _ ⟨rfl, rfl, rfl, trivial⟩ ⟨rfl, trivial⟩ rfl⟩ ?_
   rintro mm S ⟨k, rfl, rfl, ⟨k0, k1⟩⟩
   iterate 7 refine τ ?_
   refine EVo_t rfl (T_ixL (uOk rfl) (zOk rfl) rfl rfl (by omega) (by omega) (rfl)) ?_
   iterate 4 refine τ ?_
   refine EV_cond rfl rfl rfl (fun hb3 => ?_) (fun hb3 => ?_)
   ·try simp only [zz] at hb3
    obtain ⟨hp1, hp2, hp3⟩ := szU_rd hu k0 (by omega)
    iterate 8 refine τ ?_
    refine EVo_t rfl (T_ixL (uOk rfl) (zOk rfl) rfl rfl (by omega) (by omega) (rfl)) ?_
    iterate 2 refine τ ?_
    refine EVo_t rfl (T_ixL (uOk rfl) (zOk rfl) rfl rfl (by omega) (by omega) (rfl)) ?_
    iterate 6 refine τ ?_
    refine EV_cond rfl rfl rfl (fun hb4 => ?_) (fun hb4 => ?_)
    ·try simp only [zz] at hb4
     iterate 5 refine τ ?_
     refine ⟨_, ⟨_, rfl⟩, _, ⟨rfl, rfl⟩, fit_eq rfl nofun rfl⟩
    ·try simp only [zz] at hb4
     iterate 6 refine τ ?_
     refine ⟨_, ?_, ω ⟨_, ⟨k + 1, rfl, rfl, ?_⟩, W_keep2 _ _ ⟨rfl, rfl, rfl, trivial⟩ ⟨rfl, trivial⟩ rfl⟩⟩
     ·omega
     ·exact ⟨by omega, by omega⟩
   ·try simp only [zz] at hb3
    iterate 6 refine τ ?_
    refine ⟨_, ?_, ω ⟨_, ⟨i + 1, rfl, rfl, ?_⟩, W_keep2 _ _ ⟨rfl, rfl, trivial⟩ ⟨rfl, trivial⟩ rfl⟩⟩
    ·omega
    ·exact ⟨by omega, by omega⟩
 ·try simp only [zz] at hb1
  iterate 7 refine τ ?_
  refine EV_wl (fun mm S => ∃ i : Int, mm = ((t.ar.length : Int) - i).toNat ∧ S = St.of [(1, V.c (.ref 1 0)), (5, vi .i64 i)] (tabO [(1, .box ((tyD t).map (C.nd false)))]) 55 ∧ 0 ≤ i ∧ i ≤ t.ar.length) _ ⟨_, ⟨0, rfl, rfl, ⟨by omega, by omega⟩⟩, W_keep2 _ _ ⟨rfl, rfl, trivial⟩ ⟨rfl, trivial⟩ rfl⟩ ?_
  rintro mm S ⟨i, rfl, rfl, ⟨h0, h1⟩⟩
  iterate 9 refine τ ?_
  refine EV_cond rfl rfl rfl (fun hb5 => ?_) (fun hb5 => ?_)
  ·try simp only [zz] at hb5
   have hmm := mem_rd (l := t.ar) h0 (by omega)
   iterate 8 refine τ ?_
   refine EVo_t rfl (T_ixL (uOk rfl) (zOk rfl) rfl rfl (by omega) (by omega) (encTy_len _)) ?_
   rw [encTy_eq]
   refine τ ?_
   refine EVo_ce false rfl (hR _ hmm) rfl (φa rfl φn) ?_
   rintro _ ⟨bw6, rfl⟩
   refine τ ?_
   refine EV_cond rfl rfl rfl (fun hb7 => ?_) (fun hb7 => ?_)
   ·try simp only [zz] at hb7
    iterate 5 refine τ ?_
    refine ⟨_, ⟨_, rfl⟩, _, ⟨rfl, rfl⟩, fit_eq rfl nofun rfl⟩
   ·try simp only [zz] at hb7
    iterate 6 refine τ ?_
    refine ⟨_, ?_, ω ⟨_, ⟨i + 1, rfl, rfl, ?_⟩, W_keep2 _ _ ⟨rfl, rfl, trivial⟩ ⟨rfl, trivial⟩ rfl⟩⟩
    ·omega
    ·exact ⟨by omega, by omega⟩
  ·try simp only [zz] at hb5
   iterate 6 refine τ ?_
   refine ⟨_, ⟨_, rfl⟩, _, ⟨rfl, rfl⟩, fit_eq rfl nofun rfl⟩

theorem hev_long (t : Ty) (ht : szT t) : LoT t := all_T (fun t ht hR => hev_longA t ht hR) t ht

theorem hev_Scheme (a b : Int) (t : Ty) (ht : szT t) : FnE Tryz.prog 30 [.agg (scD a b t)] false ((fun r => ∃ b : Bool, r = .one (.d (ib b)))) := by
 refine FnE_of_EV Tryz.func30 rfl (by kernel_rfl) rfl rfl (fun E hE => ?_)
 iterate 2 refine τ ?_
 refine EVo_e rfl (D_box 1 (hE 1 rfl) Free_no rfl) ?_
 iterate 6 refine τ ?_
 refine EVo_ce false rfl (hev_Heavy _ (by assumption)) rfl (φa rfl φn) ?_
 rintro _ ⟨bw1, rfl⟩
 refine τ ?_
 refine EVo_case 6 rfl (fun hb2 => ?_) (fun hb2 => ?_)
 ·try simp only [zz] at hb2
  iterate 13 refine τ ?_
  refine ⟨_, ⟨_, rfl⟩, _, ⟨rfl, rfl⟩, fit_eq rfl nofun rfl⟩
 ·try simp only [zz] at hb2
  iterate 2 refine τ ?_
  refine EVo_ce false rfl (hev_Slots _ ht _ (by omega) (by omega)) rfl (φa rfl (φd rfl (φd rfl φn))) ?_
  rintro _ ⟨nw3, rfl, hw0, hw1⟩
  iterate 3 refine τ ?_
  refine EVo_case 12 rfl (fun hb4 => ?_) (fun hb4 => ?_)
  ·try simp only [zz] at hb4
   iterate 7 refine τ ?_
   refine ⟨_, ⟨_, rfl⟩, _, ⟨rfl, rfl⟩, fit_eq rfl nofun rfl⟩
  ·try simp only [zz] at hb4
   iterate 2 refine τ ?_
   refine EVo_ce false rfl (hev_long _ (by assumption)) rfl (φa rfl φn) ?_
   rintro _ ⟨bw5, rfl⟩
   iterate 4 refine τ ?_
   refine ⟨_, ⟨_, rfl⟩, _, ⟨rfl, rfl⟩, fit_eq rfl nofun rfl⟩

/-- What the laws of scales are asked with: a scheme, rates, more rates, arguments. -/
structure Ask where
 a : Int
 b : Int
 t : Ty
 P : List Rq
 Q : List Rq
 A : List Rq
instance : Inhabited Ask := ⟨⟨0, 0, default, [], [], []⟩⟩
def encAsk (x : Ask) : List D := [ii x.a, ii x.b, ii x.t.k, ii x.t.n, sd x.t.s, .sl (x.t.ar.map encTy), encUs x.t.us, encRqs x.P, encRqs x.Q, encRqs x.A]
def szAsk (x : Ask) : Prop := szT x.t ∧ szRqs x.P ∧ szRqs x.Q ∧ szRqs x.A

theorem hev_Ask (x : Ask) (hx : szAsk x) : FnE Tryz.prog 6 [.agg (encAsk x)] false ((fun r => ∃ b : Bool, r = .one (.d (ib b)))) := by
 obtain ⟨ht, hP, hQ, hA⟩ := hx
 have hP1 := hP.1
 have hQ1 := hQ.1
 have hA1 := hA.1
 refine FnE_of_EV Tryz.func6 rfl (by kernel_rfl) rfl rfl (fun E hE => ?_)
 iterate 2 refine τ ?_
 refine EVo_e rfl (D_box 1 (hE 1 rfl) Free_no rfl) ?_
 iterate 7 refine τ ?_
 refine EVo_ce false rfl (hev_Scheme _ _ _ (by assumption)) rfl (φa rfl φn) ?_
 rintro _ ⟨bw1, rfl⟩
 refine τ ?_
 refine EVo_case 10 rfl (fun hb2 => ?_) (fun hb2 => ?_)
 ·try simp only [zz] at hb2
  iterate 18 refine τ ?_
  refine EV_cond rfl rfl rfl (fun _ => ?_) (fun h => by first | cases h | (exfalso; simp_all; done))
  iterate 5 refine τ ?_
  refine ⟨_, ⟨_, rfl⟩, _, ⟨rfl, rfl⟩, fit_eq rfl nofun rfl⟩
 ·try simp only [zz] at hb2
  iterate 6 refine τ ?_
  refine EVo_case 16 rfl (fun hb3 => ?_) (fun hb3 => ?_)
  ·try simp only [zz] at hb3
   iterate 12 refine τ ?_
   refine EV_cond rfl rfl rfl (fun _ => ?_) (fun h => by first | cases h | (exfalso; simp_all; done))
   iterate 5 refine τ ?_
   refine ⟨_, ⟨_, rfl⟩, _, ⟨rfl, rfl⟩, fit_eq rfl nofun rfl⟩
  ·try simp only [zz] at hb3
   iterate 6 refine τ ?_
   refine EVo_case 22 rfl (fun hb4 => ?_) (fun hb4 => ?_)
   ·try simp only [zz] at hb4
    iterate 6 refine τ ?_
    refine EV_cond rfl rfl rfl (fun _ => ?_) (fun h => by first | cases h | (exfalso; simp_all; done))
    iterate 5 refine τ ?_
    refine ⟨_, ⟨_, rfl⟩, _, ⟨rfl, rfl⟩, fit_eq rfl nofun rfl⟩
   ·try simp only [zz] at hb4
    iterate 6 refine τ ?_
    refine EV_cond rfl rfl rfl (fun hb5 => ?_) (fun hb5 => ?_)
    ·try simp only [zz] at hb5
     iterate 5 refine τ ?_
     refine ⟨_, ⟨_, rfl⟩, _, ⟨rfl, rfl⟩, fit_eq rfl nofun rfl⟩
    ·try simp only [zz] at hb5
     iterate 11 refine τ ?_
     refine EV_wl (fun mm S => ∃ i : Int, ∃ m : Int, mm = ((x.P.length : Int) - i).toNat ∧ S = St.of [(1, V.c (.ref 1 0)), (3, vi .i64 m), (4, vi .i64 i)] (tabO [(1, .box ((encAsk x).map (C.nd false)))]) 106 ∧ 0 ≤ i ∧ i ≤ x.P.length ∧ 0 ≤ m ∧ m ≤ 0 + i * 1099511627776) _ ⟨_, ⟨0, _, rfl, rfl, ⟨by omega, by omega, by omega, by omega⟩⟩, W_keep2 _ _ ⟨rfl, rfl, rfl, trivial⟩ ⟨rfl, trivial⟩ rfl⟩ ?_
     rintro mm S ⟨i, m, rfl, rfl, ⟨h0, h1, h2, h3⟩⟩
     iterate 9 refine τ ?_
     refine EV_cond rfl rfl rfl (fun hb6 => ?_) (fun hb6 => ?_)
     ·try simp only [zz] at hb6
      obtain ⟨⟨hr1, hr2⟩, hr3, hr4⟩ := szRqs_rd hP h0 (by omega)
      iterate 3 refine τ ?_
      refine EV_draw (inX [1]) (.st 0 (.st 1 (.st 2 (.st 3 (.st 4 (.st 5 (.st 6 (.st 7 (.st 8 (.st 9 (.st 10 (.st 11 (.st 12 (.st 13 (.st 14 (.st 15 (.st 16 (.st 17 (.st 18 .done))))))))))))))))))) Tryz.mixed (by kernel_rfl) ?_
      refine EVq_t rfl rfl (T_move rfl) ?_
      refine EVq_t rfl rfl (T_faR (fOk rfl) (zOk rfl) rfl) ?_
      refine EVq_t rfl rfl (T_loadR (gOk rfl) rfl rfl rfl rfl) ?_
      refine EVq_t rfl rfl (T_move rfl) ?_
      refine EVq_t rfl rfl (T_ixL (uOk rfl) (zOk rfl) rfl rfl (by omega) (by omega) (rfl)) ?_
      refine EVq_t rfl rfl (T_fa (fOk rfl) (zOk rfl) rfl (Nat.le_of_ble_eq_true rfl)) ?_
      refine EVq_t rfl rfl (T_fa (fOk rfl) (zOk rfl) rfl (Nat.le_of_ble_eq_true rfl)) ?_
      refine EVq_t rfl rfl (T_load (gOk rfl) rfl) ?_
      refine EVq_t rfl rfl (T_lenL (uOk rfl) rfl) ?_
      refine EVq_t rfl rfl (T_binI rfl rfl rfl (by omega) (by omega)) ?_
      refine EVq_t rfl rfl (T_faR (fOk rfl) (zOk rfl) rfl) ?_
      refine EVq_t rfl rfl (T_loadR (gOk rfl) rfl rfl rfl rfl) ?_
      refine EVq_t rfl rfl (T_move rfl) ?_
      refine EVq_t rfl rfl (T_ixL (uOk rfl) (zOk rfl) rfl rfl (by omega) (by omega) (rfl)) ?_
      refine EVq_t rfl rfl (T_fa (fOk rfl) (zOk rfl) rfl (Nat.le_of_ble_eq_true rfl)) ?_
      refine EVq_t rfl rfl (T_load (gOk rfl) rfl) ?_
      refine EVq_t rfl rfl (T_lenL (uOk rfl) rfl) ?_
      refine EVq_t rfl rfl (T_binI rfl rfl rfl (by omega) (by omega)) ?_
      refine EVq_t rfl rfl (T_assign rfl) ?_
      refine EVq_done ?_
      iterate 5 refine τ ?_
      refine ⟨_, ?_, ω ⟨_, ⟨i + 1, _, rfl, rfl, ?_⟩, W_keep2 _ _ ⟨rfl, rfl, rfl, trivial⟩ ⟨rfl, trivial⟩ rfl⟩⟩
      ·omega
      ·exact ⟨by omega, by omega, by omega, by omega⟩
     ·try simp only [zz] at hb6
      iterate 7 refine τ ?_
      refine EV_wl (fun mm S => ∃ i : Int, ∃ m : Int, mm = ((x.Q.length : Int) - i).toNat ∧ S = St.of [(1, V.c (.ref 1 0)), (3, vi .i64 m), (5, vi .i64 i)] (tabO [(1, .box ((encAsk x).map (C.nd false)))]) 106 ∧ 0 ≤ i ∧ i ≤ x.Q.length ∧ 0 ≤ m ∧ m ≤ 20000000000000 + i * 1099511627776) _ ⟨_, ⟨0, _, rfl, rfl, ⟨by omega, by omega, by omega, by omega⟩⟩, W_keep2 _ _ ⟨rfl, rfl, rfl, trivial⟩ ⟨rfl, trivial⟩ rfl⟩ ?_
      rintro mm S ⟨i, m, rfl, rfl, ⟨h0, h1, h2, h3⟩⟩
      iterate 9 refine τ ?_
      refine EV_cond rfl rfl rfl (fun hb7 => ?_) (fun hb7 => ?_)
      ·try simp only [zz] at hb7
       obtain ⟨⟨hr1, hr2⟩, hr3, hr4⟩ := szRqs_rd hQ h0 (by omega)
       iterate 3 refine τ ?_
       refine EV_draw (inX [1]) (.st 0 (.st 1 (.st 2 (.st 3 (.st 4 (.st 5 (.st 6 (.st 7 (.st 8 (.st 9 (.st 10 (.st 11 (.st 12 (.st 13 (.st 14 (.st 15 (.st 16 (.st 17 (.st 18 .done))))))))))))))))))) Tryz.mixed (by kernel_rfl) ?_
       refine EVq_t rfl rfl (T_move rfl) ?_
       refine EVq_t rfl rfl (T_faR (fOk rfl) (zOk rfl) rfl) ?_
       refine EVq_t rfl rfl (T_loadR (gOk rfl) rfl rfl rfl rfl) ?_
       refine EVq_t rfl rfl (T_move rfl) ?_
       refine EVq_t rfl rfl (T_ixL (uOk rfl) (zOk rfl) rfl rfl (by omega) (by omega) (rfl)) ?_
       refine EVq_t rfl rfl (T_fa (fOk rfl) (zOk rfl) rfl (Nat.le_of_ble_eq_true rfl)) ?_
       refine EVq_t rfl rfl (T_fa (fOk rfl) (zOk rfl) rfl (Nat.le_of_ble_eq_true rfl)) ?_
       refine EVq_t rfl rfl (T_load (gOk rfl) rfl) ?_
       refine EVq_t rfl rfl (T_lenL (uOk rfl) rfl) ?_
       refine EVq_t rfl rfl (T_binI rfl rfl rfl (by omega) (by omega)) ?_
       refine EVq_t rfl rfl (T_faR (fOk rfl) (zOk rfl) rfl) ?_
       refine EVq_t rfl rfl (T_loadR (gOk rfl) rfl rfl rfl rfl) ?_
       refine EVq_t rfl rfl (T_move rfl) ?_
       refine EVq_t rfl rfl (T_ixL (uOk rfl) (zOk rfl) rfl rfl (by omega) (by omega) (rfl)) ?_
       refine EVq_t rfl rfl (T_fa (fOk rfl) (zOk rfl) rfl (Nat.le_of_ble_eq_true rfl)) ?_
       refine EVq_t rfl rfl (T_load (gOk rfl) rfl) ?_
       refine EVq_t rfl rfl (T_lenL (uOk rfl) rfl) ?_
       refine EVq_t rfl rfl (T_binI rfl rfl rfl (by omega) (by omega)) ?_
       refine EVq_t rfl rfl (T_assign rfl) ?_
       refine EVq_done ?_
       iterate 5 refine τ ?_
       refine ⟨_, ?_, ω ⟨_, ⟨i + 1, _, rfl, rfl, ?_⟩, W_keep2 _ _ ⟨rfl, rfl, rfl, trivial⟩ ⟨rfl, trivial⟩ rfl⟩⟩
       ·omega
       ·exact ⟨by omega, by omega, by omega, by omega⟩
      ·try simp only [zz] at hb7
       iterate 7 refine τ ?_
       refine EV_wl (fun mm S => ∃ i : Int, ∃ m : Int, mm = ((x.A.length : Int) - i).toNat ∧ S = St.of [(1, V.c (.ref 1 0)), (3, vi .i64 m), (6, vi .i64 i)] (tabO [(1, .box ((encAsk x).map (C.nd false)))]) 106 ∧ 0 ≤ i ∧ i ≤ x.A.length ∧ 0 ≤ m ∧ m ≤ 40000000000000 + i * 1099511627776) _ ⟨_, ⟨0, _, rfl, rfl, ⟨by omega, by omega, by omega, by omega⟩⟩, W_keep2 _ _ ⟨rfl, rfl, rfl, trivial⟩ ⟨rfl, trivial⟩ rfl⟩ ?_
       rintro mm S ⟨i, m, rfl, rfl, ⟨h0, h1, h2, h3⟩⟩
       iterate 9 refine τ ?_
       refine EV_cond rfl rfl rfl (fun hb8 => ?_) (fun hb8 => ?_)
       ·try simp only [zz] at hb8
        obtain ⟨⟨hr1, hr2⟩, hr3, hr4⟩ := szRqs_rd hA h0 (by omega)
        iterate 3 refine τ ?_
        refine EV_draw (inX [1]) (.st 0 (.st 1 (.st 2 (.st 3 (.st 4 (.st 5 (.st 6 (.st 7 (.st 8 (.st 9 (.st 10 (.st 11 (.st 12 (.st 13 (.st 14 (.st 15 (.st 16 (.st 17 (.st 18 (.st 19 .done)))))))))))))))))))) Tryz.mixed (by kernel_rfl) ?_
        refine EVq_t rfl rfl (T_move rfl) ?_
        refine EVq_t rfl rfl (T_faR (fOk rfl) (zOk rfl) rfl) ?_
        refine EVq_t rfl rfl (T_loadR (gOk rfl) rfl rfl rfl rfl) ?_
        refine EVq_t rfl rfl (T_move rfl) ?_
        refine EVq_t rfl rfl (T_ixL (uOk rfl) (zOk rfl) rfl rfl (by omega) (by omega) (rfl)) ?_
        refine EVq_t rfl rfl (T_fa (fOk rfl) (zOk rfl) rfl (Nat.le_of_ble_eq_true rfl)) ?_
        refine EVq_t rfl rfl (T_fa (fOk rfl) (zOk rfl) rfl (Nat.le_of_ble_eq_true rfl)) ?_
        refine EVq_t rfl rfl (T_load (gOk rfl) rfl) ?_
        refine EVq_t rfl rfl (T_lenL (uOk rfl) rfl) ?_
        refine EVq_t rfl rfl (T_faR (fOk rfl) (zOk rfl) rfl) ?_
        refine EVq_t rfl rfl (T_loadR (gOk rfl) rfl rfl rfl rfl) ?_
        refine EVq_t rfl rfl (T_move rfl) ?_
        refine EVq_t rfl rfl (T_ixL (uOk rfl) (zOk rfl) rfl rfl (by omega) (by omega) (rfl)) ?_
        refine EVq_t rfl rfl (T_fa (fOk rfl) (zOk rfl) rfl (Nat.le_of_ble_eq_true rfl)) ?_
        refine EVq_t rfl rfl (T_load (gOk rfl) rfl) ?_
        refine EVq_t rfl rfl (T_lenL (uOk rfl) rfl) ?_
        refine EVq_t rfl rfl (T_binI rfl rfl rfl (by omega) (by omega)) ?_
        refine EVq_t rfl rfl (T_quoN rfl rfl (by omega) (by decide) (by omega)) ?_
        refine EVq_t rfl rfl (T_binI rfl rfl rfl (by omega) (by omega)) ?_
        refine EVq_t rfl rfl (T_assign rfl) ?_
        refine EVq_done ?_
        iterate 5 refine τ ?_
        refine ⟨_, ?_, ω ⟨_, ⟨i + 1, _, rfl, rfl, ?_⟩, W_keep2 _ _ ⟨rfl, rfl, rfl, trivial⟩ ⟨rfl, trivial⟩ rfl⟩⟩
        ·omega
        ·exact ⟨by omega, by omega, by omega, by omega⟩
       ·try simp only [zz] at hb8
        iterate 8 refine τ ?_
        refine ⟨_, ⟨_, rfl⟩, _, ⟨rfl, rfl⟩, fit_eq rfl nofun rfl⟩

end Go.Proofs.YthaiegnohkiegaaGreat.Ab
/-
 By some rates and then by others is by their products: the walk.
-/
namespace Go.Proofs.YthaiegnohkiegaaGreat.Ab
set_option linter.unusedVariables false
set_option linter.unusedSimpArgs false
set_option maxRecDepth 20000
set_option maxHeartbeats 4000000
attribute [local irreducible] Tells Does EVo EV EVq EVr TellsC


/-- What fits of a type, of numbers. -/
def okTy (t : Ty) : Prop := szT t ∧ (tysT t).length ≤ 1099511627776 ∧ (usT t).length ≤ 1099511627776 ∧ (numsT t).length ≤ 549755813888 ∧ ∀ x ∈ numsT t, (rd x.us 0).length ≤ 16777216
def okQs (l : List Rat) : Prop := l.length ≤ 549755813888 ∧ ∀ q ∈ l, szQ q ≤ 274877906944
def Rq.q (r : Rq) : Rat := ratV r.neg r.num r.den
def fineQ (l : List Rq) : Bool := l.all fun r => ratB r.neg r.num r.den
def smallQ (l : List Rq) : Prop := ∀ r ∈ l, r.num.length + r.den.length ≤ 2097152
def okAsk (x : Ask) : Prop := szAsk x ∧ okTy x.t ∧ smallQ x.P ∧ smallQ x.Q ∧ smallQ x.A
theorem encRqs_q {l : List Rq} (hl : szRqs l) (h : fineQ l = true) : encRqs l = encQs (l.map Rq.q) := by
 show D.sl _ = D.sl _
 rw [List.map_map]
 refine congrArg D.sl (List.map_congr_left fun r hr => ?_)
 obtain ⟨_, h3, h4⟩ := hl.2 r hr
 exact ratV_enc h3 h4 (List.all_eq_true.1 h r hr)
theorem qs_ok {l : List Rq} (hl : szRqs l) (h : fineQ l = true) (hs : smallQ l) : okQs (l.map Rq.q) := ⟨by rw [List.length_map]; exact hl.1, fun q hq => by
 obtain ⟨r, hr, rfl⟩ := List.mem_map.1 hq
 obtain ⟨_, h3, h4⟩ := hl.2 r hr
 obtain ⟨f1, f2⟩ := row_facts h3 h4 (List.all_eq_true.1 h r hr)
 have := hs r hr
 unfold szQ Rq.q
 rw [f1, f2]
 omega⟩
def askQ (a b : Int) (t : Ty) (p q xs : List Rat) : List D := [ii a, ii b, ii t.k, ii t.n, sd t.s, .sl (t.ar.map encTy), encUs t.us, encQs p, encQs q, encQs xs]
theorem ask_all {x : Ask} (hx : okAsk x) (h1 : fineQ x.P = true) (h2 : fineQ x.Q = true) (h3 : fineQ x.A = true) : ∃ a b t p q xs, encAsk x = askQ a b t p q xs ∧ okTy t ∧ okQs p ∧ okQs q ∧ okQs xs := by
 obtain ⟨⟨_, z1, z2, z3⟩, ht, s1, s2, s3⟩ := hx
 refine ⟨x.a, x.b, x.t, x.P.map Rq.q, x.Q.map Rq.q, x.A.map Rq.q, ?_, ht, qs_ok z1 h1 s1, qs_ok z2 h2 s2, qs_ok z3 h3 s3⟩
 unfold encAsk askQ
 rw [encRqs_q z1 h1, encRqs_q z2 h2, encRqs_q z3 h3]
abbrev byC (o : Option Rat) : List C := [C.nd false (ib (byT o).1), C.nd false (encN (byT o).2.1), C.nd false (encN (byT o).2.2)]
def toRq (q : Rat) : Rq := ⟨decide (q.num < 0), limbs q.num.natAbs, limbs q.den⟩
theorem toRq_enc (q : Rat) : encRq (toRq q) = encQ q := rfl
theorem cop_RatsQ (l : List Rat) (h : okQs l) : Fn Tryz.prog 8 [.d (encQs l)] true (.one (.d (encQs l))) := by
 have := cop_Rats (l.map toRq) ⟨by rw [List.length_map]; exact h.1, fun r hr => by
  obtain ⟨q, hq, rfl⟩ := List.mem_map.1 hr
  have := h.2 q hq
  unfold szQ at this
  exact ⟨⟨by simp only [toRq]; omega, by simp only [toRq]; omega⟩, okL_limbs _, okL_limbs _⟩⟩
 have e : (l.map toRq).map encRq = l.map encQ := by rw [List.map_map]; rfl
 rw [e] at this
 exact this
theorem scl_Q (a b : Int) (t : Ty) (p xs : List Rat) (ht : okTy t) (hpl : p.length ≤ 549755813888) (hps : ∀ q ∈ p, szQ q ≤ 1099511627776) (hx : okQs xs) :
  Fn Tryz.prog 9 [.agg (scD a b t), .d (encQs p), .d (encQs xs)] false (.tup [.d (encQs (scaleR a b t p xs).1), .agg [ib (byT (scaleR a b t p xs).2.1).1, encN (byT (scaleR a b t p xs).2.1).2.1, encN (byT (scaleR a b t p xs).2.1).2.2], .d (ii (scaleR a b t p xs).2.2)]) := by
 obtain ⟨h1, h2, h3, h4, h5⟩ := ht
 have := sca_Scale a b t p xs h1 h2 h3 h4 hpl hx.1 hps (fun q hq => by have := hx.2 q hq; omega) h5 (fun hg hn hp => units_ok h1 hg hn hp)
 rw [byD_eq] at this
 exact this
theorem loopR_sz {p : List Rat} (hp : okP p 8) : ∀ (l : List Ty) (xs ys : List Rat), loopR p l xs = some ys → (∀ x ∈ xs, szQ x ≤ 128) → (∀ t ∈ l, okS p (rd t.us 0) ∧ (rd t.us 0).length ≤ 16777216) → ys.length ≤ xs.length ∧ ∀ y ∈ ys, szQ y ≤ 274877906944
 | [], xs, ys, h, hx, hl => by simp [loopR] at h; subst h; simp
 | t :: l, [], ys, h, hx, hl => by simp [loopR] at h; subst h; simp
 | t :: l, x :: xs, ys, h, hx, hl => by
  simp only [loopR] at h
  split at h
  ·cases h
  obtain ⟨ys', e, rfl⟩ := Option.map_eq_some_iff.1 h
  obtain ⟨h1, h2⟩ := loopR_sz hp l xs ys' e (fun y hy => hx y (by simp [hy])) (fun y hy => hl y (by simp [hy]))
  refine ⟨by simpa using h1, fun y hy => ?_⟩
  rcases List.mem_cons.1 hy with rfl | hy
  ·obtain ⟨q1, q2⟩ := hl t (by simp)
   have h3 := szQ_scaleQ p 8 hp (rd t.us 0) x q1
   have h4 := hx x (by simp)
   omega
  ·exact h2 y hy
theorem sclr_sz {a b : Int} {t : Ty} {p xs : List Rat} (ht : okTy t) (hx : okQs xs) (h : (scaleR a b t p xs).2.2 = 0) : okQs (scaleR a b t p xs).1 ∧ ∀ B, (scaleR a b t p xs).2.1 = some B → szQ B ≤ 274877906944 := by
 obtain ⟨hg, n2, hn, hpl, hxl, hb1, hb2, hs, l, hl, he⟩ := scaleR_ok h
 have hu := units_ok ht.1 hg hn hpl
 have hp : okP p 8 := fun P hP => ⟨pos_ne hs P hP, by
  have := bits_szQ (q := P) (m := 4) (any_false hb1 P hP)
  omega⟩
 have hxs : ∀ x ∈ xs, szQ x ≤ 128 := fun x hx => by
  have := bits_szQ (q := x) (m := 64) (any_false hb2 x hx)
  omega
 obtain ⟨h1, h2⟩ := loopR_sz hp _ xs l hl hxs fun x hx => ⟨hu x hx, ht.2.2.2.2 x hx⟩
 rw [he]
 refine ⟨⟨Nat.le_trans h1 hx.1, h2⟩, fun B hB => ?_⟩
 cases hB
 have hm : rd (numsT t) ((numsT t).length - 1) ∈ numsT t := mem_rd (by omega) (by omega)
 have h3 := szQ_scaleQ p 8 hp _ 1 (hu _ hm)
 have h4 := ht.2.2.2.2 _ hm
 have h5 := szQ_one
 omega
theorem both_ok {p q : List Rat} (hp : okQs p) (hq : okQs q) : (bothQ p q).length ≤ 549755813888 ∧ ∀ x ∈ bothQ p q, szQ x ≤ 1099511627776 := by
 refine ⟨by rw [bothQ_len]; have := hp.1; omega, fun x hx => ?_⟩
 obtain ⟨i, hi, rfl⟩ := List.getElem_of_mem hx
 rw [bothQ_len] at hi
 have h1 := hp.2 p[i] (List.getElem_mem _)
 have h2 := hq.2 q[i] (List.getElem_mem _)
 have h3 := szQ_mul p[i] q[i]
 simp only [bothQ, List.getElem_zipWith]
 omega
theorem ref_EqRatsT (a b : List Rat) (ha : okQs a) (hb : okQs b) (h : a = b) : Fn Tryz.prog 12 [.d (encQs a), .d (encQs b)] false (.one (.d (ib true))) := by
 have := ref_EqRats a b ha.1 hb.1 (fun q hq => by have := ha.2 q hq; omega) (fun q hq => by have := hb.2 q hq; omega)
 rw [decide_eq_true h] at this
 exact this
theorem scl_ones {a b : Int} {t : Ty} {p xs L : List Rat} (ht : okTy t) (hx : okQs xs) (hp : okQs p) (hL : L = onesQ p.length) (h : scaleR a b t (onesQ p.length) xs = (xs, some 1, 0)) :
  Fn Tryz.prog 9 [.agg (scD a b t), .d (encQs L), .d (encQs xs)] false (.tup [.d (encQs xs), .agg (encQ 1), .d (ii 0)]) := by
 have := scl_Q a b t (onesQ p.length) xs ht (by simp only [onesQ, List.length_replicate]; exact hp.1) (fun q hq => by rw [List.eq_of_mem_replicate hq]; have := szQ_one; omega) hx
 rw [h] at this
 rw [hL]
 exact this
theorem scale_both (p q : List Rat) (hp : okQs p) (hq : okQs q) : Fn Tryz.prog 19 [.d (encQs p), .d (encQs q)] false (.one (.d (encQs (bothQ p q)))) :=
 law_both p q hp.1 hq.1 hp.2 hq.2

set_option maxHeartbeats 4000000 in
theorem law_ScaleThen (l : List Ask) (hl : l.length ≤ 1000000000000000000) (hs : ∀ r ∈ l, okAsk r) : Fn Tryz.prog 4 [.d (.sl (l.map encAsk))] false (.one (.d (ib true))) := by
 refine Fn_of_EV Tryz.func4 rfl (by kernel_rfl) rfl rfl (fun E hE => ?_)
 iterate 10 refine τ ?_
 refine EV_wl (fun mm S => ∃ i : Int, mm = ((l.length : Int) - i).toNat ∧ S = St.of [(0, V.c (.d false (.sl (l.map encAsk)))), (3, vi .i64 i)] (tabO []) 159 ∧ 0 ≤ i ∧ i ≤ l.length) _ ⟨_, ⟨(0 : Int), rfl, rfl, by omega⟩, W_keep2 _ _ ⟨rfl, rfl, trivial⟩ trivial rfl⟩ ?_
 rintro mm S ⟨i, rfl, rfl, ⟨h0, h1⟩⟩
 iterate 8 refine τ ?_
 refine EVo_case 23 rfl (fun hb1 => ?_) (fun hb1 => ?_)
 ·try simp only [zz] at hb1
  iterate 4 refine τ ?_
  refine EV_cond rfl rfl rfl (fun hb2 => ?_) (fun hb2 => ?_)
  ·try simp only [zz] at hb2
   have hx := hs (rd l i) (mem_rd h0 (by omega))
   have hxs := hx.1
   obtain ⟨ht, hP, hQ, hA⟩ := hx.1
   iterate 7 refine τ ?_
   refine EVo_t rfl (T_ixL (uOk rfl) (zOk rfl) rfl rfl (by omega) (by omega) (rfl)) ?_
   refine τ ?_
   refine EVo_e rfl (D_alloc 1 (hE 1 rfl) Free_no zr32 rfl) ?_
   iterate 6 refine τ ?_
   refine EVo_ce false rfl (hev_Ask (rd l i) hxs) rfl (φa rfl φn) ?_
   rintro _ ⟨bw3, rfl⟩
   refine τ ?_
   refine EV_cond rfl rfl rfl (fun hb4 => ?_) (fun hb4 => ?_)
   ·try simp only [zz] at hb4
    iterate 5 refine τ ?_
    refine ⟨_, ⟨rfl, rfl⟩, fit_eq rfl nofun rfl⟩
   ·try simp only [zz] at hb4
    iterate 2 refine τ ?_
    refine EV_join (fun S => ∃ c : Bool, S = St.of [(0, V.c (.d false (.sl (l.map encAsk)))), (3, vi .i64 i), (4, V.c (.ref 1 0)), (50, vb c)] (tabO [(1, .box ((encAsk (rd l i)).map (C.nd false)))]) 159 ∧ (c = false → fineQ (rd l i).P = true ∧ fineQ (rd l i).Q = true ∧ fineQ (rd l i).A = true)) ?_ ?_
    ·
     iterate 3 refine τ ?_
     refine EVo_e rfl (D_call false (law_may (rd l i).P hP) rfl (φd rfl φn)) ?_
     iterate 2 refine τ ?_
     refine EVo_case 39 rfl (fun hb5 => ?_) (fun hb5 => ?_)
     ·try simp only [zz] at hb5
      iterate 12 refine τ ?_
      refine ω ⟨_, ⟨_, rfl, ?_⟩, W_keep2 _ _ ⟨rfl, rfl, rfl, rfl, trivial⟩ ⟨rfl, trivial⟩ rfl⟩
      intro hc
      simp_all [fineQ]
     ·try simp only [zz] at hb5
      iterate 2 refine τ ?_
      refine EVo_e rfl (D_call false (law_may (rd l i).Q hQ) rfl (φd rfl φn)) ?_
      iterate 3 refine τ ?_
      refine EVo_case 45 rfl (fun hb6 => ?_) (fun hb6 => ?_)
      ·try simp only [zz] at hb6
       iterate 6 refine τ ?_
       refine ω ⟨_, ⟨_, rfl, ?_⟩, W_keep2 _ _ ⟨rfl, rfl, rfl, rfl, trivial⟩ ⟨rfl, trivial⟩ rfl⟩
       intro hc
       simp_all [fineQ]
      ·try simp only [zz] at hb6
       iterate 2 refine τ ?_
       refine EVo_e rfl (D_call false (law_may (rd l i).A hA) rfl (φd rfl φn)) ?_
       iterate 3 refine τ ?_
       refine ω ⟨_, ⟨_, rfl, ?_⟩, W_keep2 _ _ ⟨rfl, rfl, rfl, rfl, trivial⟩ ⟨rfl, trivial⟩ rfl⟩
       intro hc
       simp_all [fineQ]
    ·rintro S ⟨c, rfl, hall⟩
     refine EV_cond rfl rfl rfl (fun hb7 => ?_) (fun hb7 => ?_)
     ·try simp only [zz] at hb7
      iterate 6 refine τ ?_
      refine ⟨_, ?_, ω ⟨_, ⟨i + 1, rfl, rfl, ?_⟩, W_keep2 _ _ ⟨rfl, rfl, trivial⟩ trivial rfl⟩⟩
      ·omega
      ·omega
     ·try simp only [zz] at hb7
      obtain ⟨m1, m2, m3⟩ := hall hb7
      obtain ⟨a, b, t, p, q, xs, e, okt, okp, okq, okx⟩ := ask_all hx m1 m2 m3
      rw [e]
      refine τ ?_
      refine EV_join (fun S => S = St.of [(0, V.c (.d false (.sl (l.map encAsk)))), (3, vi .i64 i), (4, V.c (.ref 1 0)), (5, V.c (.d false (encQs (scaleR a b t p xs).1))), (6, V.c (.ref 2 0)), (7, vi .i64 (scaleR a b t p xs).2.2)] (tabO [(1, .box ((askQ a b t p q xs).map (C.nd false))), (2, .box (byC (scaleR a b t p xs).2.1))]) 159 ∧ True) ?_ ?_
      ·
       refine EV_draw (inX [1]) (.st 0 (.st 1 (.st 3 (.st 4 (.st 6 (.st 7 (.two 2 (.two 5 (.two 8 (.two 9 (.st 10 (.st 11 (.st 12 (.st 13 (.one 14 (.st 15 (.one 16 (.st 17 .done)))))))) 14 (.one 9 (.st 10 (.st 11 (.st 12 (.st 13 (.st 15 (.one 16 (.st 17 .done))))))))) 14 (.one 8 (.one 9 (.st 10 (.st 11 (.st 12 (.st 13 (.st 15 (.one 16 (.st 17 .done)))))))))) 14 (.one 5 (.one 8 (.one 9 (.st 10 (.st 11 (.st 12 (.st 13 (.st 15 (.one 16 (.st 17 .done))))))))))) 14 (.one 2 (.one 5 (.one 8 (.one 9 (.st 10 (.st 11 (.st 12 (.st 13 (.st 15 (.one 16 (.st 17 .done)))))))))))))))))) Tryz.mixed (by kernel_rfl) ?_
       refine EVq_t rfl rfl (T_faR (fOk rfl) (zOk rfl) rfl) ?_
       refine EVq_t rfl rfl (T_loadRA (gOk rfl) (zOk rfl) rfl rfl (Nat.le_of_ble_eq_true rfl) rfl rfl) ?_
       refine EVq_t rfl rfl (T_faR (fOk rfl) (zOk rfl) rfl) ?_
       refine EVq_t rfl rfl (T_loadR (gOk rfl) rfl rfl rfl rfl) ?_
       refine EVq_t rfl rfl (T_faR (fOk rfl) (zOk rfl) rfl) ?_
       refine EVq_t rfl rfl (T_loadR (gOk rfl) rfl rfl rfl rfl) ?_
       refine EVq_two rfl rfl (D_call false (cop_Scheme a b t okt.1) rfl (φa rfl φn)) rfl rfl (D_alloc 2 (hE 2 rfl) (Free_in rfl) zr40 rfl) ?_ ?_
       ·
        refine EVq_two rfl rfl (D_call false (cop_RatsQ p okp) rfl (φd rfl φn)) rfl rfl (D_alloc 2 (hE 2 rfl) (Free_in rfl) zr40 rfl) ?_ ?_
        ·
         refine EVq_two rfl rfl (D_call false (cop_RatsQ xs okx) rfl (φd rfl φn)) rfl rfl (D_alloc 2 (hE 2 rfl) (Free_in rfl) zr40 rfl) ?_ ?_
         ·
          refine EVq_two rfl rfl (D_call false (scl_Q a b t p xs okt okp.1 (fun w hw => by have := okp.2 w hw; omega) okx) rfl (φa rfl (φd rfl (φd rfl φn)))) rfl rfl (D_alloc 2 (hE 2 rfl) (Free_in rfl) zr40 rfl) ?_ ?_
          ·
           refine EVq_t rfl rfl (T_move rfl) ?_
           refine EVq_t rfl rfl (T_extract rfl rfl) ?_
           refine EVq_t rfl rfl (T_extract rfl rfl) ?_
           refine EVq_t rfl rfl (T_extract rfl rfl) ?_
           refine EVq_e rfl rfl (D_alloc 2 (hE 2 rfl) (Free_in rfl) zr40 rfl) ?_
           refine EVq_t rfl rfl (T_assign rfl) ?_
           refine EVq_e rfl rfl (D_store rfl (Free_in rfl) rfl rfl (zOk rfl) rfl (Nat.le_of_ble_eq_true rfl) rfl) ?_
           refine EVq_t rfl rfl (T_assign rfl) ?_
           refine EVq_done ?_
           refine ω ⟨_, ⟨rfl, ?_⟩, W_keep2 _ _ ⟨rfl, rfl, rfl, rfl, rfl, rfl, trivial⟩ ⟨rfl, rfl, trivial⟩ rfl⟩
           trivial
          ·
           refine EVq_e rfl rfl (D_call false (scl_Q a b t p xs okt okp.1 (fun w hw => by have := okp.2 w hw; omega) okx) rfl (φa rfl (φd rfl (φd rfl φn)))) ?_
           refine EVq_t rfl rfl (T_move rfl) ?_
           refine EVq_t rfl rfl (T_extract rfl rfl) ?_
           refine EVq_t rfl rfl (T_extract rfl rfl) ?_
           refine EVq_t rfl rfl (T_extract rfl rfl) ?_
           refine EVq_t rfl rfl (T_assign rfl) ?_
           refine EVq_e rfl rfl (D_store rfl (Free_in rfl) rfl rfl (zOk rfl) rfl (Nat.le_of_ble_eq_true rfl) rfl) ?_
           refine EVq_t rfl rfl (T_assign rfl) ?_
           refine EVq_done ?_
           refine ω ⟨_, ⟨rfl, ?_⟩, W_keep2 _ _ ⟨rfl, rfl, rfl, rfl, rfl, rfl, trivial⟩ ⟨rfl, rfl, trivial⟩ rfl⟩
           trivial
         ·
          refine EVq_e rfl rfl (D_call false (cop_RatsQ xs okx) rfl (φd rfl φn)) ?_
          refine EVq_e rfl rfl (D_call false (scl_Q a b t p xs okt okp.1 (fun w hw => by have := okp.2 w hw; omega) okx) rfl (φa rfl (φd rfl (φd rfl φn)))) ?_
          refine EVq_t rfl rfl (T_move rfl) ?_
          refine EVq_t rfl rfl (T_extract rfl rfl) ?_
          refine EVq_t rfl rfl (T_extract rfl rfl) ?_
          refine EVq_t rfl rfl (T_extract rfl rfl) ?_
          refine EVq_t rfl rfl (T_assign rfl) ?_
          refine EVq_e rfl rfl (D_store rfl (Free_in rfl) rfl rfl (zOk rfl) rfl (Nat.le_of_ble_eq_true rfl) rfl) ?_
          refine EVq_t rfl rfl (T_assign rfl) ?_
          refine EVq_done ?_
          refine ω ⟨_, ⟨rfl, ?_⟩, W_keep2 _ _ ⟨rfl, rfl, rfl, rfl, rfl, rfl, trivial⟩ ⟨rfl, rfl, trivial⟩ rfl⟩
          trivial
        ·
         refine EVq_e rfl rfl (D_call false (cop_RatsQ p okp) rfl (φd rfl φn)) ?_
         refine EVq_e rfl rfl (D_call false (cop_RatsQ xs okx) rfl (φd rfl φn)) ?_
         refine EVq_e rfl rfl (D_call false (scl_Q a b t p xs okt okp.1 (fun w hw => by have := okp.2 w hw; omega) okx) rfl (φa rfl (φd rfl (φd rfl φn)))) ?_
         refine EVq_t rfl rfl (T_move rfl) ?_
         refine EVq_t rfl rfl (T_extract rfl rfl) ?_
         refine EVq_t rfl rfl (T_extract rfl rfl) ?_
         refine EVq_t rfl rfl (T_extract rfl rfl) ?_
         refine EVq_t rfl rfl (T_assign rfl) ?_
         refine EVq_e rfl rfl (D_store rfl (Free_in rfl) rfl rfl (zOk rfl) rfl (Nat.le_of_ble_eq_true rfl) rfl) ?_
         refine EVq_t rfl rfl (T_assign rfl) ?_
         refine EVq_done ?_
         refine ω ⟨_, ⟨rfl, ?_⟩, W_keep2 _ _ ⟨rfl, rfl, rfl, rfl, rfl, rfl, trivial⟩ ⟨rfl, rfl, trivial⟩ rfl⟩
         trivial
       ·
        refine EVq_e rfl rfl (D_call false (cop_Scheme a b t okt.1) rfl (φa rfl φn)) ?_
        refine EVq_e rfl rfl (D_call false (cop_RatsQ p okp) rfl (φd rfl φn)) ?_
        refine EVq_e rfl rfl (D_call false (cop_RatsQ xs okx) rfl (φd rfl φn)) ?_
        refine EVq_e rfl rfl (D_call false (scl_Q a b t p xs okt okp.1 (fun w hw => by have := okp.2 w hw; omega) okx) rfl (φa rfl (φd rfl (φd rfl φn)))) ?_
        refine EVq_t rfl rfl (T_move rfl) ?_
        refine EVq_t rfl rfl (T_extract rfl rfl) ?_
        refine EVq_t rfl rfl (T_extract rfl rfl) ?_
        refine EVq_t rfl rfl (T_extract rfl rfl) ?_
        refine EVq_t rfl rfl (T_assign rfl) ?_
        refine EVq_e rfl rfl (D_store rfl (Free_in rfl) rfl rfl (zOk rfl) rfl (Nat.le_of_ble_eq_true rfl) rfl) ?_
        refine EVq_t rfl rfl (T_assign rfl) ?_
        refine EVq_done ?_
        refine ω ⟨_, ⟨rfl, ?_⟩, W_keep2 _ _ ⟨rfl, rfl, rfl, rfl, rfl, rfl, trivial⟩ ⟨rfl, rfl, trivial⟩ rfl⟩
        trivial
      ·rintro S ⟨rfl, _⟩
       iterate 4 refine τ ?_
       refine EVo_e rfl (D_call false (law_num _) rfl (φd rfl φn)) ?_
       iterate 2 refine τ ?_
       refine EV_cond rfl rfl rfl (fun hb8 => ?_) (fun hb8 => ?_)
       ·try simp only [zz] at hb8
        iterate 6 refine τ ?_
        refine ⟨_, ?_, ω ⟨_, ⟨i + 1, rfl, rfl, ?_⟩, W_keep2 _ _ ⟨rfl, rfl, trivial⟩ trivial rfl⟩⟩
        ·omega
        ·omega
       ·try simp only [zz] at hb8
        have hE0 : (scaleR a b t p xs).2.2 = 0 := hb8
        obtain ⟨okr, okb⟩ := sclr_sz okt okx hE0
        obtain ⟨B1, hB1, hthen, hones⟩ := law_then (q := q) okt.1 hE0
        have hs1 := okb B1 hB1
        refine τ ?_
        refine EV_join (fun S => S = St.of [(0, V.c (.d false (.sl (l.map encAsk)))), (3, vi .i64 i), (4, V.c (.ref 1 0)), (6, V.c (.ref 2 0)), (8, V.c (.d false (encQs (scaleR a b t q (scaleR a b t p xs).1).1))), (9, V.c (.ref 3 0)), (10, vi .i64 (scaleR a b t q (scaleR a b t p xs).1).2.2)] (tabO [(1, .box ((askQ a b t p q xs).map (C.nd false))), (2, .box (byC (scaleR a b t p xs).2.1)), (3, .box (byC (scaleR a b t q (scaleR a b t p xs).1).2.1))]) 159 ∧ True) ?_ ?_
        ·
         refine EV_draw (inX [1]) (.st 0 (.st 1 (.st 3 (.st 4 (.st 6 (.two 2 (.two 5 (.two 7 (.two 8 (.st 9 (.st 10 (.st 11 (.st 12 (.one 13 (.st 14 (.one 15 (.st 16 .done)))))))) 13 (.one 8 (.st 9 (.st 10 (.st 11 (.st 12 (.st 14 (.one 15 (.st 16 .done))))))))) 13 (.one 7 (.one 8 (.st 9 (.st 10 (.st 11 (.st 12 (.st 14 (.one 15 (.st 16 .done)))))))))) 13 (.one 5 (.one 7 (.one 8 (.st 9 (.st 10 (.st 11 (.st 12 (.st 14 (.one 15 (.st 16 .done))))))))))) 13 (.one 2 (.one 5 (.one 7 (.one 8 (.st 9 (.st 10 (.st 11 (.st 12 (.st 14 (.one 15 (.st 16 .done))))))))))))))))) Tryz.mixed (by kernel_rfl) ?_
         refine EVq_t rfl rfl (T_faR (fOk rfl) (zOk rfl) rfl) ?_
         refine EVq_t rfl rfl (T_loadRA (gOk rfl) (zOk rfl) rfl rfl (Nat.le_of_ble_eq_true rfl) rfl rfl) ?_
         refine EVq_t rfl rfl (T_faR (fOk rfl) (zOk rfl) rfl) ?_
         refine EVq_t rfl rfl (T_loadR (gOk rfl) rfl rfl rfl rfl) ?_
         refine EVq_t rfl rfl (T_move rfl) ?_
         refine EVq_two rfl rfl (D_call false (cop_Scheme a b t okt.1) rfl (φa rfl φn)) rfl rfl (D_alloc 3 (hE 3 rfl) (Free_in rfl) zr40 rfl) ?_ ?_
         ·
          refine EVq_two rfl rfl (D_call false (cop_RatsQ q okq) rfl (φd rfl φn)) rfl rfl (D_alloc 3 (hE 3 rfl) (Free_in rfl) zr40 rfl) ?_ ?_
          ·
           refine EVq_two rfl rfl (D_call false (cop_RatsQ (scaleR a b t p xs).1 okr) rfl (φd rfl φn)) rfl rfl (D_alloc 3 (hE 3 rfl) (Free_in rfl) zr40 rfl) ?_ ?_
           ·
            refine EVq_two rfl rfl (D_call false (scl_Q a b t q (scaleR a b t p xs).1 okt okq.1 (fun w hw => by have := okq.2 w hw; omega) okr) rfl (φa rfl (φd rfl (φd rfl φn)))) rfl rfl (D_alloc 3 (hE 3 rfl) (Free_in rfl) zr40 rfl) ?_ ?_
            ·
             refine EVq_t rfl rfl (T_move rfl) ?_
             refine EVq_t rfl rfl (T_extract rfl rfl) ?_
             refine EVq_t rfl rfl (T_extract rfl rfl) ?_
             refine EVq_t rfl rfl (T_extract rfl rfl) ?_
             refine EVq_e rfl rfl (D_alloc 3 (hE 3 rfl) (Free_in rfl) zr40 rfl) ?_
             refine EVq_t rfl rfl (T_assign rfl) ?_
             refine EVq_e rfl rfl (D_store rfl (Free_in rfl) rfl rfl (zOk rfl) rfl (Nat.le_of_ble_eq_true rfl) rfl) ?_
             refine EVq_t rfl rfl (T_assign rfl) ?_
             refine EVq_done ?_
             refine ω ⟨_, ⟨rfl, ?_⟩, W_keep2 _ _ ⟨rfl, rfl, rfl, rfl, rfl, rfl, rfl, trivial⟩ ⟨rfl, rfl, rfl, trivial⟩ rfl⟩
             trivial
            ·
             refine EVq_e rfl rfl (D_call false (scl_Q a b t q (scaleR a b t p xs).1 okt okq.1 (fun w hw => by have := okq.2 w hw; omega) okr) rfl (φa rfl (φd rfl (φd rfl φn)))) ?_
             refine EVq_t rfl rfl (T_move rfl) ?_
             refine EVq_t rfl rfl (T_extract rfl rfl) ?_
             refine EVq_t rfl rfl (T_extract rfl rfl) ?_
             refine EVq_t rfl rfl (T_extract rfl rfl) ?_
             refine EVq_t rfl rfl (T_assign rfl) ?_
             refine EVq_e rfl rfl (D_store rfl (Free_in rfl) rfl rfl (zOk rfl) rfl (Nat.le_of_ble_eq_true rfl) rfl) ?_
             refine EVq_t rfl rfl (T_assign rfl) ?_
             refine EVq_done ?_
             refine ω ⟨_, ⟨rfl, ?_⟩, W_keep2 _ _ ⟨rfl, rfl, rfl, rfl, rfl, rfl, rfl, trivial⟩ ⟨rfl, rfl, rfl, trivial⟩ rfl⟩
             trivial
           ·
            refine EVq_e rfl rfl (D_call false (cop_RatsQ (scaleR a b t p xs).1 okr) rfl (φd rfl φn)) ?_
            refine EVq_e rfl rfl (D_call false (scl_Q a b t q (scaleR a b t p xs).1 okt okq.1 (fun w hw => by have := okq.2 w hw; omega) okr) rfl (φa rfl (φd rfl (φd rfl φn)))) ?_
            refine EVq_t rfl rfl (T_move rfl) ?_
            refine EVq_t rfl rfl (T_extract rfl rfl) ?_
            refine EVq_t rfl rfl (T_extract rfl rfl) ?_
            refine EVq_t rfl rfl (T_extract rfl rfl) ?_
            refine EVq_t rfl rfl (T_assign rfl) ?_
            refine EVq_e rfl rfl (D_store rfl (Free_in rfl) rfl rfl (zOk rfl) rfl (Nat.le_of_ble_eq_true rfl) rfl) ?_
            refine EVq_t rfl rfl (T_assign rfl) ?_
            refine EVq_done ?_
            refine ω ⟨_, ⟨rfl, ?_⟩, W_keep2 _ _ ⟨rfl, rfl, rfl, rfl, rfl, rfl, rfl, trivial⟩ ⟨rfl, rfl, rfl, trivial⟩ rfl⟩
            trivial
          ·
           refine EVq_e rfl rfl (D_call false (cop_RatsQ q okq) rfl (φd rfl φn)) ?_
           refine EVq_e rfl rfl (D_call false (cop_RatsQ (scaleR a b t p xs).1 okr) rfl (φd rfl φn)) ?_
           refine EVq_e rfl rfl (D_call false (scl_Q a b t q (scaleR a b t p xs).1 okt okq.1 (fun w hw => by have := okq.2 w hw; omega) okr) rfl (φa rfl (φd rfl (φd rfl φn)))) ?_
           refine EVq_t rfl rfl (T_move rfl) ?_
           refine EVq_t rfl rfl (T_extract rfl rfl) ?_
           refine EVq_t rfl rfl (T_extract rfl rfl) ?_
           refine EVq_t rfl rfl (T_extract rfl rfl) ?_
           refine EVq_t rfl rfl (T_assign rfl) ?_
           refine EVq_e rfl rfl (D_store rfl (Free_in rfl) rfl rfl (zOk rfl) rfl (Nat.le_of_ble_eq_true rfl) rfl) ?_
           refine EVq_t rfl rfl (T_assign rfl) ?_
           refine EVq_done ?_
           refine ω ⟨_, ⟨rfl, ?_⟩, W_keep2 _ _ ⟨rfl, rfl, rfl, rfl, rfl, rfl, rfl, trivial⟩ ⟨rfl, rfl, rfl, trivial⟩ rfl⟩
           trivial
         ·
          refine EVq_e rfl rfl (D_call false (cop_Scheme a b t okt.1) rfl (φa rfl φn)) ?_
          refine EVq_e rfl rfl (D_call false (cop_RatsQ q okq) rfl (φd rfl φn)) ?_
          refine EVq_e rfl rfl (D_call false (cop_RatsQ (scaleR a b t p xs).1 okr) rfl (φd rfl φn)) ?_
          refine EVq_e rfl rfl (D_call false (scl_Q a b t q (scaleR a b t p xs).1 okt okq.1 (fun w hw => by have := okq.2 w hw; omega) okr) rfl (φa rfl (φd rfl (φd rfl φn)))) ?_
          refine EVq_t rfl rfl (T_move rfl) ?_
          refine EVq_t rfl rfl (T_extract rfl rfl) ?_
          refine EVq_t rfl rfl (T_extract rfl rfl) ?_
          refine EVq_t rfl rfl (T_extract rfl rfl) ?_
          refine EVq_t rfl rfl (T_assign rfl) ?_
          refine EVq_e rfl rfl (D_store rfl (Free_in rfl) rfl rfl (zOk rfl) rfl (Nat.le_of_ble_eq_true rfl) rfl) ?_
          refine EVq_t rfl rfl (T_assign rfl) ?_
          refine EVq_done ?_
          refine ω ⟨_, ⟨rfl, ?_⟩, W_keep2 _ _ ⟨rfl, rfl, rfl, rfl, rfl, rfl, rfl, trivial⟩ ⟨rfl, rfl, rfl, trivial⟩ rfl⟩
          trivial
        ·rintro S ⟨rfl, _⟩
         refine EV_join (fun S => S = St.of [(0, V.c (.d false (.sl (l.map encAsk)))), (3, vi .i64 i), (4, V.c (.ref 1 0)), (6, V.c (.ref 2 0)), (8, V.c (.d false (encQs (scaleR a b t q (scaleR a b t p xs).1).1))), (9, V.c (.ref 3 0)), (10, vi .i64 (scaleR a b t q (scaleR a b t p xs).1).2.2), (11, V.c (.d false (encQs (scaleR a b t (bothQ p q) xs).1))), (12, V.c (.ref 4 0)), (13, vi .i64 (scaleR a b t (bothQ p q) xs).2.2)] (tabO [(1, .box ((askQ a b t p q xs).map (C.nd false))), (2, .box (byC (scaleR a b t p xs).2.1)), (3, .box (byC (scaleR a b t q (scaleR a b t p xs).1).2.1)), (4, .box (byC (scaleR a b t (bothQ p q) xs).2.1))]) 159 ∧ True) ?_ ?_
         ·
          refine EV_draw (inX [1]) (.st 0 (.st 1 (.st 3 (.st 4 (.st 5 (.st 6 (.st 8 (.st 9 (.two 2 (.two 7 (.two 10 (.two 11 (.st 12 (.st 13 (.st 14 (.st 15 (.one 16 (.st 17 (.one 18 (.st 19 .done)))))))) 16 (.one 11 (.st 12 (.st 13 (.st 14 (.st 15 (.st 17 (.one 18 (.st 19 .done))))))))) 16 (.one 10 (.one 11 (.st 12 (.st 13 (.st 14 (.st 15 (.st 17 (.one 18 (.st 19 .done)))))))))) 16 (.one 7 (.one 10 (.one 11 (.st 12 (.st 13 (.st 14 (.st 15 (.st 17 (.one 18 (.st 19 .done))))))))))) 16 (.one 2 (.one 7 (.one 10 (.one 11 (.st 12 (.st 13 (.st 14 (.st 15 (.st 17 (.one 18 (.st 19 .done)))))))))))))))))))) Tryz.mixed (by kernel_rfl) ?_
          refine EVq_t rfl rfl (T_faR (fOk rfl) (zOk rfl) rfl) ?_
          refine EVq_t rfl rfl (T_loadRA (gOk rfl) (zOk rfl) rfl rfl (Nat.le_of_ble_eq_true rfl) rfl rfl) ?_
          refine EVq_t rfl rfl (T_faR (fOk rfl) (zOk rfl) rfl) ?_
          refine EVq_t rfl rfl (T_loadR (gOk rfl) rfl rfl rfl rfl) ?_
          refine EVq_t rfl rfl (T_faR (fOk rfl) (zOk rfl) rfl) ?_
          refine EVq_t rfl rfl (T_loadR (gOk rfl) rfl rfl rfl rfl) ?_
          refine EVq_t rfl rfl (T_faR (fOk rfl) (zOk rfl) rfl) ?_
          refine EVq_t rfl rfl (T_loadR (gOk rfl) rfl rfl rfl rfl) ?_
          refine EVq_two rfl rfl (D_call false (cop_Scheme a b t okt.1) rfl (φa rfl φn)) rfl rfl (D_alloc 4 (hE 4 rfl) (Free_in rfl) zr40 rfl) ?_ ?_
          ·
           refine EVq_two rfl rfl (D_call false (scale_both p q okp okq) rfl (φd rfl (φd rfl φn))) rfl rfl (D_alloc 4 (hE 4 rfl) (Free_in rfl) zr40 rfl) ?_ ?_
           ·
            refine EVq_two rfl rfl (D_call false (cop_RatsQ xs okx) rfl (φd rfl φn)) rfl rfl (D_alloc 4 (hE 4 rfl) (Free_in rfl) zr40 rfl) ?_ ?_
            ·
             refine EVq_two rfl rfl (D_call false (scl_Q a b t (bothQ p q) xs okt (both_ok okp okq).1 (both_ok okp okq).2 okx) rfl (φa rfl (φd rfl (φd rfl φn)))) rfl rfl (D_alloc 4 (hE 4 rfl) (Free_in rfl) zr40 rfl) ?_ ?_
             ·
              refine EVq_t rfl rfl (T_move rfl) ?_
              refine EVq_t rfl rfl (T_extract rfl rfl) ?_
              refine EVq_t rfl rfl (T_extract rfl rfl) ?_
              refine EVq_t rfl rfl (T_extract rfl rfl) ?_
              refine EVq_e rfl rfl (D_alloc 4 (hE 4 rfl) (Free_in rfl) zr40 rfl) ?_
              refine EVq_t rfl rfl (T_assign rfl) ?_
              refine EVq_e rfl rfl (D_store rfl (Free_in rfl) rfl rfl (zOk rfl) rfl (Nat.le_of_ble_eq_true rfl) rfl) ?_
              refine EVq_t rfl rfl (T_assign rfl) ?_
              refine EVq_done ?_
              refine ω ⟨_, ⟨rfl, ?_⟩, W_keep2 _ _ ⟨rfl, rfl, rfl, rfl, rfl, rfl, rfl, rfl, rfl, rfl, trivial⟩ ⟨rfl, rfl, rfl, rfl, trivial⟩ rfl⟩
              trivial
             ·
              refine EVq_e rfl rfl (D_call false (scl_Q a b t (bothQ p q) xs okt (both_ok okp okq).1 (both_ok okp okq).2 okx) rfl (φa rfl (φd rfl (φd rfl φn)))) ?_
              refine EVq_t rfl rfl (T_move rfl) ?_
              refine EVq_t rfl rfl (T_extract rfl rfl) ?_
              refine EVq_t rfl rfl (T_extract rfl rfl) ?_
              refine EVq_t rfl rfl (T_extract rfl rfl) ?_
              refine EVq_t rfl rfl (T_assign rfl) ?_
              refine EVq_e rfl rfl (D_store rfl (Free_in rfl) rfl rfl (zOk rfl) rfl (Nat.le_of_ble_eq_true rfl) rfl) ?_
              refine EVq_t rfl rfl (T_assign rfl) ?_
              refine EVq_done ?_
              refine ω ⟨_, ⟨rfl, ?_⟩, W_keep2 _ _ ⟨rfl, rfl, rfl, rfl, rfl, rfl, rfl, rfl, rfl, rfl, trivial⟩ ⟨rfl, rfl, rfl, rfl, trivial⟩ rfl⟩
              trivial
            ·
             refine EVq_e rfl rfl (D_call false (cop_RatsQ xs okx) rfl (φd rfl φn)) ?_
             refine EVq_e rfl rfl (D_call false (scl_Q a b t (bothQ p q) xs okt (both_ok okp okq).1 (both_ok okp okq).2 okx) rfl (φa rfl (φd rfl (φd rfl φn)))) ?_
             refine EVq_t rfl rfl (T_move rfl) ?_
             refine EVq_t rfl rfl (T_extract rfl rfl) ?_
             refine EVq_t rfl rfl (T_extract rfl rfl) ?_
             refine EVq_t rfl rfl (T_extract rfl rfl) ?_
             refine EVq_t rfl rfl (T_assign rfl) ?_
             refine EVq_e rfl rfl (D_store rfl (Free_in rfl) rfl rfl (zOk rfl) rfl (Nat.le_of_ble_eq_true rfl) rfl) ?_
             refine EVq_t rfl rfl (T_assign rfl) ?_
             refine EVq_done ?_
             refine ω ⟨_, ⟨rfl, ?_⟩, W_keep2 _ _ ⟨rfl, rfl, rfl, rfl, rfl, rfl, rfl, rfl, rfl, rfl, trivial⟩ ⟨rfl, rfl, rfl, rfl, trivial⟩ rfl⟩
             trivial
           ·
            refine EVq_e rfl rfl (D_call false (scale_both p q okp okq) rfl (φd rfl (φd rfl φn))) ?_
            refine EVq_e rfl rfl (D_call false (cop_RatsQ xs okx) rfl (φd rfl φn)) ?_
            refine EVq_e rfl rfl (D_call false (scl_Q a b t (bothQ p q) xs okt (both_ok okp okq).1 (both_ok okp okq).2 okx) rfl (φa rfl (φd rfl (φd rfl φn)))) ?_
            refine EVq_t rfl rfl (T_move rfl) ?_
            refine EVq_t rfl rfl (T_extract rfl rfl) ?_
            refine EVq_t rfl rfl (T_extract rfl rfl) ?_
            refine EVq_t rfl rfl (T_extract rfl rfl) ?_
            refine EVq_t rfl rfl (T_assign rfl) ?_
            refine EVq_e rfl rfl (D_store rfl (Free_in rfl) rfl rfl (zOk rfl) rfl (Nat.le_of_ble_eq_true rfl) rfl) ?_
            refine EVq_t rfl rfl (T_assign rfl) ?_
            refine EVq_done ?_
            refine ω ⟨_, ⟨rfl, ?_⟩, W_keep2 _ _ ⟨rfl, rfl, rfl, rfl, rfl, rfl, rfl, rfl, rfl, rfl, trivial⟩ ⟨rfl, rfl, rfl, rfl, trivial⟩ rfl⟩
            trivial
          ·
           refine EVq_e rfl rfl (D_call false (cop_Scheme a b t okt.1) rfl (φa rfl φn)) ?_
           refine EVq_e rfl rfl (D_call false (scale_both p q okp okq) rfl (φd rfl (φd rfl φn))) ?_
           refine EVq_e rfl rfl (D_call false (cop_RatsQ xs okx) rfl (φd rfl φn)) ?_
           refine EVq_e rfl rfl (D_call false (scl_Q a b t (bothQ p q) xs okt (both_ok okp okq).1 (both_ok okp okq).2 okx) rfl (φa rfl (φd rfl (φd rfl φn)))) ?_
           refine EVq_t rfl rfl (T_move rfl) ?_
           refine EVq_t rfl rfl (T_extract rfl rfl) ?_
           refine EVq_t rfl rfl (T_extract rfl rfl) ?_
           refine EVq_t rfl rfl (T_extract rfl rfl) ?_
           refine EVq_t rfl rfl (T_assign rfl) ?_
           refine EVq_e rfl rfl (D_store rfl (Free_in rfl) rfl rfl (zOk rfl) rfl (Nat.le_of_ble_eq_true rfl) rfl) ?_
           refine EVq_t rfl rfl (T_assign rfl) ?_
           refine EVq_done ?_
           refine ω ⟨_, ⟨rfl, ?_⟩, W_keep2 _ _ ⟨rfl, rfl, rfl, rfl, rfl, rfl, rfl, rfl, rfl, rfl, trivial⟩ ⟨rfl, rfl, rfl, rfl, trivial⟩ rfl⟩
           trivial
         ·rintro S ⟨rfl, _⟩
          refine τ ?_
          refine EV_join (fun S => S = St.of [(0, V.c (.d false (.sl (l.map encAsk)))), (3, vi .i64 i), (4, V.c (.ref 1 0)), (118, vb false)] (tabO [(1, .box ((askQ a b t p q xs).map (C.nd false)))]) 159 ∧ True) ?_ ?_
          ·
           refine EV_draw (inX [2, 3, 4]) (.st 0 (.one 1 (.st 2 (.st 3 (.st 4 (.one 5 (.st 6 (.st 7 (.st 8 (.st 9 (.st 10 (.one 11 (.st 12 (.st 13 (.st 14 (.st 15 (.st 17 (.one 16 (.one 18 (.st 19 (.st 20 (.st 21 .done)))))))))))))))))))))) Tryz.mixed (by kernel_rfl) ?_
           refine EVq_t rfl rfl (T_move rfl) ?_
           refine EVq_e rfl rfl (D_call false (law_num _) rfl (φd rfl φn)) ?_
           refine EVq_t rfl rfl (T_bin rfl rfl rfl) ?_
           refine EVq_t rfl rfl (T_move rfl) ?_
           refine EVq_case 100 rfl (fun hb9 => ?_) (fun hb9 => ?_)
           ·try simp only [zz] at hb9
            have hf0 : (scaleR a b t q (scaleR a b t p xs).1).2.2 = 0 := hb9
            refine EVq_t rfl rfl (T_move rfl) ?_
            refine EVq_e rfl rfl (D_call false (law_num _) rfl (φd rfl φn)) ?_
            refine EVq_t rfl rfl (T_bin rfl rfl rfl) ?_
            refine EVq_t rfl rfl (T_pick rfl rfl) ?_
            refine EVq_t rfl rfl (T_move rfl) ?_
            refine EVq_case 105 rfl (fun hb10 => ?_) (fun hb10 => ?_)
            ·try simp only [zz] at hb10
             have hg0 : (scaleR a b t (bothQ p q) xs).2.2 = 0 := hb10
             obtain ⟨hyv, B2, hB2, hB3⟩ := hthen hf0 hg0
             have ok2 := sclr_sz okt okr hf0
             have ok3 := sclr_sz okt okx hg0
             have hs2 := ok2.2 B2 hB2
             have hs3 := ok3.2 _ hB3
             rw [hB1, hB2, hB3]
             refine EVq_t rfl rfl (T_move rfl) ?_
             refine EVq_t rfl rfl (T_move rfl) ?_
             refine EVq_e rfl rfl (D_call false (ref_EqRatsT _ _ ok2.1 ok3.1 hyv) rfl (φd rfl (φd rfl φn))) ?_
             refine EVq_t rfl rfl (T_un rfl rfl) ?_
             refine EVq_t rfl rfl (T_move rfl) ?_
             refine EVq_t rfl rfl (T_loadRA (gOk rfl) (zOk rfl) rfl rfl (Nat.le_of_ble_eq_true rfl) rfl rfl) ?_
             refine EVq_t rfl rfl (T_loadRA (gOk rfl) (zOk rfl) rfl rfl (Nat.le_of_ble_eq_true rfl) rfl rfl) ?_
             refine EVq_t rfl rfl (T_loadRA (gOk rfl) (zOk rfl) rfl rfl (Nat.le_of_ble_eq_true rfl) rfl rfl) ?_
             refine EVq_e rfl rfl (D_call false (ref3_Times B1 B2 (by omega)) rfl (φa rfl (φa rfl φn))) ?_
             refine EVq_e rfl rfl (D_call false (ref_EqT (B1 * B2) (B1 * B2) (by omega) (by omega) rfl) rfl (φa rfl (φa rfl φn))) ?_
             refine EVq_t rfl rfl (T_un rfl rfl) ?_
             refine EVq_t rfl rfl (T_pick rfl rfl) ?_
             refine EVq_t rfl rfl (T_pick rfl rfl) ?_
             refine EVq_done ?_
             refine ω ⟨_, ⟨rfl, ?_⟩, W_keep2 _ _ ⟨rfl, rfl, rfl, rfl, trivial⟩ ⟨rfl, trivial⟩ rfl⟩
             trivial
            ·try simp only [zz] at hb10
             refine EVq_off rfl rfl ?_
             refine EVq_off rfl rfl ?_
             refine EVq_e_off rfl rfl ?_
             refine EVq_off rfl rfl ?_
             refine EVq_off rfl rfl ?_
             refine EVq_off rfl rfl ?_
             refine EVq_off rfl rfl ?_
             refine EVq_off rfl rfl ?_
             refine EVq_e_off rfl rfl ?_
             refine EVq_e_off rfl rfl ?_
             refine EVq_off rfl rfl ?_
             refine EVq_off rfl rfl ?_
             refine EVq_t rfl rfl (T_pick rfl rfl) ?_
             refine EVq_done ?_
             refine ω ⟨_, ⟨rfl, ?_⟩, W_keep2 _ _ ⟨rfl, rfl, rfl, rfl, trivial⟩ ⟨rfl, trivial⟩ rfl⟩
             trivial
           ·try simp only [zz] at hb9
            refine EVq_off rfl rfl ?_
            refine EVq_e_off rfl rfl ?_
            refine EVq_off rfl rfl ?_
            refine EVq_t rfl rfl (T_pick rfl rfl) ?_
            refine EVq_t rfl rfl (T_move rfl) ?_
            refine EVq_off rfl rfl ?_
            refine EVq_off rfl rfl ?_
            refine EVq_e_off rfl rfl ?_
            refine EVq_off rfl rfl ?_
            refine EVq_off rfl rfl ?_
            refine EVq_off rfl rfl ?_
            refine EVq_off rfl rfl ?_
            refine EVq_off rfl rfl ?_
            refine EVq_e_off rfl rfl ?_
            refine EVq_e_off rfl rfl ?_
            refine EVq_off rfl rfl ?_
            refine EVq_off rfl rfl ?_
            refine EVq_t rfl rfl (T_pick rfl rfl) ?_
            refine EVq_done ?_
            refine ω ⟨_, ⟨rfl, ?_⟩, W_keep2 _ _ ⟨rfl, rfl, rfl, rfl, trivial⟩ ⟨rfl, trivial⟩ rfl⟩
            trivial
          ·rintro S ⟨rfl, _⟩
           refine EV_cond rfl rfl rfl (fun h => by first | cases h | (exfalso; simp_all; done)) (fun _ => ?_)
           iterate 11 refine τ ?_
           refine EV_weak (W_nilRow 9 14 40 3 (hE 9 rfl) rfl) ?_
           refine EV_wl (fun mm S => ∃ k : Int, ∃ L : List Rat, ∃ f : Bool, mm = ((p.length : Int) - k).toNat ∧ S = St.of [(0, V.c (.d false (.sl (l.map encAsk)))), (3, vi .i64 i), (4, V.c (.ref 1 0)), (14, V.c (.own 9 40 3 f (List.map encQ L))), (15, vi .i64 k)] (tabO [(1, .box ((askQ a b t p q xs).map (C.nd false))), (9, .row)]) 159 ∧ 0 ≤ k ∧ k ≤ p.length ∧ L = onesQ k.toNat) _ ⟨_, ⟨(0 : Int), ([] : List Rat), true, rfl, rfl, ⟨by omega, by omega, rfl⟩⟩, W_keep2 _ _ ⟨rfl, rfl, rfl, rfl, rfl, trivial⟩ ⟨rfl, rfl, trivial⟩ rfl⟩ ?_
           rintro mm S ⟨k, L, f, rfl, rfl, ⟨k0, k1, k2⟩⟩
           have okp1 := okp.1
           have hln := congrArg List.length k2
           simp only [onesQ, List.length_replicate] at hln
           iterate 9 refine τ ?_
           refine EV_cond rfl rfl rfl (fun hb11 => ?_) (fun hb11 => ?_)
           ·try simp only [zz] at hb11
            iterate 5 refine τ ?_
            refine EVo_e rfl (D_call false (law_of1) rfl (φd rfl (φd rfl φn))) ?_
            refine EVo_e rfl (D_buildSlice (uOk rfl) bz40 rfl rfl rfl (by simp)) ?_
            refine EVo_e rfl (D_append (uOk rfl) ap40 (by decide) rfl rfl (hE 9 rfl) Free_no rfl rfl (by simp) (by simp; omega) (by simp; omega)) ?_
            iterate 7 refine τ ?_
            refine ⟨_, ?_, ω ⟨_, ⟨k + 1, L ++ [(1 : Rat)], _, rfl, rfl, ?_⟩, W_keep2 _ _ ⟨rfl, rfl, rfl, (own_app (by rfl)), rfl, trivial⟩ ⟨rfl, rfl, trivial⟩ rfl⟩⟩
            ·omega
            ·refine ⟨by omega, by omega, ?_⟩
             rw [k2, show (k + 1).toNat = k.toNat + 1 by omega]
             simp [onesQ, List.replicate_succ']
           ·try simp only [zz] at hb11
            refine τ ?_
            refine EV_join (fun S => S = St.of [(0, V.c (.d false (.sl (l.map encAsk)))), (3, vi .i64 i), (4, V.c (.ref 1 0)), (16, V.c (.d false (encQs xs))), (17, V.c (.ref 5 0)), (18, vi .i64 0)] (tabO [(1, .box ((askQ a b t p q xs).map (C.nd false))), (5, .box ((encQ 1).map (C.nd false)))]) 159 ∧ True) ?_ ?_
            ·
             refine EV_draw (inX [1]) (.st 0 (.st 1 (.st 3 (.st 4 (.st 5 (.two 2 (.two 6 (.two 7 (.st 8 (.st 9 (.st 10 (.st 11 (.one 12 (.st 13 (.one 14 (.st 15 .done)))))))) 12 (.one 7 (.st 8 (.st 9 (.st 10 (.st 11 (.st 13 (.one 14 (.st 15 .done))))))))) 12 (.one 6 (.one 7 (.st 8 (.st 9 (.st 10 (.st 11 (.st 13 (.one 14 (.st 15 .done)))))))))) 12 (.one 2 (.one 6 (.one 7 (.st 8 (.st 9 (.st 10 (.st 11 (.st 13 (.one 14 (.st 15 .done)))))))))))))))) Tryz.mixed (by kernel_rfl) ?_
             refine EVq_t rfl rfl (T_faR (fOk rfl) (zOk rfl) rfl) ?_
             refine EVq_t rfl rfl (T_loadRA (gOk rfl) (zOk rfl) rfl rfl (Nat.le_of_ble_eq_true rfl) rfl rfl) ?_
             refine EVq_t rfl rfl (T_move rfl) ?_
             refine EVq_t rfl rfl (T_faR (fOk rfl) (zOk rfl) rfl) ?_
             refine EVq_t rfl rfl (T_loadR (gOk rfl) rfl rfl rfl rfl) ?_
             refine EVq_two rfl rfl (D_call false (cop_Scheme a b t okt.1) rfl (φa rfl φn)) rfl rfl (D_alloc 5 (hE 5 rfl) (Free_in rfl) zr40 rfl) ?_ ?_
             ·
              refine EVq_two rfl rfl (D_call false (cop_RatsQ xs okx) rfl (φd rfl φn)) rfl rfl (D_alloc 5 (hE 5 rfl) (Free_in rfl) zr40 rfl) ?_ ?_
              ·
               refine EVq_two rfl rfl (D_call false (scl_ones okt okx okp (by rw [k2]; congr 1; omega) hones) rfl (φa rfl (φd rfl (φd rfl φn)))) rfl rfl (D_alloc 5 (hE 5 rfl) (Free_in rfl) zr40 rfl) ?_ ?_
               ·
                refine EVq_t rfl rfl (T_move rfl) ?_
                refine EVq_t rfl rfl (T_extract rfl rfl) ?_
                refine EVq_t rfl rfl (T_extract rfl rfl) ?_
                refine EVq_t rfl rfl (T_extract rfl rfl) ?_
                refine EVq_e rfl rfl (D_alloc 5 (hE 5 rfl) (Free_in rfl) zr40 rfl) ?_
                refine EVq_t rfl rfl (T_assign rfl) ?_
                refine EVq_e rfl rfl (D_store rfl (Free_in rfl) rfl rfl (zOk rfl) rfl (Nat.le_of_ble_eq_true rfl) rfl) ?_
                refine EVq_t rfl rfl (T_assign rfl) ?_
                refine EVq_done ?_
                refine ω ⟨_, ⟨rfl, ?_⟩, W_keep2 _ _ ⟨rfl, rfl, rfl, rfl, rfl, rfl, trivial⟩ ⟨rfl, rfl, trivial⟩ rfl⟩
                trivial
               ·
                refine EVq_e rfl rfl (D_call false (scl_ones okt okx okp (by rw [k2]; congr 1; omega) hones) rfl (φa rfl (φd rfl (φd rfl φn)))) ?_
                refine EVq_t rfl rfl (T_move rfl) ?_
                refine EVq_t rfl rfl (T_extract rfl rfl) ?_
                refine EVq_t rfl rfl (T_extract rfl rfl) ?_
                refine EVq_t rfl rfl (T_extract rfl rfl) ?_
                refine EVq_t rfl rfl (T_assign rfl) ?_
                refine EVq_e rfl rfl (D_store rfl (Free_in rfl) rfl rfl (zOk rfl) rfl (Nat.le_of_ble_eq_true rfl) rfl) ?_
                refine EVq_t rfl rfl (T_assign rfl) ?_
                refine EVq_done ?_
                refine ω ⟨_, ⟨rfl, ?_⟩, W_keep2 _ _ ⟨rfl, rfl, rfl, rfl, rfl, rfl, trivial⟩ ⟨rfl, rfl, trivial⟩ rfl⟩
                trivial
              ·
               refine EVq_e rfl rfl (D_call false (cop_RatsQ xs okx) rfl (φd rfl φn)) ?_
               refine EVq_e rfl rfl (D_call false (scl_ones okt okx okp (by rw [k2]; congr 1; omega) hones) rfl (φa rfl (φd rfl (φd rfl φn)))) ?_
               refine EVq_t rfl rfl (T_move rfl) ?_
               refine EVq_t rfl rfl (T_extract rfl rfl) ?_
               refine EVq_t rfl rfl (T_extract rfl rfl) ?_
               refine EVq_t rfl rfl (T_extract rfl rfl) ?_
               refine EVq_t rfl rfl (T_assign rfl) ?_
               refine EVq_e rfl rfl (D_store rfl (Free_in rfl) rfl rfl (zOk rfl) rfl (Nat.le_of_ble_eq_true rfl) rfl) ?_
               refine EVq_t rfl rfl (T_assign rfl) ?_
               refine EVq_done ?_
               refine ω ⟨_, ⟨rfl, ?_⟩, W_keep2 _ _ ⟨rfl, rfl, rfl, rfl, rfl, rfl, trivial⟩ ⟨rfl, rfl, trivial⟩ rfl⟩
               trivial
             ·
              refine EVq_e rfl rfl (D_call false (cop_Scheme a b t okt.1) rfl (φa rfl φn)) ?_
              refine EVq_e rfl rfl (D_call false (cop_RatsQ xs okx) rfl (φd rfl φn)) ?_
              refine EVq_e rfl rfl (D_call false (scl_ones okt okx okp (by rw [k2]; congr 1; omega) hones) rfl (φa rfl (φd rfl (φd rfl φn)))) ?_
              refine EVq_t rfl rfl (T_move rfl) ?_
              refine EVq_t rfl rfl (T_extract rfl rfl) ?_
              refine EVq_t rfl rfl (T_extract rfl rfl) ?_
              refine EVq_t rfl rfl (T_extract rfl rfl) ?_
              refine EVq_t rfl rfl (T_assign rfl) ?_
              refine EVq_e rfl rfl (D_store rfl (Free_in rfl) rfl rfl (zOk rfl) rfl (Nat.le_of_ble_eq_true rfl) rfl) ?_
              refine EVq_t rfl rfl (T_assign rfl) ?_
              refine EVq_done ?_
              refine ω ⟨_, ⟨rfl, ?_⟩, W_keep2 _ _ ⟨rfl, rfl, rfl, rfl, rfl, rfl, trivial⟩ ⟨rfl, rfl, trivial⟩ rfl⟩
              trivial
            ·rintro S ⟨rfl, _⟩
             refine τ ?_
             refine EV_draw (inX [1, 5]) (.st 0 (.one 1 (.st 2 (.st 3 (.st 4 (.st 5 (.st 6 (.one 7 (.st 8 (.st 9 (.st 10 (.st 11 (.one 12 (.one 13 (.st 14 (.st 15 .done)))))))))))))))) Tryz.mixed (by kernel_rfl) ?_
             refine EVq_t rfl rfl (T_move rfl) ?_
             refine EVq_e rfl rfl (D_call false (law_num _) rfl (φd rfl φn)) ?_
             refine EVq_t rfl rfl (T_bin rfl rfl rfl) ?_
             refine EVq_t rfl rfl (T_move rfl) ?_
             refine EVq_case 145 rfl (fun hb12 => ?_) (fun hb12 => ?_)
             ·try simp only [zz] at hb12
              simp at hb12
             ·try simp only [zz] at hb12
              refine EVq_t rfl rfl (T_move rfl) ?_
              refine EVq_t rfl rfl (T_faR (fOk rfl) (zOk rfl) rfl) ?_
              refine EVq_t rfl rfl (T_loadR (gOk rfl) rfl rfl rfl rfl) ?_
              refine EVq_e rfl rfl (D_call false (ref_EqRatsT xs xs okx okx rfl) rfl (φd rfl (φd rfl φn))) ?_
              refine EVq_t rfl rfl (T_un rfl rfl) ?_
              refine EVq_t rfl rfl (T_pick rfl rfl) ?_
              refine EVq_t rfl rfl (T_move rfl) ?_
              refine EVq_t rfl rfl (T_loadRA (gOk rfl) (zOk rfl) rfl rfl (Nat.le_of_ble_eq_true rfl) rfl rfl) ?_
              refine EVq_e rfl rfl (D_call false (law_of1) rfl (φd rfl (φd rfl φn))) ?_
              refine EVq_e rfl rfl (D_call false (ref_EqT 1 1 (by have := szQ_one; omega) (by have := szQ_one; omega) rfl) rfl (φa rfl (φa rfl φn))) ?_
              refine EVq_t rfl rfl (T_un rfl rfl) ?_
              refine EVq_t rfl rfl (T_pick rfl rfl) ?_
              refine EVq_done ?_
              refine EV_cond rfl rfl rfl (fun h => by first | cases h | (exfalso; simp_all; done)) (fun _ => ?_)
              iterate 6 refine τ ?_
              refine ⟨_, ?_, ω ⟨_, ⟨i + 1, rfl, rfl, ?_⟩, W_keep2 _ _ ⟨rfl, rfl, trivial⟩ trivial rfl⟩⟩
              ·omega
              ·omega
  ·try simp only [zz] at hb2
   iterate 3 refine τ ?_
   refine EVo_e rfl (D_call false (law_wakes) rfl φn) ?_
   iterate 3 refine τ ?_
   refine ⟨_, ⟨rfl, rfl⟩, fit_eq rfl nofun rfl⟩
 ·try simp only [zz] at hb1
  iterate 4 refine τ ?_
  refine EV_cond rfl rfl rfl (fun h => by first | cases h | (exfalso; simp_all; done)) (fun _ => ?_)
  iterate 3 refine τ ?_
  refine EVo_e rfl (D_call false (law_wakes) rfl φn) ?_
  iterate 3 refine τ ?_
  refine ⟨_, ⟨rfl, rfl⟩, fit_eq rfl nofun rfl⟩

end Go.Proofs.YthaiegnohkiegaaGreat.Ab
/-
  From the form's reading of arguments to data: what a reading weighs, slices, structs, types.
-/
namespace Go.Proofs.YthaiegnohkiegaaGreat.Ab
set_option linter.unusedVariables false
set_option linter.unusedSimpArgs false
open Go.ChangeShapes Go.WideShapes
open Go.Proofs.YthaiegnohkiegaaGreat.Rows (uptoBulk uptoBulkAll)
abbrev ownN : Nat → Option Nat := fun _ => none
def ClAt (w : World) (cs : List Value) (o : Nat) (ds : List D) : Prop := ∀ j d, ds[j]? = some d → ∃ v, cs[o + j]? = some v ∧ RelD w ownN 0 v d
def Cl (w : World) (cs : List Value) (ds : List D) : Prop := cs.length = ds.length ∧ ClAt w cs 0 ds
theorem ClAt.cat {w : World} {cs : List Value} {o : Nat} {d1 d2 : List D} (h1 : ClAt w cs o d1) (h2 : ClAt w cs (o + d1.length) d2) : ClAt w cs o (d1 ++ d2) := fun j d hj => by
  rw [List.getElem?_append] at hj
  split at hj
  · exact h1 j d hj
  · obtain ⟨v, e1, e2⟩ := h2 _ d hj
    exact ⟨v, by rw [← e1]; congr 1; omega, e2⟩
theorem Cl.at {w : World} {cs : List Value} {o n : Nat} {ds : List D} (h : Cl w ((cs.drop o).take n) ds) : ClAt w cs o ds := fun j d hj => by
  obtain ⟨v, e1, e2⟩ := h.2 j d hj
  rw [Nat.zero_add, List.getElem?_take] at e1
  split at e1
  · rw [List.getElem?_drop] at e1
    exact ⟨v, e1, e2⟩
  · cases e1
theorem cl_one {w : World} {v : Value} {d : D} (h : RelD w ownN 0 v d) : Cl w [v] [d] := ⟨rfl, fun j x hj => by
  match j, hj with
  | 0, hj => cases hj; exact ⟨v, rfl, h⟩⟩
theorem bulk_pos {H : Type} (d : DataW H) : 1 ≤ uptoBulk d := by
  cases d with
  | lit l => cases l <;> simp [uptoBulk]
  | nil => simp [uptoBulk]
  | ptr d => simp [uptoBulk]
  | slice elems spare => simp [uptoBulk]
  | agg parts => simp [uptoBulk]
  | iface t d => simp [uptoBulk]
  | map entries => simp [uptoBulk]
  | held h => simp [uptoBulk]
theorem addN (g off k : Nat) : Addr.add ⟨g, off, none⟩ k = ⟨g, off + k, none⟩ := by
  unfold Addr.add
  split
  · rename_i e; subst e; rfl
  · rfl
section
variable {H : Type} (enc : TypeId × Value → H) (w : World) (sp : Nat → Bool)
/-- A reading of this type, with so much fuel, is data that e tells, of which ok holds and which weighs no more than what was read. -/
def RdF {α : Type} (fuel : Nat) (t : TypeId) (e : α → List D) (ok : α → Prop) (wg : α → Nat) : Prop :=
  ∀ (cs : List Value) (x : DataW H × List MemPlace), DataW.trod enc Tryz.prog w 0 sp true fuel t cs = some x → ∃ a, ok a ∧ wg a ≤ uptoBulk x.1 ∧ Cl w cs (e a)
variable {enc w sp}
theorem rdf_int {fuel : Nat} {t : TypeId} {k : IntKind} (hu : Tryz.prog.underlying t = some (.int k)) : RdF enc w sp fuel t (fun n : Int => [.val (.int k n)]) (fun n => (Lit.int k n).wf = true) (fun _ => 1) := fun cs x h => by
  obtain ⟨n, rfl, rfl, h3⟩ := DataW.trod_int hu h
  exact ⟨n, h3, by simp [uptoBulk], cl_one (.val _ rfl)⟩
theorem rdf_bool {fuel : Nat} {t : TypeId} (hu : Tryz.prog.underlying t = some .bool) : RdF enc w sp fuel t (fun b : Bool => [ib b]) (fun _ => True) (fun _ => 1) := fun cs x h => by
  obtain ⟨b, rfl, rfl⟩ := DataW.trod_bool hu h
  exact ⟨b, trivial, by simp [uptoBulk], cl_one (.val _ rfl)⟩
theorem rdf_str {fuel : Nat} {t : TypeId} (hu : Tryz.prog.underlying t = some .string) : RdF enc w sp fuel t (fun s : ByteArray => [sd s]) (fun _ => True) (fun s => s.size + 1) := fun cs x h => by
  obtain ⟨s, rfl, rfl, _⟩ := DataW.trod_string hu h
  refine ⟨s, trivial, ?_, cl_one (.val _ rfl)⟩
  simp only [uptoBulk]
  rw [Array.length_toList]
  exact Nat.le_refl _
theorem bulk_sum {α : Type} (wg : α → Nat) : ∀ (xs : List (DataW H)) (l : List α), l.length = xs.length → (∀ (i : Nat) (a : α) (x : DataW H), l[i]? = some a → xs[i]? = some x → wg a ≤ uptoBulk x) → (l.map wg).sum ≤ uptoBulkAll xs
  | [], [], _, _ => by simp
  | [], a :: l, h, _ => by simp at h
  | x :: xs, [], h, _ => by simp at h
  | x :: xs, a :: l, h, hi => by
    have h1 := bulk_sum wg xs l (by simpa using h) (fun i b y hb hy => hi (i + 1) b y (by simpa using hb) (by simpa using hy))
    have h2 := hi 0 a x rfl rfl
    simp only [List.map_cons, List.sum_cons, uptoBulkAll]
    omega
theorem rdf_slice {α : Type} {fuel : Nat} {t el : TypeId} {sz : Nat} {e : α → List D} {ok : α → Prop} {wg : α → Nat} [Inhabited α] (hu : Tryz.prog.underlying t = some (.slice el)) (hc : Tryz.prog.cellsOf el = sz) (hp : 0 < sz) (hsz : ∀ a, (e a).length = sz)
    (h : ∀ n, n < fuel → RdF enc w sp n el e ok wg) : RdF enc w sp fuel t (fun l : List α => [.sl (l.map e)]) (fun l => ∀ a ∈ l, ok a) (fun l => (l.map wg).sum + 1) := fun cs x hx => by
  rcases DataW.trod_slice hu hx with ⟨rfl, rfl⟩ | ⟨a, len, cap, elems, rest, n, hfu, rfl, rfl, hb, hl, hm, hlen, hel, hsp, hns⟩
  · exact ⟨[], fun a ha => (by cases ha), by simp [uptoBulk], cl_one (.emp _ _)⟩
  · have hread := h n (by omega)
    rw [hc] at hel
    have each : ∀ i, ∃ r : α, i < len → ok r ∧ (∀ x, elems[i]? = some x → wg r ≤ uptoBulk x.1) ∧ ∃ ci : List Value, (∀ j, j < sz → w.cell? ((a.add (i * sz)).add j) = ci[j]?) ∧ Cl w ci (e r) := fun i => by
      by_cases hi : i < len
      · have hE := hel i hi
        have hy : elems[i]? = some elems[i] := List.getElem?_eq_getElem (by omega)
        rw [hy] at hE
        simp only [Option.bind_eq_some_iff] at hE
        obtain ⟨ci, hcc, ht⟩ := hE
        obtain ⟨_, hcl, hcc⟩ := World.cells?_some hcc
        obtain ⟨r, q1, q2, q3⟩ := hread _ _ ht
        exact ⟨r, fun _ => ⟨q1, fun x hx => by rw [hy] at hx; cases hx; exact q2, ci, hcc, q3⟩⟩
      · exact ⟨default, fun h => absurd h hi⟩
    obtain ⟨f, hf⟩ := Classical.skolem.1 each
    have hrl : ((List.range len).map f).length = len := by simp
    have hget : ∀ (i : Nat) (r : α), ((List.range len).map f)[i]? = some r → i < len ∧ r = f i := fun i r hr => by
      rw [List.getElem?_map] at hr
      obtain ⟨i', hi', rfl⟩ := Option.map_eq_some_iff.1 hr
      have hlt := (List.getElem?_eq_some_iff.1 hi').1
      rw [List.getElem?_range (by simpa using hlt)] at hi'
      cases hi'
      exact ⟨by simpa using hlt, rfl⟩
    refine ⟨(List.range len).map f, fun r hr => ?_, ?_, ?_⟩
    · obtain ⟨i, hi, rfl⟩ := List.mem_map.1 hr
      exact (hf i (by simpa using hi)).1
    · have := bulk_sum wg (elems.map (·.1)) ((List.range len).map f) (by simp [hlen]) (fun i b y hb hy => by
        obtain ⟨h1, rfl⟩ := hget i b hb
        rw [List.getElem?_map] at hy
        obtain ⟨z, hz, rfl⟩ := Option.map_eq_some_iff.1 hy
        exact (hf i h1).2.1 z hz)
      simp only [uptoBulk]
      omega
    · by_cases h0 : len = 0
      · subst h0
        exact cl_one (.emp _ _)
      · have hspot : a.spot = none := by
          obtain ⟨_, _, ci, h1, h2⟩ := hf 0 (by omega)
          have hlt : 0 < ci.length := by rw [h2.1, hsz]; exact hp
          have := h1 0 hp
          rw [List.getElem?_eq_getElem hlt] at this
          have := World.cell?_spot this
          simpa [Addr.add] using this
        obtain ⟨g, off, spot⟩ := a
        simp only at hspot
        subst hspot
        have hcell : ∀ i j (d : D), i < len → (e (f i))[j]? = some d → ∃ v : Value, w.cell? ⟨g, off + i * sz + j, none⟩ = some v ∧ RelD w ownN 0 v d := fun i j d hi hd => by
          obtain ⟨_, _, ci, h1, h2⟩ := hf i hi
          obtain ⟨v, hv, hr⟩ := h2.2 j d hd
          rw [Nat.zero_add] at hv
          have hj : j < sz := by have := (List.getElem?_eq_some_iff.1 hd).1; rwa [hsz] at this
          have := h1 j hj
          rw [addN, addN, hv] at this
          exact ⟨v, this, hr⟩
        have h00 : 0 < (e (f 0)).length := by rw [hsz]; exact hp
        obtain ⟨v0, hv0, _⟩ := hcell 0 0 _ (by omega) (List.getElem?_eq_getElem h00)
        obtain ⟨c, e', fr, hbk, _⟩ := Sort.cells_of_cell? hv0
        have key : RelD w ownN 0 (.slice (some ⟨g, off, none⟩) (((List.range len).map f).map e).length cap) (.sl (((List.range len).map f).map e)) := by
          refine .sl (sz := sz) (fun i j => (w.cell? ⟨g, off + i * sz + j, none⟩).getD undef) (Nat.zero_le _) hbk (by simp; omega) (fun n hn => by cases hn) (fun ds hds => by obtain ⟨y, _, rfl⟩ := List.mem_map.1 hds; exact hsz y) (fun i j hi hj => ?_) (fun i j ds d hi hj => ?_)
          · have hi' : i < len := by simpa using hi
            have hjl : j < (e (f i)).length := by rw [hsz]; exact hj
            obtain ⟨v, hv, _⟩ := hcell i j _ hi' (List.getElem?_eq_getElem hjl)
            rw [hv]
            rw [cell_at hbk] at hv
            exact hv
          · rw [List.getElem?_map] at hi
            obtain ⟨y, hy, rfl⟩ := Option.map_eq_some_iff.1 hi
            obtain ⟨h1, rfl⟩ := hget i y hy
            obtain ⟨v, hv, hr⟩ := hcell i j d h1 hj
            rw [hv]
            exact hr
        have e3 : (((List.range len).map f).map e).length = len := by simp
        rw [e3] at key
        exact cl_one key
/-- What is read is told otherwise. -/
theorem RdF.to {α β : Type} {fuel : Nat} {t : TypeId} {e : α → List D} {ok : α → Prop} {wg : α → Nat} {e' : β → List D} {ok' : β → Prop} {wg' : β → Nat} (h : RdF enc w sp fuel t e ok wg) (f : α → β) (he : ∀ a, e' (f a) = e a) (ho : ∀ a, ok a → ok' (f a)) (hw : ∀ a, wg' (f a) ≤ wg a) : RdF enc w sp fuel t e' ok' wg' := fun cs x hx => by
  obtain ⟨a, h1, h2, h3⟩ := h cs x hx
  exact ⟨f a, ho a h1, Nat.le_trans (hw a) h2, by rw [he]; exact h3⟩
theorem sum_ones (l : List Int) : (l.map fun _ => 1).sum = l.length := by
  induction l with
  | nil => rfl
  | cons a l ih => simp only [List.map_cons, List.sum_cons, List.length_cons, ih]; omega
theorem rdf_limbs {fuel : Nat} {t el : TypeId} (hu : Tryz.prog.underlying t = some (.slice el)) (he : Tryz.prog.underlying el = some (.int .u64)) (hc : Tryz.prog.cellsOf el = 1) : RdF enc w sp fuel t (fun l : List Int => [encN l]) okL (fun l => l.length + 1) :=
  (rdf_slice hu hc (by decide) (fun _ => rfl) (fun n _ => rdf_int he)).to id (fun l => rfl) (fun l hl x hx => by
    have := hl x hx
    simp [Lit.wf, IntKind.min, IntKind.max, IntKind.signed, IntKind.bits] at this
    omega) (fun l => by simp only [id, sum_ones]; exact Nat.le_refl _)
/-- One field of a struct that reads. -/
theorem rdf_field {α : Type} {n o : Nat} {cs : List Value} {xs : List (DataW H × List MemPlace)} {e : α → List D} {ok : α → Prop} {wg : α → Nat} {fs : Array Field} {i : Nat} {f : Field}
    (hx : ∀ (i : Nat) (f : Field), fs[i]? = some f → DataW.trod enc Tryz.prog w 0 sp true n f.type ((cs.drop f.offset).take (Tryz.prog.cellsOf f.type)) = xs[i]?) (hl : xs.length = fs.size) (hf : fs[i]? = some f) (ho : f.offset = o) (h : RdF enc w sp n f.type e ok wg) :
    ∃ (a : α) (x : DataW H × List MemPlace), xs[i]? = some x ∧ ok a ∧ wg a ≤ uptoBulk x.1 ∧ ClAt w cs o (e a) := by
  have hlt : i < xs.length := by rw [hl]; exact (Array.getElem?_eq_some_iff.1 hf).1
  have h1 := hx i f hf
  rw [List.getElem?_eq_getElem hlt] at h1
  obtain ⟨a, q1, q2, q3⟩ := h _ _ h1
  exact ⟨a, _, List.getElem?_eq_getElem hlt, q1, q2, ho ▸ q3.at⟩
end
end Go.Proofs.YthaiegnohkiegaaGreat.Ab
/-
  From the form's reading of arguments to data: numbers, units, types, schemes; what they weigh bounds all that is asked of them.
-/
namespace Go.Proofs.YthaiegnohkiegaaGreat.Ab
set_option linter.unusedVariables false
set_option linter.unusedSimpArgs false
open Go.ChangeShapes Go.WideShapes
open Go.Proofs.YthaiegnohkiegaaGreat.Rows (uptoBulk uptoBulkAll)
theorem ln2 {α : Type} {l : List α} (h : l.length = 2) : ∃ a b, l = [a, b] := by
  match l, h with
  | [a, b], _ => exact ⟨a, b, rfl⟩
theorem ln3 {α : Type} {l : List α} (h : l.length = 3) : ∃ a b c, l = [a, b, c] := by
  match l, h with
  | [a, b, c], _ => exact ⟨a, b, c, rfl⟩
theorem ln4 {α : Type} {l : List α} (h : l.length = 4) : ∃ a b c d, l = [a, b, c, d] := by
  match l, h with
  | [a, b, c, d], _ => exact ⟨a, b, c, d, rfl⟩
theorem ln5 {α : Type} {l : List α} (h : l.length = 5) : ∃ a b c d e, l = [a, b, c, d, e] := by
  match l, h with
  | [a, b, c, d, e], _ => exact ⟨a, b, c, d, e, rfl⟩
theorem uB : Tryz.prog.underlying 4 = some .bool := uOk rfl
theorem uI : Tryz.prog.underlying 3 = some (.int .i64) := uOk rfl
theorem uS : Tryz.prog.underlying 9 = some .string := uOk rfl
section
variable {H : Type} {enc : TypeId × Value → H} {w : World} {sp : Nat → Bool}
theorem rdf_nat (fuel : Nat) : RdF enc w sp fuel 36 (fun l : List Int => [encN l]) okL (fun l => l.length + 1) := rdf_limbs (el := 58) (uOk rfl) (uOk rfl) (by kernel_rfl)
theorem rdf_whole (fuel : Nat) : RdF enc w sp fuel 38 (fun z : Bool × List Int => [ib z.1, encN z.2]) (fun z => okL z.2) (fun z => z.2.length + 2) := fun cs x h => by
  obtain ⟨xs, n, rfl, rfl, hc, hx, hf⟩ := DataW.trod_struct Tryz.underlying38 h
  obtain ⟨b, x0, e0, _, w0, c0⟩ := rdf_field hf hx (i := 0) rfl rfl (rdf_bool uB)
  obtain ⟨l, x1, e1, k1, w1, c1⟩ := rdf_field hf hx (i := 1) rfl rfl (rdf_nat n)
  obtain ⟨y0, y1, rfl⟩ := ln2 (show xs.length = 2 from hx)
  cases e0; cases e1
  exact ⟨(b, l), k1, by simp only [List.map, uptoBulk, uptoBulkAll]; omega, hc.trans (by kernel_rfl), c0.cat c1⟩
theorem rdf_rat (fuel : Nat) : RdF enc w sp fuel 40 encRq (fun r => okL r.num ∧ okL r.den) (fun r => r.num.length + r.den.length + 3) := fun cs x h => by
  obtain ⟨xs, n, rfl, rfl, hc, hx, hf⟩ := DataW.trod_struct Tryz.underlying40 h
  obtain ⟨z, x0, e0, k0, w0, c0⟩ := rdf_field hf hx (i := 0) rfl rfl (rdf_whole n)
  obtain ⟨l, x1, e1, k1, w1, c1⟩ := rdf_field hf hx (i := 1) rfl rfl (rdf_nat n)
  obtain ⟨y0, y1, rfl⟩ := ln2 (show xs.length = 2 from hx)
  cases e0; cases e1
  exact ⟨⟨z.1, z.2, l⟩, ⟨k0, k1⟩, by simp only [List.map, uptoBulk, uptoBulkAll]; omega, hc.trans (by kernel_rfl), c0.cat c1⟩
theorem rdf_rats (fuel : Nat) : RdF enc w sp fuel 30 (fun l : List Rq => [encRqs l]) (fun l => ∀ r ∈ l, okL r.num ∧ okL r.den) (fun l => (l.map fun r => r.num.length + r.den.length + 3).sum + 1) :=
  rdf_slice (el := 40) (sz := 3) (uOk rfl) (by kernel_rfl) (by decide) (fun _ => rfl) fun n _ => rdf_rat n
theorem rdf_atom (fuel : Nat) : RdF enc w sp fuel 69 (fun z : Int × Int × ByteArray => [ii z.1, ii z.2.1, sd z.2.2]) (fun _ => True) (fun z => z.2.2.size + 3) := fun cs x h => by
  obtain ⟨xs, n, rfl, rfl, hc, hx, hf⟩ := DataW.trod_struct Tryz.underlying69 h
  obtain ⟨k, x0, e0, k0, w0, c0⟩ := rdf_field hf hx (i := 0) rfl rfl (rdf_int uI)
  obtain ⟨m, x1, e1, k1, w1, c1⟩ := rdf_field hf hx (i := 1) rfl rfl (rdf_int uI)
  obtain ⟨s, x2, e2, k2, w2, c2⟩ := rdf_field hf hx (i := 2) rfl rfl (rdf_str uS)
  obtain ⟨y0, y1, y2, rfl⟩ := ln3 (show xs.length = 3 from hx)
  cases e0; cases e1; cases e2
  exact ⟨(k, m, s), trivial, by simp only [List.map, uptoBulk, uptoBulkAll]; omega, hc.trans (by kernel_rfl), c0.cat (c1.cat c2)⟩
def wPw (p : Pw) : Nat := p.mag.length + p.s.size + 5
theorem rdf_power (fuel : Nat) : RdF enc w sp fuel 84 encPw (fun p => okL p.mag) wPw := fun cs x h => by
  obtain ⟨xs, n, rfl, rfl, hc, hx, hf⟩ := DataW.trod_struct Tryz.underlying84 h
  obtain ⟨a, x0, e0, k0, w0, c0⟩ := rdf_field hf hx (i := 0) rfl rfl (rdf_atom n)
  obtain ⟨z, x1, e1, k1, w1, c1⟩ := rdf_field hf hx (i := 1) rfl rfl (rdf_whole n)
  obtain ⟨y0, y1, rfl⟩ := ln2 (show xs.length = 2 from hx)
  cases e0; cases e1
  exact ⟨⟨a.1, a.2.1, a.2.2, z.1, z.2⟩, k1, by simp only [List.map, uptoBulk, uptoBulkAll, wPw]; omega, hc.trans (by kernel_rfl), c0.cat c1⟩
def wU (u : List Pw) : Nat := (u.map wPw).sum + 1
def okU (u : List Pw) : Prop := ∀ p ∈ u, okL p.mag
theorem rdf_unit (fuel : Nat) : RdF enc w sp fuel 66 (fun u : List Pw => [encU u]) okU wU := rdf_slice (el := 84) (sz := 5) (uOk rfl) (by kernel_rfl) (by decide) (fun _ => rfl) fun n _ => rdf_power n
def wUs (l : List (List Pw)) : Nat := (l.map wU).sum + 1
theorem rdf_units (fuel : Nat) : RdF enc w sp fuel 25 (fun l : List (List Pw) => [encUs l]) (fun l => ∀ u ∈ l, okU u) wUs := rdf_slice (el := 66) (uOk rfl) (by kernel_rfl) (by decide) (fun _ => rfl) fun n _ => rdf_unit n
mutual
def wTy : Ty → Nat
  | .mk _ _ s ar us => s.size + 4 + wTys ar + wUs us
def wTys : List Ty → Nat
  | [] => 0
  | t :: l => wTy t + wTys l
end
theorem wTys_sum : ∀ l : List Ty, wTys l = (l.map wTy).sum
  | [] => by simp [wTys]
  | t :: l => by simp [wTys, wTys_sum l]
inductive okR : Ty → Prop where
  | mk {k n : Int} {s : ByteArray} {ar : List Ty} {us : List (List Pw)} (h1 : ∀ u ∈ us, okU u) (h2 : ∀ a ∈ ar, okR a) : okR (.mk k n s ar us)
theorem rdf_type : ∀ fuel : Nat, RdF enc w sp fuel 27 encTy okR wTy := fun fuel => by
  induction fuel using Nat.strongRecOn with
  | ind fuel ih =>
    intro cs x h
    obtain ⟨xs, n, rfl, rfl, hc, hx, hf⟩ := DataW.trod_struct Tryz.underlying27 h
    obtain ⟨k, x0, e0, k0, w0, c0⟩ := rdf_field hf hx (i := 0) rfl rfl (rdf_int uI)
    obtain ⟨m, x1, e1, k1, w1, c1⟩ := rdf_field hf hx (i := 1) rfl rfl (rdf_int uI)
    obtain ⟨s, x2, e2, k2, w2, c2⟩ := rdf_field hf hx (i := 2) rfl rfl (rdf_str uS)
    obtain ⟨ar, x3, e3, k3, w3, c3⟩ := rdf_field hf hx (i := 3) rfl rfl (rdf_slice (el := 27) (sz := 5) (uOk rfl) (by kernel_rfl) (by decide) encTy_len fun q hq => ih q (by omega))
    obtain ⟨us, x4, e4, k4, w4, c4⟩ := rdf_field hf hx (i := 4) rfl rfl (rdf_units n)
    obtain ⟨y0, y1, y2, y3, y4, rfl⟩ := ln5 (show xs.length = 5 from hx)
    cases e0; cases e1; cases e2; cases e3; cases e4
    refine ⟨.mk k m s ar us, .mk k4 k3, by simp only [List.map, uptoBulk, uptoBulkAll, wTy, wTys_sum]; omega, hc.trans (by rw [encTy_len]; kernel_rfl), ?_⟩
    rw [encTy_eq]
    exact c0.cat (c1.cat (c2.cat (c3.cat c4)))
theorem rdf_scheme (fuel : Nat) : RdF enc w sp fuel 29 (fun z : Int × Int × Ty => scD z.1 z.2.1 z.2.2) (fun z => okR z.2.2) (fun z => wTy z.2.2 + 2) := fun cs x h => by
  obtain ⟨xs, n, rfl, rfl, hc, hx, hf⟩ := DataW.trod_struct Tryz.underlying29 h
  obtain ⟨k, x0, e0, k0, w0, c0⟩ := rdf_field hf hx (i := 0) rfl rfl (rdf_int uI)
  obtain ⟨m, x1, e1, k1, w1, c1⟩ := rdf_field hf hx (i := 1) rfl rfl (rdf_int uI)
  obtain ⟨t, x2, e2, k2, w2, c2⟩ := rdf_field hf hx (i := 2) rfl rfl (rdf_type n)
  obtain ⟨y0, y1, y2, rfl⟩ := ln3 (show xs.length = 3 from hx)
  cases e0; cases e1; cases e2
  rw [encTy_eq] at c2
  exact ⟨(k, m, t), k2, by simp only [List.map, uptoBulk, uptoBulkAll]; omega, hc.trans (by kernel_rfl), c0.cat (c1.cat c2)⟩
def wAsk (x : Ask) : Nat := wTy x.t + (x.P.map fun r => r.num.length + r.den.length + 3).sum + (x.Q.map fun r => r.num.length + r.den.length + 3).sum + (x.A.map fun r => r.num.length + r.den.length + 3).sum
def okRAsk (x : Ask) : Prop := okR x.t ∧ (∀ r ∈ x.P, okL r.num ∧ okL r.den) ∧ (∀ r ∈ x.Q, okL r.num ∧ okL r.den) ∧ (∀ r ∈ x.A, okL r.num ∧ okL r.den)
theorem rdf_ask (fuel : Nat) : RdF enc w sp fuel 32 encAsk okRAsk wAsk := fun cs x h => by
  obtain ⟨xs, n, rfl, rfl, hc, hx, hf⟩ := DataW.trod_struct Tryz.underlying32 h
  obtain ⟨z, x0, e0, k0, w0, c0⟩ := rdf_field hf hx (i := 0) rfl rfl (rdf_scheme n)
  obtain ⟨P, x1, e1, k1, w1, c1⟩ := rdf_field hf hx (i := 1) rfl rfl (rdf_rats n)
  obtain ⟨Q, x2, e2, k2, w2, c2⟩ := rdf_field hf hx (i := 2) rfl rfl (rdf_rats n)
  obtain ⟨A, x3, e3, k3, w3, c3⟩ := rdf_field hf hx (i := 3) rfl rfl (rdf_rats n)
  obtain ⟨y0, y1, y2, y3, rfl⟩ := ln4 (show xs.length = 4 from hx)
  cases e0; cases e1; cases e2; cases e3
  exact ⟨⟨z.1, z.2.1, z.2.2, P, Q, A⟩, ⟨k0, k1, k2, k3⟩, by simp only [List.map, uptoBulk, uptoBulkAll, wAsk]; omega, hc.trans (by kernel_rfl), c0.cat (c1.cat (c2.cat c3))⟩
theorem rdf_asks (fuel : Nat) : RdF enc w sp fuel 22 (fun l : List Ask => [.sl (l.map encAsk)]) (fun l => ∀ x ∈ l, okRAsk x) (fun l => (l.map wAsk).sum + 1) := rdf_slice (el := 32) (sz := 10) (uOk rfl) (by kernel_rfl) (by decide) (fun _ => rfl) fun n _ => rdf_ask n
end
theorem sum_mem {α : Type} {wg : α → Nat} : ∀ {l : List α} {a : α}, a ∈ l → wg a ≤ (l.map wg).sum
  | [], a, h => by cases h
  | b :: l, a, h => by
    simp only [List.map_cons, List.sum_cons]
    rcases List.mem_cons.1 h with rfl | h
    · omega
    · have := sum_mem (wg := wg) h; omega
theorem sum_len {α : Type} {wg : α → Nat} (h : ∀ a, 1 ≤ wg a) : ∀ l : List α, l.length ≤ (l.map wg).sum
  | [] => by simp
  | b :: l => by
    have h1 := sum_len h l
    have h2 := h b
    simp only [List.map_cons, List.sum_cons, List.length_cons]
    omega
theorem wTy_pos (t : Ty) : 1 ≤ wTy t := by cases t; simp only [wTy]; omega
theorem szU_wt {u : List Pw} (h : okU u) (hw : wU u ≤ 1048576) : szU u := by
  unfold wU at hw
  have h1 := sum_len (wg := wPw) (fun p => by unfold wPw; omega) u
  refine ⟨by omega, fun p hp => ?_⟩
  have h2 := sum_mem (wg := wPw) hp
  unfold wPw at h2
  exact ⟨by unfold wPw at hw; omega, h p hp, by unfold wPw at hw; omega⟩
mutual
theorem szT_of : ∀ (t : Ty), okR t → wTy t ≤ 1048576 → szT t
  | .mk k n s ar us, h, hw => by
    cases h with
    | mk h1 h2 =>
      simp only [wTy, wUs] at hw
      have e1 := sum_len wTy_pos ar
      have e2 := sum_len (wg := wU) (fun u => by unfold wU; omega) us
      rw [← wTys_sum] at e1
      simp only [szT]
      refine ⟨by omega, by omega, by omega, fun u hu => ?_, szTs_of ar h2 (by omega)⟩
      have := sum_mem (wg := wU) hu
      exact szU_wt (h1 u hu) (by omega)
theorem szTs_of : ∀ (l : List Ty), (∀ a ∈ l, okR a) → wTys l ≤ 1048576 → szTs l
  | [], _, _ => trivial
  | t :: l, h, hw => by
    simp only [wTys] at hw
    simp only [szTs]
    exact ⟨szT_of t (h t (by simp)) (by omega), szTs_of l (fun a ha => h a (by simp [ha])) (by omega)⟩
end
theorem varsU_le (u : List Pw) : (varsU u).length ≤ wU u := by
  have h1 := varsL_len u
  have h2 := sum_len (wg := wPw) (fun p => by unfold wPw; omega) u
  unfold varsU wU
  split
  · omega
  · simp
theorem usL_le : ∀ l : List (List Pw), (usL l).length ≤ (l.map wU).sum
  | [] => by simp [usL]
  | u :: l => by
    have h1 := varsU_le u
    have h2 := usL_le l
    simp only [usL, List.length_append, List.map_cons, List.sum_cons]
    omega
mutual
theorem vars_le : ∀ t : Ty, (tysT t).length ≤ wTy t ∧ (usT t).length ≤ wTy t ∧ nT t ≤ wTy t
  | .mk k n s ar us => by
    obtain ⟨h1, h2, h3⟩ := varss_le ar
    have h4 := usL_le us
    simp only [tysT, usT, nT, wTy, wUs, List.length_append]
    refine ⟨?_, by omega, by omega⟩
    have : (hdT (.mk k n s ar us)).length ≤ 1 := by unfold hdT; split <;> simp
    omega
theorem varss_le : ∀ l : List Ty, (tysTs l).length ≤ wTys l ∧ (usTs l).length ≤ wTys l ∧ nTs l ≤ wTys l
  | [] => by simp [tysTs, usTs, nTs, wTys]
  | t :: l => by
    obtain ⟨h1, h2, h3⟩ := vars_le t
    obtain ⟨h4, h5, h6⟩ := varss_le l
    simp only [tysTs, usTs, nTs, wTys, List.length_append]
    omega
end
theorem wTy_def : wTy default = 5 := by
  show wTy (.mk 0 0 ⟨#[]⟩ [] []) = 5
  simp [wTy, wTys, wUs, ByteArray.size]
theorem wTy_eq (t : Ty) : wTy t = t.s.size + 4 + wTys t.ar + wUs t.us := by cases t; simp only [wTy, Ty.s, Ty.ar, Ty.us]
theorem rd_wTy (t : Ty) (i : Int) : wTy (rd t.ar i) ≤ wTy t + 5 := by
  by_cases h : i.toNat < t.ar.length
  · have : rd t.ar i ∈ t.ar := by unfold rd; rw [List.getD_eq_getElem?_getD, List.getElem?_eq_getElem h]; exact List.getElem_mem _
    have := sum_mem (wg := wTy) this
    rw [← wTys_sum] at this
    have := wTy_eq t
    omega
  · have : rd t.ar i = default := by unfold rd; rw [List.getD_eq_getElem?_getD, List.getElem?_eq_none (by omega)]; rfl
    rw [this, wTy_def]
    omega
theorem nums_le : ∀ (n : Nat) (t x : Ty), x ∈ numsN n t → wTy x ≤ wTy t + 5 * n
  | 0, t, x, h => by simp [numsN] at h; subst h; omega
  | n + 1, t, x, h => by
    simp only [numsN] at h
    split at h
    · rcases List.mem_cons.1 h with rfl | h
      · have := rd_wTy t 0; omega
      · have h1 := nums_le n _ x h
        have h2 := rd_wTy t 1
        omega
    · simp at h; subst h; omega
theorem okTy_of {t : Ty} (h : okR t) (hw : wTy t ≤ 1048576) : okTy t := by
  obtain ⟨h1, h2, h3⟩ := vars_le t
  refine ⟨szT_of t h hw, by omega, by omega, ?_, fun x hx => ?_⟩
  · have := numsT_len t; omega
  · have h4 := nums_le _ t x hx
    have h5 : (rd x.us 0).length ≤ wTy x := by
      by_cases hl : 0 < x.us.length
      · have hm : rd x.us 0 ∈ x.us := mem_rd (by omega) (by omega)
        have h6 := sum_mem (wg := wU) hm
        have h7 := sum_len (wg := wPw) (fun p => by unfold wPw; omega) (rd x.us 0)
        have h8 := wTy_eq x
        unfold wUs at h8
        have h9 : wU (rd x.us 0) = ((rd x.us 0).map wPw).sum + 1 := rfl
        omega
      · have : x.us = [] := List.eq_nil_of_length_eq_zero (by omega)
        rw [this]
        exact Nat.zero_le _
    omega
theorem rqs_of {l : List Rq} (h : ∀ r ∈ l, okL r.num ∧ okL r.den) (hw : (l.map fun r => r.num.length + r.den.length + 3).sum ≤ 1048576) : szRqs l ∧ smallQ l := by
  have h1 := sum_len (wg := fun r : Rq => r.num.length + r.den.length + 3) (fun r => by omega) l
  refine ⟨⟨by omega, fun r hr => ?_⟩, fun r hr => ?_⟩
  · have h2 := sum_mem (wg := fun r : Rq => r.num.length + r.den.length + 3) hr
    exact ⟨⟨by omega, by omega⟩, h r hr⟩
  · have h2 := sum_mem (wg := fun r : Rq => r.num.length + r.den.length + 3) hr
    omega
theorem okAsk_of {x : Ask} (h : okRAsk x) (hw : wAsk x ≤ 1048576) : okAsk x := by
  obtain ⟨k0, k1, k2, k3⟩ := h
  unfold wAsk at hw
  have h0 := okTy_of k0 (by omega)
  obtain ⟨a1, b1⟩ := rqs_of k1 (by omega)
  obtain ⟨a2, b2⟩ := rqs_of k2 (by omega)
  obtain ⟨a3, b3⟩ := rqs_of k3 (by omega)
  exact ⟨⟨h0.1, a1, a2, a3⟩, h0, b1, b2, b3⟩
end Go.Proofs.YthaiegnohkiegaaGreat.Ab
