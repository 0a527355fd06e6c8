/-
  Part 7 of the walks of the program and of the laws of its arithmetic: what each function of the program tells at every input that its premise takes.
-/
import Derived.Test.YthaiegnohkiegaaGreatP6
import Derived.SizedLaws
import Derived.ChangeSlices
import Derived.ChangeArms
import Derived.DataReads
/-
 Contracts of the functions of package scale: Scale.
-/
namespace Go.Proofs.YthaiegnohkiegaaGreat.Ab
set_option linter.unusedVariables false
set_option linter.unusedSimpArgs false
set_option maxRecDepth 20000


set_option maxHeartbeats 2000000 in
theorem sca_Scale (a b : Int) (t : Ty) (p xs : List Rat) (ht : szT t) (h1 : (tysT t).length ≤ 1099511627776) (h2 : (usT t).length ≤ 1099511627776) (hN : (numsT t).length ≤ 549755813888) (hpl : p.length ≤ 549755813888) (hxl : xs.length ≤ 549755813888) (hps : ∀ q ∈ p, szQ q ≤ 1099511627776) (hxs : ∀ q ∈ xs, szQ q ≤ 1099511627776) (hU : ∀ x ∈ numsT t, (rd x.us 0).length ≤ 16777216) (hOk : goodS a b t = true → (numsT t).any badN = false → (p.length : Int) = b → ∀ x ∈ numsT t, okS p (rd x.us 0)) : Fn Tryz.prog 9 [.agg (scD a b t), .d (encQs p), .d (encQs xs)] false (.tup [.d (encQs (scaleR a b t p xs).1), .agg (byD (scaleR a b t p xs).2.1), .d (ii (scaleR a b t p xs).2.2)]) := by
 refine Fn_of_EV Tryz.func9 rfl (by kernel_rfl) rfl rfl (fun E hE => ?_)
 refine EV_seq (EV_region ?_)
 refine EVo_e rfl (D_box 2 (hE 2 rfl) Free_no rfl) ?_
 refine EVo_e rfl (D_box 3 (hE 3 rfl) Free_no rfl) ?_
 refine EVo_t rfl (T_assign rfl) ?_
 refine EVo_e rfl (D_alloc 4 (hE 4 rfl) Free_no zr40 rfl) ?_
 refine EVo_t rfl (T_assign rfl) ?_
 refine EVo_nil ?_
 refine EV_seq ?_
 refine EV_seq (EV_region ?_)
 refine EVo_t rfl (T_loadRA (gOk rfl) (zOk rfl) rfl rfl (Nat.le_of_ble_eq_true rfl) rfl rfl) ?_
 refine EVo_e rfl (D_call false (scheme_Check a b t ht h1 h2) rfl (fit_cons (fit_ag rfl nofun) (fit_nil))) ?_
 refine EVo_t rfl (T_bin rfl rfl rfl) ?_
 refine EVo_nil ?_
 refine EV_cond rfl rfl rfl (fun hb1 => ?_) (fun hb1 => ?_)
 ·try simp only [z1, z2, z3, z4, z5, z6, z7, z8, z9, y1, y2, y3] at hb1
  have hg : goodS a b t = false := by
   cases h : goodS a b t with
   | false => rfl
   | true => rw [h] at hb1; simp at hb1
  refine EV_seq (EV_region ?_)
  refine EVo_t rfl (T_build ly40 rfl rfl) ?_
  refine EVo_t rfl (T_assign rfl) ?_
  refine EVo_e rfl (D_store rfl Free_no rfl rfl (zOk rfl) rfl (Nat.le_of_ble_eq_true rfl) rfl) ?_
  refine EVo_t rfl (T_assign rfl) ?_
  refine EVo_nil ?_
  refine EV_ret ?_
  refine ⟨_, _, _, ⟨rfl, rfl⟩, ⟨rfl, _, _, _, rfl, rfl, rfl, .inl ⟨_, gOk rfl, zOk rfl, Nat.le_of_ble_eq_true rfl, rfl⟩⟩, ⟨rfl, rfl⟩, fit_eq rfl nofun ?_, fit_agg rfl nofun ?_, fit_eq rfl nofun ?_⟩
  ·rw [scaleR_1 hg]; try rfl
  ·rw [scaleR_1 hg]; try rfl
  ·rw [scaleR_1 hg]
 ·try simp only [z1, z2, z3, z4, z5, z6, z7, z8, z9, y1, y2, y3] at hb1
  have hg : goodS a b t = true := by
   cases h : goodS a b t with
   | true => rfl
   | false => rw [h] at hb1; simp at hb1
  have hgt : goodT t = true := by unfold goodS at hg; simp only [Bool.and_eq_true] at hg; exact hg.1.1.1.2
  have hsh := shT_good hgt
  refine EV_skip ?_
  refine EV_seq (EV_region ?_)
  refine EVo_t rfl (T_faR (fOk rfl) (zOk rfl) rfl) ?_
  refine EVo_t rfl (T_loadRA (gOk rfl) (zOk rfl) rfl rfl (Nat.le_of_ble_eq_true rfl) rfl rfl) ?_
  refine EVo_e rfl (D_call false (sca_numbers t ht (shT_good hgt) hN) rfl (fit_cons (fit_ag rfl nofun) (fit_nil))) ?_
  refine EVo_t rfl (T_move rfl) ?_
  refine EVo_t rfl (T_extract rfl rfl) ?_
  refine EVo_t rfl (T_extract rfl rfl) ?_
  refine EVo_t rfl (T_assign rfl) ?_
  refine EVo_t rfl (T_assign rfl) ?_
  refine EVo_nil (EV_seq (EV_region ?_))
  refine EVo_t rfl (T_assign rfl) ?_
  refine EVo_nil ?_
  refine EV_seq ?_
  refine EV_block ?_
  refine EV_seq (EV_region ?_)
  refine EVo_t rfl (T_move rfl) ?_
  refine EVo_t rfl (T_un rfl rfl) ?_
  refine EVo_t rfl (T_assign rfl) ?_
  refine EVo_nil ?_
  refine EV_cond rfl rfl rfl (fun hb2 => ?_) (fun hb2 => ?_)
  ·try simp only [z1, z2, z3, z4, z5, z6, z7, z8, z9, y1, y2, y3] at hb2
   refine EV_seq (EV_region ?_)
   refine EVo_t rfl (T_build ly40 rfl rfl) ?_
   refine EVo_t rfl (T_assign rfl) ?_
   refine EVo_e rfl (D_store rfl Free_no rfl rfl (zOk rfl) rfl (Nat.le_of_ble_eq_true rfl) rfl) ?_
   refine EVo_t rfl (T_assign rfl) ?_
   refine EVo_nil ?_
   refine EV_ret ?_
   refine ⟨_, _, _, ⟨rfl, rfl⟩, ⟨rfl, _, _, _, rfl, rfl, rfl, .inl ⟨_, gOk rfl, zOk rfl, Nat.le_of_ble_eq_true rfl, rfl⟩⟩, ⟨rfl, rfl⟩, fit_eq rfl nofun ?_, fit_agg rfl nofun ?_, fit_eq rfl nofun ?_⟩
   ·rw [scaleR_2 hg hb2]; try rfl
   ·rw [scaleR_2 hg hb2]; try rfl
   ·rw [scaleR_2 hg hb2]
  ·try simp only [z1, z2, z3, z4, z5, z6, z7, z8, z9, y1, y2, y3] at hb2
   have hn2 : 2 ≤ (numsT t).length := by simp only [Bool.and_eq_true, decide_eq_true_eq] at hb2; exact hb2.1
   have hbad : (numsT t).any badN = false := by simp only [Bool.and_eq_true, Bool.not_eq_true'] at hb2; exact hb2.2
   refine EV_seq (EV_region ?_)
   refine EVo_t rfl (T_loadR (gOk rfl) rfl rfl rfl rfl) ?_
   refine EVo_t rfl (T_lenL (uOk rfl) rfl) ?_
   refine EVo_t rfl (T_faR (fOk rfl) (zOk rfl) rfl) ?_
   refine EVo_t rfl (T_loadR (gOk rfl) rfl rfl rfl rfl) ?_
   refine EVo_t rfl (T_bin rfl rfl rfl) ?_
   refine EVo_t rfl (T_move rfl) ?_
   refine EVo_case 40 rfl (fun hb3 => ?_) (fun hb3 => ?_)
   ·try simp only [z1, z2, z3, z4, z5, z6, z7, z8, z9, y1, y2, y3] at hb3
    have hpb : ¬ (p.length : Int) = b := hb3
    refine EVo_off rfl rfl ?_
    refine EVo_off rfl rfl ?_
    refine EVo_off rfl rfl ?_
    refine EVo_off rfl rfl ?_
    refine EVo_off rfl rfl ?_
    refine EVo_off rfl rfl ?_
    refine EVo_t rfl (T_pick rfl rfl) ?_
    refine EVo_t rfl (T_assign rfl) ?_
    refine EVo_nil ?_
    refine EV_cond rfl rfl rfl (fun _ => ?_) (fun h => by first | cases h | (exfalso; simp_all; done))
    refine EV_seq (EV_region ?_)
    refine EVo_t rfl (T_build ly40 rfl rfl) ?_
    refine EVo_t rfl (T_assign rfl) ?_
    refine EVo_e rfl (D_store rfl Free_no rfl rfl (zOk rfl) rfl (Nat.le_of_ble_eq_true rfl) rfl) ?_
    refine EVo_t rfl (T_assign rfl) ?_
    refine EVo_nil ?_
    refine EV_ret ?_
    refine ⟨_, _, _, ⟨rfl, rfl⟩, ⟨rfl, _, _, _, rfl, rfl, rfl, .inl ⟨_, gOk rfl, zOk rfl, Nat.le_of_ble_eq_true rfl, rfl⟩⟩, ⟨rfl, rfl⟩, fit_eq rfl nofun ?_, fit_agg rfl nofun ?_, fit_eq rfl nofun ?_⟩
    ·rw [scaleR_3 hg hn2 hbad (fun h => hpb h.1)]; try rfl
    ·rw [scaleR_3 hg hn2 hbad (fun h => hpb h.1)]; try rfl
    ·rw [scaleR_3 hg hn2 hbad (fun h => hpb h.1)]
   ·try simp only [z1, z2, z3, z4, z5, z6, z7, z8, z9, y1, y2, y3] at hb3
    have hpb : (p.length : Int) = b := hb3
    refine EVo_t rfl (T_move rfl) ?_
    refine EVo_t rfl (T_lenL (uOk rfl) rfl) ?_
    refine EVo_t rfl (T_move rfl) ?_
    refine EVo_t rfl (T_lenL (uOk rfl) rfl) ?_
    refine EVo_t rfl (T_binI rfl rfl rfl (by omega) (by omega)) ?_
    refine EVo_t rfl (T_bin rfl rfl rfl) ?_
    refine EVo_t rfl (T_pick rfl rfl) ?_
    refine EVo_t rfl (T_assign rfl) ?_
    refine EVo_nil ?_
    refine EV_cond rfl rfl rfl (fun hb4 => ?_) (fun hb4 => ?_)
    ·try simp only [z1, z2, z3, z4, z5, z6, z7, z8, z9, y1, y2, y3] at hb4
     have hxb : ¬ (xs.length : Int) = (numsT t).length - 1 := hb4
     refine EV_seq (EV_region ?_)
     refine EVo_t rfl (T_build ly40 rfl rfl) ?_
     refine EVo_t rfl (T_assign rfl) ?_
     refine EVo_e rfl (D_store rfl Free_no rfl rfl (zOk rfl) rfl (Nat.le_of_ble_eq_true rfl) rfl) ?_
     refine EVo_t rfl (T_assign rfl) ?_
     refine EVo_nil ?_
     refine EV_ret ?_
     refine ⟨_, _, _, ⟨rfl, rfl⟩, ⟨rfl, _, _, _, rfl, rfl, rfl, .inl ⟨_, gOk rfl, zOk rfl, Nat.le_of_ble_eq_true rfl, rfl⟩⟩, ⟨rfl, rfl⟩, fit_eq rfl nofun ?_, fit_agg rfl nofun ?_, fit_eq rfl nofun ?_⟩
     ·rw [scaleR_3 hg hn2 hbad (fun h => hxb h.2)]; try rfl
     ·rw [scaleR_3 hg hn2 hbad (fun h => hxb h.2)]; try rfl
     ·rw [scaleR_3 hg hn2 hbad (fun h => hxb h.2)]
    ·try simp only [z1, z2, z3, z4, z5, z6, z7, z8, z9, y1, y2, y3] at hb4
     have hxb : (xs.length : Int) = (numsT t).length - 1 := hb4
     refine EV_seq (EV_region ?_)
     refine EVo_t rfl (T_loadR (gOk rfl) rfl rfl rfl rfl) ?_
     refine EVo_t rfl (T_move rfl) ?_
     refine EVo_e rfl (D_call false (has_false p hpl hps) rfl (fit_cons (fit_d rfl nofun) (fit_cons (fit_d rfl nofun) (fit_nil)))) ?_
     refine EVo_t rfl (T_move rfl) ?_
     refine EVo_t rfl (T_move rfl) ?_
     refine EVo_t rfl (T_move rfl) ?_
     refine EVo_e rfl (D_call false (has_false xs hxl hxs) rfl (fit_cons (fit_d rfl nofun) (fit_cons (fit_d rfl nofun) (fit_nil)))) ?_
     refine EVo_t rfl (T_pick rfl rfl) ?_
     refine EVo_t rfl (T_assign rfl) ?_
     refine EVo_nil ?_
     refine EV_cond rfl rfl rfl (fun h => by first | cases h | (exfalso; simp_all; done)) (fun _ => ?_)
     refine EV_seq (EV_region ?_)
     refine EVo_t rfl (T_loadR (gOk rfl) rfl rfl rfl rfl) ?_
     refine EVo_e rfl (D_call false (has_Ra p 38 (fun q => bitsQ q 256) (by omega) (fun x hx => sca_f2 x (hps x hx))) rfl (fit_cons (fit_d rfl nofun) (fit_cons (fit_d rfl nofun) (fit_nil)))) ?_
     refine EVo_t rfl (T_move rfl) ?_
     refine EVo_case 62 rfl (fun hb5 => ?_) (fun hb5 => ?_)
     ·try simp only [z1, z2, z3, z4, z5, z6, z7, z8, z9, y1, y2, y3] at hb5
      have hbp := hb5
      refine EVo_off rfl rfl ?_
      refine EVo_off rfl rfl ?_
      refine EVo_t rfl (T_pick rfl rfl) ?_
      refine EVo_t rfl (T_assign rfl) ?_
      refine EVo_nil ?_
      refine EV_cond rfl rfl rfl (fun _ => ?_) (fun h => by first | cases h | (exfalso; simp_all; done))
      refine EV_seq (EV_region ?_)
      refine EVo_t rfl (T_build ly40 rfl rfl) ?_
      refine EVo_t rfl (T_assign rfl) ?_
      refine EVo_e rfl (D_store rfl Free_no rfl rfl (zOk rfl) rfl (Nat.le_of_ble_eq_true rfl) rfl) ?_
      refine EVo_t rfl (T_assign rfl) ?_
      refine EVo_nil ?_
      refine EV_ret ?_
      refine ⟨_, _, _, ⟨rfl, rfl⟩, ⟨rfl, _, _, _, rfl, rfl, rfl, .inl ⟨_, gOk rfl, zOk rfl, Nat.le_of_ble_eq_true rfl, rfl⟩⟩, ⟨rfl, rfl⟩, fit_eq rfl nofun ?_, fit_agg rfl nofun ?_, fit_eq rfl nofun ?_⟩
      ·rw [scaleR_4 hg hn2 hbad hpb hxb (.inl hbp)]; try rfl
      ·rw [scaleR_4 hg hn2 hbad hpb hxb (.inl hbp)]; try rfl
      ·rw [scaleR_4 hg hn2 hbad hpb hxb (.inl hbp)]
     ·try simp only [z1, z2, z3, z4, z5, z6, z7, z8, z9, y1, y2, y3] at hb5
      have hbp := hb5
      refine EVo_t rfl (T_move rfl) ?_
      refine EVo_e rfl (D_call false (has_Ra xs 40 (fun q => bitsQ q 4096) (by omega) (fun x hx => sca_f3 x (hxs x hx))) rfl (fit_cons (fit_d rfl nofun) (fit_cons (fit_d rfl nofun) (fit_nil)))) ?_
      refine EVo_t rfl (T_pick rfl rfl) ?_
      refine EVo_t rfl (T_assign rfl) ?_
      refine EVo_nil ?_
      refine EV_cond rfl rfl rfl (fun hb6 => ?_) (fun hb6 => ?_)
      ·try simp only [z1, z2, z3, z4, z5, z6, z7, z8, z9, y1, y2, y3] at hb6
       have hbx := hb6
       refine EV_seq (EV_region ?_)
       refine EVo_t rfl (T_build ly40 rfl rfl) ?_
       refine EVo_t rfl (T_assign rfl) ?_
       refine EVo_e rfl (D_store rfl Free_no rfl rfl (zOk rfl) rfl (Nat.le_of_ble_eq_true rfl) rfl) ?_
       refine EVo_t rfl (T_assign rfl) ?_
       refine EVo_nil ?_
       refine EV_ret ?_
       refine ⟨_, _, _, ⟨rfl, rfl⟩, ⟨rfl, _, _, _, rfl, rfl, rfl, .inl ⟨_, gOk rfl, zOk rfl, Nat.le_of_ble_eq_true rfl, rfl⟩⟩, ⟨rfl, rfl⟩, fit_eq rfl nofun ?_, fit_agg rfl nofun ?_, fit_eq rfl nofun ?_⟩
       ·rw [scaleR_4 hg hn2 hbad hpb hxb (.inr hbx)]; try rfl
       ·rw [scaleR_4 hg hn2 hbad hpb hxb (.inr hbx)]; try rfl
       ·rw [scaleR_4 hg hn2 hbad hpb hxb (.inr hbx)]
      ·try simp only [z1, z2, z3, z4, z5, z6, z7, z8, z9, y1, y2, y3] at hb6
       have hbx := hb6
       refine EV_seq (EV_region ?_)
       refine EVo_t rfl (T_loadR (gOk rfl) rfl rfl rfl rfl) ?_
       refine EVo_e rfl (D_call false (has_Ra p 41 (fun q => decide (q.num ≤ 0)) (by omega) (fun x hx => sca_f4 x (hps x hx))) rfl (fit_cons (fit_d rfl nofun) (fit_cons (fit_d rfl nofun) (fit_nil)))) ?_
       refine EVo_t rfl (T_assign rfl) ?_
       refine EVo_nil ?_
       refine EV_cond rfl rfl rfl (fun hb7 => ?_) (fun hb7 => ?_)
       ·try simp only [z1, z2, z3, z4, z5, z6, z7, z8, z9, y1, y2, y3] at hb7
        have hpp := hb7
        refine EV_seq (EV_region ?_)
        refine EVo_t rfl (T_build ly40 rfl rfl) ?_
        refine EVo_t rfl (T_assign rfl) ?_
        refine EVo_e rfl (D_store rfl Free_no rfl rfl (zOk rfl) rfl (Nat.le_of_ble_eq_true rfl) rfl) ?_
        refine EVo_t rfl (T_assign rfl) ?_
        refine EVo_nil ?_
        refine EV_ret ?_
        refine ⟨_, _, _, ⟨rfl, rfl⟩, ⟨rfl, _, _, _, rfl, rfl, rfl, .inl ⟨_, gOk rfl, zOk rfl, Nat.le_of_ble_eq_true rfl, rfl⟩⟩, ⟨rfl, rfl⟩, fit_eq rfl nofun ?_, fit_agg rfl nofun ?_, fit_eq rfl nofun ?_⟩
        ·rw [scaleR_5 hg hn2 hbad hpb hxb hbp hbx hpp]; try rfl
        ·rw [scaleR_5 hg hn2 hbad hpb hxb hbp hbx hpp]; try rfl
        ·rw [scaleR_5 hg hn2 hbad hpb hxb hbp hbx hpp]
       ·try simp only [z1, z2, z3, z4, z5, z6, z7, z8, z9, y1, y2, y3] at hb7
        have hpp := hb7
        refine EV_skip ?_
        refine EV_seq (EV_region ?_)
        refine EVo_t rfl (T_mf rfl rfl rfl) ?_
        refine EVo_t rfl (T_assign rfl) ?_
        refine EVo_nil ?_
        refine EV_seq ?_
        refine EV_seq (EV_region ?_)
        refine EVo_t rfl (T_move rfl) ?_
        refine EVo_t rfl (T_lenL (uOk rfl) rfl) ?_
        refine EVo_t rfl (T_move rfl) ?_
        refine EVo_nil ?_
        refine EV_block ?_
        have hP : okP p 8 := fun P hP => ⟨fun e => by have := any_false hpp P hP; subst e; simp at this, bits_szQ (m := 4) (any_false hbp P hP)⟩
        have hX : ∀ x ∈ xs, szQ x ≤ 128 := fun x hx => bits_szQ (m := 64) (any_false hbx x hx)
        have hok := hOk hg hbad hpb
        refine EV_weak (W_nilRow 1 6 40 3 (hE 1 rfl) rfl) ?_
        refine EV_weak (W_keep2 [(2, V.c (.d false (encQs xs))), (6, V.c (.own 1 40 3 (true) (List.map encQ (([] : List Rat))))), (7, V.c (.ref 4 0)), (9, V.c (.d false (.sl ((numsT t).map encTy)))), (12, V.c (cF 43 [] [.ref 3 0])), (72, V.c (.d false (encQs xs))), (73, vi .i64 xs.length), (74, vi .i64 ((0 : Int)))] [(1, .row), (3, .box [.d false (encQs p)]), (4, .box [cb false, .d true (.val (.slice none 0 0)), .d true (.val (.slice none 0 0))])] ⟨rfl, rfl, rfl, rfl, rfl, rfl, rfl, rfl, trivial⟩ ⟨rfl, rfl, rfl, trivial⟩ rfl) ?_
        refine EV_loop (fun mm S => ∃ i : Int, ∃ L : List Rat, ∃ f : Bool, mm = ((xs.length : Int) - i).toNat ∧ S = St.of [(2, V.c (.d false (encQs xs))), (6, V.c (.own 1 40 3 f (List.map encQ L))), (7, V.c (.ref 4 0)), (9, V.c (.d false (.sl ((numsT t).map encTy)))), (12, V.c (cF 43 [] [.ref 3 0])), (72, V.c (.d false (encQs xs))), (73, vi .i64 xs.length), (74, vi .i64 i)] (tabO [(1, .row), (3, .box [.d false (encQs p)]), (4, .box [cb false, .d true (.val (.slice none 0 0)), .d true (.val (.slice none 0 0))])]) 140 ∧ 0 ≤ i ∧ i ≤ xs.length ∧ L.length = i.toNat ∧ (loopR p ((numsT t).drop i.toNat) (xs.drop i.toNat)).map (L ++ ·) = loopR p (numsT t) xs) _ ⟨(0 : Int), ([] : List Rat), true, rfl, rfl, ⟨by omega, by omega, rfl, by simp⟩⟩ ?_
        rintro mm S ⟨i, L, f, rfl, rfl, ⟨h0, hi1, hL, hR⟩⟩
        have ei : (i.toNat : Int) = i := by omega
        refine EV_seq (EV_region ?_)
        refine EVo_t rfl (T_bin rfl rfl rfl) ?_
        refine EVo_nil ?_
        refine EV_seq ?_
        refine EV_cond rfl rfl rfl (fun hb8 => ?_) (fun hb8 => ?_)
        ·try simp only [z1, z2, z3, z4, z5, z6, z7, z8, z9, y1, y2, y3] at hb8
         have hm := mem_rd (l := numsT t) h0 (by omega)
         have hx := hX (rd xs i) (mem_rd h0 (by omega))
         have hoi := hok _ hm
         have hul := hU _ hm
         have hone := badN_no hsh ht hm hbad
         have hsz := szQ_scaleQ p 8 hP (rd (rd (numsT t) i).us 0) (rd xs i) hoi
         refine EV_skip ?_
         refine EV_seq ?_
         refine EV_block ?_
         refine EV_seq (EV_region ?_)
         refine EVo_t rfl (T_move rfl) ?_
         refine EVo_t rfl (T_ixL (uOk rfl) (zOk rfl) rfl rfl (by omega) (by omega) (rfl)) ?_
         refine EVo_t rfl (T_loadA (gOk rfl) (zOk rfl) rfl (Nat.le_of_ble_eq_true rfl)) ?_
         refine EVo_e rfl (D_alloc 5 (hE 5 rfl) Free_no zr40 rfl) ?_
         refine EVo_t rfl (T_assign rfl) ?_
         refine EVo_e rfl (D_store rfl Free_no rfl rfl (zOk rfl) rfl (Nat.le_of_ble_eq_true rfl) rfl) ?_
         refine EVo_nil ?_
         refine EV_seq ?_
         refine EV_draw (inX []) (.st 0 (.st 2 (.st 3 (.st 4 (.st 5 (.st 6 (.st 7 (.st 8 (.two 1 (.two 9 (.one 10 (.one 11 .done)) 10 (.one 9 (.one 11 .done))) 10 (.one 1 (.one 9 (.one 11 .done)))))))))))) Tryz.mixed (by kernel_rfl) ?_
         refine EVq_t rfl rfl (T_move rfl) ?_
         refine EVq_t rfl rfl (T_move rfl) ?_
         refine EVq_t rfl rfl (T_move rfl) ?_
         refine EVq_t rfl rfl (T_ixL (uOk rfl) (zOk rfl) rfl rfl (by omega) (by omega) (encTy_len _)) ?_
         rw [encTy_eq]
         refine EVq_t rfl rfl (T_fa (fOk rfl) (zOk rfl) rfl (Nat.le_of_ble_eq_true rfl)) ?_
         refine EVq_t rfl rfl (T_load (gOk rfl) rfl) ?_
         refine EVq_t rfl rfl (T_ixL (uOk rfl) (zOk rfl) rfl rfl (by omega) (by omega) (rfl)) ?_
         refine EVq_t rfl rfl (T_load (gOk rfl) rfl) ?_
         refine EVq_two rfl rfl ((T_loadRA (gOk rfl) (zOk rfl) rfl rfl (Nat.le_of_ble_eq_true rfl) rfl rfl).now) rfl rfl (D_alloc 6 (hE 6 rfl) (Free_in rfl) zr40 rfl) ?_ ?_
         ·
          refine EVq_two rfl rfl (D_callG [(900, 3)] (sca_scaled p (rd (rd (numsT t) i).us 0) (rd xs i) 8 hpl (by omega) hP hoi (by omega)) rfl rfl rfl rfl (fun _ => Free_no) rfl ⟨⟨_, _, rfl, rfl, rfl⟩, trivial⟩ ⟨.inl rfl, trivial⟩) rfl rfl (D_alloc 7 (hE 7 rfl) (Free_in rfl) zr40 rfl) ?_ ?_
          ·
           refine EVq_e rfl rfl (D_alloc 8 (hE 8 rfl) (Free_in rfl) zr40 rfl) ?_
           refine EVq_e rfl rfl (D_store rfl (Free_in rfl) rfl rfl (zOk rfl) rfl (Nat.le_of_ble_eq_true rfl) rfl) ?_
           refine EVq_done ?_
           refine EV_seq (EV_region ?_)
           refine EVo_t rfl (T_loadRA (gOk rfl) (zOk rfl) rfl rfl (Nat.le_of_ble_eq_true rfl) rfl rfl) ?_
           refine EVo_e rfl (D_call false (ratio_WholeI (rd xs i) (by omega)) rfl (fit_cons (fit_ag rfl nofun) (fit_nil))) ?_
           refine EVo_t rfl (T_move rfl) ?_
           refine EVo_t rfl (T_extract rfl rfl) ?_
           refine EVo_t rfl (T_extract rfl rfl) ?_
           refine EVo_e rfl (D_alloc 9 (hE 9 rfl) Free_no zr38 rfl) ?_
           refine EVo_e rfl (D_store rfl Free_no rfl rfl (zOk rfl) rfl (Nat.le_of_ble_eq_true rfl) rfl) ?_
           refine EVo_t rfl (T_assign rfl) ?_
           refine EVo_nil (EV_seq (EV_region ?_))
           refine EVo_t rfl (T_loadRA (gOk rfl) (zOk rfl) rfl rfl (Nat.le_of_ble_eq_true rfl) rfl rfl) ?_
           refine EVo_e rfl (D_call false (ratio_WholeI (scaleQ p (rd (rd (numsT t) i).us 0) (rd xs i)) (by omega)) rfl (fit_cons (fit_ag rfl nofun) (fit_nil))) ?_
           refine EVo_t rfl (T_move rfl) ?_
           refine EVo_t rfl (T_extract rfl rfl) ?_
           refine EVo_t rfl (T_extract rfl rfl) ?_
           refine EVo_e rfl (D_alloc 10 (hE 10 rfl) Free_no zr38 rfl) ?_
           refine EVo_e rfl (D_store rfl Free_no rfl rfl (zOk rfl) rfl (Nat.le_of_ble_eq_true rfl) rfl) ?_
           refine EVo_t rfl (T_assign rfl) ?_
           refine EVo_nil ?_
           refine EV_seq ?_
           refine EV_seq (EV_region ?_)
           refine EVo_t rfl (T_move rfl) ?_
           refine EVo_t rfl (T_move rfl) ?_
           refine EVo_t rfl (T_ixL (uOk rfl) (zOk rfl) rfl rfl (by omega) (by omega) (encTy_len _)) ?_
           rw [encTy_eq]
           refine EVo_t rfl (T_fa (fOk rfl) (zOk rfl) rfl (Nat.le_of_ble_eq_true rfl)) ?_
           refine EVo_t rfl (T_load (gOk rfl) rfl) ?_
           refine EVo_t rfl (T_bin rfl rfl rfl) ?_
           refine EVo_t rfl (T_move rfl) ?_
           refine EVo_case 105 rfl (fun hb9 => ?_) (fun hb9 => ?_)
           ·try simp only [z1, z2, z3, z4, z5, z6, z7, z8, z9, y1, y2, y3] at hb9
            refine EVo_t rfl (T_move rfl) ?_
            refine EVo_t rfl (T_un rfl rfl) ?_
            refine EVo_t rfl (T_move rfl) ?_
            refine EVo_case 108 rfl (fun hb10 => ?_) (fun hb10 => ?_)
            ·try simp only [z1, z2, z3, z4, z5, z6, z7, z8, z9, y1, y2, y3] at hb10
             refine EVo_off rfl rfl ?_
             refine EVo_off rfl rfl ?_
             refine EVo_t rfl (T_pick rfl rfl) ?_
             refine EVo_t rfl (T_pick rfl rfl) ?_
             refine EVo_nil ?_
             refine EV_cond rfl rfl rfl (fun _ => ?_) (fun h => by first | cases h | (exfalso; simp_all; done))
             refine EV_seq (EV_region ?_)
             refine EVo_t rfl (T_build ly40 rfl rfl) ?_
             refine EVo_t rfl (T_assign rfl) ?_
             refine EVo_e rfl (D_store rfl Free_no rfl rfl (zOk rfl) rfl (Nat.le_of_ble_eq_true rfl) rfl) ?_
             refine EVo_t rfl (T_assign rfl) ?_
             refine EVo_nil ?_
             refine EV_ret ?_
             have hnone : loopR p (numsT t) xs = none := by rw [← hR, loopR_at (n := i.toNat) (by omega) (by omega), ei, if_pos (by simp_all)]; rfl
             refine ⟨_, _, _, ⟨rfl, rfl⟩, ⟨rfl, _, _, _, rfl, rfl, rfl, .inl ⟨_, gOk rfl, zOk rfl, Nat.le_of_ble_eq_true rfl, rfl⟩⟩, ⟨rfl, rfl⟩, fit_eq rfl nofun ?_, fit_agg rfl nofun ?_, fit_eq rfl nofun ?_⟩
             ·rw [scaleR_6 hg hn2 hbad hpb hxb hbp hbx hpp hnone]; try rfl
             ·rw [scaleR_6 hg hn2 hbad hpb hxb hbp hbx hpp hnone]; try rfl
             ·rw [scaleR_6 hg hn2 hbad hpb hxb hbp hbx hpp hnone]
            ·try simp only [z1, z2, z3, z4, z5, z6, z7, z8, z9, y1, y2, y3] at hb10
             refine EVo_t rfl (T_move rfl) ?_
             refine EVo_t rfl (T_un rfl rfl) ?_
             refine EVo_t rfl (T_pick rfl rfl) ?_
             refine EVo_t rfl (T_pick rfl rfl) ?_
             refine EVo_nil ?_
             refine EV_cond rfl rfl rfl (fun hb11 => ?_) (fun hb11 => ?_)
             ·try simp only [z1, z2, z3, z4, z5, z6, z7, z8, z9, y1, y2, y3] at hb11
              refine EV_seq (EV_region ?_)
              refine EVo_t rfl (T_build ly40 rfl rfl) ?_
              refine EVo_t rfl (T_assign rfl) ?_
              refine EVo_e rfl (D_store rfl Free_no rfl rfl (zOk rfl) rfl (Nat.le_of_ble_eq_true rfl) rfl) ?_
              refine EVo_t rfl (T_assign rfl) ?_
              refine EVo_nil ?_
              refine EV_ret ?_
              have hnone : loopR p (numsT t) xs = none := by rw [← hR, loopR_at (n := i.toNat) (by omega) (by omega), ei, if_pos (by simp_all)]; rfl
              refine ⟨_, _, _, ⟨rfl, rfl⟩, ⟨rfl, _, _, _, rfl, rfl, rfl, .inl ⟨_, gOk rfl, zOk rfl, Nat.le_of_ble_eq_true rfl, rfl⟩⟩, ⟨rfl, rfl⟩, fit_eq rfl nofun ?_, fit_agg rfl nofun ?_, fit_eq rfl nofun ?_⟩
              ·rw [scaleR_6 hg hn2 hbad hpb hxb hbp hbx hpp hnone]; try rfl
              ·rw [scaleR_6 hg hn2 hbad hpb hxb hbp hbx hpp hnone]; try rfl
              ·rw [scaleR_6 hg hn2 hbad hpb hxb hbp hbx hpp hnone]
             ·try simp only [z1, z2, z3, z4, z5, z6, z7, z8, z9, y1, y2, y3] at hb11
              refine EV_skip ?_
              refine EV_seq ?_
              refine EV_draw (inX []) (.st 1 (.two 0 (.one 2 (.one 3 (.st 4 (.st 5 (.st 6 (.one 7 .done)))))) 2 (.one 0 (.one 3 (.st 4 (.st 5 (.st 6 (.one 7 .done)))))))) Tryz.mixed (by kernel_rfl) ?_
              refine EVq_t rfl rfl (T_build ly38 rfl rfl) ?_
              refine EVq_two rfl rfl ((T_loadRA (gOk rfl) (zOk rfl) rfl rfl (Nat.le_of_ble_eq_true rfl) rfl rfl).now) rfl rfl (D_call false (ratio_From0) rfl (fit_cons (fit_ag rfl nofun) (fit_nil))) ?_ ?_
              ·
               refine EVq_e rfl rfl (D_call false (ratio_From0) rfl (fit_cons (fit_ag rfl nofun) (fit_nil))) ?_
               refine EVq_e rfl rfl (D_call false (ratio_Add0 _ (by omega)) rfl (fit_cons (fit_ag rfl nofun) (fit_cons (fit_ag rfl nofun) (fit_nil)))) ?_
               refine EVq_t rfl rfl (T_move rfl) ?_
               refine EVq_t rfl rfl (T_extract rfl rfl) ?_
               refine EVq_t rfl rfl (T_extract rfl rfl) ?_
               refine EVq_e rfl rfl (D_store rfl (Free_in rfl) rfl rfl (zOk rfl) rfl (Nat.le_of_ble_eq_true rfl) rfl) ?_
               refine EVq_done ?_
               refine EV_region ?_
               refine EVo_t rfl (T_move rfl) ?_
               refine EVo_t rfl (T_loadRA (gOk rfl) (zOk rfl) rfl rfl (Nat.le_of_ble_eq_true rfl) rfl rfl) ?_
               refine EVo_e rfl (D_buildSlice (uOk rfl) bz40 rfl rfl rfl (by simp)) ?_
               refine EVo_e rfl (D_append (uOk rfl) ap40 (by decide) rfl rfl (hE 1 rfl) Free_no rfl rfl (by simp) (by simp; omega) (by simp; omega)) ?_
               refine EVo_t rfl (T_assign rfl) ?_
               refine EVo_nil ?_
               refine EV_region ?_
               refine EVo_t rfl (T_binI rfl rfl rfl (by omega) (by omega)) ?_
               refine EVo_t rfl (T_move rfl) ?_
               refine EVo_nil ?_
               refine ⟨_, ?_, _, W_keep2 [(2, V.c (.d false (encQs xs))), (6, V.c (.own 1 40 3 (_) (List.map encQ (L ++ [scaleQ p (rd (rd (numsT t) i).us 0) (rd xs i)])))), (7, V.c (.ref 4 0)), (9, V.c (.d false (.sl ((numsT t).map encTy)))), (12, V.c (cF 43 [] [.ref 3 0])), (72, V.c (.d false (encQs xs))), (73, vi .i64 xs.length), (74, vi .i64 (i + 1))] [(1, .row), (3, .box [.d false (encQs p)]), (4, .box [cb false, .d true (.val (.slice none 0 0)), .d true (.val (.slice none 0 0))])] ⟨rfl, (own_app rfl), rfl, rfl, rfl, rfl, rfl, rfl, trivial⟩ ⟨rfl, rfl, rfl, trivial⟩ rfl, i + 1, L ++ [scaleQ p (rd (rd (numsT t) i).us 0) (rd xs i)], _, rfl, rfl, ?_⟩
               ·omega
               ·have e2 : (i + 1).toNat = i.toNat + 1 := by omega
                rw [e2]
                refine ⟨by omega, by omega, by simp; omega, ?_⟩
                rw [← hR, loopR_at (n := i.toNat) (by omega) (by omega), ei, if_neg (by simp_all)]
                cases loopR p ((numsT t).drop (i.toNat + 1)) (xs.drop (i.toNat + 1)) <;> simp
              ·
               refine EVq_e rfl rfl ((T_loadRA (gOk rfl) (zOk rfl) rfl rfl (Nat.le_of_ble_eq_true rfl) rfl rfl).now) ?_
               refine EVq_e rfl rfl (D_call false (ratio_Add0 _ (by omega)) rfl (fit_cons (fit_ag rfl nofun) (fit_cons (fit_ag rfl nofun) (fit_nil)))) ?_
               refine EVq_t rfl rfl (T_move rfl) ?_
               refine EVq_t rfl rfl (T_extract rfl rfl) ?_
               refine EVq_t rfl rfl (T_extract rfl rfl) ?_
               refine EVq_e rfl rfl (D_store rfl (Free_in rfl) rfl rfl (zOk rfl) rfl (Nat.le_of_ble_eq_true rfl) rfl) ?_
               refine EVq_done ?_
               refine EV_region ?_
               refine EVo_t rfl (T_move rfl) ?_
               refine EVo_t rfl (T_loadRA (gOk rfl) (zOk rfl) rfl rfl (Nat.le_of_ble_eq_true rfl) rfl rfl) ?_
               refine EVo_e rfl (D_buildSlice (uOk rfl) bz40 rfl rfl rfl (by simp)) ?_
               refine EVo_e rfl (D_append (uOk rfl) ap40 (by decide) rfl rfl (hE 1 rfl) Free_no rfl rfl (by simp) (by simp; omega) (by simp; omega)) ?_
               refine EVo_t rfl (T_assign rfl) ?_
               refine EVo_nil ?_
               refine EV_region ?_
               refine EVo_t rfl (T_binI rfl rfl rfl (by omega) (by omega)) ?_
               refine EVo_t rfl (T_move rfl) ?_
               refine EVo_nil ?_
               refine ⟨_, ?_, _, W_keep2 [(2, V.c (.d false (encQs xs))), (6, V.c (.own 1 40 3 (_) (List.map encQ (L ++ [scaleQ p (rd (rd (numsT t) i).us 0) (rd xs i)])))), (7, V.c (.ref 4 0)), (9, V.c (.d false (.sl ((numsT t).map encTy)))), (12, V.c (cF 43 [] [.ref 3 0])), (72, V.c (.d false (encQs xs))), (73, vi .i64 xs.length), (74, vi .i64 (i + 1))] [(1, .row), (3, .box [.d false (encQs p)]), (4, .box [cb false, .d true (.val (.slice none 0 0)), .d true (.val (.slice none 0 0))])] ⟨rfl, (own_app rfl), rfl, rfl, rfl, rfl, rfl, rfl, trivial⟩ ⟨rfl, rfl, rfl, trivial⟩ rfl, i + 1, L ++ [scaleQ p (rd (rd (numsT t) i).us 0) (rd xs i)], _, rfl, rfl, ?_⟩
               ·omega
               ·have e2 : (i + 1).toNat = i.toNat + 1 := by omega
                rw [e2]
                refine ⟨by omega, by omega, by simp; omega, ?_⟩
                rw [← hR, loopR_at (n := i.toNat) (by omega) (by omega), ei, if_neg (by simp_all)]
                cases loopR p ((numsT t).drop (i.toNat + 1)) (xs.drop (i.toNat + 1)) <;> simp
           ·try simp only [z1, z2, z3, z4, z5, z6, z7, z8, z9, y1, y2, y3] at hb9
            refine EVo_off rfl rfl ?_
            refine EVo_off rfl rfl ?_
            refine EVo_off rfl rfl ?_
            refine EVo_off rfl rfl ?_
            refine EVo_off rfl rfl ?_
            refine EVo_off rfl rfl ?_
            refine EVo_t rfl (T_pick rfl rfl) ?_
            refine EVo_nil ?_
            refine EV_cond rfl rfl rfl (fun h => by first | cases h | (exfalso; simp_all; done)) (fun _ => ?_)
            refine EV_skip ?_
            refine EV_seq ?_
            refine EV_draw (inX []) (.st 1 (.two 0 (.one 2 (.one 3 (.st 4 (.st 5 (.st 6 (.one 7 .done)))))) 2 (.one 0 (.one 3 (.st 4 (.st 5 (.st 6 (.one 7 .done)))))))) Tryz.mixed (by kernel_rfl) ?_
            refine EVq_t rfl rfl (T_build ly38 rfl rfl) ?_
            refine EVq_two rfl rfl ((T_loadRA (gOk rfl) (zOk rfl) rfl rfl (Nat.le_of_ble_eq_true rfl) rfl rfl).now) rfl rfl (D_call false (ratio_From0) rfl (fit_cons (fit_ag rfl nofun) (fit_nil))) ?_ ?_
            ·
             refine EVq_e rfl rfl (D_call false (ratio_From0) rfl (fit_cons (fit_ag rfl nofun) (fit_nil))) ?_
             refine EVq_e rfl rfl (D_call false (ratio_Add0 _ (by omega)) rfl (fit_cons (fit_ag rfl nofun) (fit_cons (fit_ag rfl nofun) (fit_nil)))) ?_
             refine EVq_t rfl rfl (T_move rfl) ?_
             refine EVq_t rfl rfl (T_extract rfl rfl) ?_
             refine EVq_t rfl rfl (T_extract rfl rfl) ?_
             refine EVq_e rfl rfl (D_store rfl (Free_in rfl) rfl rfl (zOk rfl) rfl (Nat.le_of_ble_eq_true rfl) rfl) ?_
             refine EVq_done ?_
             refine EV_region ?_
             refine EVo_t rfl (T_move rfl) ?_
             refine EVo_t rfl (T_loadRA (gOk rfl) (zOk rfl) rfl rfl (Nat.le_of_ble_eq_true rfl) rfl rfl) ?_
             refine EVo_e rfl (D_buildSlice (uOk rfl) bz40 rfl rfl rfl (by simp)) ?_
             refine EVo_e rfl (D_append (uOk rfl) ap40 (by decide) rfl rfl (hE 1 rfl) Free_no rfl rfl (by simp) (by simp; omega) (by simp; omega)) ?_
             refine EVo_t rfl (T_assign rfl) ?_
             refine EVo_nil ?_
             refine EV_region ?_
             refine EVo_t rfl (T_binI rfl rfl rfl (by omega) (by omega)) ?_
             refine EVo_t rfl (T_move rfl) ?_
             refine EVo_nil ?_
             refine ⟨_, ?_, _, W_keep2 [(2, V.c (.d false (encQs xs))), (6, V.c (.own 1 40 3 (_) (List.map encQ (L ++ [scaleQ p (rd (rd (numsT t) i).us 0) (rd xs i)])))), (7, V.c (.ref 4 0)), (9, V.c (.d false (.sl ((numsT t).map encTy)))), (12, V.c (cF 43 [] [.ref 3 0])), (72, V.c (.d false (encQs xs))), (73, vi .i64 xs.length), (74, vi .i64 (i + 1))] [(1, .row), (3, .box [.d false (encQs p)]), (4, .box [cb false, .d true (.val (.slice none 0 0)), .d true (.val (.slice none 0 0))])] ⟨rfl, (own_app rfl), rfl, rfl, rfl, rfl, rfl, rfl, trivial⟩ ⟨rfl, rfl, rfl, trivial⟩ rfl, i + 1, L ++ [scaleQ p (rd (rd (numsT t) i).us 0) (rd xs i)], _, rfl, rfl, ?_⟩
             ·omega
             ·have e2 : (i + 1).toNat = i.toNat + 1 := by omega
              rw [e2]
              refine ⟨by omega, by omega, by simp; omega, ?_⟩
              rw [← hR, loopR_at (n := i.toNat) (by omega) (by omega), ei, if_neg (by simp_all)]
              cases loopR p ((numsT t).drop (i.toNat + 1)) (xs.drop (i.toNat + 1)) <;> simp
            ·
             refine EVq_e rfl rfl ((T_loadRA (gOk rfl) (zOk rfl) rfl rfl (Nat.le_of_ble_eq_true rfl) rfl rfl).now) ?_
             refine EVq_e rfl rfl (D_call false (ratio_Add0 _ (by omega)) rfl (fit_cons (fit_ag rfl nofun) (fit_cons (fit_ag rfl nofun) (fit_nil)))) ?_
             refine EVq_t rfl rfl (T_move rfl) ?_
             refine EVq_t rfl rfl (T_extract rfl rfl) ?_
             refine EVq_t rfl rfl (T_extract rfl rfl) ?_
             refine EVq_e rfl rfl (D_store rfl (Free_in rfl) rfl rfl (zOk rfl) rfl (Nat.le_of_ble_eq_true rfl) rfl) ?_
             refine EVq_done ?_
             refine EV_region ?_
             refine EVo_t rfl (T_move rfl) ?_
             refine EVo_t rfl (T_loadRA (gOk rfl) (zOk rfl) rfl rfl (Nat.le_of_ble_eq_true rfl) rfl rfl) ?_
             refine EVo_e rfl (D_buildSlice (uOk rfl) bz40 rfl rfl rfl (by simp)) ?_
             refine EVo_e rfl (D_append (uOk rfl) ap40 (by decide) rfl rfl (hE 1 rfl) Free_no rfl rfl (by simp) (by simp; omega) (by simp; omega)) ?_
             refine EVo_t rfl (T_assign rfl) ?_
             refine EVo_nil ?_
             refine EV_region ?_
             refine EVo_t rfl (T_binI rfl rfl rfl (by omega) (by omega)) ?_
             refine EVo_t rfl (T_move rfl) ?_
             refine EVo_nil ?_
             refine ⟨_, ?_, _, W_keep2 [(2, V.c (.d false (encQs xs))), (6, V.c (.own 1 40 3 (_) (List.map encQ (L ++ [scaleQ p (rd (rd (numsT t) i).us 0) (rd xs i)])))), (7, V.c (.ref 4 0)), (9, V.c (.d false (.sl ((numsT t).map encTy)))), (12, V.c (cF 43 [] [.ref 3 0])), (72, V.c (.d false (encQs xs))), (73, vi .i64 xs.length), (74, vi .i64 (i + 1))] [(1, .row), (3, .box [.d false (encQs p)]), (4, .box [cb false, .d true (.val (.slice none 0 0)), .d true (.val (.slice none 0 0))])] ⟨rfl, (own_app rfl), rfl, rfl, rfl, rfl, rfl, rfl, trivial⟩ ⟨rfl, rfl, rfl, trivial⟩ rfl, i + 1, L ++ [scaleQ p (rd (rd (numsT t) i).us 0) (rd xs i)], _, rfl, rfl, ?_⟩
             ·omega
             ·have e2 : (i + 1).toNat = i.toNat + 1 := by omega
              rw [e2]
              refine ⟨by omega, by omega, by simp; omega, ?_⟩
              rw [← hR, loopR_at (n := i.toNat) (by omega) (by omega), ei, if_neg (by simp_all)]
              cases loopR p ((numsT t).drop (i.toNat + 1)) (xs.drop (i.toNat + 1)) <;> simp
          ·
           refine EVq_e rfl rfl (D_callG [(900, 3)] (sca_scaled p (rd (rd (numsT t) i).us 0) (rd xs i) 8 hpl (by omega) hP hoi (by omega)) rfl rfl rfl rfl (fun _ => Free_no) rfl ⟨⟨_, _, rfl, rfl, rfl⟩, trivial⟩ ⟨.inl rfl, trivial⟩) ?_
           refine EVq_e rfl rfl (D_store rfl (Free_in rfl) rfl rfl (zOk rfl) rfl (Nat.le_of_ble_eq_true rfl) rfl) ?_
           refine EVq_done ?_
           refine EV_seq (EV_region ?_)
           refine EVo_t rfl (T_loadRA (gOk rfl) (zOk rfl) rfl rfl (Nat.le_of_ble_eq_true rfl) rfl rfl) ?_
           refine EVo_e rfl (D_call false (ratio_WholeI (rd xs i) (by omega)) rfl (fit_cons (fit_ag rfl nofun) (fit_nil))) ?_
           refine EVo_t rfl (T_move rfl) ?_
           refine EVo_t rfl (T_extract rfl rfl) ?_
           refine EVo_t rfl (T_extract rfl rfl) ?_
           refine EVo_e rfl (D_alloc 11 (hE 11 rfl) Free_no zr38 rfl) ?_
           refine EVo_e rfl (D_store rfl Free_no rfl rfl (zOk rfl) rfl (Nat.le_of_ble_eq_true rfl) rfl) ?_
           refine EVo_t rfl (T_assign rfl) ?_
           refine EVo_nil (EV_seq (EV_region ?_))
           refine EVo_t rfl (T_loadRA (gOk rfl) (zOk rfl) rfl rfl (Nat.le_of_ble_eq_true rfl) rfl rfl) ?_
           refine EVo_e rfl (D_call false (ratio_WholeI (scaleQ p (rd (rd (numsT t) i).us 0) (rd xs i)) (by omega)) rfl (fit_cons (fit_ag rfl nofun) (fit_nil))) ?_
           refine EVo_t rfl (T_move rfl) ?_
           refine EVo_t rfl (T_extract rfl rfl) ?_
           refine EVo_t rfl (T_extract rfl rfl) ?_
           refine EVo_e rfl (D_alloc 12 (hE 12 rfl) Free_no zr38 rfl) ?_
           refine EVo_e rfl (D_store rfl Free_no rfl rfl (zOk rfl) rfl (Nat.le_of_ble_eq_true rfl) rfl) ?_
           refine EVo_t rfl (T_assign rfl) ?_
           refine EVo_nil ?_
           refine EV_seq ?_
           refine EV_seq (EV_region ?_)
           refine EVo_t rfl (T_move rfl) ?_
           refine EVo_t rfl (T_move rfl) ?_
           refine EVo_t rfl (T_ixL (uOk rfl) (zOk rfl) rfl rfl (by omega) (by omega) (encTy_len _)) ?_
           rw [encTy_eq]
           refine EVo_t rfl (T_fa (fOk rfl) (zOk rfl) rfl (Nat.le_of_ble_eq_true rfl)) ?_
           refine EVo_t rfl (T_load (gOk rfl) rfl) ?_
           refine EVo_t rfl (T_bin rfl rfl rfl) ?_
           refine EVo_t rfl (T_move rfl) ?_
           refine EVo_case 105 rfl (fun hb12 => ?_) (fun hb12 => ?_)
           ·try simp only [z1, z2, z3, z4, z5, z6, z7, z8, z9, y1, y2, y3] at hb12
            refine EVo_t rfl (T_move rfl) ?_
            refine EVo_t rfl (T_un rfl rfl) ?_
            refine EVo_t rfl (T_move rfl) ?_
            refine EVo_case 108 rfl (fun hb13 => ?_) (fun hb13 => ?_)
            ·try simp only [z1, z2, z3, z4, z5, z6, z7, z8, z9, y1, y2, y3] at hb13
             refine EVo_off rfl rfl ?_
             refine EVo_off rfl rfl ?_
             refine EVo_t rfl (T_pick rfl rfl) ?_
             refine EVo_t rfl (T_pick rfl rfl) ?_
             refine EVo_nil ?_
             refine EV_cond rfl rfl rfl (fun _ => ?_) (fun h => by first | cases h | (exfalso; simp_all; done))
             refine EV_seq (EV_region ?_)
             refine EVo_t rfl (T_build ly40 rfl rfl) ?_
             refine EVo_t rfl (T_assign rfl) ?_
             refine EVo_e rfl (D_store rfl Free_no rfl rfl (zOk rfl) rfl (Nat.le_of_ble_eq_true rfl) rfl) ?_
             refine EVo_t rfl (T_assign rfl) ?_
             refine EVo_nil ?_
             refine EV_ret ?_
             have hnone : loopR p (numsT t) xs = none := by rw [← hR, loopR_at (n := i.toNat) (by omega) (by omega), ei, if_pos (by simp_all)]; rfl
             refine ⟨_, _, _, ⟨rfl, rfl⟩, ⟨rfl, _, _, _, rfl, rfl, rfl, .inl ⟨_, gOk rfl, zOk rfl, Nat.le_of_ble_eq_true rfl, rfl⟩⟩, ⟨rfl, rfl⟩, fit_eq rfl nofun ?_, fit_agg rfl nofun ?_, fit_eq rfl nofun ?_⟩
             ·rw [scaleR_6 hg hn2 hbad hpb hxb hbp hbx hpp hnone]; try rfl
             ·rw [scaleR_6 hg hn2 hbad hpb hxb hbp hbx hpp hnone]; try rfl
             ·rw [scaleR_6 hg hn2 hbad hpb hxb hbp hbx hpp hnone]
            ·try simp only [z1, z2, z3, z4, z5, z6, z7, z8, z9, y1, y2, y3] at hb13
             refine EVo_t rfl (T_move rfl) ?_
             refine EVo_t rfl (T_un rfl rfl) ?_
             refine EVo_t rfl (T_pick rfl rfl) ?_
             refine EVo_t rfl (T_pick rfl rfl) ?_
             refine EVo_nil ?_
             refine EV_cond rfl rfl rfl (fun hb14 => ?_) (fun hb14 => ?_)
             ·try simp only [z1, z2, z3, z4, z5, z6, z7, z8, z9, y1, y2, y3] at hb14
              refine EV_seq (EV_region ?_)
              refine EVo_t rfl (T_build ly40 rfl rfl) ?_
              refine EVo_t rfl (T_assign rfl) ?_
              refine EVo_e rfl (D_store rfl Free_no rfl rfl (zOk rfl) rfl (Nat.le_of_ble_eq_true rfl) rfl) ?_
              refine EVo_t rfl (T_assign rfl) ?_
              refine EVo_nil ?_
              refine EV_ret ?_
              have hnone : loopR p (numsT t) xs = none := by rw [← hR, loopR_at (n := i.toNat) (by omega) (by omega), ei, if_pos (by simp_all)]; rfl
              refine ⟨_, _, _, ⟨rfl, rfl⟩, ⟨rfl, _, _, _, rfl, rfl, rfl, .inl ⟨_, gOk rfl, zOk rfl, Nat.le_of_ble_eq_true rfl, rfl⟩⟩, ⟨rfl, rfl⟩, fit_eq rfl nofun ?_, fit_agg rfl nofun ?_, fit_eq rfl nofun ?_⟩
              ·rw [scaleR_6 hg hn2 hbad hpb hxb hbp hbx hpp hnone]; try rfl
              ·rw [scaleR_6 hg hn2 hbad hpb hxb hbp hbx hpp hnone]; try rfl
              ·rw [scaleR_6 hg hn2 hbad hpb hxb hbp hbx hpp hnone]
             ·try simp only [z1, z2, z3, z4, z5, z6, z7, z8, z9, y1, y2, y3] at hb14
              refine EV_skip ?_
              refine EV_seq ?_
              refine EV_draw (inX []) (.st 1 (.two 0 (.one 2 (.one 3 (.st 4 (.st 5 (.st 6 (.one 7 .done)))))) 2 (.one 0 (.one 3 (.st 4 (.st 5 (.st 6 (.one 7 .done)))))))) Tryz.mixed (by kernel_rfl) ?_
              refine EVq_t rfl rfl (T_build ly38 rfl rfl) ?_
              refine EVq_two rfl rfl ((T_loadRA (gOk rfl) (zOk rfl) rfl rfl (Nat.le_of_ble_eq_true rfl) rfl rfl).now) rfl rfl (D_call false (ratio_From0) rfl (fit_cons (fit_ag rfl nofun) (fit_nil))) ?_ ?_
              ·
               refine EVq_e rfl rfl (D_call false (ratio_From0) rfl (fit_cons (fit_ag rfl nofun) (fit_nil))) ?_
               refine EVq_e rfl rfl (D_call false (ratio_Add0 _ (by omega)) rfl (fit_cons (fit_ag rfl nofun) (fit_cons (fit_ag rfl nofun) (fit_nil)))) ?_
               refine EVq_t rfl rfl (T_move rfl) ?_
               refine EVq_t rfl rfl (T_extract rfl rfl) ?_
               refine EVq_t rfl rfl (T_extract rfl rfl) ?_
               refine EVq_e rfl rfl (D_store rfl (Free_in rfl) rfl rfl (zOk rfl) rfl (Nat.le_of_ble_eq_true rfl) rfl) ?_
               refine EVq_done ?_
               refine EV_region ?_
               refine EVo_t rfl (T_move rfl) ?_
               refine EVo_t rfl (T_loadRA (gOk rfl) (zOk rfl) rfl rfl (Nat.le_of_ble_eq_true rfl) rfl rfl) ?_
               refine EVo_e rfl (D_buildSlice (uOk rfl) bz40 rfl rfl rfl (by simp)) ?_
               refine EVo_e rfl (D_append (uOk rfl) ap40 (by decide) rfl rfl (hE 1 rfl) Free_no rfl rfl (by simp) (by simp; omega) (by simp; omega)) ?_
               refine EVo_t rfl (T_assign rfl) ?_
               refine EVo_nil ?_
               refine EV_region ?_
               refine EVo_t rfl (T_binI rfl rfl rfl (by omega) (by omega)) ?_
               refine EVo_t rfl (T_move rfl) ?_
               refine EVo_nil ?_
               refine ⟨_, ?_, _, W_keep2 [(2, V.c (.d false (encQs xs))), (6, V.c (.own 1 40 3 (_) (List.map encQ (L ++ [scaleQ p (rd (rd (numsT t) i).us 0) (rd xs i)])))), (7, V.c (.ref 4 0)), (9, V.c (.d false (.sl ((numsT t).map encTy)))), (12, V.c (cF 43 [] [.ref 3 0])), (72, V.c (.d false (encQs xs))), (73, vi .i64 xs.length), (74, vi .i64 (i + 1))] [(1, .row), (3, .box [.d false (encQs p)]), (4, .box [cb false, .d true (.val (.slice none 0 0)), .d true (.val (.slice none 0 0))])] ⟨rfl, (own_app rfl), rfl, rfl, rfl, rfl, rfl, rfl, trivial⟩ ⟨rfl, rfl, rfl, trivial⟩ rfl, i + 1, L ++ [scaleQ p (rd (rd (numsT t) i).us 0) (rd xs i)], _, rfl, rfl, ?_⟩
               ·omega
               ·have e2 : (i + 1).toNat = i.toNat + 1 := by omega
                rw [e2]
                refine ⟨by omega, by omega, by simp; omega, ?_⟩
                rw [← hR, loopR_at (n := i.toNat) (by omega) (by omega), ei, if_neg (by simp_all)]
                cases loopR p ((numsT t).drop (i.toNat + 1)) (xs.drop (i.toNat + 1)) <;> simp
              ·
               refine EVq_e rfl rfl ((T_loadRA (gOk rfl) (zOk rfl) rfl rfl (Nat.le_of_ble_eq_true rfl) rfl rfl).now) ?_
               refine EVq_e rfl rfl (D_call false (ratio_Add0 _ (by omega)) rfl (fit_cons (fit_ag rfl nofun) (fit_cons (fit_ag rfl nofun) (fit_nil)))) ?_
               refine EVq_t rfl rfl (T_move rfl) ?_
               refine EVq_t rfl rfl (T_extract rfl rfl) ?_
               refine EVq_t rfl rfl (T_extract rfl rfl) ?_
               refine EVq_e rfl rfl (D_store rfl (Free_in rfl) rfl rfl (zOk rfl) rfl (Nat.le_of_ble_eq_true rfl) rfl) ?_
               refine EVq_done ?_
               refine EV_region ?_
               refine EVo_t rfl (T_move rfl) ?_
               refine EVo_t rfl (T_loadRA (gOk rfl) (zOk rfl) rfl rfl (Nat.le_of_ble_eq_true rfl) rfl rfl) ?_
               refine EVo_e rfl (D_buildSlice (uOk rfl) bz40 rfl rfl rfl (by simp)) ?_
               refine EVo_e rfl (D_append (uOk rfl) ap40 (by decide) rfl rfl (hE 1 rfl) Free_no rfl rfl (by simp) (by simp; omega) (by simp; omega)) ?_
               refine EVo_t rfl (T_assign rfl) ?_
               refine EVo_nil ?_
               refine EV_region ?_
               refine EVo_t rfl (T_binI rfl rfl rfl (by omega) (by omega)) ?_
               refine EVo_t rfl (T_move rfl) ?_
               refine EVo_nil ?_
               refine ⟨_, ?_, _, W_keep2 [(2, V.c (.d false (encQs xs))), (6, V.c (.own 1 40 3 (_) (List.map encQ (L ++ [scaleQ p (rd (rd (numsT t) i).us 0) (rd xs i)])))), (7, V.c (.ref 4 0)), (9, V.c (.d false (.sl ((numsT t).map encTy)))), (12, V.c (cF 43 [] [.ref 3 0])), (72, V.c (.d false (encQs xs))), (73, vi .i64 xs.length), (74, vi .i64 (i + 1))] [(1, .row), (3, .box [.d false (encQs p)]), (4, .box [cb false, .d true (.val (.slice none 0 0)), .d true (.val (.slice none 0 0))])] ⟨rfl, (own_app rfl), rfl, rfl, rfl, rfl, rfl, rfl, trivial⟩ ⟨rfl, rfl, rfl, trivial⟩ rfl, i + 1, L ++ [scaleQ p (rd (rd (numsT t) i).us 0) (rd xs i)], _, rfl, rfl, ?_⟩
               ·omega
               ·have e2 : (i + 1).toNat = i.toNat + 1 := by omega
                rw [e2]
                refine ⟨by omega, by omega, by simp; omega, ?_⟩
                rw [← hR, loopR_at (n := i.toNat) (by omega) (by omega), ei, if_neg (by simp_all)]
                cases loopR p ((numsT t).drop (i.toNat + 1)) (xs.drop (i.toNat + 1)) <;> simp
           ·try simp only [z1, z2, z3, z4, z5, z6, z7, z8, z9, y1, y2, y3] at hb12
            refine EVo_off rfl rfl ?_
            refine EVo_off rfl rfl ?_
            refine EVo_off rfl rfl ?_
            refine EVo_off rfl rfl ?_
            refine EVo_off rfl rfl ?_
            refine EVo_off rfl rfl ?_
            refine EVo_t rfl (T_pick rfl rfl) ?_
            refine EVo_nil ?_
            refine EV_cond rfl rfl rfl (fun h => by first | cases h | (exfalso; simp_all; done)) (fun _ => ?_)
            refine EV_skip ?_
            refine EV_seq ?_
            refine EV_draw (inX []) (.st 1 (.two 0 (.one 2 (.one 3 (.st 4 (.st 5 (.st 6 (.one 7 .done)))))) 2 (.one 0 (.one 3 (.st 4 (.st 5 (.st 6 (.one 7 .done)))))))) Tryz.mixed (by kernel_rfl) ?_
            refine EVq_t rfl rfl (T_build ly38 rfl rfl) ?_
            refine EVq_two rfl rfl ((T_loadRA (gOk rfl) (zOk rfl) rfl rfl (Nat.le_of_ble_eq_true rfl) rfl rfl).now) rfl rfl (D_call false (ratio_From0) rfl (fit_cons (fit_ag rfl nofun) (fit_nil))) ?_ ?_
            ·
             refine EVq_e rfl rfl (D_call false (ratio_From0) rfl (fit_cons (fit_ag rfl nofun) (fit_nil))) ?_
             refine EVq_e rfl rfl (D_call false (ratio_Add0 _ (by omega)) rfl (fit_cons (fit_ag rfl nofun) (fit_cons (fit_ag rfl nofun) (fit_nil)))) ?_
             refine EVq_t rfl rfl (T_move rfl) ?_
             refine EVq_t rfl rfl (T_extract rfl rfl) ?_
             refine EVq_t rfl rfl (T_extract rfl rfl) ?_
             refine EVq_e rfl rfl (D_store rfl (Free_in rfl) rfl rfl (zOk rfl) rfl (Nat.le_of_ble_eq_true rfl) rfl) ?_
             refine EVq_done ?_
             refine EV_region ?_
             refine EVo_t rfl (T_move rfl) ?_
             refine EVo_t rfl (T_loadRA (gOk rfl) (zOk rfl) rfl rfl (Nat.le_of_ble_eq_true rfl) rfl rfl) ?_
             refine EVo_e rfl (D_buildSlice (uOk rfl) bz40 rfl rfl rfl (by simp)) ?_
             refine EVo_e rfl (D_append (uOk rfl) ap40 (by decide) rfl rfl (hE 1 rfl) Free_no rfl rfl (by simp) (by simp; omega) (by simp; omega)) ?_
             refine EVo_t rfl (T_assign rfl) ?_
             refine EVo_nil ?_
             refine EV_region ?_
             refine EVo_t rfl (T_binI rfl rfl rfl (by omega) (by omega)) ?_
             refine EVo_t rfl (T_move rfl) ?_
             refine EVo_nil ?_
             refine ⟨_, ?_, _, W_keep2 [(2, V.c (.d false (encQs xs))), (6, V.c (.own 1 40 3 (_) (List.map encQ (L ++ [scaleQ p (rd (rd (numsT t) i).us 0) (rd xs i)])))), (7, V.c (.ref 4 0)), (9, V.c (.d false (.sl ((numsT t).map encTy)))), (12, V.c (cF 43 [] [.ref 3 0])), (72, V.c (.d false (encQs xs))), (73, vi .i64 xs.length), (74, vi .i64 (i + 1))] [(1, .row), (3, .box [.d false (encQs p)]), (4, .box [cb false, .d true (.val (.slice none 0 0)), .d true (.val (.slice none 0 0))])] ⟨rfl, (own_app rfl), rfl, rfl, rfl, rfl, rfl, rfl, trivial⟩ ⟨rfl, rfl, rfl, trivial⟩ rfl, i + 1, L ++ [scaleQ p (rd (rd (numsT t) i).us 0) (rd xs i)], _, rfl, rfl, ?_⟩
             ·omega
             ·have e2 : (i + 1).toNat = i.toNat + 1 := by omega
              rw [e2]
              refine ⟨by omega, by omega, by simp; omega, ?_⟩
              rw [← hR, loopR_at (n := i.toNat) (by omega) (by omega), ei, if_neg (by simp_all)]
              cases loopR p ((numsT t).drop (i.toNat + 1)) (xs.drop (i.toNat + 1)) <;> simp
            ·
             refine EVq_e rfl rfl ((T_loadRA (gOk rfl) (zOk rfl) rfl rfl (Nat.le_of_ble_eq_true rfl) rfl rfl).now) ?_
             refine EVq_e rfl rfl (D_call false (ratio_Add0 _ (by omega)) rfl (fit_cons (fit_ag rfl nofun) (fit_cons (fit_ag rfl nofun) (fit_nil)))) ?_
             refine EVq_t rfl rfl (T_move rfl) ?_
             refine EVq_t rfl rfl (T_extract rfl rfl) ?_
             refine EVq_t rfl rfl (T_extract rfl rfl) ?_
             refine EVq_e rfl rfl (D_store rfl (Free_in rfl) rfl rfl (zOk rfl) rfl (Nat.le_of_ble_eq_true rfl) rfl) ?_
             refine EVq_done ?_
             refine EV_region ?_
             refine EVo_t rfl (T_move rfl) ?_
             refine EVo_t rfl (T_loadRA (gOk rfl) (zOk rfl) rfl rfl (Nat.le_of_ble_eq_true rfl) rfl rfl) ?_
             refine EVo_e rfl (D_buildSlice (uOk rfl) bz40 rfl rfl rfl (by simp)) ?_
             refine EVo_e rfl (D_append (uOk rfl) ap40 (by decide) rfl rfl (hE 1 rfl) Free_no rfl rfl (by simp) (by simp; omega) (by simp; omega)) ?_
             refine EVo_t rfl (T_assign rfl) ?_
             refine EVo_nil ?_
             refine EV_region ?_
             refine EVo_t rfl (T_binI rfl rfl rfl (by omega) (by omega)) ?_
             refine EVo_t rfl (T_move rfl) ?_
             refine EVo_nil ?_
             refine ⟨_, ?_, _, W_keep2 [(2, V.c (.d false (encQs xs))), (6, V.c (.own 1 40 3 (_) (List.map encQ (L ++ [scaleQ p (rd (rd (numsT t) i).us 0) (rd xs i)])))), (7, V.c (.ref 4 0)), (9, V.c (.d false (.sl ((numsT t).map encTy)))), (12, V.c (cF 43 [] [.ref 3 0])), (72, V.c (.d false (encQs xs))), (73, vi .i64 xs.length), (74, vi .i64 (i + 1))] [(1, .row), (3, .box [.d false (encQs p)]), (4, .box [cb false, .d true (.val (.slice none 0 0)), .d true (.val (.slice none 0 0))])] ⟨rfl, (own_app rfl), rfl, rfl, rfl, rfl, rfl, rfl, trivial⟩ ⟨rfl, rfl, rfl, trivial⟩ rfl, i + 1, L ++ [scaleQ p (rd (rd (numsT t) i).us 0) (rd xs i)], _, rfl, rfl, ?_⟩
             ·omega
             ·have e2 : (i + 1).toNat = i.toNat + 1 := by omega
              rw [e2]
              refine ⟨by omega, by omega, by simp; omega, ?_⟩
              rw [← hR, loopR_at (n := i.toNat) (by omega) (by omega), ei, if_neg (by simp_all)]
              cases loopR p ((numsT t).drop (i.toNat + 1)) (xs.drop (i.toNat + 1)) <;> simp
         ·
          refine EVq_e rfl rfl ((T_loadRA (gOk rfl) (zOk rfl) rfl rfl (Nat.le_of_ble_eq_true rfl) rfl rfl).now) ?_
          refine EVq_e rfl rfl (D_callG [(900, 3)] (sca_scaled p (rd (rd (numsT t) i).us 0) (rd xs i) 8 hpl (by omega) hP hoi (by omega)) rfl rfl rfl rfl (fun _ => Free_no) rfl ⟨⟨_, _, rfl, rfl, rfl⟩, trivial⟩ ⟨.inl rfl, trivial⟩) ?_
          refine EVq_e rfl rfl (D_store rfl (Free_in rfl) rfl rfl (zOk rfl) rfl (Nat.le_of_ble_eq_true rfl) rfl) ?_
          refine EVq_done ?_
          refine EV_seq (EV_region ?_)
          refine EVo_t rfl (T_loadRA (gOk rfl) (zOk rfl) rfl rfl (Nat.le_of_ble_eq_true rfl) rfl rfl) ?_
          refine EVo_e rfl (D_call false (ratio_WholeI (rd xs i) (by omega)) rfl (fit_cons (fit_ag rfl nofun) (fit_nil))) ?_
          refine EVo_t rfl (T_move rfl) ?_
          refine EVo_t rfl (T_extract rfl rfl) ?_
          refine EVo_t rfl (T_extract rfl rfl) ?_
          refine EVo_e rfl (D_alloc 13 (hE 13 rfl) Free_no zr38 rfl) ?_
          refine EVo_e rfl (D_store rfl Free_no rfl rfl (zOk rfl) rfl (Nat.le_of_ble_eq_true rfl) rfl) ?_
          refine EVo_t rfl (T_assign rfl) ?_
          refine EVo_nil (EV_seq (EV_region ?_))
          refine EVo_t rfl (T_loadRA (gOk rfl) (zOk rfl) rfl rfl (Nat.le_of_ble_eq_true rfl) rfl rfl) ?_
          refine EVo_e rfl (D_call false (ratio_WholeI (scaleQ p (rd (rd (numsT t) i).us 0) (rd xs i)) (by omega)) rfl (fit_cons (fit_ag rfl nofun) (fit_nil))) ?_
          refine EVo_t rfl (T_move rfl) ?_
          refine EVo_t rfl (T_extract rfl rfl) ?_
          refine EVo_t rfl (T_extract rfl rfl) ?_
          refine EVo_e rfl (D_alloc 14 (hE 14 rfl) Free_no zr38 rfl) ?_
          refine EVo_e rfl (D_store rfl Free_no rfl rfl (zOk rfl) rfl (Nat.le_of_ble_eq_true rfl) rfl) ?_
          refine EVo_t rfl (T_assign rfl) ?_
          refine EVo_nil ?_
          refine EV_seq ?_
          refine EV_seq (EV_region ?_)
          refine EVo_t rfl (T_move rfl) ?_
          refine EVo_t rfl (T_move rfl) ?_
          refine EVo_t rfl (T_ixL (uOk rfl) (zOk rfl) rfl rfl (by omega) (by omega) (encTy_len _)) ?_
          rw [encTy_eq]
          refine EVo_t rfl (T_fa (fOk rfl) (zOk rfl) rfl (Nat.le_of_ble_eq_true rfl)) ?_
          refine EVo_t rfl (T_load (gOk rfl) rfl) ?_
          refine EVo_t rfl (T_bin rfl rfl rfl) ?_
          refine EVo_t rfl (T_move rfl) ?_
          refine EVo_case 105 rfl (fun hb15 => ?_) (fun hb15 => ?_)
          ·try simp only [z1, z2, z3, z4, z5, z6, z7, z8, z9, y1, y2, y3] at hb15
           refine EVo_t rfl (T_move rfl) ?_
           refine EVo_t rfl (T_un rfl rfl) ?_
           refine EVo_t rfl (T_move rfl) ?_
           refine EVo_case 108 rfl (fun hb16 => ?_) (fun hb16 => ?_)
           ·try simp only [z1, z2, z3, z4, z5, z6, z7, z8, z9, y1, y2, y3] at hb16
            refine EVo_off rfl rfl ?_
            refine EVo_off rfl rfl ?_
            refine EVo_t rfl (T_pick rfl rfl) ?_
            refine EVo_t rfl (T_pick rfl rfl) ?_
            refine EVo_nil ?_
            refine EV_cond rfl rfl rfl (fun _ => ?_) (fun h => by first | cases h | (exfalso; simp_all; done))
            refine EV_seq (EV_region ?_)
            refine EVo_t rfl (T_build ly40 rfl rfl) ?_
            refine EVo_t rfl (T_assign rfl) ?_
            refine EVo_e rfl (D_store rfl Free_no rfl rfl (zOk rfl) rfl (Nat.le_of_ble_eq_true rfl) rfl) ?_
            refine EVo_t rfl (T_assign rfl) ?_
            refine EVo_nil ?_
            refine EV_ret ?_
            have hnone : loopR p (numsT t) xs = none := by rw [← hR, loopR_at (n := i.toNat) (by omega) (by omega), ei, if_pos (by simp_all)]; rfl
            refine ⟨_, _, _, ⟨rfl, rfl⟩, ⟨rfl, _, _, _, rfl, rfl, rfl, .inl ⟨_, gOk rfl, zOk rfl, Nat.le_of_ble_eq_true rfl, rfl⟩⟩, ⟨rfl, rfl⟩, fit_eq rfl nofun ?_, fit_agg rfl nofun ?_, fit_eq rfl nofun ?_⟩
            ·rw [scaleR_6 hg hn2 hbad hpb hxb hbp hbx hpp hnone]; try rfl
            ·rw [scaleR_6 hg hn2 hbad hpb hxb hbp hbx hpp hnone]; try rfl
            ·rw [scaleR_6 hg hn2 hbad hpb hxb hbp hbx hpp hnone]
           ·try simp only [z1, z2, z3, z4, z5, z6, z7, z8, z9, y1, y2, y3] at hb16
            refine EVo_t rfl (T_move rfl) ?_
            refine EVo_t rfl (T_un rfl rfl) ?_
            refine EVo_t rfl (T_pick rfl rfl) ?_
            refine EVo_t rfl (T_pick rfl rfl) ?_
            refine EVo_nil ?_
            refine EV_cond rfl rfl rfl (fun hb17 => ?_) (fun hb17 => ?_)
            ·try simp only [z1, z2, z3, z4, z5, z6, z7, z8, z9, y1, y2, y3] at hb17
             refine EV_seq (EV_region ?_)
             refine EVo_t rfl (T_build ly40 rfl rfl) ?_
             refine EVo_t rfl (T_assign rfl) ?_
             refine EVo_e rfl (D_store rfl Free_no rfl rfl (zOk rfl) rfl (Nat.le_of_ble_eq_true rfl) rfl) ?_
             refine EVo_t rfl (T_assign rfl) ?_
             refine EVo_nil ?_
             refine EV_ret ?_
             have hnone : loopR p (numsT t) xs = none := by rw [← hR, loopR_at (n := i.toNat) (by omega) (by omega), ei, if_pos (by simp_all)]; rfl
             refine ⟨_, _, _, ⟨rfl, rfl⟩, ⟨rfl, _, _, _, rfl, rfl, rfl, .inl ⟨_, gOk rfl, zOk rfl, Nat.le_of_ble_eq_true rfl, rfl⟩⟩, ⟨rfl, rfl⟩, fit_eq rfl nofun ?_, fit_agg rfl nofun ?_, fit_eq rfl nofun ?_⟩
             ·rw [scaleR_6 hg hn2 hbad hpb hxb hbp hbx hpp hnone]; try rfl
             ·rw [scaleR_6 hg hn2 hbad hpb hxb hbp hbx hpp hnone]; try rfl
             ·rw [scaleR_6 hg hn2 hbad hpb hxb hbp hbx hpp hnone]
            ·try simp only [z1, z2, z3, z4, z5, z6, z7, z8, z9, y1, y2, y3] at hb17
             refine EV_skip ?_
             refine EV_seq ?_
             refine EV_draw (inX []) (.st 1 (.two 0 (.one 2 (.one 3 (.st 4 (.st 5 (.st 6 (.one 7 .done)))))) 2 (.one 0 (.one 3 (.st 4 (.st 5 (.st 6 (.one 7 .done)))))))) Tryz.mixed (by kernel_rfl) ?_
             refine EVq_t rfl rfl (T_build ly38 rfl rfl) ?_
             refine EVq_two rfl rfl ((T_loadRA (gOk rfl) (zOk rfl) rfl rfl (Nat.le_of_ble_eq_true rfl) rfl rfl).now) rfl rfl (D_call false (ratio_From0) rfl (fit_cons (fit_ag rfl nofun) (fit_nil))) ?_ ?_
             ·
              refine EVq_e rfl rfl (D_call false (ratio_From0) rfl (fit_cons (fit_ag rfl nofun) (fit_nil))) ?_
              refine EVq_e rfl rfl (D_call false (ratio_Add0 _ (by omega)) rfl (fit_cons (fit_ag rfl nofun) (fit_cons (fit_ag rfl nofun) (fit_nil)))) ?_
              refine EVq_t rfl rfl (T_move rfl) ?_
              refine EVq_t rfl rfl (T_extract rfl rfl) ?_
              refine EVq_t rfl rfl (T_extract rfl rfl) ?_
              refine EVq_e rfl rfl (D_store rfl (Free_in rfl) rfl rfl (zOk rfl) rfl (Nat.le_of_ble_eq_true rfl) rfl) ?_
              refine EVq_done ?_
              refine EV_region ?_
              refine EVo_t rfl (T_move rfl) ?_
              refine EVo_t rfl (T_loadRA (gOk rfl) (zOk rfl) rfl rfl (Nat.le_of_ble_eq_true rfl) rfl rfl) ?_
              refine EVo_e rfl (D_buildSlice (uOk rfl) bz40 rfl rfl rfl (by simp)) ?_
              refine EVo_e rfl (D_append (uOk rfl) ap40 (by decide) rfl rfl (hE 1 rfl) Free_no rfl rfl (by simp) (by simp; omega) (by simp; omega)) ?_
              refine EVo_t rfl (T_assign rfl) ?_
              refine EVo_nil ?_
              refine EV_region ?_
              refine EVo_t rfl (T_binI rfl rfl rfl (by omega) (by omega)) ?_
              refine EVo_t rfl (T_move rfl) ?_
              refine EVo_nil ?_
              refine ⟨_, ?_, _, W_keep2 [(2, V.c (.d false (encQs xs))), (6, V.c (.own 1 40 3 (_) (List.map encQ (L ++ [scaleQ p (rd (rd (numsT t) i).us 0) (rd xs i)])))), (7, V.c (.ref 4 0)), (9, V.c (.d false (.sl ((numsT t).map encTy)))), (12, V.c (cF 43 [] [.ref 3 0])), (72, V.c (.d false (encQs xs))), (73, vi .i64 xs.length), (74, vi .i64 (i + 1))] [(1, .row), (3, .box [.d false (encQs p)]), (4, .box [cb false, .d true (.val (.slice none 0 0)), .d true (.val (.slice none 0 0))])] ⟨rfl, (own_app rfl), rfl, rfl, rfl, rfl, rfl, rfl, trivial⟩ ⟨rfl, rfl, rfl, trivial⟩ rfl, i + 1, L ++ [scaleQ p (rd (rd (numsT t) i).us 0) (rd xs i)], _, rfl, rfl, ?_⟩
              ·omega
              ·have e2 : (i + 1).toNat = i.toNat + 1 := by omega
               rw [e2]
               refine ⟨by omega, by omega, by simp; omega, ?_⟩
               rw [← hR, loopR_at (n := i.toNat) (by omega) (by omega), ei, if_neg (by simp_all)]
               cases loopR p ((numsT t).drop (i.toNat + 1)) (xs.drop (i.toNat + 1)) <;> simp
             ·
              refine EVq_e rfl rfl ((T_loadRA (gOk rfl) (zOk rfl) rfl rfl (Nat.le_of_ble_eq_true rfl) rfl rfl).now) ?_
              refine EVq_e rfl rfl (D_call false (ratio_Add0 _ (by omega)) rfl (fit_cons (fit_ag rfl nofun) (fit_cons (fit_ag rfl nofun) (fit_nil)))) ?_
              refine EVq_t rfl rfl (T_move rfl) ?_
              refine EVq_t rfl rfl (T_extract rfl rfl) ?_
              refine EVq_t rfl rfl (T_extract rfl rfl) ?_
              refine EVq_e rfl rfl (D_store rfl (Free_in rfl) rfl rfl (zOk rfl) rfl (Nat.le_of_ble_eq_true rfl) rfl) ?_
              refine EVq_done ?_
              refine EV_region ?_
              refine EVo_t rfl (T_move rfl) ?_
              refine EVo_t rfl (T_loadRA (gOk rfl) (zOk rfl) rfl rfl (Nat.le_of_ble_eq_true rfl) rfl rfl) ?_
              refine EVo_e rfl (D_buildSlice (uOk rfl) bz40 rfl rfl rfl (by simp)) ?_
              refine EVo_e rfl (D_append (uOk rfl) ap40 (by decide) rfl rfl (hE 1 rfl) Free_no rfl rfl (by simp) (by simp; omega) (by simp; omega)) ?_
              refine EVo_t rfl (T_assign rfl) ?_
              refine EVo_nil ?_
              refine EV_region ?_
              refine EVo_t rfl (T_binI rfl rfl rfl (by omega) (by omega)) ?_
              refine EVo_t rfl (T_move rfl) ?_
              refine EVo_nil ?_
              refine ⟨_, ?_, _, W_keep2 [(2, V.c (.d false (encQs xs))), (6, V.c (.own 1 40 3 (_) (List.map encQ (L ++ [scaleQ p (rd (rd (numsT t) i).us 0) (rd xs i)])))), (7, V.c (.ref 4 0)), (9, V.c (.d false (.sl ((numsT t).map encTy)))), (12, V.c (cF 43 [] [.ref 3 0])), (72, V.c (.d false (encQs xs))), (73, vi .i64 xs.length), (74, vi .i64 (i + 1))] [(1, .row), (3, .box [.d false (encQs p)]), (4, .box [cb false, .d true (.val (.slice none 0 0)), .d true (.val (.slice none 0 0))])] ⟨rfl, (own_app rfl), rfl, rfl, rfl, rfl, rfl, rfl, trivial⟩ ⟨rfl, rfl, rfl, trivial⟩ rfl, i + 1, L ++ [scaleQ p (rd (rd (numsT t) i).us 0) (rd xs i)], _, rfl, rfl, ?_⟩
              ·omega
              ·have e2 : (i + 1).toNat = i.toNat + 1 := by omega
               rw [e2]
               refine ⟨by omega, by omega, by simp; omega, ?_⟩
               rw [← hR, loopR_at (n := i.toNat) (by omega) (by omega), ei, if_neg (by simp_all)]
               cases loopR p ((numsT t).drop (i.toNat + 1)) (xs.drop (i.toNat + 1)) <;> simp
          ·try simp only [z1, z2, z3, z4, z5, z6, z7, z8, z9, y1, y2, y3] at hb15
           refine EVo_off rfl rfl ?_
           refine EVo_off rfl rfl ?_
           refine EVo_off rfl rfl ?_
           refine EVo_off rfl rfl ?_
           refine EVo_off rfl rfl ?_
           refine EVo_off rfl rfl ?_
           refine EVo_t rfl (T_pick rfl rfl) ?_
           refine EVo_nil ?_
           refine EV_cond rfl rfl rfl (fun h => by first | cases h | (exfalso; simp_all; done)) (fun _ => ?_)
           refine EV_skip ?_
           refine EV_seq ?_
           refine EV_draw (inX []) (.st 1 (.two 0 (.one 2 (.one 3 (.st 4 (.st 5 (.st 6 (.one 7 .done)))))) 2 (.one 0 (.one 3 (.st 4 (.st 5 (.st 6 (.one 7 .done)))))))) Tryz.mixed (by kernel_rfl) ?_
           refine EVq_t rfl rfl (T_build ly38 rfl rfl) ?_
           refine EVq_two rfl rfl ((T_loadRA (gOk rfl) (zOk rfl) rfl rfl (Nat.le_of_ble_eq_true rfl) rfl rfl).now) rfl rfl (D_call false (ratio_From0) rfl (fit_cons (fit_ag rfl nofun) (fit_nil))) ?_ ?_
           ·
            refine EVq_e rfl rfl (D_call false (ratio_From0) rfl (fit_cons (fit_ag rfl nofun) (fit_nil))) ?_
            refine EVq_e rfl rfl (D_call false (ratio_Add0 _ (by omega)) rfl (fit_cons (fit_ag rfl nofun) (fit_cons (fit_ag rfl nofun) (fit_nil)))) ?_
            refine EVq_t rfl rfl (T_move rfl) ?_
            refine EVq_t rfl rfl (T_extract rfl rfl) ?_
            refine EVq_t rfl rfl (T_extract rfl rfl) ?_
            refine EVq_e rfl rfl (D_store rfl (Free_in rfl) rfl rfl (zOk rfl) rfl (Nat.le_of_ble_eq_true rfl) rfl) ?_
            refine EVq_done ?_
            refine EV_region ?_
            refine EVo_t rfl (T_move rfl) ?_
            refine EVo_t rfl (T_loadRA (gOk rfl) (zOk rfl) rfl rfl (Nat.le_of_ble_eq_true rfl) rfl rfl) ?_
            refine EVo_e rfl (D_buildSlice (uOk rfl) bz40 rfl rfl rfl (by simp)) ?_
            refine EVo_e rfl (D_append (uOk rfl) ap40 (by decide) rfl rfl (hE 1 rfl) Free_no rfl rfl (by simp) (by simp; omega) (by simp; omega)) ?_
            refine EVo_t rfl (T_assign rfl) ?_
            refine EVo_nil ?_
            refine EV_region ?_
            refine EVo_t rfl (T_binI rfl rfl rfl (by omega) (by omega)) ?_
            refine EVo_t rfl (T_move rfl) ?_
            refine EVo_nil ?_
            refine ⟨_, ?_, _, W_keep2 [(2, V.c (.d false (encQs xs))), (6, V.c (.own 1 40 3 (_) (List.map encQ (L ++ [scaleQ p (rd (rd (numsT t) i).us 0) (rd xs i)])))), (7, V.c (.ref 4 0)), (9, V.c (.d false (.sl ((numsT t).map encTy)))), (12, V.c (cF 43 [] [.ref 3 0])), (72, V.c (.d false (encQs xs))), (73, vi .i64 xs.length), (74, vi .i64 (i + 1))] [(1, .row), (3, .box [.d false (encQs p)]), (4, .box [cb false, .d true (.val (.slice none 0 0)), .d true (.val (.slice none 0 0))])] ⟨rfl, (own_app rfl), rfl, rfl, rfl, rfl, rfl, rfl, trivial⟩ ⟨rfl, rfl, rfl, trivial⟩ rfl, i + 1, L ++ [scaleQ p (rd (rd (numsT t) i).us 0) (rd xs i)], _, rfl, rfl, ?_⟩
            ·omega
            ·have e2 : (i + 1).toNat = i.toNat + 1 := by omega
             rw [e2]
             refine ⟨by omega, by omega, by simp; omega, ?_⟩
             rw [← hR, loopR_at (n := i.toNat) (by omega) (by omega), ei, if_neg (by simp_all)]
             cases loopR p ((numsT t).drop (i.toNat + 1)) (xs.drop (i.toNat + 1)) <;> simp
           ·
            refine EVq_e rfl rfl ((T_loadRA (gOk rfl) (zOk rfl) rfl rfl (Nat.le_of_ble_eq_true rfl) rfl rfl).now) ?_
            refine EVq_e rfl rfl (D_call false (ratio_Add0 _ (by omega)) rfl (fit_cons (fit_ag rfl nofun) (fit_cons (fit_ag rfl nofun) (fit_nil)))) ?_
            refine EVq_t rfl rfl (T_move rfl) ?_
            refine EVq_t rfl rfl (T_extract rfl rfl) ?_
            refine EVq_t rfl rfl (T_extract rfl rfl) ?_
            refine EVq_e rfl rfl (D_store rfl (Free_in rfl) rfl rfl (zOk rfl) rfl (Nat.le_of_ble_eq_true rfl) rfl) ?_
            refine EVq_done ?_
            refine EV_region ?_
            refine EVo_t rfl (T_move rfl) ?_
            refine EVo_t rfl (T_loadRA (gOk rfl) (zOk rfl) rfl rfl (Nat.le_of_ble_eq_true rfl) rfl rfl) ?_
            refine EVo_e rfl (D_buildSlice (uOk rfl) bz40 rfl rfl rfl (by simp)) ?_
            refine EVo_e rfl (D_append (uOk rfl) ap40 (by decide) rfl rfl (hE 1 rfl) Free_no rfl rfl (by simp) (by simp; omega) (by simp; omega)) ?_
            refine EVo_t rfl (T_assign rfl) ?_
            refine EVo_nil ?_
            refine EV_region ?_
            refine EVo_t rfl (T_binI rfl rfl rfl (by omega) (by omega)) ?_
            refine EVo_t rfl (T_move rfl) ?_
            refine EVo_nil ?_
            refine ⟨_, ?_, _, W_keep2 [(2, V.c (.d false (encQs xs))), (6, V.c (.own 1 40 3 (_) (List.map encQ (L ++ [scaleQ p (rd (rd (numsT t) i).us 0) (rd xs i)])))), (7, V.c (.ref 4 0)), (9, V.c (.d false (.sl ((numsT t).map encTy)))), (12, V.c (cF 43 [] [.ref 3 0])), (72, V.c (.d false (encQs xs))), (73, vi .i64 xs.length), (74, vi .i64 (i + 1))] [(1, .row), (3, .box [.d false (encQs p)]), (4, .box [cb false, .d true (.val (.slice none 0 0)), .d true (.val (.slice none 0 0))])] ⟨rfl, (own_app rfl), rfl, rfl, rfl, rfl, rfl, rfl, trivial⟩ ⟨rfl, rfl, rfl, trivial⟩ rfl, i + 1, L ++ [scaleQ p (rd (rd (numsT t) i).us 0) (rd xs i)], _, rfl, rfl, ?_⟩
            ·omega
            ·have e2 : (i + 1).toNat = i.toNat + 1 := by omega
             rw [e2]
             refine ⟨by omega, by omega, by simp; omega, ?_⟩
             rw [← hR, loopR_at (n := i.toNat) (by omega) (by omega), ei, if_neg (by simp_all)]
             cases loopR p ((numsT t).drop (i.toNat + 1)) (xs.drop (i.toNat + 1)) <;> simp
        ·try simp only [z1, z2, z3, z4, z5, z6, z7, z8, z9, y1, y2, y3] at hb8
         have hm2 := mem_rd (l := numsT t) (i := (numsT t).length - 1) (by omega) (by omega)
         have hok2 := hok _ hm2
         have hul2 := hU _ hm2
         have hone2 := badN_no hsh ht hm2 hbad
         refine EV_exit ?_
         refine EV_seq ?_
         refine EV_draw (inX []) (.st 0 (.st 1 (.st 4 (.st 5 (.st 6 (.st 7 (.st 8 (.st 9 (.st 10 (.st 11 (.st 12 (.one 2 (.one 3 (.one 13 (.st 14 (.one 15 (.st 16 .done))))))))))))))))) Tryz.mixed (by kernel_rfl) ?_
         refine EVq_t rfl rfl (T_move rfl) ?_
         refine EVq_t rfl rfl (T_move rfl) ?_
         refine EVq_t rfl rfl (T_move rfl) ?_
         refine EVq_t rfl rfl (T_move rfl) ?_
         refine EVq_t rfl rfl (T_lenL (uOk rfl) rfl) ?_
         refine EVq_t rfl rfl (T_binI rfl rfl rfl (by omega) (by omega)) ?_
         refine EVq_t rfl rfl (T_ixL (uOk rfl) (zOk rfl) rfl rfl (by omega) (by omega) (encTy_len _)) ?_
         rw [encTy_eq]
         refine EVq_t rfl rfl (T_fa (fOk rfl) (zOk rfl) rfl (Nat.le_of_ble_eq_true rfl)) ?_
         refine EVq_t rfl rfl (T_load (gOk rfl) rfl) ?_
         refine EVq_t rfl rfl (T_ixL (uOk rfl) (zOk rfl) rfl rfl (by omega) (by omega) (rfl)) ?_
         refine EVq_t rfl rfl (T_load (gOk rfl) rfl) ?_
         refine EVq_e rfl rfl (D_call false (whole_From 1 (by omega) (by omega)) rfl (fit_cons (fit_d rfl nofun) (fit_nil))) ?_
         refine EVq_e rfl rfl (D_call false (ratio_From1) rfl (fit_cons (fit_ag rfl nofun) (fit_nil))) ?_
         refine EVq_e rfl rfl (D_callG [(900, 3)] (sca_scaled p (rd (rd (numsT t) ((numsT t).length - 1)).us 0) 1 8 hpl (by omega) hP hok2 (by have := szQ_one; omega)) rfl rfl rfl rfl (fun _ => Free_no) rfl ⟨⟨_, _, rfl, rfl, rfl⟩, trivial⟩ ⟨.inl rfl, trivial⟩) ?_
         refine EVq_t rfl rfl (T_assign rfl) ?_
         refine EVq_e rfl rfl (D_store rfl (Free_in rfl) rfl rfl (zOk rfl) rfl (Nat.le_of_ble_eq_true rfl) rfl) ?_
         refine EVq_t rfl rfl (T_assign rfl) ?_
         refine EVq_done ?_
         refine EV_ret ?_
         have hsome : loopR p (numsT t) xs = some L := by rw [← hR, List.drop_of_length_le (l := xs) (by omega), loopR_end]; simp
         refine ⟨_, _, _, ⟨rfl, rfl⟩, ⟨rfl, _, _, _, rfl, rfl, rfl, .inl ⟨_, gOk rfl, zOk rfl, Nat.le_of_ble_eq_true rfl, rfl⟩⟩, ⟨rfl, rfl⟩, fit_eq rfl nofun ?_, fit_agg rfl nofun ?_, fit_eq rfl nofun ?_⟩
         ·rw [scaleR_7 hg hn2 hbad hpb hxb hbp hbx hpp hsome]; try rfl
         ·rw [scaleR_7 hg hn2 hbad hpb hxb hbp hbx hpp hsome]; try rfl
         ·rw [scaleR_7 hg hn2 hbad hpb hxb hbp hbx hpp hsome]

end Go.Proofs.YthaiegnohkiegaaGreat.Ab
/-
 Contracts of the reference: units.
-/
namespace Go.Proofs.YthaiegnohkiegaaGreat.Ab
set_option linter.unusedVariables false
set_option linter.unusedSimpArgs false
set_option maxRecDepth 20000


def ofP (k n : Int) (s : ByteArray) (z : Int) : Pw := ⟨k, n, s, decide (z < 0), limbs z.natAbs⟩
def ofU (k n : Int) (s : ByteArray) (z : Int) : List Pw := if z = 0 then [] else [ofP k n s z]
abbrev s0 : ByteArray := ⟨#[]⟩
abbrev atD (k n : Int) (s : ByteArray) : List D := [ii k, ii n, sd s]
def powU (u : List Pw) (e : Int) : List Pw := if e = 0 then [] else u.map fun q => ofP q.k q.n q.s (q.z * e)
theorem ofP_z (k n : Int) (s : ByteArray) (z : Int) : (ofP k n s z).z = z := by
 unfold Pw.z ofP zval
 simp only [val_limbs]
 by_cases h : z < 0
 ·simp [h]; omega
 ·simp [h]; omega
theorem ref2_TimesP (q : Pw) (e : Int) (hz : [ib q.neg, encN q.mag] = encZ q.z) (hl : (limbs q.z.natAbs).length + (limbs e.natAbs).length ≤ 4398046511104) : Fn Tryz.prog 64 [.agg [ib q.neg, encN q.mag], .agg (encZ e)] false (.one (.agg (encZ (q.z * e)))) := by
 have := ref2_Times q.z e hl
 rw [← hz] at this
 exact this

theorem take_rdT {α : Type} [Inhabited α] {l : List α} {n : Nat} (h : n < l.length) : l.take (n + 1) = l.take n ++ [rd l (n : Int)] := by
 rw [List.take_succ_eq_append_getElem h]
 unfold rd
 simp [h]

theorem ref6_Var (n : Int) : Fn Tryz.prog 26 [.d (ii n)] false (.one (.agg (atD 1 n s0))) := by
 refine Fn_of_EV Tryz.func26 rfl (by kernel_rfl) rfl rfl (fun E hE => ?_)
 refine EV_seq (EV_region ?_)
 refine EVo_e rfl (D_alloc 1 (hE 1 rfl) Free_no zr69 rfl) ?_
 refine EVo_nil (EV_seq (EV_region ?_))
 refine EVo_t rfl (T_move rfl) ?_
 refine EVo_t rfl (T_build ly69 rfl rfl) ?_
 refine EVo_e rfl (D_store rfl Free_no rfl rfl (zOk rfl) rfl (Nat.le_of_ble_eq_true rfl) rfl) ?_
 refine EVo_nil ?_
 refine EV_ret ?_
 refine ⟨_, ⟨rfl, _, _, _, rfl, rfl, rfl, .inl ⟨_, gOk rfl, zOk rfl, Nat.le_of_ble_eq_true rfl, rfl⟩⟩, fit_agg rfl nofun rfl⟩

theorem ref6_Of (k n : Int) (s : ByteArray) (z : Int) (hz : (limbs z.natAbs).length ≤ 4398046511104) : Fn Tryz.prog 25 [.agg (atD k n s), .agg (encZ z)] false (.one (.d (encU (ofU k n s z)))) := by
 refine Fn_of_EV Tryz.func25 rfl (by kernel_rfl) rfl rfl (fun E hE => ?_)
 refine EV_seq (EV_region ?_)
 refine EVo_e rfl (D_box 1 (hE 1 rfl) Free_no rfl) ?_
 refine EVo_e rfl (D_box 2 (hE 2 rfl) Free_no rfl) ?_
 refine EVo_t rfl (T_assign rfl) ?_
 refine EVo_nil ?_
 refine EV_seq ?_
 refine EV_seq (EV_region ?_)
 refine EVo_t rfl (T_loadRA (gOk rfl) (zOk rfl) rfl rfl (Nat.le_of_ble_eq_true rfl) rfl rfl) ?_
 refine EVo_e rfl (D_call false (ref2_Zero _ (by omega)) rfl (fit_cons (fit_ag rfl nofun) (fit_nil))) ?_
 refine EVo_nil ?_
 refine EV_cond rfl rfl rfl (fun hb1 => ?_) (fun hb1 => ?_)
 ·try simp only [z1, z2, z3, z4, z5, z6, z7, z8, z9, y1, y2, y3] at hb1
  refine EV_seq (EV_region ?_)
  refine EVo_t rfl (T_assign rfl) ?_
  refine EVo_nil ?_
  refine EV_ret ?_
  refine ⟨_, ⟨rfl, rfl⟩, fit_eq rfl nofun ?_⟩
  ·unfold ofU; rw [if_pos hb1]; rfl
 ·try simp only [z1, z2, z3, z4, z5, z6, z7, z8, z9, y1, y2, y3] at hb1
  refine EV_skip ?_
  refine EV_seq (EV_region ?_)
  refine EVo_t rfl (T_loadRA (gOk rfl) (zOk rfl) rfl rfl (Nat.le_of_ble_eq_true rfl) rfl rfl) ?_
  refine EVo_t rfl (T_loadRA (gOk rfl) (zOk rfl) rfl rfl (Nat.le_of_ble_eq_true rfl) rfl rfl) ?_
  refine EVo_t rfl (T_build ly84 rfl rfl) ?_
  refine EVo_e rfl (D_buildSlice (uOk rfl) bz84 rfl rfl rfl (by simp)) ?_
  refine EVo_t rfl (T_assign rfl) ?_
  refine EVo_nil ?_
  refine EV_ret ?_
  refine ⟨_, ⟨rfl, rfl⟩, fit_eq rfl nofun ?_⟩
  ·unfold ofU; rw [if_neg hb1]; rfl

theorem ref6_One (k n : Int) (s : ByteArray) : Fn Tryz.prog 62 [.agg (atD k n s)] false (.one (.d (encU [ofP k n s 1]))) := by
 refine Fn_of_EV Tryz.func62 rfl (by kernel_rfl) rfl rfl (fun E hE => ?_)
 refine EV_seq (EV_region ?_)
 refine EVo_e rfl (D_box 1 (hE 1 rfl) Free_no rfl) ?_
 refine EVo_t rfl (T_assign rfl) ?_
 refine EVo_nil ?_
 refine EV_seq ?_
 refine EV_draw (inX [1]) (.st 0 (.one 1 (.one 2 (.st 3 .done)))) Tryz.mixed (by kernel_rfl) ?_
 refine EVq_t rfl rfl (T_loadRA (gOk rfl) (zOk rfl) rfl rfl (Nat.le_of_ble_eq_true rfl) rfl rfl) ?_
 refine EVq_e rfl rfl (D_call false (ref2_From _ (by omega) (by omega)) rfl (fit_cons (fit_d rfl nofun) (fit_nil))) ?_
 refine EVq_e rfl rfl (D_call false (ref6_Of k n s 1 (by decide)) rfl (fit_cons (fit_ag rfl nofun) (fit_cons (fit_ag rfl nofun) (fit_nil)))) ?_
 refine EVq_t rfl rfl (T_assign rfl) ?_
 refine EVq_done ?_
 refine EV_ret ?_
 refine ⟨_, ⟨rfl, rfl⟩, fit_eq rfl nofun rfl⟩

theorem ref6_Pow (u : List Pw) (e : Int) (hu : u.length ≤ 549755813888) (hz : ∀ q ∈ u, [ib q.neg, encN q.mag] = encZ q.z ∧ (limbs q.z.natAbs).length ≤ 1099511627776) (he : (limbs e.natAbs).length ≤ 1099511627776) : Fn Tryz.prog 74 [.d (encU u), .agg (encZ e)] false (.one (.d (encU (powU u e)))) := by
 refine Fn_of_EV Tryz.func74 rfl (by kernel_rfl) rfl rfl (fun E hE => ?_)
 refine EV_seq (EV_region ?_)
 refine EVo_e rfl (D_box 2 (hE 2 rfl) Free_no rfl) ?_
 refine EVo_t rfl (T_assign rfl) ?_
 refine EVo_nil ?_
 refine EV_seq ?_
 refine EV_seq (EV_region ?_)
 refine EVo_t rfl (T_loadRA (gOk rfl) (zOk rfl) rfl rfl (Nat.le_of_ble_eq_true rfl) rfl rfl) ?_
 refine EVo_e rfl (D_call false (ref2_Zero _ (by omega)) rfl (fit_cons (fit_ag rfl nofun) (fit_nil))) ?_
 refine EVo_nil ?_
 refine EV_cond rfl rfl rfl (fun hb1 => ?_) (fun hb1 => ?_)
 ·try simp only [z1, z2, z3, z4, z5, z6, z7, z8, z9, y1, y2, y3] at hb1
  refine EV_seq (EV_region ?_)
  refine EVo_t rfl (T_assign rfl) ?_
  refine EVo_nil ?_
  refine EV_ret ?_
  refine ⟨_, ⟨rfl, rfl⟩, fit_eq rfl nofun ?_⟩
  ·unfold powU; rw [if_pos hb1]; rfl
 ·try simp only [z1, z2, z3, z4, z5, z6, z7, z8, z9, y1, y2, y3] at hb1
  refine EV_skip ?_
  refine EV_seq (EV_region ?_)
  refine EVo_t rfl (T_assign rfl) ?_
  refine EVo_nil ?_
  refine EV_seq ?_
  refine EV_seq ?_
  refine EV_weak (W_nilRow 1 5 84 5 (hE 1 rfl) rfl) ?_
  refine EV_region ?_
  refine EVo_t rfl (T_assign rfl) ?_
  refine EVo_nil ?_
  refine EV_block ?_
  refine EV_weak (W_keep2 [(0, V.c (.d false (encU u))), (3, V.c (.ref 2 0)), (5, V.c (.own 1 84 5 (true) (List.map encPw (List.map (fun q => ofP q.k q.n q.s (q.z * e)) (u.take ((0 : Int)).toNat))))), (6, vi .i64 ((0 : Int)))] [(1, .row), (2, .box ((encZ e).map (C.nd false)))] ⟨rfl, rfl, rfl, rfl, trivial⟩ ⟨rfl, rfl, trivial⟩ rfl) ?_
  refine EV_loop (fun mm S => ∃ i : Int, ∃ f : Bool, mm = ((u.length : Int) - i).toNat ∧ S = St.of [(0, V.c (.d false (encU u))), (3, V.c (.ref 2 0)), (5, V.c (.own 1 84 5 f (List.map encPw (List.map (fun q => ofP q.k q.n q.s (q.z * e)) (u.take i.toNat))))), (6, vi .i64 i)] (tabO [(1, .row), (2, .box ((encZ e).map (C.nd false)))]) 32 ∧ 0 ≤ i ∧ i ≤ u.length) _ ⟨(0 : Int), true, rfl, rfl, by omega⟩ ?_
  rintro mm S ⟨i, f, rfl, rfl, ⟨h0, h1⟩⟩
  have ei : (i.toNat : Int) = i := by omega
  refine EV_seq ?_
  refine EV_seq (EV_region ?_)
  refine EVo_t rfl (T_move rfl) ?_
  refine EVo_t rfl (T_move rfl) ?_
  refine EVo_t rfl (T_lenL (uOk rfl) rfl) ?_
  refine EVo_t rfl (T_bin rfl rfl rfl) ?_
  refine EVo_nil ?_
  refine EV_cond rfl rfl rfl (fun hb2 => ?_) (fun hb2 => ?_)
  ·try simp only [z1, z2, z3, z4, z5, z6, z7, z8, z9, y1, y2, y3] at hb2
   obtain ⟨hq1, hq2⟩ := hz (rd u i) (mem_rd h0 (by omega))
   refine EV_skip ?_
   refine EV_seq ?_
   refine EV_block ?_
   refine EV_draw (inX [2]) (.st 0 (.st 1 (.st 2 (.st 3 (.st 4 (.st 5 (.st 6 (.st 7 (.st 8 (.st 9 (.st 10 (.st 11 (.one 12 (.st 13 (.one 14 (.one 15 (.st 16 .done))))))))))))))))) Tryz.mixed (by kernel_rfl) ?_
   refine EVq_t rfl rfl (T_move rfl) ?_
   refine EVq_t rfl rfl (T_move rfl) ?_
   refine EVq_t rfl rfl (T_move rfl) ?_
   refine EVq_t rfl rfl (T_ixL (uOk rfl) (zOk rfl) rfl rfl (by omega) (by omega) (rfl)) ?_
   refine EVq_t rfl rfl (T_fa (fOk rfl) (zOk rfl) rfl (Nat.le_of_ble_eq_true rfl)) ?_
   refine EVq_t rfl rfl (T_loadA (gOk rfl) (zOk rfl) rfl (Nat.le_of_ble_eq_true rfl)) ?_
   refine EVq_t rfl rfl (T_move rfl) ?_
   refine EVq_t rfl rfl (T_move rfl) ?_
   refine EVq_t rfl rfl (T_ixL (uOk rfl) (zOk rfl) rfl rfl (by omega) (by omega) (rfl)) ?_
   refine EVq_t rfl rfl (T_fa (fOk rfl) (zOk rfl) rfl (Nat.le_of_ble_eq_true rfl)) ?_
   refine EVq_t rfl rfl (T_loadA (gOk rfl) (zOk rfl) rfl (Nat.le_of_ble_eq_true rfl)) ?_
   refine EVq_t rfl rfl (T_loadRA (gOk rfl) (zOk rfl) rfl rfl (Nat.le_of_ble_eq_true rfl) rfl rfl) ?_
   refine EVq_e rfl rfl (D_call false (ref2_TimesP (rd u i) e hq1 (by omega)) rfl (fit_cons (fit_ag rfl nofun) (fit_cons (fit_ag rfl nofun) (fit_nil)))) ?_
   refine EVq_t rfl rfl (T_build ly84 rfl rfl) ?_
   refine EVq_e rfl rfl (D_buildSlice (uOk rfl) bz84 rfl rfl rfl (by simp)) ?_
   refine EVq_e rfl rfl (D_append (uOk rfl) ap84 (by decide) rfl rfl (hE 1 rfl) (Free_in rfl) rfl rfl (by simp) (by simp; omega) (by simp; omega)) ?_
   refine EVq_t rfl rfl (T_assign rfl) ?_
   refine EVq_done ?_
   refine EV_region ?_
   refine EVo_t rfl (T_move rfl) ?_
   refine EVo_t rfl (T_binI rfl rfl rfl (by omega) (by omega)) ?_
   refine EVo_t rfl (T_assign rfl) ?_
   refine EVo_nil ?_
   have e2 : (i + 1).toNat = i.toNat + 1 := by omega
   have hta : u.take (i.toNat + 1) = u.take i.toNat ++ [rd u i] := by rw [take_rdT (by omega), ei]
   refine ⟨_, ?_, _, W_keep2 [(0, V.c (.d false (encU u))), (3, V.c (.ref 2 0)), (5, V.c (.own 1 84 5 (_) (List.map encPw (List.map (fun q => ofP q.k q.n q.s (q.z * e)) (u.take (i + 1).toNat))))), (6, vi .i64 (i + 1))] [(1, .row), (2, .box ((encZ e).map (C.nd false)))] ⟨rfl, rfl, ((own_app (m := [ofP (rd u i).k (rd u i).n (rd u i).s ((rd u i).z * e)]) rfl).trans (by rw [e2, hta]; simp only [List.map_append, List.map_cons, List.map_nil]; rfl)), rfl, trivial⟩ ⟨rfl, rfl, trivial⟩ rfl, i + 1, _, rfl, rfl, ?_⟩
   ·omega
   ·omega
  ·try simp only [z1, z2, z3, z4, z5, z6, z7, z8, z9, y1, y2, y3] at hb2
   refine EV_exit ?_
   refine EV_seq (EV_region ?_)
   refine EVo_t rfl (T_move rfl) ?_
   refine EVo_t rfl (T_assign rfl) ?_
   refine EVo_nil ?_
   refine EV_ret ?_
   refine ⟨_, ⟨rfl, rfl⟩, fit_eq rfl nofun ?_⟩
   ·unfold powU; rw [if_neg hb1, List.take_of_length_le (by omega)]

theorem ref6_Inv (u : List Pw) (hu : u.length ≤ 549755813888) (hz : ∀ q ∈ u, [ib q.neg, encN q.mag] = encZ q.z ∧ (limbs q.z.natAbs).length ≤ 1099511627776) : Fn Tryz.prog 28 [.d (encU u)] false (.one (.d (encU (powU u (-1))))) := by
 refine Fn_of_EV Tryz.func28 rfl (by kernel_rfl) rfl rfl (fun E hE => ?_)
 refine EV_seq (EV_region ?_)
 refine EVo_t rfl (T_assign rfl) ?_
 refine EVo_nil (EV_seq (EV_region ?_))
 refine EVo_t rfl (T_move rfl) ?_
 refine EVo_e rfl (D_call false (ref2_From _ (by omega) (by omega)) rfl (fit_cons (fit_d rfl nofun) (fit_nil))) ?_
 refine EVo_e rfl (D_call false (ref6_Pow u (-1) hu hz (by decide)) rfl (fit_cons (fit_d rfl nofun) (fit_cons (fit_ag rfl nofun) (fit_nil)))) ?_
 refine EVo_t rfl (T_assign rfl) ?_
 refine EVo_nil ?_
 refine EV_ret ?_
 refine ⟨_, ⟨rfl, rfl⟩, fit_eq rfl nofun rfl⟩

end Go.Proofs.YthaiegnohkiegaaGreat.Ab
/-
  The law of powers: plain.
-/
namespace Go.Proofs.YthaiegnohkiegaaGreat.Ab
set_option linter.unusedVariables false
set_option linter.unusedSimpArgs false

def numTy (u : List Pw) : Ty := .mk 4 0 s0 [] [u]
def arrTy (u v : List Pw) : Ty := .mk 5 0 s0 [numTy u, numTy v] []
theorem s0_nil : (s0.toList == []) = true := by
  have : s0.toList = [] := by
    unfold s0 ByteArray.toList ByteArray.toList.loop
    rfl
  rw [this]; rfl
/-- A unit of variable 0 alone, or none. -/
theorem ofU_good (z : Int) : fineU (ofU 1 0 s0 z) = true := by
  unfold ofU
  split
  · decide
  · rename_i h
    unfold fineU
    have h1 : goodU [ofP 1 0 s0 z] = true := goodU_true fun j hj => by
      have : j = 0 := by simpa using hj
      subst this
      have hz := goodZ_enc z
      have hl : 0 < (limbs z.natAbs).length := (limbs_len_pos _).2 (by omega)
      unfold okAt
      simp only [ofP, rd, List.getD_cons_zero, Int.natCast_zero, Int.toNat_zero]
      simp [atomB, numB, s0_nil, hz, hl]
    rw [h1]
    simp [wildB, ofP]
theorem powU_of (z e : Int) (he : e ≠ 0) : powU (ofU 1 0 s0 z) e = ofU 1 0 s0 (z * e) := by
  unfold powU ofU
  rw [if_neg he]
  by_cases h : z = 0
  · subst h; simp
  · rw [if_neg h, if_neg (by exact Int.mul_ne_zero h he)]
    simp only [List.map_cons, List.map_nil, ofP_z]
    rfl
theorem varsU_of (z : Int) : varsU (ofU 1 0 s0 z) = if z = 0 then [] else [0] := by
  have h := ofU_good z
  unfold fineU at h
  simp only [Bool.and_eq_true] at h
  unfold varsU
  rw [if_pos h.1]
  unfold ofU
  split
  · rfl
  · rfl
theorem shaped_num (u : List Pw) : shapedB (numTy u) = true := by
  unfold shapedB numTy
  simp [Ty.k, Ty.n, Ty.s, Ty.ar, Ty.us, s0_nil]
theorem shaped_arr (u v : List Pw) : shapedB (arrTy u v) = true := by
  unfold shapedB arrTy
  simp [Ty.k, Ty.n, Ty.s, Ty.ar, Ty.us, s0_nil]
theorem arr_good {u v : List Pw} (hu : fineU u = true) (hv : fineU v = true) : goodT (arrTy u v) = true := by
  unfold goodT
  rw [walkG_eq, seeG_in (shaped_arr u v) (by simp [arrTy, Ty.us])]
  have e1 : (arrTy u v).us.any (fun u => !fineU u) = false := by simp [arrTy, Ty.us]
  have n1 : ∀ (w : List Pw) (a b : Int), fineU w = true → a + 1 ≤ 256 → b + 1 ≤ 256 → walkG (numTy w) a b = (true, a + 1, b + 1) := fun w a b hw ha hb => by
    rw [walkG_eq, seeG_in (shaped_num w) (by simp [numTy, Ty.us]; omega)]
    have e2 : (numTy w).us.any (fun u => !fineU u) = false := by simp [numTy, Ty.us, hw]
    rw [e2]
    simp [numTy, Ty.us, Ty.ar, walkGs]
  rw [e1]
  simp only [Bool.not_false, if_true]
  simp only [arrTy, Ty.ar, Ty.us, walkGs, List.length_nil]
  simp [n1 u 1 0 hu (by omega) (by omega), n1 v 2 1 hv (by omega) (by omega)]
theorem arr_rigid (y z : Int) : rigT (arrTy (ofU 1 0 s0 y) (ofU 1 0 s0 z)) = false := by
  have : ∀ z, rigU (ofU 1 0 s0 z) = false := fun z => by
    unfold ofU
    split
    · rfl
    · simp [rigU, ofP]
  simp [rigT_eq, arrTy, numTy, Ty.k, Ty.ar, Ty.us, rigTs, this]
theorem arr_tys (u v : List Pw) : tysT (arrTy u v) = [] := by
  simp [arrTy, numTy, tysT, tysTs, hdT, Ty.k]
theorem arr_us (u v : List Pw) : usT (arrTy u v) = varsU u ++ varsU v := by
  simp [arrTy, numTy, usT, usTs, usL]
theorem arr_nums (u v : List Pw) : numsT (arrTy u v) = [numTy u, numTy v] := by
  have h : nT (arrTy u v) = 3 := by simp [arrTy, numTy, nT, nTs]
  unfold numsT
  rw [h]
  rfl
theorem scL_0 : scL [] = [] := by simp [scL]; rfl
theorem scL_1 : scL [0] = [0] := by simp [scL]; rfl
theorem scL_2 : scL [0, 0] = [0] := by
  have : ([0, 0] : List Int).mergeSort (fun x y => decide (x ≤ y)) = [0, 0] := List.mergeSort_of_pairwise (by simp)
  unfold scL
  rw [this]
  rfl
theorem arr_goodS (y z : Int) : goodS 0 1 (arrTy (ofU 1 0 s0 y) (ofU 1 0 s0 z)) = true := by
  unfold goodS
  rw [arr_good (ofU_good y) (ofU_good z), arr_rigid, arr_tys, arr_us, varsU_of, varsU_of]
  by_cases h1 : y = 0 <;> by_cases h2 : z = 0 <;> simp [h1, h2, scL_0, scL_1, scL_2, lastOk, rd]
theorem big_of {z : Int} : (ofU 1 0 s0 z).any bigP = decide (16 < z.natAbs) := by
  unfold ofU
  split
  · rename_i h; subst h; rfl
  · simp only [List.any_cons, List.any_nil, Bool.or_false]
    show (!smallB (limbs z.natAbs) || decide (16 < smallV (limbs z.natAbs))) = _
    by_cases h16 : z.natAbs < 18446744073709551616
    · have hs : smallB (limbs z.natAbs) = true := by rw [smallB_limbs]; simpa using h16
      have e : smallV (limbs z.natAbs) = (z.natAbs : Int) := by unfold smallV; rw [if_pos hs, val_limbs]
      rw [e, hs]
      simp
      omega
    · have hs : smallB (limbs z.natAbs) = false := by rw [smallB_limbs]; simpa using h16
      rw [hs]
      simp
      omega
theorem bad_num (z : Int) : badN (numTy (ofU 1 0 s0 z)) = decide (16 < z.natAbs) := by
  unfold badN smallT
  have : rd (numTy (ofU 1 0 s0 z)).us 0 = ofU 1 0 s0 z := rfl
  rw [this, big_of]
  simp [numK, numTy, Ty.k]
theorem okS_of {p : List Rat} {z : Int} (h : z.natAbs ≤ 16) (hp : 0 < p.length) : okS p (ofU 1 0 s0 z) := fun q hq => by
  unfold ofU at hq
  split at hq
  · cases hq
  · simp at hq
    subst hq
    refine ⟨⟨?_, okL_limbs _, by show s0.size ≤ _; simp [ByteArray.size]⟩, goodZ_enc z, by rw [ofP_z]; exact h, fun _ => ⟨by simp [ofP], by simpa [ofP] using hp⟩⟩
    have : (limbs z.natAbs).length ≤ (limbs 16).length := limbs_mono h
    have e : (limbs 16).length = 1 := by decide
    simp only [ofP]
    omega
theorem scale_of {p : List Rat} (x : Rat) (z : Int) : scaleQ p (ofU 1 0 s0 z) x = powQ x (rd p 0) z := by
  unfold ofU
  split
  · rename_i h; subst h; rfl
  · simp only [scaleQ]
    rw [ofP_z]
    rfl
theorem mulN_mul (x P : Rat) : ∀ n, mulN x P n = x * mulN 1 P n
  | 0 => by simp [mulN, Rat.mul_one]
  | n + 1 => by simp only [mulN]; rw [mulN_mul x P n, Rat.mul_assoc]
theorem divN_mul (x P : Rat) : ∀ n, divN x P n = x * divN 1 P n
  | 0 => by simp [divN, Rat.mul_one]
  | n + 1 => by simp only [divN]; rw [divN_mul x P n, Rat.div_def, Rat.div_def, Rat.mul_assoc]
theorem powQ_mul (x P : Rat) (z : Int) : powQ x P z = x * powQ 1 P z := by
  unfold powQ
  split
  · exact divN_mul x P _
  · exact mulN_mul x P _
theorem mulN_ne {P : Rat} (hP : P ≠ 0) : ∀ n, mulN 1 P n ≠ 0
  | 0 => by simp [mulN]
  | n + 1 => by simp only [mulN]; exact fun h => by rcases Rat.mul_eq_zero.1 h with h | h; exact mulN_ne hP n h; exact hP h
theorem inv_1 : (1 : Rat)⁻¹ = 1 := by
  have h : (1 : Rat) * (1 : Rat)⁻¹ = 1 := Rat.mul_inv_cancel 1 (by decide)
  rwa [Rat.one_mul] at h
theorem divN_inv {P : Rat} (hP : P ≠ 0) : ∀ n, divN 1 P n = (mulN 1 P n)⁻¹
  | 0 => by simp only [divN, mulN]; exact inv_1.symm
  | n + 1 => by simp only [divN, mulN]; rw [divN_inv hP n, Rat.div_def, Rat.inv_mul_rev, Rat.mul_comm]
theorem powQ_inv {P : Rat} (hP : P ≠ 0) (z : Int) : powQ 1 P (-z) = 1 / powQ 1 P z := by
  unfold powQ
  rw [Rat.div_def, Rat.one_mul]
  by_cases h : z < 0
  · rw [if_neg (by omega), if_pos h, divN_inv hP, Rat.inv_inv]
  · rw [if_neg h]
    by_cases h0 : z = 0
    · subst h0; simp only [mulN, Int.neg_zero, Int.toNat_zero]; rw [if_neg (by omega)]; exact inv_1.symm
    · rw [if_pos (by omega), Int.neg_neg, divN_inv hP]
theorem powQ1_ne {P : Rat} (hP : P ≠ 0) (z : Int) : powQ 1 P z ≠ 0 := by
  unfold powQ
  split
  · rw [divN_inv hP]; exact fun h => mulN_ne hP _ (by rw [← Rat.inv_inv (mulN 1 P (-z).toNat), h]; exact Rat.inv_zero)
  · exact mulN_ne hP _
theorem szU_of (z : Int) (hz : z.natAbs < 18446744073709551616) : szU (ofU 1 0 s0 z) := by
  unfold ofU
  split
  · exact ⟨by simp, fun p hp => by cases hp⟩
  · refine ⟨by simp, fun p hp => ?_⟩
    simp at hp
    subst hp
    refine ⟨?_, okL_limbs _, by show s0.size ≤ _; simp [ByteArray.size]⟩
    have h1 : (limbs z.natAbs).length ≤ 1 := limbs_len_le (by simpa using hz)
    simp only [ofP]
    omega
theorem szT_arr {u v : List Pw} (hu : szU u) (hv : szU v) : szT (arrTy u v) := by
  have h0 : s0.size ≤ 4611686018427387904 := by simp [ByteArray.size]
  simp only [arrTy, numTy, szT, szTs, h0, List.length_nil, List.length_cons, true_and, and_true]
  refine ⟨by omega, by omega, (fun w hw => by simp at hw), ⟨by omega, by omega, fun w hw => ?_⟩, by omega, by omega, fun w hw => ?_⟩
  · simp at hw; subst hw; exact hu
  · simp at hw; subst hw; exact hv
theorem ofU_len (z : Int) : (ofU 1 0 s0 z).length ≤ 1 := by unfold ofU; split <;> simp
theorem varsU_len (z : Int) : (varsU (ofU 1 0 s0 z)).length ≤ 1 := by rw [varsU_of]; split <;> simp
theorem arr_bad (y z : Int) : [numTy (ofU 1 0 s0 y), numTy (ofU 1 0 s0 z)].any badN = (decide (16 < y.natAbs) || decide (16 < z.natAbs)) := by
  simp [bad_num]
theorem scale_arr {P x : Rat} (y z : Int) (hP : 0 < P.num) (hb : bitsQ P 256 = false) (hx : bitsQ x 4096 = false) :
    scaleR 0 1 (arrTy (ofU 1 0 s0 y) (ofU 1 0 s0 z)) [P] [x] = if 16 < y.natAbs ∨ 16 < z.natAbs then ([], none, 210) else ([powQ x P y], some (powQ 1 P z), 0) := by
  have hg := arr_goodS y z
  have hn := arr_nums (ofU 1 0 s0 y) (ofU 1 0 s0 z)
  by_cases h : 16 < y.natAbs ∨ 16 < z.natAbs
  · rw [if_pos h]
    refine scaleR_2 hg ?_
    rw [hn, arr_bad]
    rcases h with h | h <;> simp [h]
  · rw [if_neg h]
    have hbad : (numsT (arrTy (ofU 1 0 s0 y) (ofU 1 0 s0 z))).any badN = false := by
      rw [hn, arr_bad]
      simp only [Bool.or_eq_false_iff, decide_eq_false_iff_not]
      omega
    have hl : loopR [P] (numsT (arrTy (ofU 1 0 s0 y) (ofU 1 0 s0 z))) [x] = some [powQ x P y] := by
      rw [hn]
      simp only [loopR]
      rw [if_neg (by simp [numTy, Ty.k])]
      have : rd (numTy (ofU 1 0 s0 y)).us 0 = ofU 1 0 s0 y := rfl
      rw [this, scale_of]
      rfl
    have hf : (decide (P.num ≤ 0)) = false := by simp; omega
    rw [scaleR_7 hg (by rw [hn]; exact Nat.le_refl _) hbad rfl (by rw [hn]; rfl) (by simp [hb]) (by simp [hx]) (by simp [hf]) hl, hn]
    have : rd (rd [numTy (ofU 1 0 s0 y), numTy (ofU 1 0 s0 z)] (([numTy (ofU 1 0 s0 y), numTy (ofU 1 0 s0 z)].length : Int) - 1)).us 0 = ofU 1 0 s0 z := rfl
    rw [this, scale_of]
    rfl
theorem law_Scale (y z : Int) (P x : Rat) (hy : y.natAbs < 18446744073709551616) (hz : z.natAbs < 18446744073709551616) (hP : 0 < P.num) (hb : bitsQ P 256 = false) (hx : bitsQ x 4096 = false) (hs1 : szQ P ≤ 1099511627776) (hs2 : szQ x ≤ 1099511627776) :
    Fn Tryz.prog 9 [.agg (scD 0 1 (arrTy (ofU 1 0 s0 y) (ofU 1 0 s0 z))), .d (encQs [P]), .d (encQs [x])] false
      (.tup [.d (encQs (if 16 < y.natAbs ∨ 16 < z.natAbs then [] else [powQ x P y])), .agg (byD (if 16 < y.natAbs ∨ 16 < z.natAbs then none else some (powQ 1 P z))), .d (ii (if 16 < y.natAbs ∨ 16 < z.natAbs then 210 else 0))]) := by
  have hn := arr_nums (ofU 1 0 s0 y) (ofU 1 0 s0 z)
  have h1 := varsU_len y
  have h2 := varsU_len z
  have h3 := ofU_len y
  have h4 := ofU_len z
  have hu : (usT (arrTy (ofU 1 0 s0 y) (ofU 1 0 s0 z))).length ≤ 1099511627776 := by rw [arr_us, List.length_append]; omega
  have := sca_Scale 0 1 (arrTy (ofU 1 0 s0 y) (ofU 1 0 s0 z)) [P] [x] (szT_arr (szU_of y hy) (szU_of z hz)) (by rw [arr_tys]; simp) hu (by rw [hn]; simp) (by simp) (by simp)
    (fun q hq => by simp at hq; subst hq; exact hs1) (fun q hq => by simp at hq; subst hq; exact hs2) (fun t ht => by
      rw [hn] at ht
      simp at ht
      rcases ht with rfl | rfl
      · show (ofU 1 0 s0 y).length ≤ _; omega
      · show (ofU 1 0 s0 z).length ≤ _; omega) (fun _ hbad _ t ht => by
      rw [hn] at ht hbad
      rw [arr_bad] at hbad
      simp only [Bool.or_eq_false_iff, decide_eq_false_iff_not] at hbad
      simp at ht
      rcases ht with rfl | rfl
      · exact okS_of (by omega) (by simp)
      · exact okS_of (by omega) (by simp))
  rw [scale_arr y z hP hb hx] at this
  split at this
  · rename_i h
    simp only [if_pos h]
    exact this
  · rename_i h
    simp only [if_neg h]
    exact this
end Go.Proofs.YthaiegnohkiegaaGreat.Ab
/-
 The law of powers: what its walks ask for.
-/
namespace Go.Proofs.YthaiegnohkiegaaGreat.Ab
set_option linter.unusedVariables false
set_option linter.unusedSimpArgs false
set_option maxRecDepth 20000


/-- A row of the law of powers, as it is read. -/
structure Rw where
 n : Int
 pn : Bool
 pl : List Int
 pm : List Int
 xn : Bool
 xl : List Int
 xm : List Int
instance : Inhabited Rw := ⟨⟨0, false, [], [], false, [], []⟩⟩
def encRw (r : Rw) : List D := [ii r.n, ib r.pn, encN r.pl, encN r.pm, ib r.xn, encN r.xl, encN r.xm]
def szRw (r : Rw) : Prop := (r.pl.length ≤ 1000000000000000000 ∧ r.pm.length ≤ 1000000000000000000 ∧ r.xl.length ≤ 1000000000000000000 ∧ r.xm.length ≤ 1000000000000000000) ∧ okL r.pl ∧ okL r.pm ∧ okL r.xl ∧ okL r.xm
def byT : Option Rat → Bool × List Int × List Int
 | some q => (decide (q.num < 0), limbs q.num.natAbs, limbs q.den)
 | none => (false, [], [])
theorem byD_eq (o : Option Rat) : byD o = [ib (byT o).1, encN (byT o).2.1, encN (byT o).2.2] := by cases o <;> rfl
theorem law_ScaleT (y z : Int) (P x : Rat) (hy : y.natAbs < 18446744073709551616) (hz : z.natAbs < 18446744073709551616) (hP : 0 < P.num) (hb : bitsQ P 256 = false) (hx : bitsQ x 4096 = false) (hs1 : szQ P ≤ 1099511627776) (hs2 : szQ x ≤ 1099511627776) :
  Fn Tryz.prog 9 [.agg (scD 0 1 (arrTy (ofU 1 0 s0 y) (ofU 1 0 s0 z))), .d (encQs [P]), .d (encQs [x])] false
   (.tup [.d (encQs (if 16 < y.natAbs ∨ 16 < z.natAbs then [] else [powQ x P y])), .agg [ib (byT (if 16 < y.natAbs ∨ 16 < z.natAbs then none else some (powQ 1 P z))).1, encN (byT (if 16 < y.natAbs ∨ 16 < z.natAbs then none else some (powQ 1 P z))).2.1, encN (byT (if 16 < y.natAbs ∨ 16 < z.natAbs then none else some (powQ 1 P z))).2.2], .d (ii (if 16 < y.natAbs ∨ 16 < z.natAbs then 210 else 0))]) := by
 have := law_Scale y z P x hy hz hP hb hx hs1 hs2
 rw [byD_eq] at this
 exact this
theorem law_ScaleIn (y z : Int) (P x : Rat) (hy : y.natAbs ≤ 16) (hz : z.natAbs ≤ 16) (hP : 0 < P.num) (hb : bitsQ P 256 = false) (hx : bitsQ x 4096 = false) (hs1 : szQ P ≤ 1099511627776) (hs2 : szQ x ≤ 1099511627776) :
  Fn Tryz.prog 9 [.agg (scD 0 1 (arrTy (ofU 1 0 s0 y) (ofU 1 0 s0 z))), .d (encQs [P]), .d (encQs [x])] false (.tup [.d (encQs [powQ x P y]), .agg (encQ (powQ 1 P z)), .d (ii 0)]) := by
 have := law_Scale y z P x (by omega) (by omega) hP hb hx hs1 hs2
 have hn : ¬ (16 < y.natAbs ∨ 16 < z.natAbs) := by omega
 simp only [if_neg hn] at this
 exact this
theorem ref_EqQ (a b : Rat) (ha : szQ a ≤ 17592186044416) (hb : szQ b ≤ 17592186044416) : Fn Tryz.prog 13 [.agg (encQ a), .agg (encQ b)] false (.one (.d (ib (decide (a = b))))) := by
 obtain ⟨a1, a2⟩ := szQ_parts ha
 obtain ⟨b1, b2⟩ := szQ_parts hb
 have := ref_EqRat (decide (a.num < 0)) (decide (b.num < 0)) (limbs a.num.natAbs) (limbs b.num.natAbs) (limbs a.den) (limbs b.den) a1 b1 a2 b2
 have e : decide ((decide (a.num < 0) = decide (b.num < 0) ∧ limbs a.num.natAbs = limbs b.num.natAbs) ∧ limbs a.den = limbs b.den) = decide (a = b) := by
  congr 1
  apply propext
  constructor
  ·rintro ⟨⟨h1, h2⟩, h3⟩
   exact encQ_inj (by unfold encQ; rw [h1, h2, h3])
  ·rintro rfl
   exact ⟨⟨rfl, rfl⟩, rfl⟩
 rw [e] at this
 exact this
theorem law_of1 : Fn Tryz.prog 21 [.d (ii 1), .d (iu 1)] false (.one (.agg (encQ 1))) := by
 have := law_of 1 1 (by omega) (by omega) (by omega) (by omega)
 have e : mkRat 1 (Int.toNat 1) = 1 := mk_one 1
 rw [e] at this
 exact this
theorem ref6_InvU (z : Int) (hz : z.natAbs < 18446744073709551616) : Fn Tryz.prog 28 [.d (encU (ofU 1 0 s0 z))] false (.one (.d (encU (ofU 1 0 s0 (z * -1))))) := by
 have := ref6_Inv (ofU 1 0 s0 z) (by have := ofU_len z; omega) (fun q hq => by
  unfold ofU at hq
  split at hq
  ·cases hq
  ·simp at hq
   subst hq
   rw [ofP_z]
   refine ⟨rfl, ?_⟩
   have h1 : (limbs z.natAbs).length ≤ 1 := limbs_len_le (by simpa using hz)
   omega)
 rw [powU_of _ _ (by decide)] at this
 exact this
theorem ref3_SignR (neg : Bool) (l m : List Int) (hl : l.length ≤ 549755813888) (hm : m.length ≤ 549755813888) (hk : okL l) (hkm : okL m) (hg : ratB neg l m = true) : Fn Tryz.prog 24 [.agg [ib neg, encN l, encN m]] false (.one (.d (ii (if (ratV neg l m).num < 0 then -1 else if 0 < (ratV neg l m).num then 1 else 0)))) := by
 obtain ⟨e1, e2⟩ := ratV_parts hkm hg
 have hsz : szQ (ratV neg l m) ≤ 1099511627776 := by
  unfold szQ
  rw [e1, e2, zval_natAbs]
  simp only [ratB, goodZ, Bool.and_eq_true] at hg
  rw [limbs_val hk hg.1.1.1.1, limbs_val hkm hg.1.1.2]
  omega
 have := ref3_Sign (ratV neg l m) hsz
 rw [← ratV_enc hk hkm hg] at this
 exact this
theorem bits_of {q : Rat} {m : Nat} (h1 : (limbs q.num.natAbs).length ≤ m) (h2 : (limbs q.den).length ≤ m) : bitsQ q (64 * m : Nat) = false := by
 have h3 := blen_limbs q.num.natAbs
 have h4 := blen_limbs q.den
 unfold bitsQ
 simp only [Bool.or_eq_false_iff, decide_eq_false_iff_not]
 omega
theorem bitsQ_le {q : Rat} {m n : Int} (h : bitsQ q m = false) (hm : m ≤ n) : bitsQ q n = false := by
 unfold bitsQ at *
 simp only [Bool.or_eq_false_iff, decide_eq_false_iff_not] at *
 omega
def wantQ (P : Rat) (e : Int) (k : Nat) : Rat := if 0 < e then mulN 1 P k else divN 1 P k
theorem wantQ_end (P : Rat) (e : Int) : wantQ P e e.natAbs = powQ 1 P e := by
 unfold wantQ powQ
 by_cases h : 0 < e
 ·rw [if_pos h, if_neg (by omega), show e.natAbs = e.toNat by omega]
 ·rw [if_neg h]
  by_cases h0 : e = 0
  ·subst h0; rfl
  ·rw [if_pos (by omega), show e.natAbs = (-e).toNat by omega]
theorem szQ_wantQ {P : Rat} (hP : P ≠ 0) (e : Int) (k : Nat) : szQ (wantQ P e k) ≤ 2 + k * szQ P := by
 have h1 := szQ_one
 unfold wantQ
 split
 ·have := szQ_mulN 1 P k; omega
 ·have := szQ_divN 1 hP k; omega

theorem law_num (v : Int) : Fn Tryz.prog 11 [.d (ii v)] false (.one (.d (ii v))) := by
 refine Fn_of_EV Tryz.func11 rfl (by kernel_rfl) rfl rfl (fun E hE => ?_)
 refine EV_seq (EV_region ?_)
 refine EVo_t rfl (T_assign rfl) ?_
 refine EVo_nil (EV_seq (EV_region ?_))
 refine EVo_t rfl (T_move rfl) ?_
 refine EVo_t rfl (T_assign rfl) ?_
 refine EVo_nil ?_
 refine EV_ret ?_
 refine ⟨_, ⟨rfl, rfl⟩, fit_eq rfl nofun rfl⟩

theorem law_of32 : Fn Tryz.prog 21 [.d (ii 3), .d (iu 2)] false (.one (.agg (encQ (mkRat 3 2)))) := law_of 3 2 (by omega) (by omega) (by omega) (by omega)
theorem law_of51 : Fn Tryz.prog 21 [.d (ii 5), .d (iu 1)] false (.one (.agg (encQ (mkRat 5 1)))) := law_of 5 1 (by omega) (by omega) (by omega) (by omega)
theorem law_of152 : Fn Tryz.prog 21 [.d (ii 15), .d (iu 2)] false (.one (.agg (encQ (mkRat 15 2)))) := law_of 15 2 (by omega) (by omega) (by omega) (by omega)
theorem law_of94 : Fn Tryz.prog 21 [.d (ii 9), .d (iu 4)] false (.one (.agg (encQ (mkRat 9 4)))) := law_of 9 4 (by omega) (by omega) (by omega) (by omega)
theorem wake_1 : powQ (mkRat 5 1) (mkRat 3 2) 1 = mkRat 15 2 := by
 show mkRat 5 1 * mkRat 3 2 = _
 rw [Rat.mkRat_mul_mkRat]
 rfl
theorem wake_2 : powQ 1 (mkRat 3 2) 2 = mkRat 9 4 := by
 show 1 * mkRat 3 2 * mkRat 3 2 = _
 rw [Rat.one_mul, Rat.mkRat_mul_mkRat]
 rfl

end Go.Proofs.YthaiegnohkiegaaGreat.Ab
/-
 The law of powers: it wakes.
-/
namespace Go.Proofs.YthaiegnohkiegaaGreat.Ab
set_option linter.unusedVariables false
set_option linter.unusedSimpArgs false
set_option maxRecDepth 20000


theorem ref6_OneU : Fn Tryz.prog 62 [.agg (atD 1 0 s0)] false (.one (.d (encU (ofU 1 0 s0 1)))) := ref6_One 1 0 s0
theorem ref_EqT (a b : Rat) (ha : szQ a ≤ 17592186044416) (hb : szQ b ≤ 17592186044416) (h : a = b) : Fn Tryz.prog 13 [.agg (encQ a), .agg (encQ b)] false (.one (.d (ib true))) := by
 have := ref_EqQ a b ha hb
 rw [decide_eq_true h] at this
 exact this
theorem row_facts {neg : Bool} {l m : List Int} (hk : okL l) (hkm : okL m) (hg : ratB neg l m = true) : limbs (ratV neg l m).num.natAbs = l ∧ limbs (ratV neg l m).den = m := by
 obtain ⟨e1, e2⟩ := ratV_parts hkm hg
 rw [e1, e2, zval_natAbs]
 simp only [ratB, goodZ, Bool.and_eq_true] at hg
 exact ⟨limbs_val hk hg.1.1.1.1, limbs_val hkm hg.1.1.2⟩
theorem row_P {neg : Bool} {l m : List Int} (hk : okL l) (hkm : okL m) (hg : ratB neg l m = true) (h1 : l.length ≤ 3) (h2 : m.length ≤ 3) : bitsQ (ratV neg l m) 256 = false ∧ szQ (ratV neg l m) ≤ 16 := by
 obtain ⟨f1, f2⟩ := row_facts hk hkm hg
 refine ⟨bitsQ_le (bits_of (m := 3) (by rw [f1]; exact h1) (by rw [f2]; exact h2)) (by decide), ?_⟩
 unfold szQ
 rw [f1, f2]
 omega
theorem row_x {neg : Bool} {l m : List Int} (hk : okL l) (hkm : okL m) (hg : ratB neg l m = true) (h1 : l.length + m.length ≤ 8) : bitsQ (ratV neg l m) 4096 = false ∧ szQ (ratV neg l m) ≤ 16 := by
 obtain ⟨f1, f2⟩ := row_facts hk hkm hg
 refine ⟨bitsQ_le (bits_of (m := 8) (by rw [f1]; omega) (by rw [f2]; omega)) (by decide), ?_⟩
 unfold szQ
 rw [f1, f2]
 omega
theorem tmod_20 (n : Int) : -19 ≤ Int.tmod n 20 ∧ Int.tmod n 20 ≤ 19 := by
 have h1 := Int.tmod_lt_of_pos n (show (0 : Int) < 20 by decide)
 have h2 := Int.lt_tmod_of_pos n (show (0 : Int) < 20 by decide)
 omega

theorem law_wakes : Fn Tryz.prog 17 [] false (.one (.d (ib true))) := by
 refine Fn_of_EV Tryz.func17 rfl (by kernel_rfl) rfl rfl (fun E hE => ?_)
 refine EV_seq (EV_region ?_)
 refine EVo_t rfl (T_assign rfl) ?_
 refine EVo_nil (EV_seq (EV_region ?_))
 refine EVo_e rfl (D_call false (ref6_Var 0) rfl (fit_cons (fit_d rfl nofun) (fit_nil))) ?_
 refine EVo_e rfl (D_call false (ref6_OneU) rfl (fit_cons (fit_ag rfl nofun) (fit_nil))) ?_
 refine EVo_t rfl (T_assign rfl) ?_
 refine EVo_nil (EV_seq (EV_region ?_))
 refine EVo_t rfl (T_move rfl) ?_
 refine EVo_e rfl (D_buildSlice (uOk rfl) bz66 rfl rfl rfl (by simp)) ?_
 refine EVo_t rfl (T_build ly27 rfl rfl) ?_
 refine EVo_e rfl (D_call false (ref6_Var 0) rfl (fit_cons (fit_d rfl nofun) (fit_nil))) ?_
 refine EVo_e rfl (D_call false (ref2_From 2 (by omega) (by omega)) rfl (fit_cons (fit_d rfl nofun) (fit_nil))) ?_
 refine EVo_e rfl (D_call false (ref6_Of 1 0 s0 2 (by decide)) rfl (fit_cons (fit_ag rfl nofun) (fit_cons (fit_ag rfl nofun) (fit_nil)))) ?_
 refine EVo_e rfl (D_buildSlice (uOk rfl) bz66 rfl rfl rfl (by simp)) ?_
 refine EVo_t rfl (T_build ly27 rfl rfl) ?_
 refine EVo_e rfl (D_buildSlice (uOk rfl) bz27 rfl rfl rfl (by simp)) ?_
 refine EVo_t rfl (T_build ly27 rfl rfl) ?_
 refine EVo_e rfl (D_alloc 1 (hE 1 rfl) Free_no zr27 rfl) ?_
 refine EVo_e rfl (D_store rfl Free_no rfl rfl (zOk rfl) rfl (Nat.le_of_ble_eq_true rfl) rfl) ?_
 refine EVo_nil ?_
 refine EV_join (fun S => S = St.of [(3, V.c (.d false (encQs [powQ (mkRat 5 1) (mkRat 3 2) 1]))), (4, V.c (.ref 2 0)), (5, vi .i64 0)] (tabO [(2, .box ((encQ (powQ 1 (mkRat 3 2) 2)).map (C.nd false)))]) 49 ∧ True) ?_ ?_
 ·
  refine EV_drawR (inX [1]) 15 rfl Tryz.mixed (by kernel_rfl) ?_
  refine EVr_t (i := 0) (by kernel_rfl) rfl rfl (T_loadRA (gOk rfl) (zOk rfl) rfl rfl (Nat.le_of_ble_eq_true rfl) rfl rfl) ?_
  refine EVr_t (i := 1) (by kernel_rfl) rfl rfl (T_build ly29 rfl rfl) ?_
  refine EVr_two (i1 := 2) (i2 := 11) (by kernel_rfl) rfl rfl (D_call false (law_of32) rfl (fit_cons (fit_d rfl nofun) (fit_cons (fit_d rfl nofun) (fit_nil)))) rfl rfl (D_alloc 2 (hE 2 rfl) (Free_in rfl) zr40 rfl) ?_ ?_
  ·
   refine EVr_three (i1 := 3) (i2 := 4) (i3 := 11) (by kernel_rfl) rfl rfl (D_buildSlice (uOk rfl) bz40 rfl rfl rfl (by simp)) rfl rfl (D_call false (law_of51) rfl (fit_cons (fit_d rfl nofun) (fit_cons (fit_d rfl nofun) (fit_nil)))) rfl rfl (D_alloc 2 (hE 2 rfl) (Free_in rfl) zr40 rfl) ?_ ?_ ?_
   ·
    refine EVr_of (.two 4 (.two 5 (.two 6 (.st 7 (.st 8 (.st 9 (.st 10 (.one 11 (.st 12 (.one 13 (.st 14 .done)))))))) 11 (.one 6 (.st 7 (.st 8 (.st 9 (.st 10 (.st 12 (.one 13 (.st 14 .done))))))))) 11 (.one 5 (.one 6 (.st 7 (.st 8 (.st 9 (.st 10 (.st 12 (.one 13 (.st 14 .done)))))))))) 11 (.one 4 (.one 5 (.one 6 (.st 7 (.st 8 (.st 9 (.st 10 (.st 12 (.one 13 (.st 14 .done))))))))))) (by kernel_rfl) ?_
    refine EVq_two rfl rfl (D_call false (law_of51) rfl (fit_cons (fit_d rfl nofun) (fit_cons (fit_d rfl nofun) (fit_nil)))) rfl rfl (D_alloc 2 (hE 2 rfl) (Free_in rfl) zr40 rfl) ?_ ?_
    ·
     refine EVq_two rfl rfl (D_buildSlice (uOk rfl) bz40 rfl rfl rfl (by simp)) rfl rfl (D_alloc 2 (hE 2 rfl) (Free_in rfl) zr40 rfl) ?_ ?_
     ·
      refine EVq_two rfl rfl (D_call false (law_ScaleIn 1 2 (mkRat 3 2) (mkRat 5 1) (by decide) (by decide) (by decide) (by decide) (by decide) (by decide) (by decide)) rfl (fit_cons (fit_ag rfl nofun) (fit_cons (fit_d rfl nofun) (fit_cons (fit_d rfl nofun) (fit_nil))))) rfl rfl (D_alloc 2 (hE 2 rfl) (Free_in rfl) zr40 rfl) ?_ ?_
      ·
       refine EVq_t rfl rfl (T_move rfl) ?_
       refine EVq_t rfl rfl (T_extract rfl rfl) ?_
       refine EVq_t rfl rfl (T_extract rfl rfl) ?_
       refine EVq_t rfl rfl (T_extract rfl rfl) ?_
       refine EVq_e rfl rfl (D_alloc 2 (hE 2 rfl) (Free_in rfl) zr40 rfl) ?_
       refine EVq_t rfl rfl (T_assign rfl) ?_
       refine EVq_e rfl rfl (D_store rfl (Free_in rfl) rfl rfl (zOk rfl) rfl (Nat.le_of_ble_eq_true rfl) rfl) ?_
       refine EVq_t rfl rfl (T_assign rfl) ?_
       refine EVq_done ?_
       refine ⟨_, W_keep2 [(3, V.c (.d false (encQs [powQ (mkRat 5 1) (mkRat 3 2) 1]))), (4, V.c (.ref 2 0)), (5, vi .i64 0)] [(2, .box ((encQ (powQ 1 (mkRat 3 2) 2)).map (C.nd false)))] ⟨rfl, rfl, rfl, trivial⟩ ⟨rfl, trivial⟩ rfl, rfl, ?_⟩
       trivial
      ·
       refine EVq_e rfl rfl (D_call false (law_ScaleIn 1 2 (mkRat 3 2) (mkRat 5 1) (by decide) (by decide) (by decide) (by decide) (by decide) (by decide) (by decide)) rfl (fit_cons (fit_ag rfl nofun) (fit_cons (fit_d rfl nofun) (fit_cons (fit_d rfl nofun) (fit_nil))))) ?_
       refine EVq_t rfl rfl (T_move rfl) ?_
       refine EVq_t rfl rfl (T_extract rfl rfl) ?_
       refine EVq_t rfl rfl (T_extract rfl rfl) ?_
       refine EVq_t rfl rfl (T_extract rfl rfl) ?_
       refine EVq_t rfl rfl (T_assign rfl) ?_
       refine EVq_e rfl rfl (D_store rfl (Free_in rfl) rfl rfl (zOk rfl) rfl (Nat.le_of_ble_eq_true rfl) rfl) ?_
       refine EVq_t rfl rfl (T_assign rfl) ?_
       refine EVq_done ?_
       refine ⟨_, W_keep2 [(3, V.c (.d false (encQs [powQ (mkRat 5 1) (mkRat 3 2) 1]))), (4, V.c (.ref 2 0)), (5, vi .i64 0)] [(2, .box ((encQ (powQ 1 (mkRat 3 2) 2)).map (C.nd false)))] ⟨rfl, rfl, rfl, trivial⟩ ⟨rfl, trivial⟩ rfl, rfl, ?_⟩
       trivial
     ·
      refine EVq_e rfl rfl (D_buildSlice (uOk rfl) bz40 rfl rfl rfl (by simp)) ?_
      refine EVq_e rfl rfl (D_call false (law_ScaleIn 1 2 (mkRat 3 2) (mkRat 5 1) (by decide) (by decide) (by decide) (by decide) (by decide) (by decide) (by decide)) rfl (fit_cons (fit_ag rfl nofun) (fit_cons (fit_d rfl nofun) (fit_cons (fit_d rfl nofun) (fit_nil))))) ?_
      refine EVq_t rfl rfl (T_move rfl) ?_
      refine EVq_t rfl rfl (T_extract rfl rfl) ?_
      refine EVq_t rfl rfl (T_extract rfl rfl) ?_
      refine EVq_t rfl rfl (T_extract rfl rfl) ?_
      refine EVq_t rfl rfl (T_assign rfl) ?_
      refine EVq_e rfl rfl (D_store rfl (Free_in rfl) rfl rfl (zOk rfl) rfl (Nat.le_of_ble_eq_true rfl) rfl) ?_
      refine EVq_t rfl rfl (T_assign rfl) ?_
      refine EVq_done ?_
      refine ⟨_, W_keep2 [(3, V.c (.d false (encQs [powQ (mkRat 5 1) (mkRat 3 2) 1]))), (4, V.c (.ref 2 0)), (5, vi .i64 0)] [(2, .box ((encQ (powQ 1 (mkRat 3 2) 2)).map (C.nd false)))] ⟨rfl, rfl, rfl, trivial⟩ ⟨rfl, trivial⟩ rfl, rfl, ?_⟩
      trivial
    ·
     refine EVq_e rfl rfl (D_call false (law_of51) rfl (fit_cons (fit_d rfl nofun) (fit_cons (fit_d rfl nofun) (fit_nil)))) ?_
     refine EVq_e rfl rfl (D_buildSlice (uOk rfl) bz40 rfl rfl rfl (by simp)) ?_
     refine EVq_e rfl rfl (D_call false (law_ScaleIn 1 2 (mkRat 3 2) (mkRat 5 1) (by decide) (by decide) (by decide) (by decide) (by decide) (by decide) (by decide)) rfl (fit_cons (fit_ag rfl nofun) (fit_cons (fit_d rfl nofun) (fit_cons (fit_d rfl nofun) (fit_nil))))) ?_
     refine EVq_t rfl rfl (T_move rfl) ?_
     refine EVq_t rfl rfl (T_extract rfl rfl) ?_
     refine EVq_t rfl rfl (T_extract rfl rfl) ?_
     refine EVq_t rfl rfl (T_extract rfl rfl) ?_
     refine EVq_t rfl rfl (T_assign rfl) ?_
     refine EVq_e rfl rfl (D_store rfl (Free_in rfl) rfl rfl (zOk rfl) rfl (Nat.le_of_ble_eq_true rfl) rfl) ?_
     refine EVq_t rfl rfl (T_assign rfl) ?_
     refine EVq_done ?_
     refine ⟨_, W_keep2 [(3, V.c (.d false (encQs [powQ (mkRat 5 1) (mkRat 3 2) 1]))), (4, V.c (.ref 2 0)), (5, vi .i64 0)] [(2, .box ((encQ (powQ 1 (mkRat 3 2) 2)).map (C.nd false)))] ⟨rfl, rfl, rfl, trivial⟩ ⟨rfl, trivial⟩ rfl, rfl, ?_⟩
     trivial
   ·
    refine EVr_three (i1 := 3) (i2 := 5) (i3 := 11) (by kernel_rfl) rfl rfl (D_buildSlice (uOk rfl) bz40 rfl rfl rfl (by simp)) rfl rfl (D_buildSlice (uOk rfl) bz40 rfl rfl rfl (by simp)) rfl rfl (D_alloc 2 (hE 2 rfl) (Free_in rfl) zr40 rfl) ?_ ?_ ?_
    ·
     refine EVr_of (.two 5 (.two 6 (.st 7 (.st 8 (.st 9 (.st 10 (.one 11 (.st 12 (.one 13 (.st 14 .done)))))))) 11 (.one 6 (.st 7 (.st 8 (.st 9 (.st 10 (.st 12 (.one 13 (.st 14 .done))))))))) 11 (.one 5 (.one 6 (.st 7 (.st 8 (.st 9 (.st 10 (.st 12 (.one 13 (.st 14 .done)))))))))) (by kernel_rfl) ?_
     refine EVq_two rfl rfl (D_buildSlice (uOk rfl) bz40 rfl rfl rfl (by simp)) rfl rfl (D_alloc 2 (hE 2 rfl) (Free_in rfl) zr40 rfl) ?_ ?_
     ·
      refine EVq_two rfl rfl (D_call false (law_ScaleIn 1 2 (mkRat 3 2) (mkRat 5 1) (by decide) (by decide) (by decide) (by decide) (by decide) (by decide) (by decide)) rfl (fit_cons (fit_ag rfl nofun) (fit_cons (fit_d rfl nofun) (fit_cons (fit_d rfl nofun) (fit_nil))))) rfl rfl (D_alloc 2 (hE 2 rfl) (Free_in rfl) zr40 rfl) ?_ ?_
      ·
       refine EVq_t rfl rfl (T_move rfl) ?_
       refine EVq_t rfl rfl (T_extract rfl rfl) ?_
       refine EVq_t rfl rfl (T_extract rfl rfl) ?_
       refine EVq_t rfl rfl (T_extract rfl rfl) ?_
       refine EVq_e rfl rfl (D_alloc 2 (hE 2 rfl) (Free_in rfl) zr40 rfl) ?_
       refine EVq_t rfl rfl (T_assign rfl) ?_
       refine EVq_e rfl rfl (D_store rfl (Free_in rfl) rfl rfl (zOk rfl) rfl (Nat.le_of_ble_eq_true rfl) rfl) ?_
       refine EVq_t rfl rfl (T_assign rfl) ?_
       refine EVq_done ?_
       refine ⟨_, W_keep2 [(3, V.c (.d false (encQs [powQ (mkRat 5 1) (mkRat 3 2) 1]))), (4, V.c (.ref 2 0)), (5, vi .i64 0)] [(2, .box ((encQ (powQ 1 (mkRat 3 2) 2)).map (C.nd false)))] ⟨rfl, rfl, rfl, trivial⟩ ⟨rfl, trivial⟩ rfl, rfl, ?_⟩
       trivial
      ·
       refine EVq_e rfl rfl (D_call false (law_ScaleIn 1 2 (mkRat 3 2) (mkRat 5 1) (by decide) (by decide) (by decide) (by decide) (by decide) (by decide) (by decide)) rfl (fit_cons (fit_ag rfl nofun) (fit_cons (fit_d rfl nofun) (fit_cons (fit_d rfl nofun) (fit_nil))))) ?_
       refine EVq_t rfl rfl (T_move rfl) ?_
       refine EVq_t rfl rfl (T_extract rfl rfl) ?_
       refine EVq_t rfl rfl (T_extract rfl rfl) ?_
       refine EVq_t rfl rfl (T_extract rfl rfl) ?_
       refine EVq_t rfl rfl (T_assign rfl) ?_
       refine EVq_e rfl rfl (D_store rfl (Free_in rfl) rfl rfl (zOk rfl) rfl (Nat.le_of_ble_eq_true rfl) rfl) ?_
       refine EVq_t rfl rfl (T_assign rfl) ?_
       refine EVq_done ?_
       refine ⟨_, W_keep2 [(3, V.c (.d false (encQs [powQ (mkRat 5 1) (mkRat 3 2) 1]))), (4, V.c (.ref 2 0)), (5, vi .i64 0)] [(2, .box ((encQ (powQ 1 (mkRat 3 2) 2)).map (C.nd false)))] ⟨rfl, rfl, rfl, trivial⟩ ⟨rfl, trivial⟩ rfl, rfl, ?_⟩
       trivial
     ·
      refine EVq_e rfl rfl (D_buildSlice (uOk rfl) bz40 rfl rfl rfl (by simp)) ?_
      refine EVq_e rfl rfl (D_call false (law_ScaleIn 1 2 (mkRat 3 2) (mkRat 5 1) (by decide) (by decide) (by decide) (by decide) (by decide) (by decide) (by decide)) rfl (fit_cons (fit_ag rfl nofun) (fit_cons (fit_d rfl nofun) (fit_cons (fit_d rfl nofun) (fit_nil))))) ?_
      refine EVq_t rfl rfl (T_move rfl) ?_
      refine EVq_t rfl rfl (T_extract rfl rfl) ?_
      refine EVq_t rfl rfl (T_extract rfl rfl) ?_
      refine EVq_t rfl rfl (T_extract rfl rfl) ?_
      refine EVq_t rfl rfl (T_assign rfl) ?_
      refine EVq_e rfl rfl (D_store rfl (Free_in rfl) rfl rfl (zOk rfl) rfl (Nat.le_of_ble_eq_true rfl) rfl) ?_
      refine EVq_t rfl rfl (T_assign rfl) ?_
      refine EVq_done ?_
      refine ⟨_, W_keep2 [(3, V.c (.d false (encQs [powQ (mkRat 5 1) (mkRat 3 2) 1]))), (4, V.c (.ref 2 0)), (5, vi .i64 0)] [(2, .box ((encQ (powQ 1 (mkRat 3 2) 2)).map (C.nd false)))] ⟨rfl, rfl, rfl, trivial⟩ ⟨rfl, trivial⟩ rfl, rfl, ?_⟩
      trivial
    ·
     refine EVr_of (.two 3 (.two 6 (.st 7 (.st 8 (.st 9 (.st 10 (.one 11 (.st 12 (.one 13 (.st 14 .done)))))))) 11 (.one 6 (.st 7 (.st 8 (.st 9 (.st 10 (.st 12 (.one 13 (.st 14 .done))))))))) 11 (.one 3 (.one 6 (.st 7 (.st 8 (.st 9 (.st 10 (.st 12 (.one 13 (.st 14 .done)))))))))) (by kernel_rfl) ?_
     refine EVq_two rfl rfl (D_buildSlice (uOk rfl) bz40 rfl rfl rfl (by simp)) rfl rfl (D_alloc 2 (hE 2 rfl) (Free_in rfl) zr40 rfl) ?_ ?_
     ·
      refine EVq_two rfl rfl (D_call false (law_ScaleIn 1 2 (mkRat 3 2) (mkRat 5 1) (by decide) (by decide) (by decide) (by decide) (by decide) (by decide) (by decide)) rfl (fit_cons (fit_ag rfl nofun) (fit_cons (fit_d rfl nofun) (fit_cons (fit_d rfl nofun) (fit_nil))))) rfl rfl (D_alloc 2 (hE 2 rfl) (Free_in rfl) zr40 rfl) ?_ ?_
      ·
       refine EVq_t rfl rfl (T_move rfl) ?_
       refine EVq_t rfl rfl (T_extract rfl rfl) ?_
       refine EVq_t rfl rfl (T_extract rfl rfl) ?_
       refine EVq_t rfl rfl (T_extract rfl rfl) ?_
       refine EVq_e rfl rfl (D_alloc 2 (hE 2 rfl) (Free_in rfl) zr40 rfl) ?_
       refine EVq_t rfl rfl (T_assign rfl) ?_
       refine EVq_e rfl rfl (D_store rfl (Free_in rfl) rfl rfl (zOk rfl) rfl (Nat.le_of_ble_eq_true rfl) rfl) ?_
       refine EVq_t rfl rfl (T_assign rfl) ?_
       refine EVq_done ?_
       refine ⟨_, W_keep2 [(3, V.c (.d false (encQs [powQ (mkRat 5 1) (mkRat 3 2) 1]))), (4, V.c (.ref 2 0)), (5, vi .i64 0)] [(2, .box ((encQ (powQ 1 (mkRat 3 2) 2)).map (C.nd false)))] ⟨rfl, rfl, rfl, trivial⟩ ⟨rfl, trivial⟩ rfl, rfl, ?_⟩
       trivial
      ·
       refine EVq_e rfl rfl (D_call false (law_ScaleIn 1 2 (mkRat 3 2) (mkRat 5 1) (by decide) (by decide) (by decide) (by decide) (by decide) (by decide) (by decide)) rfl (fit_cons (fit_ag rfl nofun) (fit_cons (fit_d rfl nofun) (fit_cons (fit_d rfl nofun) (fit_nil))))) ?_
       refine EVq_t rfl rfl (T_move rfl) ?_
       refine EVq_t rfl rfl (T_extract rfl rfl) ?_
       refine EVq_t rfl rfl (T_extract rfl rfl) ?_
       refine EVq_t rfl rfl (T_extract rfl rfl) ?_
       refine EVq_t rfl rfl (T_assign rfl) ?_
       refine EVq_e rfl rfl (D_store rfl (Free_in rfl) rfl rfl (zOk rfl) rfl (Nat.le_of_ble_eq_true rfl) rfl) ?_
       refine EVq_t rfl rfl (T_assign rfl) ?_
       refine EVq_done ?_
       refine ⟨_, W_keep2 [(3, V.c (.d false (encQs [powQ (mkRat 5 1) (mkRat 3 2) 1]))), (4, V.c (.ref 2 0)), (5, vi .i64 0)] [(2, .box ((encQ (powQ 1 (mkRat 3 2) 2)).map (C.nd false)))] ⟨rfl, rfl, rfl, trivial⟩ ⟨rfl, trivial⟩ rfl, rfl, ?_⟩
       trivial
     ·
      refine EVq_e rfl rfl (D_buildSlice (uOk rfl) bz40 rfl rfl rfl (by simp)) ?_
      refine EVq_e rfl rfl (D_call false (law_ScaleIn 1 2 (mkRat 3 2) (mkRat 5 1) (by decide) (by decide) (by decide) (by decide) (by decide) (by decide) (by decide)) rfl (fit_cons (fit_ag rfl nofun) (fit_cons (fit_d rfl nofun) (fit_cons (fit_d rfl nofun) (fit_nil))))) ?_
      refine EVq_t rfl rfl (T_move rfl) ?_
      refine EVq_t rfl rfl (T_extract rfl rfl) ?_
      refine EVq_t rfl rfl (T_extract rfl rfl) ?_
      refine EVq_t rfl rfl (T_extract rfl rfl) ?_
      refine EVq_t rfl rfl (T_assign rfl) ?_
      refine EVq_e rfl rfl (D_store rfl (Free_in rfl) rfl rfl (zOk rfl) rfl (Nat.le_of_ble_eq_true rfl) rfl) ?_
      refine EVq_t rfl rfl (T_assign rfl) ?_
      refine EVq_done ?_
      refine ⟨_, W_keep2 [(3, V.c (.d false (encQs [powQ (mkRat 5 1) (mkRat 3 2) 1]))), (4, V.c (.ref 2 0)), (5, vi .i64 0)] [(2, .box ((encQ (powQ 1 (mkRat 3 2) 2)).map (C.nd false)))] ⟨rfl, rfl, rfl, trivial⟩ ⟨rfl, trivial⟩ rfl, rfl, ?_⟩
      trivial
    ·
     refine EVr_of (.two 3 (.one 5 (.one 6 (.st 7 (.st 8 (.st 9 (.st 10 (.st 12 (.one 13 (.st 14 .done))))))))) 5 (.one 3 (.one 6 (.st 7 (.st 8 (.st 9 (.st 10 (.st 12 (.one 13 (.st 14 .done)))))))))) (by kernel_rfl) ?_
     refine EVq_two rfl rfl (D_buildSlice (uOk rfl) bz40 rfl rfl rfl (by simp)) rfl rfl (D_buildSlice (uOk rfl) bz40 rfl rfl rfl (by simp)) ?_ ?_
     ·
      refine EVq_e rfl rfl (D_buildSlice (uOk rfl) bz40 rfl rfl rfl (by simp)) ?_
      refine EVq_e rfl rfl (D_call false (law_ScaleIn 1 2 (mkRat 3 2) (mkRat 5 1) (by decide) (by decide) (by decide) (by decide) (by decide) (by decide) (by decide)) rfl (fit_cons (fit_ag rfl nofun) (fit_cons (fit_d rfl nofun) (fit_cons (fit_d rfl nofun) (fit_nil))))) ?_
      refine EVq_t rfl rfl (T_move rfl) ?_
      refine EVq_t rfl rfl (T_extract rfl rfl) ?_
      refine EVq_t rfl rfl (T_extract rfl rfl) ?_
      refine EVq_t rfl rfl (T_extract rfl rfl) ?_
      refine EVq_t rfl rfl (T_assign rfl) ?_
      refine EVq_e rfl rfl (D_store rfl (Free_in rfl) rfl rfl (zOk rfl) rfl (Nat.le_of_ble_eq_true rfl) rfl) ?_
      refine EVq_t rfl rfl (T_assign rfl) ?_
      refine EVq_done ?_
      refine ⟨_, W_keep2 [(3, V.c (.d false (encQs [powQ (mkRat 5 1) (mkRat 3 2) 1]))), (4, V.c (.ref 2 0)), (5, vi .i64 0)] [(2, .box ((encQ (powQ 1 (mkRat 3 2) 2)).map (C.nd false)))] ⟨rfl, rfl, rfl, trivial⟩ ⟨rfl, trivial⟩ rfl, rfl, ?_⟩
      trivial
     ·
      refine EVq_e rfl rfl (D_buildSlice (uOk rfl) bz40 rfl rfl rfl (by simp)) ?_
      refine EVq_e rfl rfl (D_call false (law_ScaleIn 1 2 (mkRat 3 2) (mkRat 5 1) (by decide) (by decide) (by decide) (by decide) (by decide) (by decide) (by decide)) rfl (fit_cons (fit_ag rfl nofun) (fit_cons (fit_d rfl nofun) (fit_cons (fit_d rfl nofun) (fit_nil))))) ?_
      refine EVq_t rfl rfl (T_move rfl) ?_
      refine EVq_t rfl rfl (T_extract rfl rfl) ?_
      refine EVq_t rfl rfl (T_extract rfl rfl) ?_
      refine EVq_t rfl rfl (T_extract rfl rfl) ?_
      refine EVq_t rfl rfl (T_assign rfl) ?_
      refine EVq_e rfl rfl (D_store rfl (Free_in rfl) rfl rfl (zOk rfl) rfl (Nat.le_of_ble_eq_true rfl) rfl) ?_
      refine EVq_t rfl rfl (T_assign rfl) ?_
      refine EVq_done ?_
      refine ⟨_, W_keep2 [(3, V.c (.d false (encQs [powQ (mkRat 5 1) (mkRat 3 2) 1]))), (4, V.c (.ref 2 0)), (5, vi .i64 0)] [(2, .box ((encQ (powQ 1 (mkRat 3 2) 2)).map (C.nd false)))] ⟨rfl, rfl, rfl, trivial⟩ ⟨rfl, trivial⟩ rfl, rfl, ?_⟩
      trivial
   ·
    refine EVr_of (.two 3 (.one 4 (.one 5 (.one 6 (.st 7 (.st 8 (.st 9 (.st 10 (.st 12 (.one 13 (.st 14 .done)))))))))) 4 (.two 3 (.one 5 (.one 6 (.st 7 (.st 8 (.st 9 (.st 10 (.st 12 (.one 13 (.st 14 .done))))))))) 5 (.one 3 (.one 6 (.st 7 (.st 8 (.st 9 (.st 10 (.st 12 (.one 13 (.st 14 .done))))))))))) (by kernel_rfl) ?_
    refine EVq_two rfl rfl (D_buildSlice (uOk rfl) bz40 rfl rfl rfl (by simp)) rfl rfl (D_call false (law_of51) rfl (fit_cons (fit_d rfl nofun) (fit_cons (fit_d rfl nofun) (fit_nil)))) ?_ ?_
    ·
     refine EVq_e rfl rfl (D_call false (law_of51) rfl (fit_cons (fit_d rfl nofun) (fit_cons (fit_d rfl nofun) (fit_nil)))) ?_
     refine EVq_e rfl rfl (D_buildSlice (uOk rfl) bz40 rfl rfl rfl (by simp)) ?_
     refine EVq_e rfl rfl (D_call false (law_ScaleIn 1 2 (mkRat 3 2) (mkRat 5 1) (by decide) (by decide) (by decide) (by decide) (by decide) (by decide) (by decide)) rfl (fit_cons (fit_ag rfl nofun) (fit_cons (fit_d rfl nofun) (fit_cons (fit_d rfl nofun) (fit_nil))))) ?_
     refine EVq_t rfl rfl (T_move rfl) ?_
     refine EVq_t rfl rfl (T_extract rfl rfl) ?_
     refine EVq_t rfl rfl (T_extract rfl rfl) ?_
     refine EVq_t rfl rfl (T_extract rfl rfl) ?_
     refine EVq_t rfl rfl (T_assign rfl) ?_
     refine EVq_e rfl rfl (D_store rfl (Free_in rfl) rfl rfl (zOk rfl) rfl (Nat.le_of_ble_eq_true rfl) rfl) ?_
     refine EVq_t rfl rfl (T_assign rfl) ?_
     refine EVq_done ?_
     refine ⟨_, W_keep2 [(3, V.c (.d false (encQs [powQ (mkRat 5 1) (mkRat 3 2) 1]))), (4, V.c (.ref 2 0)), (5, vi .i64 0)] [(2, .box ((encQ (powQ 1 (mkRat 3 2) 2)).map (C.nd false)))] ⟨rfl, rfl, rfl, trivial⟩ ⟨rfl, trivial⟩ rfl, rfl, ?_⟩
     trivial
    ·
     refine EVq_two rfl rfl (D_buildSlice (uOk rfl) bz40 rfl rfl rfl (by simp)) rfl rfl (D_buildSlice (uOk rfl) bz40 rfl rfl rfl (by simp)) ?_ ?_
     ·
      refine EVq_e rfl rfl (D_buildSlice (uOk rfl) bz40 rfl rfl rfl (by simp)) ?_
      refine EVq_e rfl rfl (D_call false (law_ScaleIn 1 2 (mkRat 3 2) (mkRat 5 1) (by decide) (by decide) (by decide) (by decide) (by decide) (by decide) (by decide)) rfl (fit_cons (fit_ag rfl nofun) (fit_cons (fit_d rfl nofun) (fit_cons (fit_d rfl nofun) (fit_nil))))) ?_
      refine EVq_t rfl rfl (T_move rfl) ?_
      refine EVq_t rfl rfl (T_extract rfl rfl) ?_
      refine EVq_t rfl rfl (T_extract rfl rfl) ?_
      refine EVq_t rfl rfl (T_extract rfl rfl) ?_
      refine EVq_t rfl rfl (T_assign rfl) ?_
      refine EVq_e rfl rfl (D_store rfl (Free_in rfl) rfl rfl (zOk rfl) rfl (Nat.le_of_ble_eq_true rfl) rfl) ?_
      refine EVq_t rfl rfl (T_assign rfl) ?_
      refine EVq_done ?_
      refine ⟨_, W_keep2 [(3, V.c (.d false (encQs [powQ (mkRat 5 1) (mkRat 3 2) 1]))), (4, V.c (.ref 2 0)), (5, vi .i64 0)] [(2, .box ((encQ (powQ 1 (mkRat 3 2) 2)).map (C.nd false)))] ⟨rfl, rfl, rfl, trivial⟩ ⟨rfl, trivial⟩ rfl, rfl, ?_⟩
      trivial
     ·
      refine EVq_e rfl rfl (D_buildSlice (uOk rfl) bz40 rfl rfl rfl (by simp)) ?_
      refine EVq_e rfl rfl (D_call false (law_ScaleIn 1 2 (mkRat 3 2) (mkRat 5 1) (by decide) (by decide) (by decide) (by decide) (by decide) (by decide) (by decide)) rfl (fit_cons (fit_ag rfl nofun) (fit_cons (fit_d rfl nofun) (fit_cons (fit_d rfl nofun) (fit_nil))))) ?_
      refine EVq_t rfl rfl (T_move rfl) ?_
      refine EVq_t rfl rfl (T_extract rfl rfl) ?_
      refine EVq_t rfl rfl (T_extract rfl rfl) ?_
      refine EVq_t rfl rfl (T_extract rfl rfl) ?_
      refine EVq_t rfl rfl (T_assign rfl) ?_
      refine EVq_e rfl rfl (D_store rfl (Free_in rfl) rfl rfl (zOk rfl) rfl (Nat.le_of_ble_eq_true rfl) rfl) ?_
      refine EVq_t rfl rfl (T_assign rfl) ?_
      refine EVq_done ?_
      refine ⟨_, W_keep2 [(3, V.c (.d false (encQs [powQ (mkRat 5 1) (mkRat 3 2) 1]))), (4, V.c (.ref 2 0)), (5, vi .i64 0)] [(2, .box ((encQ (powQ 1 (mkRat 3 2) 2)).map (C.nd false)))] ⟨rfl, rfl, rfl, trivial⟩ ⟨rfl, trivial⟩ rfl, rfl, ?_⟩
      trivial
  ·
   refine EVr_of (.one 2 (.two 3 (.one 4 (.one 5 (.one 6 (.st 7 (.st 8 (.st 9 (.st 10 (.st 12 (.one 13 (.st 14 .done)))))))))) 4 (.two 3 (.one 5 (.one 6 (.st 7 (.st 8 (.st 9 (.st 10 (.st 12 (.one 13 (.st 14 .done))))))))) 5 (.one 3 (.one 6 (.st 7 (.st 8 (.st 9 (.st 10 (.st 12 (.one 13 (.st 14 .done)))))))))))) (by kernel_rfl) ?_
   refine EVq_e rfl rfl (D_call false (law_of32) rfl (fit_cons (fit_d rfl nofun) (fit_cons (fit_d rfl nofun) (fit_nil)))) ?_
   refine EVq_two rfl rfl (D_buildSlice (uOk rfl) bz40 rfl rfl rfl (by simp)) rfl rfl (D_call false (law_of51) rfl (fit_cons (fit_d rfl nofun) (fit_cons (fit_d rfl nofun) (fit_nil)))) ?_ ?_
   ·
    refine EVq_e rfl rfl (D_call false (law_of51) rfl (fit_cons (fit_d rfl nofun) (fit_cons (fit_d rfl nofun) (fit_nil)))) ?_
    refine EVq_e rfl rfl (D_buildSlice (uOk rfl) bz40 rfl rfl rfl (by simp)) ?_
    refine EVq_e rfl rfl (D_call false (law_ScaleIn 1 2 (mkRat 3 2) (mkRat 5 1) (by decide) (by decide) (by decide) (by decide) (by decide) (by decide) (by decide)) rfl (fit_cons (fit_ag rfl nofun) (fit_cons (fit_d rfl nofun) (fit_cons (fit_d rfl nofun) (fit_nil))))) ?_
    refine EVq_t rfl rfl (T_move rfl) ?_
    refine EVq_t rfl rfl (T_extract rfl rfl) ?_
    refine EVq_t rfl rfl (T_extract rfl rfl) ?_
    refine EVq_t rfl rfl (T_extract rfl rfl) ?_
    refine EVq_t rfl rfl (T_assign rfl) ?_
    refine EVq_e rfl rfl (D_store rfl (Free_in rfl) rfl rfl (zOk rfl) rfl (Nat.le_of_ble_eq_true rfl) rfl) ?_
    refine EVq_t rfl rfl (T_assign rfl) ?_
    refine EVq_done ?_
    refine ⟨_, W_keep2 [(3, V.c (.d false (encQs [powQ (mkRat 5 1) (mkRat 3 2) 1]))), (4, V.c (.ref 2 0)), (5, vi .i64 0)] [(2, .box ((encQ (powQ 1 (mkRat 3 2) 2)).map (C.nd false)))] ⟨rfl, rfl, rfl, trivial⟩ ⟨rfl, trivial⟩ rfl, rfl, ?_⟩
    trivial
   ·
    refine EVq_two rfl rfl (D_buildSlice (uOk rfl) bz40 rfl rfl rfl (by simp)) rfl rfl (D_buildSlice (uOk rfl) bz40 rfl rfl rfl (by simp)) ?_ ?_
    ·
     refine EVq_e rfl rfl (D_buildSlice (uOk rfl) bz40 rfl rfl rfl (by simp)) ?_
     refine EVq_e rfl rfl (D_call false (law_ScaleIn 1 2 (mkRat 3 2) (mkRat 5 1) (by decide) (by decide) (by decide) (by decide) (by decide) (by decide) (by decide)) rfl (fit_cons (fit_ag rfl nofun) (fit_cons (fit_d rfl nofun) (fit_cons (fit_d rfl nofun) (fit_nil))))) ?_
     refine EVq_t rfl rfl (T_move rfl) ?_
     refine EVq_t rfl rfl (T_extract rfl rfl) ?_
     refine EVq_t rfl rfl (T_extract rfl rfl) ?_
     refine EVq_t rfl rfl (T_extract rfl rfl) ?_
     refine EVq_t rfl rfl (T_assign rfl) ?_
     refine EVq_e rfl rfl (D_store rfl (Free_in rfl) rfl rfl (zOk rfl) rfl (Nat.le_of_ble_eq_true rfl) rfl) ?_
     refine EVq_t rfl rfl (T_assign rfl) ?_
     refine EVq_done ?_
     refine ⟨_, W_keep2 [(3, V.c (.d false (encQs [powQ (mkRat 5 1) (mkRat 3 2) 1]))), (4, V.c (.ref 2 0)), (5, vi .i64 0)] [(2, .box ((encQ (powQ 1 (mkRat 3 2) 2)).map (C.nd false)))] ⟨rfl, rfl, rfl, trivial⟩ ⟨rfl, trivial⟩ rfl, rfl, ?_⟩
     trivial
    ·
     refine EVq_e rfl rfl (D_buildSlice (uOk rfl) bz40 rfl rfl rfl (by simp)) ?_
     refine EVq_e rfl rfl (D_call false (law_ScaleIn 1 2 (mkRat 3 2) (mkRat 5 1) (by decide) (by decide) (by decide) (by decide) (by decide) (by decide) (by decide)) rfl (fit_cons (fit_ag rfl nofun) (fit_cons (fit_d rfl nofun) (fit_cons (fit_d rfl nofun) (fit_nil))))) ?_
     refine EVq_t rfl rfl (T_move rfl) ?_
     refine EVq_t rfl rfl (T_extract rfl rfl) ?_
     refine EVq_t rfl rfl (T_extract rfl rfl) ?_
     refine EVq_t rfl rfl (T_extract rfl rfl) ?_
     refine EVq_t rfl rfl (T_assign rfl) ?_
     refine EVq_e rfl rfl (D_store rfl (Free_in rfl) rfl rfl (zOk rfl) rfl (Nat.le_of_ble_eq_true rfl) rfl) ?_
     refine EVq_t rfl rfl (T_assign rfl) ?_
     refine EVq_done ?_
     refine ⟨_, W_keep2 [(3, V.c (.d false (encQs [powQ (mkRat 5 1) (mkRat 3 2) 1]))), (4, V.c (.ref 2 0)), (5, vi .i64 0)] [(2, .box ((encQ (powQ 1 (mkRat 3 2) 2)).map (C.nd false)))] ⟨rfl, rfl, rfl, trivial⟩ ⟨rfl, trivial⟩ rfl, rfl, ?_⟩
     trivial
 ·rintro S ⟨rfl, _⟩
  refine EV_seq ?_
  refine EV_draw (inX [2]) (.st 0 (.one 1 (.st 2 (.st 3 (.st 4 (.st 5 (.st 6 (.st 7 (.st 8 (.st 9 (.st 10 (.st 11 (.one 12 (.one 13 (.st 14 (.st 15 (.st 16 (.one 17 (.one 18 (.st 19 (.st 20 .done))))))))))))))))))))) Tryz.mixed (by kernel_rfl) ?_
  refine EVq_t rfl rfl (T_move rfl) ?_
  refine EVq_e rfl rfl (D_call false (law_num _) rfl (fit_cons (fit_d rfl nofun) (fit_nil))) ?_
  refine EVq_t rfl rfl (T_bin rfl rfl rfl) ?_
  refine EVq_t rfl rfl (T_move rfl) ?_
  refine EVq_case 32 rfl (fun hb1 => ?_) (fun hb1 => ?_)
  ·try simp only [z1, z2, z3, z4, z5, z6, z7, z8, z9, y1, y2, y3] at hb1
   refine EVq_t rfl rfl (T_move rfl) ?_
   refine EVq_t rfl rfl (T_lenL (uOk rfl) rfl) ?_
   refine EVq_t rfl rfl (T_bin rfl rfl rfl) ?_
   refine EVq_t rfl rfl (T_pick rfl rfl) ?_
   refine EVq_t rfl rfl (T_move rfl) ?_
   refine EVq_case 37 rfl (fun hb2 => ?_) (fun hb2 => ?_)
   ·try simp only [z1, z2, z3, z4, z5, z6, z7, z8, z9, y1, y2, y3] at hb2
    refine EVq_t rfl rfl (T_move rfl) ?_
    refine EVq_t rfl rfl (T_ixL (uOk rfl) (zOk rfl) rfl rfl (by omega) (by omega) (rfl)) ?_
    refine EVq_t rfl rfl (T_loadA (gOk rfl) (zOk rfl) rfl (Nat.le_of_ble_eq_true rfl)) ?_
    refine EVq_e rfl rfl (D_call false (law_of152) rfl (fit_cons (fit_d rfl nofun) (fit_cons (fit_d rfl nofun) (fit_nil)))) ?_
    refine EVq_e rfl rfl (D_call false (ref_EqT _ _ (by rw [wake_1]; decide) (by decide) wake_1) rfl (fit_cons (fit_ag rfl nofun) (fit_cons (fit_ag rfl nofun) (fit_nil)))) ?_
    refine EVq_t rfl rfl (T_pick rfl rfl) ?_
    refine EVq_t rfl rfl (T_move rfl) ?_
    refine EVq_t rfl rfl (T_loadRA (gOk rfl) (zOk rfl) rfl rfl (Nat.le_of_ble_eq_true rfl) rfl rfl) ?_
    refine EVq_e rfl rfl (D_call false (law_of94) rfl (fit_cons (fit_d rfl nofun) (fit_cons (fit_d rfl nofun) (fit_nil)))) ?_
    refine EVq_e rfl rfl (D_call false (ref_EqT _ _ (by rw [wake_2]; decide) (by decide) wake_2) rfl (fit_cons (fit_ag rfl nofun) (fit_cons (fit_ag rfl nofun) (fit_nil)))) ?_
    refine EVq_t rfl rfl (T_pick rfl rfl) ?_
    refine EVq_t rfl rfl (T_assign rfl) ?_
    refine EVq_done ?_
    refine EV_ret ?_
    refine ⟨_, ⟨rfl, rfl⟩, fit_eq rfl nofun rfl⟩
   ·try simp only [z1, z2, z3, z4, z5, z6, z7, z8, z9, y1, y2, y3] at hb2
    simp at hb2
  ·try simp only [z1, z2, z3, z4, z5, z6, z7, z8, z9, y1, y2, y3] at hb1
   simp at hb1

end Go.Proofs.YthaiegnohkiegaaGreat.Ab
/-
 The law of powers: it holds.
-/
namespace Go.Proofs.YthaiegnohkiegaaGreat.Ab
set_option linter.unusedVariables false
set_option linter.unusedSimpArgs false
set_option maxRecDepth 20000


set_option maxHeartbeats 4000000 in
theorem law_ScalePowers (l : List Rw) (hl : l.length ≤ 1000000000000000000) (hs : ∀ r ∈ l, szRw r) : Fn Tryz.prog 5 [.d (.sl (l.map encRw))] false (.one (.d (ib true))) := by
 refine Fn_of_EV Tryz.func5 rfl (by kernel_rfl) rfl rfl (fun E hE => ?_)
 refine EV_seq (EV_region ?_)
 refine EVo_t rfl (T_assign rfl) ?_
 refine EVo_nil ?_
 refine EV_seq ?_
 refine EV_seq (EV_region ?_)
 refine EVo_t rfl (T_assign rfl) ?_
 refine EVo_nil ?_
 refine EV_block ?_
 refine EV_weak (W_keep2 [(0, V.c (.d false (.sl (l.map encRw)))), (3, vi .i64 ((0 : Int)))] [] ⟨rfl, rfl, trivial⟩ trivial rfl) ?_
 refine EV_loop (fun mm S => ∃ i : Int, mm = ((l.length : Int) - i).toNat ∧ S = St.of [(0, V.c (.d false (.sl (l.map encRw)))), (3, vi .i64 i)] (tabO []) 165 ∧ 0 ≤ i ∧ i ≤ l.length) _ ⟨(0 : Int), rfl, rfl, by omega⟩ ?_
 rintro mm S ⟨i, rfl, rfl, ⟨h0, h1⟩⟩
 have ei : (i.toNat : Int) = i := by omega
 refine EV_seq ?_
 refine EV_seq (EV_region ?_)
 refine EVo_t rfl (T_move rfl) ?_
 refine EVo_t rfl (T_move rfl) ?_
 refine EVo_t rfl (T_lenL (uOk rfl) rfl) ?_
 refine EVo_t rfl (T_bin rfl rfl rfl) ?_
 refine EVo_t rfl (T_move rfl) ?_
 refine EVo_case 19 rfl (fun hb1 => ?_) (fun hb1 => ?_)
 ·try simp only [z1, z2, z3, z4, z5, z6, z7, z8, z9, y1, y2, y3] at hb1
  obtain ⟨⟨hz1, hz2, hz3, hz4⟩, hk1, hk2, hk3, hk4⟩ := hs (rd l i) (mem_rd h0 (by omega))
  refine EVo_t rfl (T_move rfl) ?_
  refine EVo_t rfl (T_bin rfl rfl rfl) ?_
  refine EVo_t rfl (T_pick rfl rfl) ?_
  refine EVo_nil ?_
  refine EV_cond rfl rfl rfl (fun hb2 => ?_) (fun hb2 => ?_)
  ·try simp only [z1, z2, z3, z4, z5, z6, z7, z8, z9, y1, y2, y3] at hb2
   refine EV_skip ?_
   refine EV_seq ?_
   refine EV_block ?_
   refine EV_seq (EV_region ?_)
   refine EVo_t rfl (T_move rfl) ?_
   refine EVo_t rfl (T_move rfl) ?_
   refine EVo_t rfl (T_ixL (uOk rfl) (zOk rfl) rfl rfl (by omega) (by omega) (rfl)) ?_
   refine EVo_t rfl (T_fa (fOk rfl) (zOk rfl) rfl (Nat.le_of_ble_eq_true rfl)) ?_
   refine EVo_t rfl (T_loadA (gOk rfl) (zOk rfl) rfl (Nat.le_of_ble_eq_true rfl)) ?_
   refine EVo_e rfl (D_alloc 1 (hE 1 rfl) Free_no zr40 rfl) ?_
   refine EVo_e rfl (D_store rfl Free_no rfl rfl (zOk rfl) rfl (Nat.le_of_ble_eq_true rfl) rfl) ?_
   refine EVo_nil (EV_seq (EV_region ?_))
   refine EVo_t rfl (T_move rfl) ?_
   refine EVo_t rfl (T_move rfl) ?_
   refine EVo_t rfl (T_ixL (uOk rfl) (zOk rfl) rfl rfl (by omega) (by omega) (rfl)) ?_
   refine EVo_t rfl (T_fa (fOk rfl) (zOk rfl) rfl (Nat.le_of_ble_eq_true rfl)) ?_
   refine EVo_t rfl (T_loadA (gOk rfl) (zOk rfl) rfl (Nat.le_of_ble_eq_true rfl)) ?_
   refine EVo_e rfl (D_alloc 2 (hE 2 rfl) Free_no zr40 rfl) ?_
   refine EVo_e rfl (D_store rfl Free_no rfl rfl (zOk rfl) rfl (Nat.le_of_ble_eq_true rfl) rfl) ?_
   refine EVo_nil ?_
   refine EV_seq ?_
   refine EV_seq (EV_region ?_)
   refine EVo_t rfl (T_faR (fOk rfl) (zOk rfl) rfl) ?_
   refine EVo_t rfl (T_faR (fOk rfl) (zOk rfl) rfl) ?_
   refine EVo_t rfl (T_loadR (gOk rfl) rfl rfl rfl rfl) ?_
   refine EVo_t rfl (T_faR (fOk rfl) (zOk rfl) rfl) ?_
   refine EVo_t rfl (T_loadR (gOk rfl) rfl rfl rfl rfl) ?_
   refine EVo_t rfl (T_faR (fOk rfl) (zOk rfl) rfl) ?_
   refine EVo_t rfl (T_faR (fOk rfl) (zOk rfl) rfl) ?_
   refine EVo_t rfl (T_loadR (gOk rfl) rfl rfl rfl rfl) ?_
   refine EVo_t rfl (T_faR (fOk rfl) (zOk rfl) rfl) ?_
   refine EVo_t rfl (T_loadR (gOk rfl) rfl rfl rfl rfl) ?_
   refine EVo_e rfl (D_buildSlice (uOk rfl) bz36 rfl rfl rfl (by simp)) ?_
   refine EVo_e rfl (D_call false (law_Limbs 8 [(rd l i).pl, (rd l i).pm, (rd l i).xl, (rd l i).xm] (by simp) (by simp; omega)) rfl (fit_cons (fit_d rfl nofun) (fit_cons (fit_d rfl nofun) (fit_nil)))) ?_
   refine EVo_nil ?_
   refine EV_cond rfl rfl rfl (fun hb3 => ?_) (fun hb3 => ?_)
   ·try simp only [z1, z2, z3, z4, z5, z6, z7, z8, z9, y1, y2, y3] at hb3
    refine EV_seq (EV_region ?_)
    refine EVo_t rfl (T_assign rfl) ?_
    refine EVo_nil ?_
    refine EV_ret ?_
    refine ⟨_, ⟨rfl, rfl⟩, fit_eq rfl nofun rfl⟩
   ·try simp only [z1, z2, z3, z4, z5, z6, z7, z8, z9, y1, y2, y3] at hb3
    have hsum : (rd l i).pl.length + (rd l i).pm.length + (rd l i).xl.length + (rd l i).xm.length ≤ 8 := by simp at hb3; omega
    refine EV_skip ?_
    refine EV_seq ?_
    refine EV_seq (EV_region ?_)
    refine EVo_t rfl (T_loadRA (gOk rfl) (zOk rfl) rfl rfl (Nat.le_of_ble_eq_true rfl) rfl rfl) ?_
    refine EVo_e rfl (D_call false (ref3_May (rd l i).pn (rd l i).pl (rd l i).pm (by omega) (by omega) hk1 hk2) rfl (fit_cons (fit_ag rfl nofun) (fit_nil))) ?_
    refine EVo_t rfl (T_un rfl rfl) ?_
    refine EVo_t rfl (T_move rfl) ?_
    refine EVo_case 50 rfl (fun hb4 => ?_) (fun hb4 => ?_)
    ·try simp only [z1, z2, z3, z4, z5, z6, z7, z8, z9, y1, y2, y3] at hb4
     refine EVo_off rfl rfl ?_
     refine EVo_off rfl rfl ?_
     refine EVo_off rfl rfl ?_
     refine EVo_t rfl (T_pick rfl rfl) ?_
     refine EVo_t rfl (T_move rfl) ?_
     refine EVo_off rfl rfl ?_
     refine EVo_off rfl rfl ?_
     refine EVo_off rfl rfl ?_
     refine EVo_t rfl (T_pick rfl rfl) ?_
     refine EVo_t rfl (T_move rfl) ?_
     refine EVo_off rfl rfl ?_
     refine EVo_off rfl rfl ?_
     refine EVo_off rfl rfl ?_
     refine EVo_off rfl rfl ?_
     refine EVo_off rfl rfl ?_
     refine EVo_t rfl (T_pick rfl rfl) ?_
     refine EVo_t rfl (T_move rfl) ?_
     refine EVo_off rfl rfl ?_
     refine EVo_off rfl rfl ?_
     refine EVo_off rfl rfl ?_
     refine EVo_off rfl rfl ?_
     refine EVo_t rfl (T_pick rfl rfl) ?_
     refine EVo_nil ?_
     refine EV_cond rfl rfl rfl (fun _ => ?_) (fun h => by first | cases h | (exfalso; simp_all; done))
     refine EV_exit ?_
     refine EV_region ?_
     refine EVo_t rfl (T_move rfl) ?_
     refine EVo_t rfl (T_binI rfl rfl rfl (by omega) (by omega)) ?_
     refine EVo_t rfl (T_assign rfl) ?_
     refine EVo_nil ?_
     refine ⟨_, ?_, _, W_keep2 [(0, V.c (.d false (.sl (l.map encRw)))), (3, vi .i64 (i + 1))] [] ⟨rfl, rfl, trivial⟩ trivial rfl, i + 1, rfl, rfl, ?_⟩
     ·omega
     ·omega
    ·try simp only [z1, z2, z3, z4, z5, z6, z7, z8, z9, y1, y2, y3] at hb4
     have hMp : ratB (rd l i).pn (rd l i).pl (rd l i).pm = true := by simpa using hb4
     refine EVo_t rfl (T_loadRA (gOk rfl) (zOk rfl) rfl rfl (Nat.le_of_ble_eq_true rfl) rfl rfl) ?_
     refine EVo_e rfl (D_call false (ref3_May (rd l i).xn (rd l i).xl (rd l i).xm (by omega) (by omega) hk3 hk4) rfl (fit_cons (fit_ag rfl nofun) (fit_nil))) ?_
     refine EVo_t rfl (T_un rfl rfl) ?_
     refine EVo_t rfl (T_pick rfl rfl) ?_
     refine EVo_t rfl (T_move rfl) ?_
     refine EVo_case 55 rfl (fun hb5 => ?_) (fun hb5 => ?_)
     ·try simp only [z1, z2, z3, z4, z5, z6, z7, z8, z9, y1, y2, y3] at hb5
      refine EVo_off rfl rfl ?_
      refine EVo_off rfl rfl ?_
      refine EVo_off rfl rfl ?_
      refine EVo_t rfl (T_pick rfl rfl) ?_
      refine EVo_t rfl (T_move rfl) ?_
      refine EVo_off rfl rfl ?_
      refine EVo_off rfl rfl ?_
      refine EVo_off rfl rfl ?_
      refine EVo_off rfl rfl ?_
      refine EVo_off rfl rfl ?_
      refine EVo_t rfl (T_pick rfl rfl) ?_
      refine EVo_t rfl (T_move rfl) ?_
      refine EVo_off rfl rfl ?_
      refine EVo_off rfl rfl ?_
      refine EVo_off rfl rfl ?_
      refine EVo_off rfl rfl ?_
      refine EVo_t rfl (T_pick rfl rfl) ?_
      refine EVo_nil ?_
      refine EV_cond rfl rfl rfl (fun _ => ?_) (fun h => by first | cases h | (exfalso; simp_all; done))
      refine EV_exit ?_
      refine EV_region ?_
      refine EVo_t rfl (T_move rfl) ?_
      refine EVo_t rfl (T_binI rfl rfl rfl (by omega) (by omega)) ?_
      refine EVo_t rfl (T_assign rfl) ?_
      refine EVo_nil ?_
      refine ⟨_, ?_, _, W_keep2 [(0, V.c (.d false (.sl (l.map encRw)))), (3, vi .i64 (i + 1))] [] ⟨rfl, rfl, trivial⟩ trivial rfl, i + 1, rfl, rfl, ?_⟩
      ·omega
      ·omega
     ·try simp only [z1, z2, z3, z4, z5, z6, z7, z8, z9, y1, y2, y3] at hb5
      have hMx : ratB (rd l i).xn (rd l i).xl (rd l i).xm = true := by simpa using hb5
      refine EVo_t rfl (T_loadRA (gOk rfl) (zOk rfl) rfl rfl (Nat.le_of_ble_eq_true rfl) rfl rfl) ?_
      refine EVo_e rfl (D_call false (ref3_SignR (rd l i).pn (rd l i).pl (rd l i).pm (by omega) (by omega) hk1 hk2 hMp) rfl (fit_cons (fit_ag rfl nofun) (fit_nil))) ?_
      refine EVo_t rfl (T_bin rfl rfl rfl) ?_
      refine EVo_t rfl (T_pick rfl rfl) ?_
      refine EVo_t rfl (T_move rfl) ?_
      refine EVo_case 60 rfl (fun hb6 => ?_) (fun hb6 => ?_)
      ·try simp only [z1, z2, z3, z4, z5, z6, z7, z8, z9, y1, y2, y3] at hb6
       refine EVo_off rfl rfl ?_
       refine EVo_off rfl rfl ?_
       refine EVo_off rfl rfl ?_
       refine EVo_off rfl rfl ?_
       refine EVo_off rfl rfl ?_
       refine EVo_t rfl (T_pick rfl rfl) ?_
       refine EVo_t rfl (T_move rfl) ?_
       refine EVo_off rfl rfl ?_
       refine EVo_off rfl rfl ?_
       refine EVo_off rfl rfl ?_
       refine EVo_off rfl rfl ?_
       refine EVo_t rfl (T_pick rfl rfl) ?_
       refine EVo_nil ?_
       refine EV_cond rfl rfl rfl (fun _ => ?_) (fun h => by first | cases h | (exfalso; simp_all; done))
       refine EV_exit ?_
       refine EV_region ?_
       refine EVo_t rfl (T_move rfl) ?_
       refine EVo_t rfl (T_binI rfl rfl rfl (by omega) (by omega)) ?_
       refine EVo_t rfl (T_assign rfl) ?_
       refine EVo_nil ?_
       refine ⟨_, ?_, _, W_keep2 [(0, V.c (.d false (.sl (l.map encRw)))), (3, vi .i64 (i + 1))] [] ⟨rfl, rfl, trivial⟩ trivial rfl, i + 1, rfl, rfl, ?_⟩
       ·omega
       ·omega
      ·try simp only [z1, z2, z3, z4, z5, z6, z7, z8, z9, y1, y2, y3] at hb6
       have hP : 0 < (ratV (rd l i).pn (rd l i).pl (rd l i).pm).num := by
        split at hb6
        ·omega
        ·split at hb6
         ·assumption
         ·omega
       refine EVo_t rfl (T_faR (fOk rfl) (zOk rfl) rfl) ?_
       refine EVo_t rfl (T_faR (fOk rfl) (zOk rfl) rfl) ?_
       refine EVo_t rfl (T_loadR (gOk rfl) rfl rfl rfl rfl) ?_
       refine EVo_t rfl (T_lenL (uOk rfl) rfl) ?_
       refine EVo_t rfl (T_bin rfl rfl rfl) ?_
       refine EVo_t rfl (T_pick rfl rfl) ?_
       refine EVo_t rfl (T_move rfl) ?_
       refine EVo_case 67 rfl (fun hb7 => ?_) (fun hb7 => ?_)
       ·try simp only [z1, z2, z3, z4, z5, z6, z7, z8, z9, y1, y2, y3] at hb7
        refine EVo_off rfl rfl ?_
        refine EVo_off rfl rfl ?_
        refine EVo_off rfl rfl ?_
        refine EVo_off rfl rfl ?_
        refine EVo_t rfl (T_pick rfl rfl) ?_
        refine EVo_nil ?_
        refine EV_cond rfl rfl rfl (fun _ => ?_) (fun h => by first | cases h | (exfalso; simp_all; done))
        refine EV_exit ?_
        refine EV_region ?_
        refine EVo_t rfl (T_move rfl) ?_
        refine EVo_t rfl (T_binI rfl rfl rfl (by omega) (by omega)) ?_
        refine EVo_t rfl (T_assign rfl) ?_
        refine EVo_nil ?_
        refine ⟨_, ?_, _, W_keep2 [(0, V.c (.d false (.sl (l.map encRw)))), (3, vi .i64 (i + 1))] [] ⟨rfl, rfl, trivial⟩ trivial rfl, i + 1, rfl, rfl, ?_⟩
        ·omega
        ·omega
       ·try simp only [z1, z2, z3, z4, z5, z6, z7, z8, z9, y1, y2, y3] at hb7
        have hl3 : (rd l i).pl.length ≤ 3 := by omega
        refine EVo_t rfl (T_faR (fOk rfl) (zOk rfl) rfl) ?_
        refine EVo_t rfl (T_loadR (gOk rfl) rfl rfl rfl rfl) ?_
        refine EVo_t rfl (T_lenL (uOk rfl) rfl) ?_
        refine EVo_t rfl (T_bin rfl rfl rfl) ?_
        refine EVo_t rfl (T_pick rfl rfl) ?_
        refine EVo_nil ?_
        refine EV_cond rfl rfl rfl (fun hb8 => ?_) (fun hb8 => ?_)
        ·try simp only [z1, z2, z3, z4, z5, z6, z7, z8, z9, y1, y2, y3] at hb8
         refine EV_exit ?_
         refine EV_region ?_
         refine EVo_t rfl (T_move rfl) ?_
         refine EVo_t rfl (T_binI rfl rfl rfl (by omega) (by omega)) ?_
         refine EVo_t rfl (T_assign rfl) ?_
         refine EVo_nil ?_
         refine ⟨_, ?_, _, W_keep2 [(0, V.c (.d false (.sl (l.map encRw)))), (3, vi .i64 (i + 1))] [] ⟨rfl, rfl, trivial⟩ trivial rfl, i + 1, rfl, rfl, ?_⟩
         ·omega
         ·omega
        ·try simp only [z1, z2, z3, z4, z5, z6, z7, z8, z9, y1, y2, y3] at hb8
         have hm3 : (rd l i).pm.length ≤ 3 := by omega
         obtain ⟨hb1', hb2'⟩ := row_P hk1 hk2 hMp hl3 hm3
         obtain ⟨hx1', hx2'⟩ := row_x hk3 hk4 hMx (by omega)
         refine EV_skip ?_
         refine EV_seq (EV_region ?_)
         refine EVo_t rfl (T_move rfl) ?_
         refine EVo_t rfl (T_move rfl) ?_
         refine EVo_t rfl (T_ixL (uOk rfl) (zOk rfl) rfl rfl (by omega) (by omega) (rfl)) ?_
         refine EVo_t rfl (T_fa (fOk rfl) (zOk rfl) rfl (Nat.le_of_ble_eq_true rfl)) ?_
         refine EVo_t rfl (T_load (gOk rfl) rfl) ?_
         refine EVo_t rfl (T_rem rfl rfl (by decide)) ?_
         refine EVo_t rfl (T_assign rfl) ?_
         refine EVo_nil ?_
         refine EV_seq ?_
         refine EV_cut (fun S => ∃ P : Rat, ∃ x : Rat, ∃ e : Int, S = St.of [(0, V.c (.d false (.sl (l.map encRw)))), (3, vi .i64 i), (4, V.c (.ref 1 0)), (5, V.c (.ref 2 0)), (6, vi .i64 e)] (tabO [(1, .box ((encQ P).map (C.nd false))), (2, .box ((encQ x).map (C.nd false)))]) 165 ∧ 0 < P.num ∧ bitsQ P 256 = false ∧ bitsQ x 4096 = false ∧ szQ P ≤ 16 ∧ szQ x ≤ 16 ∧ -19 ≤ e ∧ e ≤ 19) ⟨_, W_keep2 [(0, V.c (.d false (.sl (l.map encRw)))), (3, vi .i64 i), (4, V.c (.ref 1 0)), (5, V.c (.ref 2 0)), (6, vi .i64 (Int.tmod (rd l i).n 20))] [(1, .box ((encQ ((ratV (rd l i).pn (rd l i).pl (rd l i).pm))).map (C.nd false))), (2, .box ((encQ ((ratV (rd l i).xn (rd l i).xl (rd l i).xm))).map (C.nd false)))] ⟨rfl, rfl, rfl, rfl, rfl, trivial⟩ ⟨(gbe (by rw [← ratV_enc hk1 hk2 hMp]; rfl)), (gbe (by rw [← ratV_enc hk3 hk4 hMx]; rfl)), trivial⟩ rfl, (ratV (rd l i).pn (rd l i).pl (rd l i).pm), (ratV (rd l i).xn (rd l i).xl (rd l i).xm), Int.tmod (rd l i).n 20, rfl, ?_⟩ ?_
         ·have ht := tmod_20 (rd l i).n
          exact ⟨hP, hb1', hx1', hb2', hx2', ht.1, ht.2⟩
         rintro S ⟨P, x, e, rfl, ⟨p1, p2, p3, p4, p5, p6, p7⟩⟩
         have hP0 : P ≠ 0 := fun h => by subst h; simp at p1
         have hle0 : e.natAbs < 18446744073709551616 ^ 1 := by simp; omega
         have hle : (limbs e.natAbs).length ≤ 1 := limbs_len_le hle0
         refine EV_region ?_
         refine EVo_e rfl (D_call false (ref6_Var 0) rfl (fit_cons (fit_d rfl nofun) (fit_nil))) ?_
         refine EVo_t rfl (T_move rfl) ?_
         refine EVo_e rfl (D_call false (ref2_From e (by omega) (by omega)) rfl (fit_cons (fit_d rfl nofun) (fit_nil))) ?_
         refine EVo_e rfl (D_call false (ref6_Of 1 0 s0 e (by omega)) rfl (fit_cons (fit_ag rfl nofun) (fit_cons (fit_ag rfl nofun) (fit_nil)))) ?_
         refine EVo_t rfl (T_assign rfl) ?_
         refine EVo_nil (EV_seq (EV_region ?_))
         refine EVo_t rfl (T_move rfl) ?_
         refine EVo_e rfl (D_buildSlice (uOk rfl) bz66 rfl rfl rfl (by simp)) ?_
         refine EVo_t rfl (T_build ly27 rfl rfl) ?_
         refine EVo_e rfl (D_alloc 3 (hE 3 rfl) Free_no zr27 rfl) ?_
         refine EVo_e rfl (D_store rfl Free_no rfl rfl (zOk rfl) rfl (Nat.le_of_ble_eq_true rfl) rfl) ?_
         refine EVo_nil ?_
         refine EV_join (fun S => ∃ f : Bool, S = St.of [(0, V.c (.d false (.sl (l.map encRw)))), (3, vi .i64 i), (4, V.c (.ref 1 0)), (5, V.c (.ref 2 0)), (6, vi .i64 e), (9, V.c (.ref 4 0))] (tabO [(1, .box ((encQ P).map (C.nd false))), (2, .box ((encQ x).map (C.nd false))), (4, .box [C.d true (ii 0), C.d true (ii 1), C.d true (ii 5), C.d true (ii 0), C.d true (sd s0), C.d f (.sl ([numTy (ofU 1 0 s0 e), numTy (ofU 1 0 s0 (e * -1))].map encTy)), C.d true (.val (.slice none 0 0))])]) 165 ∧ True) ?_ ?_
         ·
          refine EV_draw (inX [3]) (.st 0 (.st 1 (.two 2 (.two 3 (.st 4 (.two 5 (.st 6 (.st 7 (.one 8 (.one 9 .done)))) 8 (.one 5 (.st 6 (.st 7 (.one 9 .done)))))) 8 (.one 3 (.st 4 (.one 5 (.st 6 (.st 7 (.one 9 .done))))))) 8 (.one 2 (.one 3 (.st 4 (.one 5 (.st 6 (.st 7 (.one 9 .done)))))))))) Tryz.mixed (by kernel_rfl) ?_
          refine EVq_t rfl rfl (T_loadRA (gOk rfl) (zOk rfl) rfl rfl (Nat.le_of_ble_eq_true rfl) rfl rfl) ?_
          refine EVq_t rfl rfl (T_move rfl) ?_
          refine EVq_two rfl rfl (D_call false (ref6_InvU e (by omega)) rfl (fit_cons (fit_d rfl nofun) (fit_nil))) rfl rfl (D_alloc 4 (hE 4 rfl) (Free_in rfl) zr29 rfl) ?_ ?_
          ·
           refine EVq_two rfl rfl (D_buildSlice (uOk rfl) bz66 rfl rfl rfl (by simp)) rfl rfl (D_alloc 4 (hE 4 rfl) (Free_in rfl) zr29 rfl) ?_ ?_
           ·
            refine EVq_t rfl rfl (T_build ly27 rfl rfl) ?_
            refine EVq_two rfl rfl (D_buildSlice (uOk rfl) bz27 rfl rfl rfl (by simp)) rfl rfl (D_alloc 4 (hE 4 rfl) (Free_in rfl) zr29 rfl) ?_ ?_
            ·
             refine EVq_t rfl rfl (T_build ly27 rfl rfl) ?_
             refine EVq_t rfl rfl (T_build ly29 rfl rfl) ?_
             refine EVq_e rfl rfl (D_alloc 4 (hE 4 rfl) (Free_in rfl) zr29 rfl) ?_
             refine EVq_e rfl rfl (D_store rfl (Free_in rfl) rfl rfl (zOk rfl) rfl (Nat.le_of_ble_eq_true rfl) rfl) ?_
             refine EVq_done ?_
             refine ⟨_, W_keep2 [(0, V.c (.d false (.sl (l.map encRw)))), (3, vi .i64 i), (4, V.c (.ref 1 0)), (5, V.c (.ref 2 0)), (6, vi .i64 e), (9, V.c (.ref 4 0))] [(1, .box ((encQ P).map (C.nd false))), (2, .box ((encQ x).map (C.nd false))), (4, .box [C.d true (ii 0), C.d true (ii 1), C.d true (ii 5), C.d true (ii 0), C.d true (sd s0), C.d (_) (.sl ([numTy (ofU 1 0 s0 e), numTy (ofU 1 0 s0 (e * -1))].map encTy)), C.d true (.val (.slice none 0 0))])] ⟨rfl, rfl, rfl, rfl, rfl, rfl, trivial⟩ ⟨rfl, rfl, rfl, trivial⟩ rfl, _, rfl, ?_⟩
             trivial
            ·
             refine EVq_e rfl rfl (D_buildSlice (uOk rfl) bz27 rfl rfl rfl (by simp)) ?_
             refine EVq_t rfl rfl (T_build ly27 rfl rfl) ?_
             refine EVq_t rfl rfl (T_build ly29 rfl rfl) ?_
             refine EVq_e rfl rfl (D_store rfl (Free_in rfl) rfl rfl (zOk rfl) rfl (Nat.le_of_ble_eq_true rfl) rfl) ?_
             refine EVq_done ?_
             refine ⟨_, W_keep2 [(0, V.c (.d false (.sl (l.map encRw)))), (3, vi .i64 i), (4, V.c (.ref 1 0)), (5, V.c (.ref 2 0)), (6, vi .i64 e), (9, V.c (.ref 4 0))] [(1, .box ((encQ P).map (C.nd false))), (2, .box ((encQ x).map (C.nd false))), (4, .box [C.d true (ii 0), C.d true (ii 1), C.d true (ii 5), C.d true (ii 0), C.d true (sd s0), C.d (_) (.sl ([numTy (ofU 1 0 s0 e), numTy (ofU 1 0 s0 (e * -1))].map encTy)), C.d true (.val (.slice none 0 0))])] ⟨rfl, rfl, rfl, rfl, rfl, rfl, trivial⟩ ⟨rfl, rfl, rfl, trivial⟩ rfl, _, rfl, ?_⟩
             trivial
           ·
            refine EVq_e rfl rfl (D_buildSlice (uOk rfl) bz66 rfl rfl rfl (by simp)) ?_
            refine EVq_t rfl rfl (T_build ly27 rfl rfl) ?_
            refine EVq_e rfl rfl (D_buildSlice (uOk rfl) bz27 rfl rfl rfl (by simp)) ?_
            refine EVq_t rfl rfl (T_build ly27 rfl rfl) ?_
            refine EVq_t rfl rfl (T_build ly29 rfl rfl) ?_
            refine EVq_e rfl rfl (D_store rfl (Free_in rfl) rfl rfl (zOk rfl) rfl (Nat.le_of_ble_eq_true rfl) rfl) ?_
            refine EVq_done ?_
            refine ⟨_, W_keep2 [(0, V.c (.d false (.sl (l.map encRw)))), (3, vi .i64 i), (4, V.c (.ref 1 0)), (5, V.c (.ref 2 0)), (6, vi .i64 e), (9, V.c (.ref 4 0))] [(1, .box ((encQ P).map (C.nd false))), (2, .box ((encQ x).map (C.nd false))), (4, .box [C.d true (ii 0), C.d true (ii 1), C.d true (ii 5), C.d true (ii 0), C.d true (sd s0), C.d (_) (.sl ([numTy (ofU 1 0 s0 e), numTy (ofU 1 0 s0 (e * -1))].map encTy)), C.d true (.val (.slice none 0 0))])] ⟨rfl, rfl, rfl, rfl, rfl, rfl, trivial⟩ ⟨rfl, rfl, rfl, trivial⟩ rfl, _, rfl, ?_⟩
            trivial
          ·
           refine EVq_e rfl rfl (D_call false (ref6_InvU e (by omega)) rfl (fit_cons (fit_d rfl nofun) (fit_nil))) ?_
           refine EVq_e rfl rfl (D_buildSlice (uOk rfl) bz66 rfl rfl rfl (by simp)) ?_
           refine EVq_t rfl rfl (T_build ly27 rfl rfl) ?_
           refine EVq_e rfl rfl (D_buildSlice (uOk rfl) bz27 rfl rfl rfl (by simp)) ?_
           refine EVq_t rfl rfl (T_build ly27 rfl rfl) ?_
           refine EVq_t rfl rfl (T_build ly29 rfl rfl) ?_
           refine EVq_e rfl rfl (D_store rfl (Free_in rfl) rfl rfl (zOk rfl) rfl (Nat.le_of_ble_eq_true rfl) rfl) ?_
           refine EVq_done ?_
           refine ⟨_, W_keep2 [(0, V.c (.d false (.sl (l.map encRw)))), (3, vi .i64 i), (4, V.c (.ref 1 0)), (5, V.c (.ref 2 0)), (6, vi .i64 e), (9, V.c (.ref 4 0))] [(1, .box ((encQ P).map (C.nd false))), (2, .box ((encQ x).map (C.nd false))), (4, .box [C.d true (ii 0), C.d true (ii 1), C.d true (ii 5), C.d true (ii 0), C.d true (sd s0), C.d (_) (.sl ([numTy (ofU 1 0 s0 e), numTy (ofU 1 0 s0 (e * -1))].map encTy)), C.d true (.val (.slice none 0 0))])] ⟨rfl, rfl, rfl, rfl, rfl, rfl, trivial⟩ ⟨rfl, rfl, rfl, trivial⟩ rfl, _, rfl, ?_⟩
           trivial
         ·rintro S ⟨f, rfl, _⟩
          refine EV_seq (EV_region ?_)
          refine EVo_t rfl (T_loadRA (gOk rfl) (zOk rfl) rfl rfl (Nat.le_of_ble_eq_true rfl) rfl rfl) ?_
          refine EVo_t rfl (T_loadRA (gOk rfl) (zOk rfl) rfl rfl (Nat.le_of_ble_eq_true rfl) rfl rfl) ?_
          refine EVo_e rfl (D_buildSlice (uOk rfl) bz40 rfl rfl rfl (by simp)) ?_
          refine EVo_t rfl (T_loadRA (gOk rfl) (zOk rfl) rfl rfl (Nat.le_of_ble_eq_true rfl) rfl rfl) ?_
          refine EVo_e rfl (D_buildSlice (uOk rfl) bz40 rfl rfl rfl (by simp)) ?_
          refine EVo_e rfl (D_call false (law_ScaleT e (e * -1) P x (by omega) (by omega) p1 p2 p3 (by omega) (by omega)) rfl (fit_cons (fit_ag rfl nofun) (fit_cons (fit_d rfl nofun) (fit_cons (fit_d rfl nofun) (fit_nil))))) ?_
          refine EVo_t rfl (T_move rfl) ?_
          refine EVo_t rfl (T_extract rfl rfl) ?_
          refine EVo_t rfl (T_extract rfl rfl) ?_
          refine EVo_t rfl (T_extract rfl rfl) ?_
          refine EVo_e rfl (D_alloc 5 (hE 5 rfl) Free_no zr40 rfl) ?_
          refine EVo_t rfl (T_assign rfl) ?_
          refine EVo_e rfl (D_store rfl Free_no rfl rfl (zOk rfl) rfl (Nat.le_of_ble_eq_true rfl) rfl) ?_
          refine EVo_t rfl (T_assign rfl) ?_
          refine EVo_nil ?_
          refine EV_seq ?_
          refine EV_seq (EV_region ?_)
          refine EVo_t rfl (T_move rfl) ?_
          refine EVo_t rfl (T_bin rfl rfl rfl) ?_
          refine EVo_t rfl (T_move rfl) ?_
          refine EVo_case 106 rfl (fun hb9 => ?_) (fun hb9 => ?_)
          ·try simp only [z1, z2, z3, z4, z5, z6, z7, z8, z9, y1, y2, y3] at hb9
           have h16 : 16 < e.natAbs ∨ 16 < (e * -1).natAbs := by omega
           refine EVo_off rfl rfl ?_
           refine EVo_off rfl rfl ?_
           refine EVo_t rfl (T_pick rfl rfl) ?_
           refine EVo_nil ?_
           refine EV_cond rfl rfl rfl (fun _ => ?_) (fun h => by first | cases h | (exfalso; simp_all; done))
           refine EV_seq ?_
           refine EV_seq (EV_region ?_)
           refine EVo_t rfl (T_move rfl) ?_
           refine EVo_e rfl (D_call false (law_num _) rfl (fit_cons (fit_d rfl nofun) (fit_nil))) ?_
           refine EVo_t rfl (T_bin rfl rfl rfl) ?_
           refine EVo_t rfl (T_move rfl) ?_
           refine EVo_case 113 rfl (fun hb10 => ?_) (fun hb10 => ?_)
           ·try simp only [z1, z2, z3, z4, z5, z6, z7, z8, z9, y1, y2, y3] at hb10
            rw [if_pos h16] at hb10
            simp at hb10
           ·try simp only [z1, z2, z3, z4, z5, z6, z7, z8, z9, y1, y2, y3] at hb10
            refine EVo_t rfl (T_move rfl) ?_
            refine EVo_t rfl (T_lenL (uOk rfl) rfl) ?_
            refine EVo_t rfl (T_bin rfl rfl rfl) ?_
            refine EVo_t rfl (T_pick rfl rfl) ?_
            refine EVo_nil ?_
            refine EV_cond rfl rfl rfl (fun hb11 => ?_) (fun hb11 => ?_)
            ·try simp only [z1, z2, z3, z4, z5, z6, z7, z8, z9, y1, y2, y3] at hb11
             rw [if_pos h16] at hb11
             simp at hb11
            ·try simp only [z1, z2, z3, z4, z5, z6, z7, z8, z9, y1, y2, y3] at hb11
             refine EV_skip ?_
             refine EV_exit ?_
             refine EV_region ?_
             refine EVo_t rfl (T_move rfl) ?_
             refine EVo_t rfl (T_binI rfl rfl rfl (by omega) (by omega)) ?_
             refine EVo_t rfl (T_assign rfl) ?_
             refine EVo_nil ?_
             refine ⟨_, ?_, _, W_keep2 [(0, V.c (.d false (.sl (l.map encRw)))), (3, vi .i64 (i + 1))] [] ⟨rfl, rfl, trivial⟩ trivial rfl, i + 1, rfl, rfl, ?_⟩
             ·omega
             ·omega
          ·try simp only [z1, z2, z3, z4, z5, z6, z7, z8, z9, y1, y2, y3] at hb9
           refine EVo_t rfl (T_move rfl) ?_
           refine EVo_t rfl (T_bin rfl rfl rfl) ?_
           refine EVo_t rfl (T_pick rfl rfl) ?_
           refine EVo_nil ?_
           refine EV_cond rfl rfl rfl (fun hb12 => ?_) (fun hb12 => ?_)
           ·try simp only [z1, z2, z3, z4, z5, z6, z7, z8, z9, y1, y2, y3] at hb12
            have h16 : 16 < e.natAbs ∨ 16 < (e * -1).natAbs := by omega
            refine EV_seq ?_
            refine EV_seq (EV_region ?_)
            refine EVo_t rfl (T_move rfl) ?_
            refine EVo_e rfl (D_call false (law_num _) rfl (fit_cons (fit_d rfl nofun) (fit_nil))) ?_
            refine EVo_t rfl (T_bin rfl rfl rfl) ?_
            refine EVo_t rfl (T_move rfl) ?_
            refine EVo_case 113 rfl (fun hb13 => ?_) (fun hb13 => ?_)
            ·try simp only [z1, z2, z3, z4, z5, z6, z7, z8, z9, y1, y2, y3] at hb13
             rw [if_pos h16] at hb13
             simp at hb13
            ·try simp only [z1, z2, z3, z4, z5, z6, z7, z8, z9, y1, y2, y3] at hb13
             refine EVo_t rfl (T_move rfl) ?_
             refine EVo_t rfl (T_lenL (uOk rfl) rfl) ?_
             refine EVo_t rfl (T_bin rfl rfl rfl) ?_
             refine EVo_t rfl (T_pick rfl rfl) ?_
             refine EVo_nil ?_
             refine EV_cond rfl rfl rfl (fun hb14 => ?_) (fun hb14 => ?_)
             ·try simp only [z1, z2, z3, z4, z5, z6, z7, z8, z9, y1, y2, y3] at hb14
              rw [if_pos h16] at hb14
              simp at hb14
             ·try simp only [z1, z2, z3, z4, z5, z6, z7, z8, z9, y1, y2, y3] at hb14
              refine EV_skip ?_
              refine EV_exit ?_
              refine EV_region ?_
              refine EVo_t rfl (T_move rfl) ?_
              refine EVo_t rfl (T_binI rfl rfl rfl (by omega) (by omega)) ?_
              refine EVo_t rfl (T_assign rfl) ?_
              refine EVo_nil ?_
              refine ⟨_, ?_, _, W_keep2 [(0, V.c (.d false (.sl (l.map encRw)))), (3, vi .i64 (i + 1))] [] ⟨rfl, rfl, trivial⟩ trivial rfl, i + 1, rfl, rfl, ?_⟩
              ·omega
              ·omega
           ·try simp only [z1, z2, z3, z4, z5, z6, z7, z8, z9, y1, y2, y3] at hb12
            have h16n : ¬ (16 < e.natAbs ∨ 16 < (e * -1).natAbs) := by omega
            refine EV_skip ?_
            refine EV_seq ?_
            refine EV_cut (fun S => S = St.of [(0, V.c (.d false (.sl (l.map encRw)))), (3, vi .i64 i), (4, V.c (.ref 1 0)), (5, V.c (.ref 2 0)), (6, vi .i64 e), (10, V.c (.d false (encQs [powQ x P e]))), (11, V.c (.ref 5 0)), (12, vi .i64 0)] (tabO [(1, .box ((encQ P).map (C.nd false))), (2, .box ((encQ x).map (C.nd false))), (5, .box ((encQ (powQ 1 P (e * -1))).map (C.nd false)))]) 165 ∧ True) ⟨_, W_keep2 [(0, V.c (.d false (.sl (l.map encRw)))), (3, vi .i64 i), (4, V.c (.ref 1 0)), (5, V.c (.ref 2 0)), (6, vi .i64 e), (10, V.c (.d false (encQs [powQ x P e]))), (11, V.c (.ref 5 0)), (12, vi .i64 0)] [(1, .box ((encQ P).map (C.nd false))), (2, .box ((encQ x).map (C.nd false))), (5, .box ((encQ (powQ 1 P (e * -1))).map (C.nd false)))] ⟨rfl, rfl, rfl, rfl, rfl, (congrArg (fun o => V.c (.d false (encQs o))) (if_neg h16n)), rfl, (congrArg (vi .i64) (if_neg h16n)), trivial⟩ ⟨rfl, rfl, (gbe (by rw [if_neg h16n]; rfl)), trivial⟩ rfl, rfl, ?_⟩ ?_
            ·trivial
            rintro S ⟨rfl, _⟩
            refine EV_region ?_
            refine EVo_e rfl (D_call false (law_of1) rfl (fit_cons (fit_d rfl nofun) (fit_cons (fit_d rfl nofun) (fit_nil)))) ?_
            refine EVo_e rfl (D_alloc 6 (hE 6 rfl) Free_no zr40 rfl) ?_
            refine EVo_e rfl (D_store rfl Free_no rfl rfl (zOk rfl) rfl (Nat.le_of_ble_eq_true rfl) rfl) ?_
            refine EVo_nil ?_
            refine EV_seq ?_
            refine EV_seq (EV_region ?_)
            refine EVo_t rfl (T_assign rfl) ?_
            refine EVo_nil ?_
            refine EV_block ?_
            have hw0 : wantQ P e 0 = 1 := by unfold wantQ; split <;> rfl
            refine EV_weak (W_keep2 [(0, V.c (.d false (.sl (l.map encRw)))), (3, vi .i64 i), (4, V.c (.ref 1 0)), (5, V.c (.ref 2 0)), (6, vi .i64 e), (10, V.c (.d false (encQs [powQ x P e]))), (11, V.c (.ref 5 0)), (12, vi .i64 0), (13, V.c (.ref 6 0)), (14, vi .i64 ((0 : Int)))] [(1, .box ((encQ P).map (C.nd false))), (2, .box ((encQ x).map (C.nd false))), (5, .box ((encQ (powQ 1 P (e * -1))).map (C.nd false))), (6, .box ((encQ (wantQ P e ((0 : Int)).toNat)).map (C.nd false)))] ⟨rfl, rfl, rfl, rfl, rfl, rfl, rfl, rfl, rfl, rfl, trivial⟩ ⟨rfl, rfl, rfl, (gbe (by rw [show (0 : Int).toNat = 0 from rfl, hw0]; rfl)), trivial⟩ rfl) ?_
            refine EV_loop (fun mm S => ∃ k : Int, mm = ((e.natAbs : Int) - k).toNat ∧ S = St.of [(0, V.c (.d false (.sl (l.map encRw)))), (3, vi .i64 i), (4, V.c (.ref 1 0)), (5, V.c (.ref 2 0)), (6, vi .i64 e), (10, V.c (.d false (encQs [powQ x P e]))), (11, V.c (.ref 5 0)), (12, vi .i64 0), (13, V.c (.ref 6 0)), (14, vi .i64 k)] (tabO [(1, .box ((encQ P).map (C.nd false))), (2, .box ((encQ x).map (C.nd false))), (5, .box ((encQ (powQ 1 P (e * -1))).map (C.nd false))), (6, .box ((encQ (wantQ P e k.toNat)).map (C.nd false)))]) 165 ∧ 0 ≤ k ∧ k ≤ e.natAbs) _ ⟨(0 : Int), rfl, rfl, by omega⟩ ?_
            rintro mm S ⟨k, rfl, rfl, ⟨k0, k1⟩⟩
            have hsw := szQ_wantQ hP0 e k.toNat
            have hsm : k.toNat * szQ P ≤ 19 * 16 := Nat.mul_le_mul (by omega) p4
            refine EV_seq ?_
            refine EV_seq (EV_region ?_)
            refine EVo_t rfl (T_move rfl) ?_
            refine EVo_t rfl (T_move rfl) ?_
            refine EVo_t rfl (T_bin rfl rfl rfl) ?_
            refine EVo_t rfl (T_move rfl) ?_
            refine EVo_case 122 rfl (fun hb15 => ?_) (fun hb15 => ?_)
            ·try simp only [z1, z2, z3, z4, z5, z6, z7, z8, z9, y1, y2, y3] at hb15
             refine EVo_off rfl rfl ?_
             refine EVo_off rfl rfl ?_
             refine EVo_off rfl rfl ?_
             refine EVo_off rfl rfl ?_
             refine EVo_t rfl (T_pick rfl rfl) ?_
             refine EVo_nil ?_
             refine EV_cond rfl rfl rfl (fun _ => ?_) (fun h => by first | cases h | (exfalso; simp_all; done))
             refine EV_skip ?_
             refine EV_seq ?_
             refine EV_block ?_
             refine EV_seq (EV_region ?_)
             refine EVo_t rfl (T_move rfl) ?_
             refine EVo_t rfl (T_bin rfl rfl rfl) ?_
             refine EVo_nil ?_
             refine EV_cond rfl rfl rfl (fun hb16 => ?_) (fun hb16 => ?_)
             ·try simp only [z1, z2, z3, z4, z5, z6, z7, z8, z9, y1, y2, y3] at hb16
              have hw : wantQ P e (k.toNat + 1) = wantQ P e k.toNat * P := by
               unfold wantQ
               rw [if_pos (by omega), if_pos (by omega)]
               rfl
              refine EV_region ?_
              refine EVo_t rfl (T_loadRA (gOk rfl) (zOk rfl) rfl rfl (Nat.le_of_ble_eq_true rfl) rfl rfl) ?_
              refine EVo_t rfl (T_loadRA (gOk rfl) (zOk rfl) rfl rfl (Nat.le_of_ble_eq_true rfl) rfl rfl) ?_
              refine EVo_e rfl (D_call false (ref3_Times (wantQ P e k.toNat) P (by omega)) rfl (fit_cons (fit_ag rfl nofun) (fit_cons (fit_ag rfl nofun) (fit_nil)))) ?_
              refine EVo_e rfl (D_store rfl Free_no rfl rfl (zOk rfl) rfl (Nat.le_of_ble_eq_true rfl) rfl) ?_
              refine EVo_nil ?_
              refine EV_region ?_
              refine EVo_t rfl (T_move rfl) ?_
              refine EVo_t rfl (T_binI rfl rfl rfl (by omega) (by omega)) ?_
              refine EVo_t rfl (T_assign rfl) ?_
              refine EVo_nil ?_
              have e2 : (k + 1).toNat = k.toNat + 1 := by omega
              refine ⟨_, ?_, _, W_keep2 [(0, V.c (.d false (.sl (l.map encRw)))), (3, vi .i64 i), (4, V.c (.ref 1 0)), (5, V.c (.ref 2 0)), (6, vi .i64 e), (10, V.c (.d false (encQs [powQ x P e]))), (11, V.c (.ref 5 0)), (12, vi .i64 0), (13, V.c (.ref 6 0)), (14, vi .i64 (k + 1))] [(1, .box ((encQ P).map (C.nd false))), (2, .box ((encQ x).map (C.nd false))), (5, .box ((encQ (powQ 1 P (e * -1))).map (C.nd false))), (6, .box ((encQ (wantQ P e (k + 1).toNat)).map (C.nd false)))] ⟨rfl, rfl, rfl, rfl, rfl, rfl, rfl, rfl, rfl, rfl, trivial⟩ ⟨rfl, rfl, rfl, (gbe (by rw [e2, hw]; rfl)), trivial⟩ rfl, k + 1, rfl, rfl, ?_⟩
              ·omega
              ·omega
             ·try simp only [z1, z2, z3, z4, z5, z6, z7, z8, z9, y1, y2, y3] at hb16
              have hw : wantQ P e (k.toNat + 1) = wantQ P e k.toNat / P := by
               unfold wantQ
               rw [if_neg (by omega), if_neg (by omega)]
               rfl
              refine EV_region ?_
              refine EVo_t rfl (T_loadRA (gOk rfl) (zOk rfl) rfl rfl (Nat.le_of_ble_eq_true rfl) rfl rfl) ?_
              refine EVo_t rfl (T_loadRA (gOk rfl) (zOk rfl) rfl rfl (Nat.le_of_ble_eq_true rfl) rfl rfl) ?_
              refine EVo_e rfl (D_call false (ref3_Over (wantQ P e k.toNat) P (by omega) hP0) rfl (fit_cons (fit_ag rfl nofun) (fit_cons (fit_ag rfl nofun) (fit_nil)))) ?_
              refine EVo_e rfl (D_store rfl Free_no rfl rfl (zOk rfl) rfl (Nat.le_of_ble_eq_true rfl) rfl) ?_
              refine EVo_nil ?_
              refine EV_region ?_
              refine EVo_t rfl (T_move rfl) ?_
              refine EVo_t rfl (T_binI rfl rfl rfl (by omega) (by omega)) ?_
              refine EVo_t rfl (T_assign rfl) ?_
              refine EVo_nil ?_
              have e2 : (k + 1).toNat = k.toNat + 1 := by omega
              refine ⟨_, ?_, _, W_keep2 [(0, V.c (.d false (.sl (l.map encRw)))), (3, vi .i64 i), (4, V.c (.ref 1 0)), (5, V.c (.ref 2 0)), (6, vi .i64 e), (10, V.c (.d false (encQs [powQ x P e]))), (11, V.c (.ref 5 0)), (12, vi .i64 0), (13, V.c (.ref 6 0)), (14, vi .i64 (k + 1))] [(1, .box ((encQ P).map (C.nd false))), (2, .box ((encQ x).map (C.nd false))), (5, .box ((encQ (powQ 1 P (e * -1))).map (C.nd false))), (6, .box ((encQ (wantQ P e (k + 1).toNat)).map (C.nd false)))] ⟨rfl, rfl, rfl, rfl, rfl, rfl, rfl, rfl, rfl, rfl, trivial⟩ ⟨rfl, rfl, rfl, (gbe (by rw [e2, hw]; rfl)), trivial⟩ rfl, k + 1, rfl, rfl, ?_⟩
              ·omega
              ·omega
            ·try simp only [z1, z2, z3, z4, z5, z6, z7, z8, z9, y1, y2, y3] at hb15
             refine EVo_t rfl (T_move rfl) ?_
             refine EVo_t rfl (T_move rfl) ?_
             refine EVo_t rfl (T_un rfl rfl) ?_
             refine EVo_t rfl (T_bin rfl rfl rfl) ?_
             refine EVo_t rfl (T_pick rfl rfl) ?_
             refine EVo_nil ?_
             refine EV_cond rfl rfl rfl (fun hb17 => ?_) (fun hb17 => ?_)
             ·try simp only [z1, z2, z3, z4, z5, z6, z7, z8, z9, y1, y2, y3] at hb17
              rw [show IntKind.i64.wrap (0 - e) = -e by rw [wrap_in (by omega) (by omega)]; omega] at hb17
              refine EV_skip ?_
              refine EV_seq ?_
              refine EV_block ?_
              refine EV_seq (EV_region ?_)
              refine EVo_t rfl (T_move rfl) ?_
              refine EVo_t rfl (T_bin rfl rfl rfl) ?_
              refine EVo_nil ?_
              refine EV_cond rfl rfl rfl (fun hb18 => ?_) (fun hb18 => ?_)
              ·try simp only [z1, z2, z3, z4, z5, z6, z7, z8, z9, y1, y2, y3] at hb18
               have hw : wantQ P e (k.toNat + 1) = wantQ P e k.toNat * P := by
                unfold wantQ
                rw [if_pos (by omega), if_pos (by omega)]
                rfl
               refine EV_region ?_
               refine EVo_t rfl (T_loadRA (gOk rfl) (zOk rfl) rfl rfl (Nat.le_of_ble_eq_true rfl) rfl rfl) ?_
               refine EVo_t rfl (T_loadRA (gOk rfl) (zOk rfl) rfl rfl (Nat.le_of_ble_eq_true rfl) rfl rfl) ?_
               refine EVo_e rfl (D_call false (ref3_Times (wantQ P e k.toNat) P (by omega)) rfl (fit_cons (fit_ag rfl nofun) (fit_cons (fit_ag rfl nofun) (fit_nil)))) ?_
               refine EVo_e rfl (D_store rfl Free_no rfl rfl (zOk rfl) rfl (Nat.le_of_ble_eq_true rfl) rfl) ?_
               refine EVo_nil ?_
               refine EV_region ?_
               refine EVo_t rfl (T_move rfl) ?_
               refine EVo_t rfl (T_binI rfl rfl rfl (by omega) (by omega)) ?_
               refine EVo_t rfl (T_assign rfl) ?_
               refine EVo_nil ?_
               have e2 : (k + 1).toNat = k.toNat + 1 := by omega
               refine ⟨_, ?_, _, W_keep2 [(0, V.c (.d false (.sl (l.map encRw)))), (3, vi .i64 i), (4, V.c (.ref 1 0)), (5, V.c (.ref 2 0)), (6, vi .i64 e), (10, V.c (.d false (encQs [powQ x P e]))), (11, V.c (.ref 5 0)), (12, vi .i64 0), (13, V.c (.ref 6 0)), (14, vi .i64 (k + 1))] [(1, .box ((encQ P).map (C.nd false))), (2, .box ((encQ x).map (C.nd false))), (5, .box ((encQ (powQ 1 P (e * -1))).map (C.nd false))), (6, .box ((encQ (wantQ P e (k + 1).toNat)).map (C.nd false)))] ⟨rfl, rfl, rfl, rfl, rfl, rfl, rfl, rfl, rfl, rfl, trivial⟩ ⟨rfl, rfl, rfl, (gbe (by rw [e2, hw]; rfl)), trivial⟩ rfl, k + 1, rfl, rfl, ?_⟩
               ·omega
               ·omega
              ·try simp only [z1, z2, z3, z4, z5, z6, z7, z8, z9, y1, y2, y3] at hb18
               have hw : wantQ P e (k.toNat + 1) = wantQ P e k.toNat / P := by
                unfold wantQ
                rw [if_neg (by omega), if_neg (by omega)]
                rfl
               refine EV_region ?_
               refine EVo_t rfl (T_loadRA (gOk rfl) (zOk rfl) rfl rfl (Nat.le_of_ble_eq_true rfl) rfl rfl) ?_
               refine EVo_t rfl (T_loadRA (gOk rfl) (zOk rfl) rfl rfl (Nat.le_of_ble_eq_true rfl) rfl rfl) ?_
               refine EVo_e rfl (D_call false (ref3_Over (wantQ P e k.toNat) P (by omega) hP0) rfl (fit_cons (fit_ag rfl nofun) (fit_cons (fit_ag rfl nofun) (fit_nil)))) ?_
               refine EVo_e rfl (D_store rfl Free_no rfl rfl (zOk rfl) rfl (Nat.le_of_ble_eq_true rfl) rfl) ?_
               refine EVo_nil ?_
               refine EV_region ?_
               refine EVo_t rfl (T_move rfl) ?_
               refine EVo_t rfl (T_binI rfl rfl rfl (by omega) (by omega)) ?_
               refine EVo_t rfl (T_assign rfl) ?_
               refine EVo_nil ?_
               have e2 : (k + 1).toNat = k.toNat + 1 := by omega
               refine ⟨_, ?_, _, W_keep2 [(0, V.c (.d false (.sl (l.map encRw)))), (3, vi .i64 i), (4, V.c (.ref 1 0)), (5, V.c (.ref 2 0)), (6, vi .i64 e), (10, V.c (.d false (encQs [powQ x P e]))), (11, V.c (.ref 5 0)), (12, vi .i64 0), (13, V.c (.ref 6 0)), (14, vi .i64 (k + 1))] [(1, .box ((encQ P).map (C.nd false))), (2, .box ((encQ x).map (C.nd false))), (5, .box ((encQ (powQ 1 P (e * -1))).map (C.nd false))), (6, .box ((encQ (wantQ P e (k + 1).toNat)).map (C.nd false)))] ⟨rfl, rfl, rfl, rfl, rfl, rfl, rfl, rfl, rfl, rfl, trivial⟩ ⟨rfl, rfl, rfl, (gbe (by rw [e2, hw]; rfl)), trivial⟩ rfl, k + 1, rfl, rfl, ?_⟩
               ·omega
               ·omega
             ·try simp only [z1, z2, z3, z4, z5, z6, z7, z8, z9, y1, y2, y3] at hb17
              rw [show IntKind.i64.wrap (0 - e) = -e by rw [wrap_in (by omega) (by omega)]; omega] at hb17
              have hke : k.toNat = e.natAbs := by omega
              have hwe : wantQ P e k.toNat = powQ 1 P e := by rw [hke]; exact wantQ_end P e
              have hwn : wantQ P e k.toNat ≠ 0 := by rw [hwe]; exact powQ1_ne hP0 e
              have hq1 : powQ x P e = x * wantQ P e k.toNat := by rw [hwe]; exact powQ_mul x P e
              have hq2 : powQ 1 P (e * -1) = 1 / wantQ P e k.toNat := by rw [hwe, show e * -1 = -e by omega]; exact powQ_inv hP0 e
              have s1 := szQ_mul x (wantQ P e k.toNat)
              have s2 := szQ_div (p := 1) hwn
              have s3 := szQ_one
              have s4 : szQ (powQ x P e) ≤ 1000 := by rw [hq1]; omega
              have s5 : szQ (powQ 1 P (e * -1)) ≤ 1000 := by rw [hq2]; omega
              refine EV_exit ?_
              refine EV_seq ?_
              refine EV_draw (inX [2, 5, 6]) (.st 0 (.one 1 (.st 2 (.st 3 (.st 4 (.st 5 (.st 6 (.st 7 (.st 8 (.st 9 (.st 10 (.st 11 (.st 12 (.st 13 (.one 14 (.one 15 (.st 16 (.st 17 (.st 18 (.st 19 (.st 21 (.one 20 (.one 22 (.one 23 (.st 24 (.st 25 .done)))))))))))))))))))))))))) Tryz.mixed (by kernel_rfl) ?_
              refine EVq_t rfl rfl (T_move rfl) ?_
              refine EVq_e rfl rfl (D_call false (law_num _) rfl (fit_cons (fit_d rfl nofun) (fit_nil))) ?_
              refine EVq_t rfl rfl (T_bin rfl rfl rfl) ?_
              refine EVq_t rfl rfl (T_move rfl) ?_
              refine EVq_case 141 rfl (fun hb19 => ?_) (fun hb19 => ?_)
              ·try simp only [z1, z2, z3, z4, z5, z6, z7, z8, z9, y1, y2, y3] at hb19
               simp at hb19
              ·try simp only [z1, z2, z3, z4, z5, z6, z7, z8, z9, y1, y2, y3] at hb19
               refine EVq_t rfl rfl (T_move rfl) ?_
               refine EVq_t rfl rfl (T_lenL (uOk rfl) rfl) ?_
               refine EVq_t rfl rfl (T_bin rfl rfl rfl) ?_
               refine EVq_t rfl rfl (T_pick rfl rfl) ?_
               refine EVq_t rfl rfl (T_move rfl) ?_
               refine EVq_case 146 rfl (fun hb20 => ?_) (fun hb20 => ?_)
               ·try simp only [z1, z2, z3, z4, z5, z6, z7, z8, z9, y1, y2, y3] at hb20
                simp at hb20
               ·try simp only [z1, z2, z3, z4, z5, z6, z7, z8, z9, y1, y2, y3] at hb20
                refine EVq_t rfl rfl (T_move rfl) ?_
                refine EVq_t rfl rfl (T_ixL (uOk rfl) (zOk rfl) rfl rfl (by omega) (by omega) (rfl)) ?_
                refine EVq_t rfl rfl (T_loadA (gOk rfl) (zOk rfl) rfl (Nat.le_of_ble_eq_true rfl)) ?_
                refine EVq_t rfl rfl (T_loadRA (gOk rfl) (zOk rfl) rfl rfl (Nat.le_of_ble_eq_true rfl) rfl rfl) ?_
                refine EVq_t rfl rfl (T_loadRA (gOk rfl) (zOk rfl) rfl rfl (Nat.le_of_ble_eq_true rfl) rfl rfl) ?_
                refine EVq_e rfl rfl (D_call false (ref3_Times x (wantQ P e k.toNat) (by omega)) rfl (fit_cons (fit_ag rfl nofun) (fit_cons (fit_ag rfl nofun) (fit_nil)))) ?_
                refine EVq_e rfl rfl (D_call false (ref_EqT _ _ (by omega) (by omega) hq1) rfl (fit_cons (fit_ag rfl nofun) (fit_cons (fit_ag rfl nofun) (fit_nil)))) ?_
                refine EVq_t rfl rfl (T_un rfl rfl) ?_
                refine EVq_t rfl rfl (T_pick rfl rfl) ?_
                refine EVq_t rfl rfl (T_move rfl) ?_
                refine EVq_t rfl rfl (T_loadRA (gOk rfl) (zOk rfl) rfl rfl (Nat.le_of_ble_eq_true rfl) rfl rfl) ?_
                refine EVq_t rfl rfl (T_loadRA (gOk rfl) (zOk rfl) rfl rfl (Nat.le_of_ble_eq_true rfl) rfl rfl) ?_
                refine EVq_e rfl rfl (D_call false (law_of1) rfl (fit_cons (fit_d rfl nofun) (fit_cons (fit_d rfl nofun) (fit_nil)))) ?_
                refine EVq_e rfl rfl (D_call false (ref3_Over 1 (wantQ P e k.toNat) (by omega) hwn) rfl (fit_cons (fit_ag rfl nofun) (fit_cons (fit_ag rfl nofun) (fit_nil)))) ?_
                refine EVq_e rfl rfl (D_call false (ref_EqT _ _ (by omega) (by omega) hq2) rfl (fit_cons (fit_ag rfl nofun) (fit_cons (fit_ag rfl nofun) (fit_nil)))) ?_
                refine EVq_t rfl rfl (T_un rfl rfl) ?_
                refine EVq_t rfl rfl (T_pick rfl rfl) ?_
                refine EVq_done ?_
                refine EV_cond rfl rfl rfl (fun h => by first | cases h | (exfalso; simp_all; done)) (fun _ => ?_)
                refine EV_skip ?_
                refine EV_region ?_
                refine EVo_t rfl (T_move rfl) ?_
                refine EVo_t rfl (T_binI rfl rfl rfl (by omega) (by omega)) ?_
                refine EVo_t rfl (T_assign rfl) ?_
                refine EVo_nil ?_
                refine ⟨_, ?_, _, W_keep2 [(0, V.c (.d false (.sl (l.map encRw)))), (3, vi .i64 (i + 1))] [] ⟨rfl, rfl, trivial⟩ trivial rfl, i + 1, rfl, rfl, ?_⟩
                ·omega
                ·omega
  ·try simp only [z1, z2, z3, z4, z5, z6, z7, z8, z9, y1, y2, y3] at hb2
   refine EV_exit ?_
   refine EV_seq (EV_region ?_)
   refine EVo_e rfl (D_call false (law_wakes) rfl (fit_nil)) ?_
   refine EVo_t rfl (T_assign rfl) ?_
   refine EVo_nil ?_
   refine EV_ret ?_
   refine ⟨_, ⟨rfl, rfl⟩, fit_eq rfl nofun rfl⟩
 ·try simp only [z1, z2, z3, z4, z5, z6, z7, z8, z9, y1, y2, y3] at hb1
  refine EVo_off rfl rfl ?_
  refine EVo_off rfl rfl ?_
  refine EVo_t rfl (T_pick rfl rfl) ?_
  refine EVo_nil ?_
  refine EV_cond rfl rfl rfl (fun h => by first | cases h | (exfalso; simp_all; done)) (fun _ => ?_)
  refine EV_exit ?_
  refine EV_seq (EV_region ?_)
  refine EVo_e rfl (D_call false (law_wakes) rfl (fit_nil)) ?_
  refine EVo_t rfl (T_assign rfl) ?_
  refine EVo_nil ?_
  refine EV_ret ?_
  refine ⟨_, ⟨rfl, rfl⟩, fit_eq rfl nofun rfl⟩

end Go.Proofs.YthaiegnohkiegaaGreat.Ab
/-
  From the form's reading of arguments to data: slices of numbers, bools, numbers.
-/
namespace Go.Proofs.YthaiegnohkiegaaGreat.Ab
set_option linter.unusedVariables false
set_option linter.unusedSimpArgs false
open Go.ChangeShapes Go.WideShapes
abbrev own0 : Nat → Option Nat := fun _ => none
section
variable {H : Type} {enc : TypeId × Value → H} {w : World} {sp : Nat → Bool}
theorem und36 : Tryz.prog.underlying 36 = some (.slice 58) := uOk rfl
theorem und58 : Tryz.prog.underlying 58 = some (.int .u64) := uOk rfl
theorem co58 : Tryz.prog.cellsOf 58 = 1 := by kernel_rfl
theorem rd_limbs {fuel : Nat} {cs : List Value} {x : DataW H × List MemPlace} (h : DataW.trod enc Tryz.prog w 0 sp true fuel 36 cs = some x) :
    ∃ (v : Value) (l : List Int), cs = [v] ∧ okL l ∧ RelD w own0 0 v (encN l) ∧ ((x.1 = .nil ∧ l = []) ∨ ∃ spare, x.1 = .slice (lits .u64 l) spare) := by
  rcases open_ints und36 und58 co58 h with ⟨rfl, rfl⟩ | ⟨a, len, cap, zs, rfl, h1, h2, h3, h4, rfl, h6, h7⟩
  · exact ⟨_, [], rfl, okL_nil, .emp _ _, .inl ⟨rfl, rfl⟩⟩
  · have hz : len ≤ zs.length := by rw [h4]; split <;> omega
    refine ⟨_, zs.take len, rfl, fun y hy => ?_, ?_, .inr ⟨_, rfl⟩⟩
    · have := h7 y (List.mem_of_mem_take hy)
      simp [Lit.wf, IntKind.min, IntKind.max, IntKind.signed, IntKind.bits] at this
      omega
    · by_cases h0 : len = 0
      · subst h0
        exact .emp _ _
      · have hsp : a.spot = none := by
          have := World.cell?_spot (h6 0 (by omega))
          simpa [Addr.add] using this
        obtain ⟨g, off, spot⟩ := a
        simp only at hsp
        subst hsp
        have hcell : ∀ i, i < len → w.cell? ⟨g, off + i, none⟩ = some (.int .u64 (zs.getD i 0)) := fun i hi => by
          have := h6 i (by omega)
          unfold Addr.add at this
          split at this
          · rename_i e; subst e; exact this
          · exact this
        obtain ⟨c, e, fr, hb, _⟩ := Sort.cells_of_cell? (hcell 0 (by omega))
        have hl : (zs.take len).length = len := by rw [List.length_take]; omega
        have key : RelD w own0 0 (.slice (some ⟨g, off, none⟩) ((zs.take len).map fun x => [iu x]).length cap) (.sl ((zs.take len).map fun x => [iu x])) := by
          refine .sl (sz := 1) (fun i _ => .int .u64 (zs.getD i 0)) (Nat.zero_le _) hb (by simp; omega) (fun n hn => by cases hn) (fun ds hds => by obtain ⟨y, _, rfl⟩ := List.mem_map.1 hds; rfl) (fun i j hi hj => ?_) (fun i j ds d hi hj => ?_)
          · have hi' : i < len := by rw [List.length_map, hl] at hi; exact hi
            have := hcell i hi'
            rw [cell_at hb] at this
            rw [show off + i * 1 + j = off + i by omega]
            exact this
          · rw [List.getElem?_map] at hi
            obtain ⟨y, hy, rfl⟩ := Option.map_eq_some_iff.1 hi
            have hj0 : j = 0 := by
              have := (List.getElem?_eq_some_iff.1 hj).1
              simpa using this
            subst hj0
            simp at hj
            subst hj
            rw [List.getElem?_take] at hy
            split at hy
            · have : zs.getD i 0 = y := by simp [hy]
              rw [this]
              exact .val _ rfl
            · cases hy
        have e : ((zs.take len).map fun x => [iu x]).length = len := by rw [List.length_map]; exact hl
        rw [e] at key
        exact key
theorem und4 : Tryz.prog.underlying 4 = some .bool := uOk rfl
theorem und3 : Tryz.prog.underlying 3 = some (.int .i64) := uOk rfl
theorem rd_bool {fuel : Nat} {cs : List Value} {x : DataW H × List MemPlace} (h : DataW.trod enc Tryz.prog w 0 sp true fuel 4 cs = some x) : ∃ b, cs = [.bool b] := by
  cases fuel with
  | zero => simp [DataW.trod] at h
  | succ n =>
    unfold DataW.trod at h
    rw [und4] at h
    split at h <;> simp_all
theorem rd_int {fuel : Nat} {cs : List Value} {x : DataW H × List MemPlace} (h : DataW.trod enc Tryz.prog w 0 sp true fuel 3 cs = some x) : ∃ n, cs = [.int .i64 n] := by
  cases fuel with
  | zero => simp [DataW.trod] at h
  | succ n =>
    unfold DataW.trod at h
    rw [und3] at h
    split at h <;> simp_all
/-- All that a reading weighs is within reach. -/
def light (t : TypeId) (d : DataW H) : Prop := ∀ n ∈ d.weights Tryz.prog t, n ≤ reachBytes
theorem light_part {t : TypeId} {fs : Array Field} {parts : List (DataW H)} (ht : Tryz.prog.underlying t = some (.struct fs)) (h : light t (.agg parts)) {j : Nat} {f : Field} {d : DataW H} (hf : fs[j]? = some f) (hd : parts[j]? = some d) : light f.type d := fun n hn => by
  refine h n ?_
  simp only [DataW.weights, ht]
  refine DataW.weights_mem_each (j := j) ?_ hd n hn
  rw [List.getElem?_map]
  have : fs.toList[j]? = some f := by simpa using hf
  rw [this]
  rfl
theorem by58 : Tryz.prog.bytesOf 58 = 8 := by kernel_rfl
theorem light_limbs {l : List Int} {d : DataW H} (h : light 36 d) (hd : (d = .nil ∧ l = []) ∨ ∃ spare, d = .slice (lits .u64 l) spare) : l.length ≤ 1000000000000000000 := by
  rcases hd with ⟨rfl, rfl⟩ | ⟨spare, rfl⟩
  · simp
  · have := h (((lits .u64 l : List (DataW H)).length + spare.length) * Tryz.prog.bytesOf 58) (by simp only [DataW.weights, und36]; simp)
    rw [by58] at this
    have hr := reachBytes_lt
    have e : (lits .u64 l : List (DataW H)).length = l.length := by simp [lits]
    rw [e] at this
    omega
theorem co38 : Tryz.prog.cellsOf 38 = 2 := by kernel_rfl
theorem co36 : Tryz.prog.cellsOf 36 = 1 := by kernel_rfl
theorem co4 : Tryz.prog.cellsOf 4 = 1 := by kernel_rfl
theorem co3 : Tryz.prog.cellsOf 3 = 1 := by kernel_rfl
theorem co40 : Tryz.prog.cellsOf 40 = 3 := by kernel_rfl
theorem co61 : Tryz.prog.cellsOf 61 = 7 := by kernel_rfl
theorem len1 {α : Type} {l : List α} (h : l.length = 2) : ∃ a b, l = [a, b] := by
  match l, h with
  | [a, b], _ => exact ⟨a, b, rfl⟩
theorem len3 {α : Type} {l : List α} (h : l.length = 3) : ∃ a b c, l = [a, b, c] := by
  match l, h with
  | [a, b, c], _ => exact ⟨a, b, c, rfl⟩
theorem len7 {α : Type} {l : List α} (h : l.length = 7) : ∃ a b c d e f g, l = [a, b, c, d, e, f, g] := by
  match l, h with
  | [a, b, c, d, e, f, g], _ => exact ⟨a, b, c, d, e, f, g, rfl⟩
theorem rd_whole {fuel : Nat} {cs : List Value} {x : DataW H × List MemPlace} (h : DataW.trod enc Tryz.prog w 0 sp true fuel 38 cs = some x) (hs : light 38 x.1) :
    ∃ (b : Bool) (v : Value) (l : List Int), cs = [.bool b, v] ∧ okL l ∧ l.length ≤ 1000000000000000000 ∧ RelD w own0 0 v (encN l) := by
  obtain ⟨xs, n, rfl, rfl, hc, hx, hf⟩ := DataW.trod_struct Tryz.underlying38 h
  rw [co38] at hc
  obtain ⟨c0, c1, rfl⟩ := len1 hc
  obtain ⟨x0, x1, rfl⟩ := len1 (show xs.length = 2 from hx)
  have h0 : DataW.trod enc Tryz.prog w 0 sp true n 4 (([c0, c1].drop 0).take (Tryz.prog.cellsOf 4)) = some x0 := hf 0 _ rfl
  have h1 : DataW.trod enc Tryz.prog w 0 sp true n 36 (([c0, c1].drop 1).take (Tryz.prog.cellsOf 36)) = some x1 := hf 1 _ rfl
  rw [co4] at h0
  rw [co36] at h1
  obtain ⟨b, hb⟩ := rd_bool h0
  obtain ⟨v, l, hv, hk, hr, hd⟩ := rd_limbs h1
  simp at hb hv
  subst hb
  subst hv
  exact ⟨b, _, l, rfl, hk, light_limbs (light_part Tryz.underlying38 hs (j := 1) rfl rfl) hd, hr⟩
theorem rd_rat {fuel : Nat} {cs : List Value} {x : DataW H × List MemPlace} (h : DataW.trod enc Tryz.prog w 0 sp true fuel 40 cs = some x) (hs : light 40 x.1) :
    ∃ (b : Bool) (v u : Value) (l m : List Int), cs = [.bool b, v, u] ∧ (okL l ∧ okL m) ∧ (l.length ≤ 1000000000000000000 ∧ m.length ≤ 1000000000000000000) ∧ RelD w own0 0 v (encN l) ∧ RelD w own0 0 u (encN m) := by
  obtain ⟨xs, n, rfl, rfl, hc, hx, hf⟩ := DataW.trod_struct Tryz.underlying40 h
  rw [co40] at hc
  obtain ⟨c0, c1, c2, rfl⟩ := len3 hc
  obtain ⟨x0, x1, rfl⟩ := len1 (show xs.length = 2 from hx)
  have h0 : DataW.trod enc Tryz.prog w 0 sp true n 38 (([c0, c1, c2].drop 0).take (Tryz.prog.cellsOf 38)) = some x0 := hf 0 _ rfl
  have h1 : DataW.trod enc Tryz.prog w 0 sp true n 36 (([c0, c1, c2].drop 2).take (Tryz.prog.cellsOf 36)) = some x1 := hf 1 _ rfl
  rw [co38] at h0
  rw [co36] at h1
  obtain ⟨b, v, l, hv, hk, hl, hr⟩ := rd_whole h0 (light_part Tryz.underlying40 hs (j := 0) rfl rfl)
  obtain ⟨u, m, hu, hkm, hrm, hd⟩ := rd_limbs h1
  simp at hv hu
  obtain ⟨rfl, rfl⟩ := hv
  subst hu
  exact ⟨b, _, _, l, m, rfl, ⟨hk, hkm⟩, ⟨hl, light_limbs (light_part Tryz.underlying40 hs (j := 1) rfl rfl) hd⟩, hr, hrm⟩
theorem rd_row {fuel : Nat} {cs : List Value} {x : DataW H × List MemPlace} (h : DataW.trod enc Tryz.prog w 0 sp true fuel 61 cs = some x) (hs : light 61 x.1) :
    ∃ r : Rw, szRw r ∧ cs.length = 7 ∧ ∀ (j : Nat) (d : D), (encRw r)[j]? = some d → ∃ v : Value, cs[j]? = some v ∧ RelD w own0 0 v d := by
  obtain ⟨xs, n, rfl, rfl, hc, hx, hf⟩ := DataW.trod_struct Tryz.underlying61 h
  rw [co61] at hc
  obtain ⟨c0, c1, c2, c3, c4, c5, c6, rfl⟩ := len7 hc
  obtain ⟨x0, x1, x2, rfl⟩ := len3 (show xs.length = 3 from hx)
  have h0 : DataW.trod enc Tryz.prog w 0 sp true n 3 (([c0, c1, c2, c3, c4, c5, c6].drop 0).take (Tryz.prog.cellsOf 3)) = some x0 := hf 0 _ rfl
  have h1 : DataW.trod enc Tryz.prog w 0 sp true n 40 (([c0, c1, c2, c3, c4, c5, c6].drop 1).take (Tryz.prog.cellsOf 40)) = some x1 := hf 1 _ rfl
  have h2 : DataW.trod enc Tryz.prog w 0 sp true n 40 (([c0, c1, c2, c3, c4, c5, c6].drop 4).take (Tryz.prog.cellsOf 40)) = some x2 := hf 2 _ rfl
  rw [co3] at h0
  rw [co40] at h1 h2
  obtain ⟨k, hk⟩ := rd_int h0
  obtain ⟨b, v, u, l, m, e1, k1, l1, r1, r2⟩ := rd_rat h1 (light_part Tryz.underlying61 hs (j := 1) rfl rfl)
  obtain ⟨b', v', u', l', m', e2, k2, l2, r3, r4⟩ := rd_rat h2 (light_part Tryz.underlying61 hs (j := 2) rfl rfl)
  simp at hk e1 e2
  obtain ⟨rfl, rfl, rfl⟩ := e1
  obtain ⟨rfl, rfl, rfl⟩ := e2
  subst hk
  refine ⟨⟨k, b, l, m, b', l', m'⟩, ⟨⟨l1.1, l1.2, l2.1, l2.2⟩, k1.1, k1.2, k2.1, k2.2⟩, rfl, fun j d hj => ?_⟩
  match j, hj with
  | 0, hj => cases hj; exact ⟨_, rfl, .val _ rfl⟩
  | 1, hj => cases hj; exact ⟨_, rfl, .val _ rfl⟩
  | 2, hj => cases hj; exact ⟨_, rfl, r1⟩
  | 3, hj => cases hj; exact ⟨_, rfl, r2⟩
  | 4, hj => cases hj; exact ⟨_, rfl, .val _ rfl⟩
  | 5, hj => cases hj; exact ⟨_, rfl, r3⟩
  | 6, hj => cases hj; exact ⟨_, rfl, r4⟩
  | j + 7, hj => simp [encRw] at hj
end
end Go.Proofs.YthaiegnohkiegaaGreat.Ab
/-
  From the form's reading of the law's argument to its rows.
-/
namespace Go.Proofs.YthaiegnohkiegaaGreat.Ab
set_option linter.unusedVariables false
set_option linter.unusedSimpArgs false
open Go.ChangeShapes Go.WideShapes
section
variable {H : Type} {enc : TypeId × Value → H} {w : World} {sp : Nat → Bool}
theorem weightsAll_mem {e : TypeId} : ∀ {l : List (DataW H)} {d : DataW H}, d ∈ l → ∀ n ∈ d.weights Tryz.prog e, n ∈ DataW.weightsAll Tryz.prog e l
  | [], d, h, n, hn => by cases h
  | x :: l, d, h, n, hn => by
    simp only [DataW.weightsAll, List.mem_append]
    rcases List.mem_cons.1 h with rfl | h
    · exact .inl hn
    · exact .inr (weightsAll_mem h n hn)
theorem by61 : Tryz.prog.bytesOf 61 = 120 := by kernel_rfl
theorem light_elem {e t : TypeId} {elems spare : List (DataW H)} {d : DataW H} (ht : Tryz.prog.underlying t = some (.slice e)) (h : light t (.slice elems spare)) (hd : d ∈ elems) : light e d := fun n hn => by
  refine h n ?_
  simp only [DataW.weights, ht, List.mem_cons, List.mem_append]
  exact .inr (.inl (weightsAll_mem hd n hn))
theorem add_none (g off k : Nat) : Addr.add ⟨g, off, none⟩ k = ⟨g, off + k, none⟩ := by
  unfold Addr.add
  split
  · rename_i e; subst e; rfl
  · rfl
theorem rd_rows {fuel : Nat} {cs : List Value} {x : DataW H × List MemPlace} (h : DataW.trod enc Tryz.prog w 0 sp true fuel 59 cs = some x) (hs : light 59 x.1) :
    ∃ (v : Value) (rows : List Rw), cs = [v] ∧ (∀ r ∈ rows, szRw r) ∧ rows.length ≤ 1000000000000000000 ∧ RelD w own0 0 v (.sl (rows.map encRw)) := by
  rcases DataW.trod_slice Tryz.underlying59 h with ⟨rfl, rfl⟩ | ⟨a, len, cap, elems, rest, n, rfl, rfl, rfl, hb, hl, hm, hlen, hel, hsp, hns⟩
  · exact ⟨_, [], rfl, fun r hr => (by cases hr), by simp, .emp _ _⟩
  · have hsmall : len ≤ 1000000000000000000 := by
      have := hs ((elems.map (·.1)).length * 1 + 0) 
      have h2 := hs (((elems.map (·.1)).length + (rest.map (·.1)).length) * Tryz.prog.bytesOf 61) (by simp only [DataW.weights, Tryz.underlying59]; simp)
      rw [by61] at h2
      have hr := reachBytes_lt
      rw [List.length_map, hlen] at h2
      omega
    by_cases h0 : len = 0
    · subst h0
      exact ⟨_, [], rfl, fun r hr => (by cases hr), by simp, .emp _ _⟩
    · rw [co61] at hel
      have each : ∀ i, ∃ r : Rw, i < len → szRw r ∧ ∃ ci : List Value, (∀ j, j < 7 → w.cell? ((a.add (i * 7)).add j) = ci[j]?) ∧ ∀ (j : Nat) (d : D), (encRw r)[j]? = some d → ∃ v : Value, ci[j]? = some v ∧ RelD w own0 0 v d := fun i => by
        by_cases hi : i < len
        · have hE := hel i hi
          have hy : elems[i]? = some elems[i] := List.getElem?_eq_getElem (by omega)
          rw [hy] at hE
          simp only [Option.bind_eq_some_iff] at hE
          obtain ⟨ci, hc, ht⟩ := hE
          obtain ⟨_, hcl, hcc⟩ := World.cells?_some hc
          obtain ⟨r, q1, q2, q3⟩ := rd_row ht (light_elem Tryz.underlying59 hs (List.mem_map.2 ⟨_, List.getElem_mem _, rfl⟩))
          exact ⟨r, fun _ => ⟨q1, ci, hcc, q3⟩⟩
        · exact ⟨default, fun h => absurd h hi⟩
      obtain ⟨f, hf⟩ := Classical.skolem.1 each
      have hspot : a.spot = none := by
        obtain ⟨_, ci, h1, h2⟩ := hf 0 (by omega)
        obtain ⟨v, hv, _⟩ := h2 0 _ rfl
        have := h1 0 (by omega)
        rw [hv] at this
        have := World.cell?_spot this
        simpa [Addr.add] using this
      obtain ⟨g, off, spot⟩ := a
      simp only at hspot
      subst hspot
      have hcell : ∀ i j (d : D), i < len → (encRw (f i))[j]? = some d → ∃ v : Value, w.cell? ⟨g, off + i * 7 + j, none⟩ = some v ∧ RelD w own0 0 v d := fun i j d hi hd => by
        obtain ⟨_, ci, h1, h2⟩ := hf i hi
        obtain ⟨v, hv, hr⟩ := h2 j d hd
        have hj : j < 7 := (List.getElem?_eq_some_iff.1 hd).1
        have := h1 j hj
        rw [add_none, add_none, hv] at this
        exact ⟨v, this, hr⟩
      obtain ⟨v0, hv0, _⟩ := hcell 0 0 _ (by omega) rfl
      obtain ⟨c, e, fr, hbk, _⟩ := Sort.cells_of_cell? hv0
      have hrl : ((List.range len).map f).length = len := by simp
      refine ⟨_, (List.range len).map f, rfl, fun r hr => ?_, by rw [hrl]; exact hsmall, ?_⟩
      · obtain ⟨i, hi, rfl⟩ := List.mem_map.1 hr
        exact (hf i (by simpa using hi)).1
      · have key : RelD w own0 0 (.slice (some ⟨g, off, none⟩) (((List.range len).map f).map encRw).length cap) (.sl (((List.range len).map f).map encRw)) := by
          refine .sl (sz := 7) (fun i j => (w.cell? ⟨g, off + i * 7 + j, none⟩).getD undef) (Nat.zero_le _) hbk (by simp; omega) (fun n hn => by cases hn) (fun ds hds => by obtain ⟨y, _, rfl⟩ := List.mem_map.1 hds; rfl) (fun i j hi hj => ?_) (fun i j ds d hi hj => ?_)
          · have hi' : i < len := by simpa using hi
            have hdj : (encRw (f i))[j]? = some ((encRw (f i))[j]'hj) := List.getElem?_eq_getElem _
            obtain ⟨v, hv, _⟩ := hcell i j _ hi' hdj
            rw [hv]
            rw [cell_at hbk] at hv
            exact hv
          · rw [List.getElem?_map] at hi
            obtain ⟨y, hy, rfl⟩ := Option.map_eq_some_iff.1 hi
            rw [List.getElem?_map] at hy
            obtain ⟨i', hi', rfl⟩ := Option.map_eq_some_iff.1 hy
            have hlt := (List.getElem?_eq_some_iff.1 hi').1
            have e2 : i' = i := by
              rw [List.getElem?_range (by simpa using hlt)] at hi'
              cases hi'; rfl
            subst e2
            obtain ⟨v, hv, hr⟩ := hcell i' j d (by simpa using hlt) hj
            rw [hv]
            exact hr
        have e3 : (((List.range len).map f).map encRw).length = len := by simp
        rw [e3] at key
        exact key
end
end Go.Proofs.YthaiegnohkiegaaGreat.Ab
