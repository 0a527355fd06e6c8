/-
  Part 5 of the walks of the program and of the laws of its arithmetic: what each function of the program tells at every input that its premise takes.
-/
import Derived.Test.YthaiegnohkiegaaGreatT4
/-
 Contracts of the functions of package unit: atoms.
-/
namespace Go.Proofs.YthaiegnohkiegaaGreat.Ab
set_option linter.unusedVariables false
set_option linter.unusedSimpArgs false
set_option maxRecDepth 20000
set_option maxHeartbeats 4000000
attribute [local irreducible] Tells Does EVo EV EVq EVr TellsC


theorem unit_letter (c : Int) (h0 : 0 ≤ c) (h1 : c ≤ 255) : Fn Tryz.prog 250 [.d (.val (.int .u8 c))] false (.one (.d (ib (letterB c)))) := by
 refine Fn_of_EV Tryz.func250 rfl (by kernel_rfl) rfl rfl (fun E hE => ?_)
 iterate 9 refine τ ?_
 refine EVo_case 5 rfl (fun hb1 => ?_) (fun hb1 => ?_)
 ·try simp only [zz] at hb1
  iterate 4 refine τ ?_
  refine EVo_case 9 rfl (fun hb2 => ?_) (fun hb2 => ?_)
  ·try simp only [zz] at hb2
   iterate 6 refine τ ?_
   refine ⟨_, ⟨rfl, rfl⟩, fit_eq rfl nofun ?_⟩
   ·refine congrArg ib (Bool.eq_iff_iff.2 ?_)
    simp [letterB] <;> omega
  ·try simp only [zz] at hb2
   iterate 6 refine τ ?_
   refine ⟨_, ⟨rfl, rfl⟩, fit_eq rfl nofun ?_⟩
   ·refine congrArg ib (Bool.eq_iff_iff.2 ?_)
    simp [letterB] <;> omega
 ·try simp only [zz] at hb1
  iterate 10 refine τ ?_
  refine ⟨_, ⟨rfl, rfl⟩, fit_eq rfl nofun ?_⟩
  ·refine congrArg ib (Bool.eq_iff_iff.2 ?_)
   simp [letterB] <;> omega

theorem unit_inner (c : Int) (h0 : 0 ≤ c) (h1 : c ≤ 255) : Fn Tryz.prog 251 [.d (.val (.int .u8 c))] false (.one (.d (ib (innerB c)))) := by
 refine Fn_of_EV Tryz.func251 rfl (by kernel_rfl) rfl rfl (fun E hE => ?_)
 iterate 7 refine τ ?_
 refine EVo_e rfl (D_call false (unit_letter _ (by omega) (by omega)) rfl (φd rfl φn)) ?_
 refine τ ?_
 refine EVo_case 5 rfl (fun hb1 => ?_) (fun hb1 => ?_)
 ·try simp only [zz] at hb1
  iterate 18 refine τ ?_
  refine ⟨_, ⟨rfl, rfl⟩, fit_eq rfl nofun ?_⟩
  ·refine congrArg ib (Bool.eq_iff_iff.2 ?_)
   simp_all [innerB] <;> omega
 ·try simp only [zz] at hb1
  iterate 3 refine τ ?_
  refine EVo_case 8 rfl (fun hb2 => ?_) (fun hb2 => ?_)
  ·try simp only [zz] at hb2
   iterate 5 refine τ ?_
   refine EVo_case 13 rfl (fun hb3 => ?_) (fun hb3 => ?_)
   ·try simp only [zz] at hb3
    iterate 10 refine τ ?_
    refine ⟨_, ⟨rfl, rfl⟩, fit_eq rfl nofun ?_⟩
    ·refine congrArg ib (Bool.eq_iff_iff.2 ?_)
     simp_all [innerB] <;> omega
   ·try simp only [zz] at hb3
    iterate 3 refine τ ?_
    refine EVo_case 16 rfl (fun hb4 => ?_) (fun hb4 => ?_)
    ·try simp only [zz] at hb4
     iterate 7 refine τ ?_
     refine ⟨_, ⟨rfl, rfl⟩, fit_eq rfl nofun ?_⟩
     ·refine congrArg ib (Bool.eq_iff_iff.2 ?_)
      simp_all [innerB] <;> omega
    ·try simp only [zz] at hb4
     iterate 7 refine τ ?_
     refine ⟨_, ⟨rfl, rfl⟩, fit_eq rfl nofun ?_⟩
     ·refine congrArg ib (Bool.eq_iff_iff.2 ?_)
      simp_all [innerB] <;> omega
  ·try simp only [zz] at hb2
   iterate 8 refine τ ?_
   refine EVo_case 16 rfl (fun hb5 => ?_) (fun hb5 => ?_)
   ·try simp only [zz] at hb5
    iterate 7 refine τ ?_
    refine ⟨_, ⟨rfl, rfl⟩, fit_eq rfl nofun ?_⟩
    ·refine congrArg ib (Bool.eq_iff_iff.2 ?_)
     simp_all [innerB] <;> omega
   ·try simp only [zz] at hb5
    iterate 7 refine τ ?_
    refine ⟨_, ⟨rfl, rfl⟩, fit_eq rfl nofun ?_⟩
    ·refine congrArg ib (Bool.eq_iff_iff.2 ?_)
     simp_all [innerB] <;> omega

theorem unit_number (n : Int) : Fn Tryz.prog 240 [.d (ii n)] false (.one (.d (ib (numB n)))) := by
 refine Fn_of_EV Tryz.func240 rfl (by kernel_rfl) rfl rfl (fun E hE => ?_)
 iterate 9 refine τ ?_
 refine EVo_case 5 rfl (fun hb1 => ?_) (fun hb1 => ?_)
 ·try simp only [zz] at hb1
  iterate 6 refine τ ?_
  refine ⟨_, ⟨rfl, rfl⟩, fit_eq rfl nofun ?_⟩
  ·refine congrArg ib ?_
   unfold numB
   simp_all <;> omega
 ·try simp only [zz] at hb1
  iterate 6 refine τ ?_
  refine ⟨_, ⟨rfl, rfl⟩, fit_eq rfl nofun ?_⟩
  ·refine congrArg ib ?_
   unfold numB
   simp_all <;> omega

theorem cmp_Or (l : List Int) (hl : l.length ≤ 17592186044416) : Fn Tryz.prog 242 [.d (encI l)] false (.one (.d (ii (orL l)))) := by
 refine Fn_of_EV Tryz.func242 rfl (by kernel_rfl) rfl rfl (fun E hE => ?_)
 iterate 16 refine τ ?_
 refine EV_wl (fun mm S => ∃ i : Int, mm = ((l.length : Int) - i).toNat ∧ S = St.of [(3, vi .i64 0), (6, V.c (.d false (encI l))), (7, vi .i64 l.length), (8, vi .i64 i)] (tabO []) 18 ∧ 0 ≤ i ∧ i ≤ l.length ∧ orL (l.drop i.toNat) = orL l) _ ⟨_, ⟨0, rfl, rfl, ⟨by omega, by omega, rfl⟩⟩, W_keep2 _ _ ⟨rfl, rfl, rfl, rfl, trivial⟩ trivial rfl⟩ ?_
 rintro mm S ⟨i, rfl, rfl, ⟨h0, h1, h2⟩⟩
 have ei : (i.toNat : Int) = i := by omega
 iterate 5 refine τ ?_
 refine EV_cond rfl rfl rfl (fun hb1 => ?_) (fun hb1 => ?_)
 ·try simp only [zz] at hb1
  iterate 15 refine τ ?_
  refine EV_cond rfl rfl rfl (fun hb2 => ?_) (fun hb2 => ?_)
  ·try simp only [zz] at hb2
   have hz := hb2
   iterate 6 refine τ ?_
   refine ⟨_, ⟨rfl, rfl⟩, fit_eq rfl nofun ?_⟩
   ·have := orL_at (l := l) (i := i.toNat) (by omega) (by rw [ei]; exact hz)
    rw [← h2, this, ei]
  ·try simp only [zz] at hb2
   have hz := hb2
   iterate 5 refine τ ?_
   refine ⟨_, ?_, ω ⟨_, ⟨i + 1, rfl, rfl, ?_⟩, W_keep2 _ _ ⟨rfl, rfl, rfl, rfl, trivial⟩ trivial rfl⟩⟩
   ·omega
   ·exact ⟨by omega, by omega, by rw [show (i + 1).toNat = i.toNat + 1 by omega, ← orL_drop (by omega) (by rw [ei]; exact hz)]; exact h2⟩
 ·try simp only [zz] at hb1
  iterate 7 refine τ ?_
  refine ⟨_, ⟨rfl, rfl⟩, fit_eq rfl nofun ?_⟩
  ·rw [List.drop_of_length_le (by omega)] at h2
   rw [← h2]; rfl

theorem size_pos {s : ByteArray} (h : ¬ s.toList = []) : 0 < s.size := by
 rcases Nat.eq_zero_or_pos s.size with q | q
 ·exfalso
  apply h
  have : s = ⟨#[]⟩ := by
   cases s with
   | mk d =>
    have : d.size = 0 := q
    have := Array.eq_empty_of_size_eq_zero this
    subst this; rfl
  subst this; decide +kernel
 ·exact q
theorem byte_le (s : ByteArray) (i : Nat) (h : i < s.size) : (0 : Int) ≤ (s[i]'h).toNat ∧ (((s[i]'h).toNat : Nat) : Int) ≤ 255 := by
 have := (s[i]'h).toNat_lt
 omega
theorem by_at (s : ByteArray) (i : Nat) (h : i < s.size) : byS s i = ((s[i]'h).toNat : Int) := by unfold byS; rw [dif_pos h]

theorem unit_order (k n : Int) (s : ByteArray) (k' n' : Int) (s' : ByteArray) : Fn Tryz.prog 227 [.agg [ii k, ii n, sd s], .agg [ii k', ii n', sd s']] false (.one (.d (ii (ordA k n s k' n' s')))) := by
 refine Fn_of_EV Tryz.func227 rfl (by kernel_rfl) rfl rfl (fun E hE => ?_)
 iterate 2 refine τ ?_
 refine EVo_e rfl (D_box 1 (hE 1 rfl) Free_no rfl) ?_
 refine EVo_e rfl (D_box 2 (hE 2 rfl) Free_no rfl) ?_
 iterate 3 refine τ ?_
 refine EV_draw (inX [1, 2]) (.st 0 (.st 1 (.st 2 (.st 3 (.st 5 (.st 6 (.st 7 (.st 8 (.st 10 (.st 11 (.st 12 (.st 13 (.one 4 (.one 9 (.one 14 (.one 15 (.one 16 (.st 17 .done)))))))))))))))))) Tryz.mixed (by kernel_rfl) ?_
 refine EVq_t rfl rfl (T_faR (fOk rfl) (zOk rfl) rfl) ?_
 refine EVq_t rfl rfl (T_loadR (gOk rfl) rfl rfl rfl rfl) ?_
 refine EVq_t rfl rfl (T_faR (fOk rfl) (zOk rfl) rfl) ?_
 refine EVq_t rfl rfl (T_loadR (gOk rfl) rfl rfl rfl rfl) ?_
 refine EVq_t rfl rfl (T_faR (fOk rfl) (zOk rfl) rfl) ?_
 refine EVq_t rfl rfl (T_loadR (gOk rfl) rfl rfl rfl rfl) ?_
 refine EVq_t rfl rfl (T_faR (fOk rfl) (zOk rfl) rfl) ?_
 refine EVq_t rfl rfl (T_loadR (gOk rfl) rfl rfl rfl rfl) ?_
 refine EVq_t rfl rfl (T_faR (fOk rfl) (zOk rfl) rfl) ?_
 refine EVq_t rfl rfl (T_loadR (gOk rfl) rfl rfl rfl rfl) ?_
 refine EVq_t rfl rfl (T_faR (fOk rfl) (zOk rfl) rfl) ?_
 refine EVq_t rfl rfl (T_loadR (gOk rfl) rfl rfl rfl rfl) ?_
 refine EVq_e rfl rfl (D_call false (cmp_Compare _ _) rfl (φd rfl (φd rfl φn))) ?_
 refine EVq_e rfl rfl (D_call false (cmp_Compare _ _) rfl (φd rfl (φd rfl φn))) ?_
 refine EVq_e rfl rfl (D_call false (strings_Compare _ _) rfl (φd rfl (φd rfl φn))) ?_
 refine EVq_e rfl rfl (D_buildSlice (uOk rfl) bz3 rfl rfl rfl (by simp)) ?_
 refine EVq_e rfl rfl (D_call false (cmp_Or [_, _, _] (by simp)) rfl (φd rfl φn)) ?_
 refine EVq_t rfl rfl (T_assign rfl) ?_
 refine EVq_done ?_
 refine τ ?_
 refine ⟨_, ⟨rfl, rfl⟩, fit_eq rfl nofun rfl⟩

theorem unit_word (s : ByteArray) (hs : s.size ≤ 4611686018427387904) : Fn Tryz.prog 241 [.d (sd s)] false (.one (.d (ib (wordB s)))) := by
 refine Fn_of_EV Tryz.func241 rfl (by kernel_rfl) rfl rfl (fun E hE => ?_)
 iterate 10 refine τ ?_
 refine EVo_case 6 rfl (fun hb1 => ?_) (fun hb1 => ?_)
 ·try simp only [zz] at hb1
  iterate 15 refine τ ?_
  refine EV_cond rfl rfl rfl (fun _ => ?_) (fun h => by first | cases h | (exfalso; simp_all; done))
  iterate 5 refine τ ?_
  refine ⟨_, ⟨rfl, rfl⟩, fit_eq rfl nofun ?_⟩
  ·refine congrArg ib ?_
   unfold wordB
   simp_all [byS] <;> omega
 ·try simp only [zz] at hb1
  iterate 5 refine τ ?_
  refine EVo_case 11 rfl (fun hb2 => ?_) (fun hb2 => ?_)
  ·try simp only [zz] at hb2
   iterate 10 refine τ ?_
   refine EV_cond rfl rfl rfl (fun _ => ?_) (fun h => by first | cases h | (exfalso; simp_all; done))
   iterate 5 refine τ ?_
   refine ⟨_, ⟨rfl, rfl⟩, fit_eq rfl nofun ?_⟩
   ·refine congrArg ib ?_
    unfold wordB
    simp_all [byS] <;> omega
  ·try simp only [zz] at hb2
   iterate 4 refine τ ?_
   refine EVo_case 15 rfl (fun hb3 => ?_) (fun hb3 => ?_)
   ·try simp only [zz] at hb3
    iterate 6 refine τ ?_
    refine EV_cond rfl rfl rfl (fun _ => ?_) (fun h => by first | cases h | (exfalso; simp_all; done))
    iterate 5 refine τ ?_
    refine ⟨_, ⟨rfl, rfl⟩, fit_eq rfl nofun ?_⟩
    ·refine congrArg ib ?_
     unfold wordB
     simp_all [byS] <;> omega
   ·try simp only [zz] at hb3
    refine τ ?_
    have hs0 : 0 < s.size := size_pos (by simp_all)
    refine EVo_t rfl (T_indexS (uOk rfl) rfl rfl (by omega) (by omega)) ?_
    have hb0 := byte_le s (Int.toNat 0) hs0
    refine EVo_e rfl (D_call false (unit_letter _ (by omega) (by omega)) rfl (φd rfl φn)) ?_
    iterate 3 refine τ ?_
    refine EV_cond rfl rfl rfl (fun hb4 => ?_) (fun hb4 => ?_)
    ·try simp only [zz] at hb4
     iterate 5 refine τ ?_
     refine ⟨_, ⟨rfl, rfl⟩, fit_eq rfl nofun ?_⟩
     ·refine congrArg ib ?_
      unfold wordB
      simp_all [byS] <;> omega
    ·try simp only [zz] at hb4
     iterate 9 refine τ ?_
     have hw : wordB s = (List.range s.size).all fun i => innerB (byS s i) := by
      have e0 : letterB (byS s 0) = true := by simp_all [byS]
      have hb32 : s.size ≤ 32 := by omega
      unfold wordB
      simp_all
     refine EV_wl (fun mm S => ∃ i : Int, mm = ((s.size : Int) - i).toNat ∧ S = St.of [(0, vs s), (22, vi .i64 s.size), (23, vi .i64 i)] (tabO []) 32 ∧ 0 ≤ i ∧ i ≤ s.size ∧ ∀ j, j < i.toNat → innerB (byS s j) = true) _ ⟨_, ⟨0, rfl, rfl, ⟨by omega, by omega, fun j hj => absurd hj (Nat.not_lt_zero _)⟩⟩, W_keep2 _ _ ⟨rfl, rfl, rfl, trivial⟩ trivial rfl⟩ ?_
     rintro mm S ⟨i, rfl, rfl, ⟨h0, h1, h2⟩⟩
     iterate 5 refine τ ?_
     refine EV_cond rfl rfl rfl (fun hb5 => ?_) (fun hb5 => ?_)
     ·try simp only [zz] at hb5
      iterate 12 refine τ ?_
      refine EVo_t rfl (T_indexS (uOk rfl) rfl rfl (by omega) (by omega)) ?_
      have hbi := byte_le s i.toNat (by omega)
      refine EVo_e rfl (D_call false (unit_inner _ (by omega) (by omega)) rfl (φd rfl φn)) ?_
      iterate 2 refine τ ?_
      refine EV_cond rfl rfl rfl (fun hb6 => ?_) (fun hb6 => ?_)
      ·try simp only [zz] at hb6
       have hz := hb6
       iterate 5 refine τ ?_
       refine ⟨_, ⟨rfl, rfl⟩, fit_eq rfl nofun ?_⟩
       ·refine congrArg ib ?_
        rw [hw]; symm; rw [List.all_eq_false]; exact ⟨i.toNat, List.mem_range.2 (by omega), by rw [by_at s _ (by omega)]; simpa using hz⟩
      ·try simp only [zz] at hb6
       have hz := hb6
       iterate 5 refine τ ?_
       refine ⟨_, ?_, ω ⟨_, ⟨i + 1, rfl, rfl, ?_⟩, W_keep2 _ _ ⟨rfl, rfl, rfl, trivial⟩ trivial rfl⟩⟩
       ·omega
       ·refine ⟨by omega, by omega, fun j hj => ?_⟩
        by_cases e : j = i.toNat
        ·subst e; rw [by_at s _ (by omega)]; simpa using hz
        ·exact h2 j (by omega)
     ·try simp only [zz] at hb5
      iterate 6 refine τ ?_
      refine ⟨_, ⟨rfl, rfl⟩, fit_eq rfl nofun ?_⟩
      ·refine congrArg ib ?_
       rw [hw]; symm; rw [List.all_eq_true]; exact fun j hj => h2 j (by have := List.mem_range.1 hj; omega)

theorem unit_atom (k n : Int) (s : ByteArray) (hs : s.size ≤ 4611686018427387904) : Fn Tryz.prog 226 [.agg [ii k, ii n, sd s]] false (.one (.d (ib (atomB k n s)))) := by
 refine Fn_of_EV Tryz.func226 rfl (by kernel_rfl) rfl rfl (fun E hE => ?_)
 iterate 2 refine τ ?_
 refine EVo_e rfl (D_box 1 (hE 1 rfl) Free_no rfl) ?_
 iterate 15 refine τ ?_
 refine EV_cond rfl rfl rfl (fun hb1 => ?_) (fun hb1 => ?_)
 ·try simp only [zz] at hb1
  refine τ ?_
  refine EV_cond rfl rfl rfl (fun _ => ?_) (fun h => by first | cases h | (exfalso; simp_all; done))
  iterate 4 refine τ ?_
  refine EVo_e rfl (D_call false (unit_number _) rfl (φd rfl φn)) ?_
  refine τ ?_
  refine EVo_case 11 rfl (fun hb2 => ?_) (fun hb2 => ?_)
  ·try simp only [zz] at hb2
   iterate 7 refine τ ?_
   refine ⟨_, ⟨rfl, rfl⟩, fit_eq rfl nofun ?_⟩
   ·refine congrArg ib ?_
    unfold atomB
    simp_all
  ·try simp only [zz] at hb2
   iterate 7 refine τ ?_
   refine ⟨_, ⟨rfl, rfl⟩, fit_eq rfl nofun ?_⟩
   ·refine congrArg ib ?_
    unfold atomB
    simp_all
 ·try simp only [zz] at hb1
  iterate 4 refine τ ?_
  refine EV_cond rfl rfl rfl (fun hb3 => ?_) (fun hb3 => ?_)
  ·try simp only [zz] at hb3
   iterate 4 refine τ ?_
   refine EVo_e rfl (D_call false (unit_number _) rfl (φd rfl φn)) ?_
   refine τ ?_
   refine EVo_case 11 rfl (fun hb4 => ?_) (fun hb4 => ?_)
   ·try simp only [zz] at hb4
    iterate 7 refine τ ?_
    refine ⟨_, ⟨rfl, rfl⟩, fit_eq rfl nofun ?_⟩
    ·refine congrArg ib ?_
     unfold atomB
     simp_all
   ·try simp only [zz] at hb4
    iterate 7 refine τ ?_
    refine ⟨_, ⟨rfl, rfl⟩, fit_eq rfl nofun ?_⟩
    ·refine congrArg ib ?_
     unfold atomB
     simp_all
  ·try simp only [zz] at hb3
   iterate 5 refine τ ?_
   refine EV_cond rfl rfl rfl (fun hb5 => ?_) (fun hb5 => ?_)
   ·try simp only [zz] at hb5
    iterate 6 refine τ ?_
    refine EVo_case 21 rfl (fun hb6 => ?_) (fun hb6 => ?_)
    ·try simp only [zz] at hb6
     iterate 2 refine τ ?_
     refine EVo_e rfl (D_call false (unit_word _ (by omega)) rfl (φd rfl φn)) ?_
     iterate 4 refine τ ?_
     refine ⟨_, ⟨rfl, rfl⟩, fit_eq rfl nofun ?_⟩
     ·refine congrArg ib ?_
      unfold atomB
      simp_all
    ·try simp only [zz] at hb6
     iterate 7 refine τ ?_
     refine ⟨_, ⟨rfl, rfl⟩, fit_eq rfl nofun ?_⟩
     ·refine congrArg ib ?_
      unfold atomB
      simp_all
   ·try simp only [zz] at hb5
    iterate 5 refine τ ?_
    refine EV_cond rfl rfl rfl (fun hb7 => ?_) (fun hb7 => ?_)
    ·try simp only [zz] at hb7
     iterate 6 refine τ ?_
     refine EVo_case 31 rfl (fun hb8 => ?_) (fun hb8 => ?_)
     ·try simp only [zz] at hb8
      iterate 7 refine τ ?_
      refine ⟨_, ⟨rfl, rfl⟩, fit_eq rfl nofun ?_⟩
      ·refine congrArg ib ?_
       unfold atomB
       simp_all
     ·try simp only [zz] at hb8
      iterate 7 refine τ ?_
      refine ⟨_, ⟨rfl, rfl⟩, fit_eq rfl nofun ?_⟩
      ·refine congrArg ib ?_
       unfold atomB
       simp_all
    ·try simp only [zz] at hb7
     iterate 6 refine τ ?_
     refine ⟨_, ⟨rfl, rfl⟩, fit_eq rfl nofun ?_⟩
     ·refine congrArg ib ?_
      unfold atomB
      simp_all

end Go.Proofs.YthaiegnohkiegaaGreat.Ab
/-
 Contracts of the functions of package unit: units; of typ: nodes.
-/
namespace Go.Proofs.YthaiegnohkiegaaGreat.Ab
set_option linter.unusedVariables false
set_option linter.unusedSimpArgs false
set_option maxRecDepth 20000
set_option maxHeartbeats 4000000
attribute [local irreducible] Tells Does EVo EV EVq EVr TellsC


theorem unit_good (u : List Pw) (hu : szU u) : Fn Tryz.prog 204 [.d (encU u)] false (.one (.d (ib (goodU u)))) := by
 refine Fn_of_EV Tryz.func204 rfl (by kernel_rfl) rfl rfl (fun E hE => ?_)
 iterate 12 refine τ ?_
 have hul := hu.1
 refine EV_wl (fun mm S => ∃ i : Int, mm = ((u.length : Int) - i).toNat ∧ S = St.of [(0, V.c (.d false (encU u))), (5, V.c (.d false (encU u))), (6, vi .i64 u.length), (7, vi .i64 i)] (tabO []) 45 ∧ 0 ≤ i ∧ i ≤ u.length ∧ ∀ j, j < i.toNat → okAt u j = true) _ ⟨_, ⟨0, rfl, rfl, ⟨by omega, by omega, fun j hj => absurd hj (Nat.not_lt_zero _)⟩⟩, W_keep2 _ _ ⟨rfl, rfl, rfl, rfl, trivial⟩ trivial rfl⟩ ?_
 rintro mm S ⟨i, rfl, rfl, ⟨h0, h1, h2⟩⟩
 iterate 5 refine τ ?_
 refine EV_cond rfl rfl rfl (fun hb1 => ?_) (fun hb1 => ?_)
 ·try simp only [zz] at hb1
  have ei : (i.toNat : Int) = i := by omega
  obtain ⟨hp1, hp2, hp3⟩ := szU_rd hu h0 (by omega)
  iterate 8 refine τ ?_
  refine EVo_e rfl (D_alloc 1 (hE 1 rfl) Free_no zr84 rfl) ?_
  iterate 4 refine τ ?_
  refine EV_draw (inX [1]) (.st 0 (.st 1 (.one 2 (.st 3 (.st 4 (.st 5 (.st 6 (.one 7 (.st 8 (.st 9 (.st 10 (.st 11 (.st 12 (.one 13 (.st 14 (.st 15 (.st 16 (.st 17 (.st 18 (.st 19 (.st 20 (.st 21 (.st 22 (.st 23 (.st 24 (.st 25 (.st 26 (.st 27 (.one 28 (.st 29 (.st 30 (.st 31 .done)))))))))))))))))))))))))))))))) Tryz.mixed (by kernel_rfl) ?_
  refine EVq_t rfl rfl (T_faR (fOk rfl) (zOk rfl) rfl) ?_
  refine EVq_t rfl rfl (T_loadRA (gOk rfl) (zOk rfl) rfl rfl (Nat.le_of_ble_eq_true rfl) rfl rfl) ?_
  refine EVq_e rfl rfl (D_call false (unit_atom _ _ _ (by omega)) rfl (φa rfl φn)) ?_
  refine EVq_t rfl rfl (T_un rfl rfl) ?_
  refine EVq_t rfl rfl (T_move rfl) ?_
  refine EVq_case 16 rfl (fun hb2 => ?_) (fun hb2 => ?_)
  ·try simp only [zz] at hb2
   refine EVq_off rfl rfl ?_
   refine EVq_off rfl rfl ?_
   refine EVq_e_off rfl rfl ?_
   refine EVq_off rfl rfl ?_
   refine EVq_t rfl rfl (T_pick rfl rfl) ?_
   refine EVq_t rfl rfl (T_move rfl) ?_
   refine EVq_off rfl rfl ?_
   refine EVq_off rfl rfl ?_
   refine EVq_e_off rfl rfl ?_
   refine EVq_off rfl rfl ?_
   refine EVq_t rfl rfl (T_pick rfl rfl) ?_
   refine EVq_t rfl rfl (T_move rfl) ?_
   refine EVq_off rfl rfl ?_
   refine EVq_off rfl rfl ?_
   refine EVq_off rfl rfl ?_
   refine EVq_off rfl rfl ?_
   refine EVq_off rfl rfl ?_
   refine EVq_off rfl rfl ?_
   refine EVq_off rfl rfl ?_
   refine EVq_off rfl rfl ?_
   refine EVq_off rfl rfl ?_
   refine EVq_off rfl rfl ?_
   refine EVq_off rfl rfl ?_
   refine EVq_e_off rfl rfl ?_
   refine EVq_off rfl rfl ?_
   refine EVq_off rfl rfl ?_
   refine EVq_t rfl rfl (T_pick rfl rfl) ?_
   refine EVq_done ?_
   refine EV_cond rfl rfl rfl (fun _ => ?_) (fun h => by first | cases h | (exfalso; simp_all; done))
   iterate 5 refine τ ?_
   refine ⟨_, ⟨rfl, rfl⟩, fit_eq rfl nofun ?_⟩
   ·refine congrArg ib ?_
    first | exact (goodU_true fun j hj => h2 j (by omega)).symm | (symm; refine goodU_false (i := i.toNat) (by omega) ?_; unfold okAt; simp only [ei]; rcases hz : goodZ (rd u i).neg (rd u i).mag <;> by_cases hl : 0 < (rd u i).mag.length <;> rcases hn : (rd u i).neg <;> simp_all <;> omega)
  ·try simp only [zz] at hb2
   refine EVq_t rfl rfl (T_faR (fOk rfl) (zOk rfl) rfl) ?_
   refine EVq_t rfl rfl (T_loadRA (gOk rfl) (zOk rfl) rfl rfl (Nat.le_of_ble_eq_true rfl) rfl rfl) ?_
   refine EVq_e rfl rfl (D_call false (whole_CheckG _ _ (by omega)) rfl (φa rfl φn)) ?_
   refine EVq_t rfl rfl (T_bin rfl rfl rfl) ?_
   refine EVq_t rfl rfl (T_pick rfl rfl) ?_
   refine EVq_t rfl rfl (T_move rfl) ?_
   refine EVq_case 22 rfl (fun hb3 => ?_) (fun hb3 => ?_)
   ·try simp only [zz] at hb3
    refine EVq_off rfl rfl ?_
    refine EVq_off rfl rfl ?_
    refine EVq_e_off rfl rfl ?_
    refine EVq_off rfl rfl ?_
    refine EVq_t rfl rfl (T_pick rfl rfl) ?_
    refine EVq_t rfl rfl (T_move rfl) ?_
    refine EVq_off rfl rfl ?_
    refine EVq_off rfl rfl ?_
    refine EVq_off rfl rfl ?_
    refine EVq_off rfl rfl ?_
    refine EVq_off rfl rfl ?_
    refine EVq_off rfl rfl ?_
    refine EVq_off rfl rfl ?_
    refine EVq_off rfl rfl ?_
    refine EVq_off rfl rfl ?_
    refine EVq_off rfl rfl ?_
    refine EVq_off rfl rfl ?_
    refine EVq_e_off rfl rfl ?_
    refine EVq_off rfl rfl ?_
    refine EVq_off rfl rfl ?_
    refine EVq_t rfl rfl (T_pick rfl rfl) ?_
    refine EVq_done ?_
    refine EV_cond rfl rfl rfl (fun _ => ?_) (fun h => by first | cases h | (exfalso; simp_all; done))
    iterate 5 refine τ ?_
    refine ⟨_, ⟨rfl, rfl⟩, fit_eq rfl nofun ?_⟩
    ·refine congrArg ib ?_
     first | exact (goodU_true fun j hj => h2 j (by omega)).symm | (symm; refine goodU_false (i := i.toNat) (by omega) ?_; unfold okAt; simp only [ei]; rcases hz : goodZ (rd u i).neg (rd u i).mag <;> by_cases hl : 0 < (rd u i).mag.length <;> rcases hn : (rd u i).neg <;> simp_all <;> omega)
   ·try simp only [zz] at hb3
    refine EVq_t rfl rfl (T_faR (fOk rfl) (zOk rfl) rfl) ?_
    refine EVq_t rfl rfl (T_loadRA (gOk rfl) (zOk rfl) rfl rfl (Nat.le_of_ble_eq_true rfl) rfl rfl) ?_
    refine EVq_e rfl rfl (D_call false (whole_Sign _ _ (by omega)) rfl (φa rfl φn)) ?_
    refine EVq_t rfl rfl (T_bin rfl rfl rfl) ?_
    refine EVq_t rfl rfl (T_pick rfl rfl) ?_
    refine EVq_t rfl rfl (T_move rfl) ?_
    refine EVq_case 28 rfl (fun hb4 => ?_) (fun hb4 => ?_)
    ·try simp only [zz] at hb4
     refine EVq_off rfl rfl ?_
     refine EVq_off rfl rfl ?_
     refine EVq_off rfl rfl ?_
     refine EVq_off rfl rfl ?_
     refine EVq_off rfl rfl ?_
     refine EVq_off rfl rfl ?_
     refine EVq_off rfl rfl ?_
     refine EVq_off rfl rfl ?_
     refine EVq_off rfl rfl ?_
     refine EVq_off rfl rfl ?_
     refine EVq_off rfl rfl ?_
     refine EVq_e_off rfl rfl ?_
     refine EVq_off rfl rfl ?_
     refine EVq_off rfl rfl ?_
     refine EVq_t rfl rfl (T_pick rfl rfl) ?_
     refine EVq_done ?_
     refine EV_cond rfl rfl rfl (fun _ => ?_) (fun h => by first | cases h | (exfalso; simp_all; done))
     iterate 5 refine τ ?_
     refine ⟨_, ⟨rfl, rfl⟩, fit_eq rfl nofun ?_⟩
     ·refine congrArg ib ?_
      first | exact (goodU_true fun j hj => h2 j (by omega)).symm | (symm; refine goodU_false (i := i.toNat) (by omega) ?_; unfold okAt; simp only [ei]; rcases hz : goodZ (rd u i).neg (rd u i).mag <;> by_cases hl : 0 < (rd u i).mag.length <;> rcases hn : (rd u i).neg <;> simp_all <;> omega)
    ·try simp only [zz] at hb4
     refine EVq_t rfl rfl (T_move rfl) ?_
     refine EVq_t rfl rfl (T_bin rfl rfl rfl) ?_
     refine EVq_t rfl rfl (T_move rfl) ?_
     refine EVq_case 31 rfl (fun hb5 => ?_) (fun hb5 => ?_)
     ·try simp only [zz] at hb5
      refine EVq_t rfl rfl (T_move rfl) ?_
      refine EVq_t rfl rfl (T_move rfl) ?_
      refine EVq_t rfl rfl (T_binI rfl rfl rfl (by omega) (by omega)) ?_
      refine EVq_t rfl rfl (T_ixL (uOk rfl) (zOk rfl) rfl rfl (by omega) (by omega) rfl) ?_
      refine EVq_t rfl rfl (T_fa (fOk rfl) (zOk rfl) rfl (Nat.le_of_ble_eq_true rfl)) ?_
      refine EVq_t rfl rfl (T_loadA (gOk rfl) (zOk rfl) rfl (Nat.le_of_ble_eq_true rfl)) ?_
      refine EVq_t rfl rfl (T_faR (fOk rfl) (zOk rfl) rfl) ?_
      refine EVq_t rfl rfl (T_loadRA (gOk rfl) (zOk rfl) rfl rfl (Nat.le_of_ble_eq_true rfl) rfl rfl) ?_
      refine EVq_e rfl rfl (D_call false (unit_order _ _ _ _ _ _) rfl (φa rfl (φa rfl φn))) ?_
      refine EVq_t rfl rfl (T_bin rfl rfl rfl) ?_
      refine EVq_t rfl rfl (T_pick rfl rfl) ?_
      refine EVq_t rfl rfl (T_pick rfl rfl) ?_
      refine EVq_done ?_
      refine EV_cond rfl rfl rfl (fun hb6 => ?_) (fun hb6 => ?_)
      ·try simp only [zz] at hb6
       iterate 5 refine τ ?_
       refine ⟨_, ⟨rfl, rfl⟩, fit_eq rfl nofun ?_⟩
       ·refine congrArg ib ?_
        first | exact (goodU_true fun j hj => h2 j (by omega)).symm | (symm; refine goodU_false (i := i.toNat) (by omega) ?_; unfold okAt; simp only [ei]; rcases hz : goodZ (rd u i).neg (rd u i).mag <;> by_cases hl : 0 < (rd u i).mag.length <;> rcases hn : (rd u i).neg <;> simp_all <;> omega)
      ·try simp only [zz] at hb6
       iterate 5 refine τ ?_
       refine ⟨_, ?_, ω ⟨_, ⟨i + 1, rfl, rfl, ?_⟩, W_keep2 _ _ ⟨rfl, rfl, rfl, rfl, trivial⟩ trivial rfl⟩⟩
       ·omega
       ·refine ⟨by omega, by omega, fun j hj => ?_⟩
        by_cases e : j = i.toNat
        ·subst e
         unfold okAt
         simp only [ei]
         rcases hz : goodZ (rd u i).neg (rd u i).mag <;> by_cases hl : 0 < (rd u i).mag.length <;> rcases hn : (rd u i).neg <;> simp_all <;> omega
        ·exact h2 j (by omega)
     ·try simp only [zz] at hb5
      refine EVq_off rfl rfl ?_
      refine EVq_off rfl rfl ?_
      refine EVq_off rfl rfl ?_
      refine EVq_off rfl rfl ?_
      refine EVq_off rfl rfl ?_
      refine EVq_off rfl rfl ?_
      refine EVq_off rfl rfl ?_
      refine EVq_off rfl rfl ?_
      refine EVq_e_off rfl rfl ?_
      refine EVq_off rfl rfl ?_
      refine EVq_t rfl rfl (T_pick rfl rfl) ?_
      refine EVq_t rfl rfl (T_pick rfl rfl) ?_
      refine EVq_done ?_
      refine EV_cond rfl rfl rfl (fun h => by first | cases h | (exfalso; simp_all; done)) (fun _ => ?_)
      iterate 5 refine τ ?_
      refine ⟨_, ?_, ω ⟨_, ⟨i + 1, rfl, rfl, ?_⟩, W_keep2 _ _ ⟨rfl, rfl, rfl, rfl, trivial⟩ trivial rfl⟩⟩
      ·omega
      ·refine ⟨by omega, by omega, fun j hj => ?_⟩
       by_cases e : j = i.toNat
       ·subst e
        unfold okAt
        simp only [ei]
        rcases hz : goodZ (rd u i).neg (rd u i).mag <;> by_cases hl : 0 < (rd u i).mag.length <;> rcases hn : (rd u i).neg <;> simp_all <;> omega
       ·exact h2 j (by omega)
 ·try simp only [zz] at hb1
  iterate 6 refine τ ?_
  refine ⟨_, ⟨rfl, rfl⟩, fit_eq rfl nofun ?_⟩
  ·refine congrArg ib ?_
   first | exact (goodU_true fun j hj => h2 j (by omega)).symm | (symm; refine goodU_false (i := i.toNat) (by omega) ?_; unfold okAt; simp only [ei]; rcases hz : goodZ (rd u i).neg (rd u i).mag <;> by_cases hl : 0 < (rd u i).mag.length <;> rcases hn : (rd u i).neg <;> simp_all <;> omega)

theorem unit_Check (u : List Pw) (hu : szU u) : Fn Tryz.prog 202 [.d (encU u)] false (.one (.d (ii (if goodU u then 0 else 60)))) := by
 refine Fn_of_EV Tryz.func202 rfl (by kernel_rfl) rfl rfl (fun E hE => ?_)
 iterate 8 refine τ ?_
 refine EVo_e rfl (D_call false (unit_good _ (by assumption)) rfl (φd rfl φn)) ?_
 refine τ ?_
 refine EV_cond rfl rfl rfl (fun hb1 => ?_) (fun hb1 => ?_)
 ·try simp only [zz] at hb1
  iterate 5 refine τ ?_
  refine ⟨_, ⟨rfl, rfl⟩, fit_eq rfl nofun ?_⟩
  ·rw [if_pos hb1]
 ·try simp only [zz] at hb1
  iterate 6 refine τ ?_
  refine ⟨_, ⟨rfl, rfl⟩, fit_eq rfl nofun ?_⟩
  ·rw [if_neg (by simp [hb1])]

theorem idx_Pw (u : List Pw) (f : FuncId) (p : Pw → Bool) (hu : u.length ≤ 4611686018427387904) (hf : ∀ x ∈ u, Fn Tryz.prog f [.agg (encPw x)] false (.one (.d (ib (p x))))) : Fn Tryz.prog 126 [.d (.sl (u.map encPw)), .d (.fn (.func f) [] [])] false (.one (.d (ii (idxF p u)))) := by
 refine Fn_of_EV Tryz.func126 rfl (by kernel_rfl) rfl rfl (fun E hE => ?_)
 iterate 12 refine τ ?_
 refine EV_wl (fun mm S => ∃ i : Int, mm = ((u.length : Int) - i).toNat ∧ S = St.of [(0, V.c (.d false (.sl (u.map encPw)))), (1, V.c (.d false (.fn (.func f) [] []))), (7, vi .i64 u.length), (8, vi .i64 i)] (tabO []) 19 ∧ 0 ≤ i ∧ i ≤ u.length ∧ ∀ j, j < i.toNat → p (rd u (j : Int)) = false) _ ⟨_, ⟨0, rfl, rfl, ⟨by omega, by omega, fun j hj => absurd hj (Nat.not_lt_zero _)⟩⟩, W_keep2 _ _ ⟨rfl, rfl, rfl, rfl, trivial⟩ trivial rfl⟩ ?_
 rintro mm S ⟨i, rfl, rfl, ⟨h0, h1, h2⟩⟩
 have ei : (i.toNat : Int) = i := by omega
 iterate 5 refine τ ?_
 refine EV_cond rfl rfl rfl (fun hb1 => ?_) (fun hb1 => ?_)
 ·try simp only [zz] at hb1
  iterate 15 refine τ ?_
  refine EVo_e rfl (D_call false (hf _ (mem_rd h0 (by omega))) rfl (φa rfl φn)) ?_
  refine τ ?_
  refine EV_cond rfl rfl rfl (fun hb2 => ?_) (fun hb2 => ?_)
  ·try simp only [zz] at hb2
   have hz := hb2
   iterate 6 refine τ ?_
   refine ⟨_, ⟨rfl, rfl⟩, fit_eq rfl nofun ?_⟩
   ·have := idxF_found (p := p) (u := u) (i := i.toNat) (by omega) (by rw [ei]; exact hz) h2
    rw [this, ei]
  ·try simp only [zz] at hb2
   have hz := hb2
   iterate 5 refine τ ?_
   refine ⟨_, ?_, ω ⟨_, ⟨i + 1, rfl, rfl, ?_⟩, W_keep2 _ _ ⟨rfl, rfl, rfl, rfl, trivial⟩ trivial rfl⟩⟩
   ·omega
   ·refine ⟨by omega, by omega, fun j hj => ?_⟩
    by_cases e : j = i.toNat
    ·subst e; rw [ei]; simpa using hz
    ·exact h2 j (by omega)
 ·try simp only [zz] at hb1
  iterate 6 refine τ ?_
  refine ⟨_, ⟨rfl, rfl⟩, fit_eq rfl nofun ?_⟩
  ·rw [idxF_none fun j hj => h2 j (by omega)]

theorem has_Pw (u : List Pw) (f : FuncId) (p : Pw → Bool) (hu : u.length ≤ 4611686018427387904) (hf : ∀ x ∈ u, Fn Tryz.prog f [.agg (encPw x)] false (.one (.d (ib (p x))))) : Fn Tryz.prog 87 [.d (.sl (u.map encPw)), .d (.fn (.func f) [] [])] false (.one (.d (ib (u.any p)))) := by
 refine Fn_of_EV Tryz.func87 rfl (by kernel_rfl) rfl rfl (fun E hE => ?_)
 iterate 8 refine τ ?_
 refine EVo_e rfl (D_call false (idx_Pw u f p hu hf) rfl (φd rfl (φd rfl φn))) ?_
 iterate 4 refine τ ?_
 refine ⟨_, ⟨rfl, rfl⟩, fit_eq rfl nofun ?_⟩
 ·exact congrArg ib (idxF_any p u)

theorem idx_Un (u : List (List Pw)) (f : FuncId) (p : (List Pw) → Bool) (hu : u.length ≤ 4611686018427387904) (hf : ∀ x ∈ u, Fn Tryz.prog f [.d (encU x)] false (.one (.d (ib (p x))))) : Fn Tryz.prog 201 [.d (.sl (u.map (fun u => [encU u]))), .d (.fn (.func f) [] [])] false (.one (.d (ii (idxF p u)))) := by
 refine Fn_of_EV Tryz.func201 rfl (by kernel_rfl) rfl rfl (fun E hE => ?_)
 iterate 12 refine τ ?_
 refine EV_wl (fun mm S => ∃ i : Int, mm = ((u.length : Int) - i).toNat ∧ S = St.of [(0, V.c (.d false (.sl (u.map (fun u => [encU u]))))), (1, V.c (.d false (.fn (.func f) [] []))), (7, vi .i64 u.length), (8, vi .i64 i)] (tabO []) 19 ∧ 0 ≤ i ∧ i ≤ u.length ∧ ∀ j, j < i.toNat → p (rd u (j : Int)) = false) _ ⟨_, ⟨0, rfl, rfl, ⟨by omega, by omega, fun j hj => absurd hj (Nat.not_lt_zero _)⟩⟩, W_keep2 _ _ ⟨rfl, rfl, rfl, rfl, trivial⟩ trivial rfl⟩ ?_
 rintro mm S ⟨i, rfl, rfl, ⟨h0, h1, h2⟩⟩
 have ei : (i.toNat : Int) = i := by omega
 iterate 5 refine τ ?_
 refine EV_cond rfl rfl rfl (fun hb1 => ?_) (fun hb1 => ?_)
 ·try simp only [zz] at hb1
  iterate 15 refine τ ?_
  refine EVo_e rfl (D_call false (hf _ (mem_rd h0 (by omega))) rfl (φd rfl φn)) ?_
  refine τ ?_
  refine EV_cond rfl rfl rfl (fun hb2 => ?_) (fun hb2 => ?_)
  ·try simp only [zz] at hb2
   have hz := hb2
   iterate 6 refine τ ?_
   refine ⟨_, ⟨rfl, rfl⟩, fit_eq rfl nofun ?_⟩
   ·have := idxF_found (p := p) (u := u) (i := i.toNat) (by omega) (by rw [ei]; exact hz) h2
    rw [this, ei]
  ·try simp only [zz] at hb2
   have hz := hb2
   iterate 5 refine τ ?_
   refine ⟨_, ?_, ω ⟨_, ⟨i + 1, rfl, rfl, ?_⟩, W_keep2 _ _ ⟨rfl, rfl, rfl, rfl, trivial⟩ trivial rfl⟩⟩
   ·omega
   ·refine ⟨by omega, by omega, fun j hj => ?_⟩
    by_cases e : j = i.toNat
    ·subst e; rw [ei]; simpa using hz
    ·exact h2 j (by omega)
 ·try simp only [zz] at hb1
  iterate 6 refine τ ?_
  refine ⟨_, ⟨rfl, rfl⟩, fit_eq rfl nofun ?_⟩
  ·rw [idxF_none fun j hj => h2 j (by omega)]

theorem has_Un (u : List (List Pw)) (f : FuncId) (p : (List Pw) → Bool) (hu : u.length ≤ 4611686018427387904) (hf : ∀ x ∈ u, Fn Tryz.prog f [.d (encU x)] false (.one (.d (ib (p x))))) : Fn Tryz.prog 174 [.d (.sl (u.map (fun u => [encU u]))), .d (.fn (.func f) [] [])] false (.one (.d (ib (u.any p)))) := by
 refine Fn_of_EV Tryz.func174 rfl (by kernel_rfl) rfl rfl (fun E hE => ?_)
 iterate 8 refine τ ?_
 refine EVo_e rfl (D_call false (idx_Un u f p hu hf) rfl (φd rfl (φd rfl φn))) ?_
 iterate 4 refine τ ?_
 refine ⟨_, ⟨rfl, rfl⟩, fit_eq rfl nofun ?_⟩
 ·exact congrArg ib (idxF_any p u)

theorem typ_wild (p : Pw) : Fn Tryz.prog 203 [.agg (encPw p)] false (.one (.d (ib (wildB p)))) := by
 refine Fn_of_EV Tryz.func203 rfl (by kernel_rfl) rfl rfl (fun E hE => ?_)
 iterate 2 refine τ ?_
 refine EVo_e rfl (D_box 1 (hE 1 rfl) Free_no rfl) ?_
 iterate 11 refine τ ?_
 refine ⟨_, ⟨rfl, rfl⟩, fit_eq rfl nofun ?_⟩
 ·refine congrArg ib ?_
  unfold wildB
  first | rfl | simp

theorem scheme_rigidP (p : Pw) : Fn Tryz.prog 156 [.agg (encPw p)] false (.one (.d (ib (decide (p.k = 2))))) := by
 refine Fn_of_EV Tryz.func156 rfl (by kernel_rfl) rfl rfl (fun E hE => ?_)
 iterate 2 refine τ ?_
 refine EVo_e rfl (D_box 1 (hE 1 rfl) Free_no rfl) ?_
 iterate 11 refine τ ?_
 refine ⟨_, ⟨rfl, rfl⟩, fit_eq rfl nofun ?_⟩
 ·refine congrArg ib ?_
  first | rfl | simp

theorem typ_fine (u : List Pw) (hu : szU u) : Fn Tryz.prog 176 [.d (encU u)] false (.one (.d (ib (fineU u)))) := by
 refine Fn_of_EV Tryz.func176 rfl (by kernel_rfl) rfl rfl (fun E hE => ?_)
 iterate 7 refine τ ?_
 refine EVo_e rfl (D_call false (unit_Check _ (by assumption)) rfl (φd rfl φn)) ?_
 iterate 2 refine τ ?_
 refine EVo_case 6 rfl (fun hb1 => ?_) (fun hb1 => ?_)
 ·try simp only [zz] at hb1
  refine τ ?_
  refine EVo_e rfl (D_call false (has_Pw u 203 wildB (by have := hu.1; omega) (fun x _ => typ_wild x)) rfl (φd rfl (φd rfl φn))) ?_
  iterate 5 refine τ ?_
  refine ⟨_, ⟨rfl, rfl⟩, fit_eq rfl nofun ?_⟩
  ·refine congrArg ib ?_
   unfold fineU
   simp_all
 ·try simp only [zz] at hb1
  iterate 7 refine τ ?_
  refine ⟨_, ⟨rfl, rfl⟩, fit_eq rfl nofun ?_⟩
  ·refine congrArg ib ?_
   unfold fineU
   simp_all

theorem typ_notfine (u : List Pw) (hu : szU u) : Fn Tryz.prog 175 [.d (encU u)] false (.one (.d (ib (!fineU u)))) := by
 refine Fn_of_EV Tryz.func175 rfl (by kernel_rfl) rfl rfl (fun E hE => ?_)
 iterate 7 refine τ ?_
 refine EVo_e rfl (D_call false (typ_fine _ (by assumption)) rfl (φd rfl φn)) ?_
 iterate 4 refine τ ?_
 refine ⟨_, ⟨rfl, rfl⟩, fit_eq rfl nofun rfl⟩

theorem typ_number (n : Int) : Fn Tryz.prog 199 [.d (ii n)] false (.one (.d (ib (numB n)))) := by
 refine Fn_of_EV Tryz.func199 rfl (by kernel_rfl) rfl rfl (fun E hE => ?_)
 iterate 9 refine τ ?_
 refine EVo_case 5 rfl (fun hb1 => ?_) (fun hb1 => ?_)
 ·try simp only [zz] at hb1
  iterate 6 refine τ ?_
  refine ⟨_, ⟨rfl, rfl⟩, fit_eq rfl nofun ?_⟩
  ·refine congrArg ib ?_
   unfold numB
   simp_all <;> omega
 ·try simp only [zz] at hb1
  iterate 6 refine τ ?_
  refine ⟨_, ⟨rfl, rfl⟩, fit_eq rfl nofun ?_⟩
  ·refine congrArg ib ?_
   unfold numB
   simp_all <;> omega

theorem typ_keyword (s : ByteArray) : Fn Tryz.prog 225 [.d (sd s)] false (.one (.d (ib (keyB s)))) := by
 refine Fn_of_EV Tryz.func225 rfl (by kernel_rfl) rfl rfl (fun E hE => ?_)
 iterate 16 refine τ ?_
 refine EV_cond rfl rfl rfl (fun hb1 => ?_) (fun hb1 => ?_)
 ·try simp only [zz] at hb1
  refine τ ?_
  refine EV_cond rfl rfl rfl (fun _ => ?_) (fun h => by first | cases h | (exfalso; simp_all; done))
  iterate 5 refine τ ?_
  refine ⟨_, ⟨rfl, rfl⟩, fit_eq rfl nofun ?_⟩
  ·refine congrArg ib ?_
   unfold keyB kws
   simp_all
 ·try simp only [zz] at hb1
  iterate 5 refine τ ?_
  refine EV_cond rfl rfl rfl (fun hb2 => ?_) (fun hb2 => ?_)
  ·try simp only [zz] at hb2
   refine τ ?_
   refine EV_cond rfl rfl rfl (fun _ => ?_) (fun h => by first | cases h | (exfalso; simp_all; done))
   iterate 5 refine τ ?_
   refine ⟨_, ⟨rfl, rfl⟩, fit_eq rfl nofun ?_⟩
   ·refine congrArg ib ?_
    unfold keyB kws
    simp_all
  ·try simp only [zz] at hb2
   iterate 5 refine τ ?_
   refine EV_cond rfl rfl rfl (fun hb3 => ?_) (fun hb3 => ?_)
   ·try simp only [zz] at hb3
    refine τ ?_
    refine EV_cond rfl rfl rfl (fun _ => ?_) (fun h => by first | cases h | (exfalso; simp_all; done))
    iterate 5 refine τ ?_
    refine ⟨_, ⟨rfl, rfl⟩, fit_eq rfl nofun ?_⟩
    ·refine congrArg ib ?_
     unfold keyB kws
     simp_all
   ·try simp only [zz] at hb3
    iterate 5 refine τ ?_
    refine EV_cond rfl rfl rfl (fun hb4 => ?_) (fun hb4 => ?_)
    ·try simp only [zz] at hb4
     refine τ ?_
     refine EV_cond rfl rfl rfl (fun _ => ?_) (fun h => by first | cases h | (exfalso; simp_all; done))
     iterate 5 refine τ ?_
     refine ⟨_, ⟨rfl, rfl⟩, fit_eq rfl nofun ?_⟩
     ·refine congrArg ib ?_
      unfold keyB kws
      simp_all
    ·try simp only [zz] at hb4
     iterate 5 refine τ ?_
     refine EV_cond rfl rfl rfl (fun hb5 => ?_) (fun hb5 => ?_)
     ·try simp only [zz] at hb5
      refine τ ?_
      refine EV_cond rfl rfl rfl (fun _ => ?_) (fun h => by first | cases h | (exfalso; simp_all; done))
      iterate 5 refine τ ?_
      refine ⟨_, ⟨rfl, rfl⟩, fit_eq rfl nofun ?_⟩
      ·refine congrArg ib ?_
       unfold keyB kws
       simp_all
     ·try simp only [zz] at hb5
      iterate 5 refine τ ?_
      refine EV_cond rfl rfl rfl (fun hb6 => ?_) (fun hb6 => ?_)
      ·try simp only [zz] at hb6
       refine τ ?_
       refine EV_cond rfl rfl rfl (fun _ => ?_) (fun h => by first | cases h | (exfalso; simp_all; done))
       iterate 5 refine τ ?_
       refine ⟨_, ⟨rfl, rfl⟩, fit_eq rfl nofun ?_⟩
       ·refine congrArg ib ?_
        unfold keyB kws
        simp_all
      ·try simp only [zz] at hb6
       iterate 5 refine τ ?_
       refine EV_cond rfl rfl rfl (fun hb7 => ?_) (fun hb7 => ?_)
       ·try simp only [zz] at hb7
        refine τ ?_
        refine EV_cond rfl rfl rfl (fun _ => ?_) (fun h => by first | cases h | (exfalso; simp_all; done))
        iterate 5 refine τ ?_
        refine ⟨_, ⟨rfl, rfl⟩, fit_eq rfl nofun ?_⟩
        ·refine congrArg ib ?_
         unfold keyB kws
         simp_all
       ·try simp only [zz] at hb7
        iterate 5 refine τ ?_
        refine EV_cond rfl rfl rfl (fun hb8 => ?_) (fun hb8 => ?_)
        ·try simp only [zz] at hb8
         refine τ ?_
         refine EV_cond rfl rfl rfl (fun _ => ?_) (fun h => by first | cases h | (exfalso; simp_all; done))
         iterate 5 refine τ ?_
         refine ⟨_, ⟨rfl, rfl⟩, fit_eq rfl nofun ?_⟩
         ·refine congrArg ib ?_
          unfold keyB kws
          simp_all
        ·try simp only [zz] at hb8
         iterate 5 refine τ ?_
         refine EV_cond rfl rfl rfl (fun hb9 => ?_) (fun hb9 => ?_)
         ·try simp only [zz] at hb9
          refine τ ?_
          refine EV_cond rfl rfl rfl (fun _ => ?_) (fun h => by first | cases h | (exfalso; simp_all; done))
          iterate 5 refine τ ?_
          refine ⟨_, ⟨rfl, rfl⟩, fit_eq rfl nofun ?_⟩
          ·refine congrArg ib ?_
           unfold keyB kws
           simp_all
         ·try simp only [zz] at hb9
          iterate 5 refine τ ?_
          refine EV_cond rfl rfl rfl (fun hb10 => ?_) (fun hb10 => ?_)
          ·try simp only [zz] at hb10
           refine τ ?_
           refine EV_cond rfl rfl rfl (fun _ => ?_) (fun h => by first | cases h | (exfalso; simp_all; done))
           iterate 5 refine τ ?_
           refine ⟨_, ⟨rfl, rfl⟩, fit_eq rfl nofun ?_⟩
           ·refine congrArg ib ?_
            unfold keyB kws
            simp_all
          ·try simp only [zz] at hb10
           iterate 5 refine τ ?_
           refine EV_cond rfl rfl rfl (fun hb11 => ?_) (fun hb11 => ?_)
           ·try simp only [zz] at hb11
            refine τ ?_
            refine EV_cond rfl rfl rfl (fun _ => ?_) (fun h => by first | cases h | (exfalso; simp_all; done))
            iterate 5 refine τ ?_
            refine ⟨_, ⟨rfl, rfl⟩, fit_eq rfl nofun ?_⟩
            ·refine congrArg ib ?_
             unfold keyB kws
             simp_all
           ·try simp only [zz] at hb11
            iterate 5 refine τ ?_
            refine EV_cond rfl rfl rfl (fun hb12 => ?_) (fun hb12 => ?_)
            ·try simp only [zz] at hb12
             refine τ ?_
             refine EV_cond rfl rfl rfl (fun _ => ?_) (fun h => by first | cases h | (exfalso; simp_all; done))
             iterate 5 refine τ ?_
             refine ⟨_, ⟨rfl, rfl⟩, fit_eq rfl nofun ?_⟩
             ·refine congrArg ib ?_
              unfold keyB kws
              simp_all
            ·try simp only [zz] at hb12
             iterate 5 refine τ ?_
             refine EV_cond rfl rfl rfl (fun hb13 => ?_) (fun hb13 => ?_)
             ·try simp only [zz] at hb13
              refine τ ?_
              refine EV_cond rfl rfl rfl (fun _ => ?_) (fun h => by first | cases h | (exfalso; simp_all; done))
              iterate 5 refine τ ?_
              refine ⟨_, ⟨rfl, rfl⟩, fit_eq rfl nofun ?_⟩
              ·refine congrArg ib ?_
               unfold keyB kws
               simp_all
             ·try simp only [zz] at hb13
              iterate 5 refine τ ?_
              refine EV_cond rfl rfl rfl (fun hb14 => ?_) (fun hb14 => ?_)
              ·try simp only [zz] at hb14
               refine τ ?_
               refine EV_cond rfl rfl rfl (fun _ => ?_) (fun h => by first | cases h | (exfalso; simp_all; done))
               iterate 5 refine τ ?_
               refine ⟨_, ⟨rfl, rfl⟩, fit_eq rfl nofun ?_⟩
               ·refine congrArg ib ?_
                unfold keyB kws
                simp_all
              ·try simp only [zz] at hb14
               iterate 5 refine τ ?_
               refine EV_cond rfl rfl rfl (fun hb15 => ?_) (fun hb15 => ?_)
               ·try simp only [zz] at hb15
                refine τ ?_
                refine EV_cond rfl rfl rfl (fun _ => ?_) (fun h => by first | cases h | (exfalso; simp_all; done))
                iterate 5 refine τ ?_
                refine ⟨_, ⟨rfl, rfl⟩, fit_eq rfl nofun ?_⟩
                ·refine congrArg ib ?_
                 unfold keyB kws
                 simp_all
               ·try simp only [zz] at hb15
                iterate 5 refine τ ?_
                refine EV_cond rfl rfl rfl (fun hb16 => ?_) (fun hb16 => ?_)
                ·try simp only [zz] at hb16
                 refine τ ?_
                 refine EV_cond rfl rfl rfl (fun _ => ?_) (fun h => by first | cases h | (exfalso; simp_all; done))
                 iterate 5 refine τ ?_
                 refine ⟨_, ⟨rfl, rfl⟩, fit_eq rfl nofun ?_⟩
                 ·refine congrArg ib ?_
                  unfold keyB kws
                  simp_all
                ·try simp only [zz] at hb16
                 iterate 4 refine τ ?_
                 refine EV_cond rfl rfl rfl (fun hb17 => ?_) (fun hb17 => ?_)
                 ·try simp only [zz] at hb17
                  iterate 5 refine τ ?_
                  refine ⟨_, ⟨rfl, rfl⟩, fit_eq rfl nofun ?_⟩
                  ·refine congrArg ib ?_
                   unfold keyB kws
                   simp_all
                 ·try simp only [zz] at hb17
                  iterate 6 refine τ ?_
                  refine ⟨_, ⟨rfl, rfl⟩, fit_eq rfl nofun ?_⟩
                  ·refine congrArg ib ?_
                   unfold keyB kws
                   simp_all

theorem typ_word (s : ByteArray) (hs : s.size ≤ 4611686018427387904) : Fn Tryz.prog 200 [.d (sd s)] false (.one (.d (ib (twordB s)))) := by
 refine Fn_of_EV Tryz.func200 rfl (by kernel_rfl) rfl rfl (fun E hE => ?_)
 iterate 7 refine τ ?_
 refine EVo_e rfl (D_call false (typ_keyword _) rfl (φd rfl φn)) ?_
 iterate 2 refine τ ?_
 refine EVo_case 6 rfl (fun hb1 => ?_) (fun hb1 => ?_)
 ·try simp only [zz] at hb1
  refine τ ?_
  refine EVo_t rfl (T_build ly69 rfl rfl) ?_
  refine EVo_e rfl (D_buildSlice (uOk rfl) bz58 rfl rfl rfl (by simp)) ?_
  refine EVo_t rfl (T_build ly38 rfl rfl) ?_
  refine EVo_t rfl (T_build ly84 rfl rfl) ?_
  refine EVo_e rfl (D_buildSlice (uOk rfl) bz84 rfl rfl rfl (by simp)) ?_
  refine EVo_e rfl (D_call false (unit_Check [⟨3, 0, s, false, [1]⟩] ⟨by simp, by intro p hp; simp at hp; subst hp; exact ⟨by simp, by intro y hy; simp at hy; omega, hs⟩⟩) rfl (φd rfl φn)) ?_
  iterate 5 refine τ ?_
  refine ⟨_, ⟨rfl, rfl⟩, fit_eq rfl nofun ?_⟩
  ·refine congrArg ib ?_
   unfold twordB
   cases hg : goodU [⟨3, 0, s, false, [1]⟩] <;> simp_all
 ·try simp only [zz] at hb1
  iterate 12 refine τ ?_
  refine ⟨_, ⟨rfl, rfl⟩, fit_eq rfl nofun ?_⟩
  ·refine congrArg ib ?_
   unfold twordB
   cases hg : goodU [⟨3, 0, s, false, [1]⟩] <;> simp_all

theorem typ_shaped (t : Ty) (ht : szT t) : Fn Tryz.prog 173 [.agg (tyD t)] false (.one (.d (ib (shapedB t)))) := by
 have hz := szT_eq ht
 obtain ⟨hz1, hz2, hz3, _, _⟩ := hz
 refine Fn_of_EV Tryz.func173 rfl (by kernel_rfl) rfl rfl (fun E hE => ?_)
 iterate 2 refine τ ?_
 refine EVo_e rfl (D_box 1 (hE 1 rfl) Free_no rfl) ?_
 iterate 3 refine τ ?_
 refine EV_draw (inX [1]) (.st 0 (.st 1 (.st 2 (.st 3 (.st 4 (.st 5 (.st 6 (.st 7 .done)))))))) Tryz.mixed (by kernel_rfl) ?_
 refine EVq_t rfl rfl (T_faR (fOk rfl) (zOk rfl) rfl) ?_
 refine EVq_t rfl rfl (T_loadR (gOk rfl) rfl rfl rfl rfl) ?_
 refine EVq_t rfl rfl (T_lenL (uOk rfl) rfl) ?_
 refine EVq_t rfl rfl (T_faR (fOk rfl) (zOk rfl) rfl) ?_
 refine EVq_t rfl rfl (T_loadR (gOk rfl) rfl rfl rfl rfl) ?_
 refine EVq_t rfl rfl (T_lenL (uOk rfl) rfl) ?_
 refine EVq_t rfl rfl (T_assign rfl) ?_
 refine EVq_t rfl rfl (T_assign rfl) ?_
 refine EVq_done ?_
 iterate 13 refine τ ?_
 refine EV_cond rfl rfl rfl (fun hb1 => ?_) (fun hb1 => ?_)
 ·try simp only [zz] at hb1
  refine τ ?_
  refine EV_cond rfl rfl rfl (fun _ => ?_) (fun h => by first | cases h | (exfalso; simp_all; done))
  iterate 4 refine τ ?_
  refine EVo_e rfl (D_call false (typ_number _) rfl (φd rfl φn)) ?_
  refine τ ?_
  refine EVo_case 19 rfl (fun hb2 => ?_) (fun hb2 => ?_)
  ·try simp only [zz] at hb2
   iterate 5 refine τ ?_
   refine EVo_case 24 rfl (fun hb3 => ?_) (fun hb3 => ?_)
   ·try simp only [zz] at hb3
    iterate 4 refine τ ?_
    refine EVo_case 28 rfl (fun hb4 => ?_) (fun hb4 => ?_)
    ·try simp only [zz] at hb4
     iterate 6 refine τ ?_
     refine ⟨_, ⟨rfl, rfl⟩, fit_eq rfl nofun ?_⟩
     ·refine congrArg ib (Bool.eq_iff_iff.2 ?_)
      simp_all [shapedB] <;> omega
    ·try simp only [zz] at hb4
     iterate 6 refine τ ?_
     refine ⟨_, ⟨rfl, rfl⟩, fit_eq rfl nofun ?_⟩
     ·refine congrArg ib (Bool.eq_iff_iff.2 ?_)
      simp_all [shapedB] <;> omega
   ·try simp only [zz] at hb3
    iterate 10 refine τ ?_
    refine ⟨_, ⟨rfl, rfl⟩, fit_eq rfl nofun ?_⟩
    ·refine congrArg ib (Bool.eq_iff_iff.2 ?_)
     simp_all [shapedB] <;> omega
  ·try simp only [zz] at hb2
   iterate 15 refine τ ?_
   refine ⟨_, ⟨rfl, rfl⟩, fit_eq rfl nofun ?_⟩
   ·refine congrArg ib (Bool.eq_iff_iff.2 ?_)
    simp_all [shapedB] <;> omega
 ·try simp only [zz] at hb1
  iterate 4 refine τ ?_
  refine EV_cond rfl rfl rfl (fun hb5 => ?_) (fun hb5 => ?_)
  ·try simp only [zz] at hb5
   iterate 4 refine τ ?_
   refine EVo_e rfl (D_call false (typ_number _) rfl (φd rfl φn)) ?_
   refine τ ?_
   refine EVo_case 19 rfl (fun hb6 => ?_) (fun hb6 => ?_)
   ·try simp only [zz] at hb6
    iterate 5 refine τ ?_
    refine EVo_case 24 rfl (fun hb7 => ?_) (fun hb7 => ?_)
    ·try simp only [zz] at hb7
     iterate 4 refine τ ?_
     refine EVo_case 28 rfl (fun hb8 => ?_) (fun hb8 => ?_)
     ·try simp only [zz] at hb8
      iterate 6 refine τ ?_
      refine ⟨_, ⟨rfl, rfl⟩, fit_eq rfl nofun ?_⟩
      ·refine congrArg ib (Bool.eq_iff_iff.2 ?_)
       simp_all [shapedB] <;> omega
     ·try simp only [zz] at hb8
      iterate 6 refine τ ?_
      refine ⟨_, ⟨rfl, rfl⟩, fit_eq rfl nofun ?_⟩
      ·refine congrArg ib (Bool.eq_iff_iff.2 ?_)
       simp_all [shapedB] <;> omega
    ·try simp only [zz] at hb7
     iterate 10 refine τ ?_
     refine ⟨_, ⟨rfl, rfl⟩, fit_eq rfl nofun ?_⟩
     ·refine congrArg ib (Bool.eq_iff_iff.2 ?_)
      simp_all [shapedB] <;> omega
   ·try simp only [zz] at hb6
    iterate 15 refine τ ?_
    refine ⟨_, ⟨rfl, rfl⟩, fit_eq rfl nofun ?_⟩
    ·refine congrArg ib (Bool.eq_iff_iff.2 ?_)
     simp_all [shapedB] <;> omega
  ·try simp only [zz] at hb5
   iterate 6 refine τ ?_
   refine EV_cond rfl rfl rfl (fun hb9 => ?_) (fun hb9 => ?_)
   ·try simp only [zz] at hb9
    refine τ ?_
    refine EV_cond rfl rfl rfl (fun _ => ?_) (fun h => by first | cases h | (exfalso; simp_all; done))
    iterate 6 refine τ ?_
    refine EVo_case 38 rfl (fun hb10 => ?_) (fun hb10 => ?_)
    ·try simp only [zz] at hb10
     iterate 5 refine τ ?_
     refine EVo_case 43 rfl (fun hb11 => ?_) (fun hb11 => ?_)
     ·try simp only [zz] at hb11
      iterate 4 refine τ ?_
      refine EVo_case 47 rfl (fun hb12 => ?_) (fun hb12 => ?_)
      ·try simp only [zz] at hb12
       iterate 6 refine τ ?_
       refine ⟨_, ⟨rfl, rfl⟩, fit_eq rfl nofun ?_⟩
       ·refine congrArg ib (Bool.eq_iff_iff.2 ?_)
        simp_all [shapedB] <;> omega
      ·try simp only [zz] at hb12
       iterate 6 refine τ ?_
       refine ⟨_, ⟨rfl, rfl⟩, fit_eq rfl nofun ?_⟩
       ·refine congrArg ib (Bool.eq_iff_iff.2 ?_)
        simp_all [shapedB] <;> omega
     ·try simp only [zz] at hb11
      iterate 10 refine τ ?_
      refine ⟨_, ⟨rfl, rfl⟩, fit_eq rfl nofun ?_⟩
      ·refine congrArg ib (Bool.eq_iff_iff.2 ?_)
       simp_all [shapedB] <;> omega
    ·try simp only [zz] at hb10
     iterate 15 refine τ ?_
     refine ⟨_, ⟨rfl, rfl⟩, fit_eq rfl nofun ?_⟩
     ·refine congrArg ib (Bool.eq_iff_iff.2 ?_)
      simp_all [shapedB] <;> omega
   ·try simp only [zz] at hb9
    iterate 4 refine τ ?_
    refine EV_cond rfl rfl rfl (fun hb13 => ?_) (fun hb13 => ?_)
    ·try simp only [zz] at hb13
     iterate 6 refine τ ?_
     refine EVo_case 38 rfl (fun hb14 => ?_) (fun hb14 => ?_)
     ·try simp only [zz] at hb14
      iterate 5 refine τ ?_
      refine EVo_case 43 rfl (fun hb15 => ?_) (fun hb15 => ?_)
      ·try simp only [zz] at hb15
       iterate 4 refine τ ?_
       refine EVo_case 47 rfl (fun hb16 => ?_) (fun hb16 => ?_)
       ·try simp only [zz] at hb16
        iterate 6 refine τ ?_
        refine ⟨_, ⟨rfl, rfl⟩, fit_eq rfl nofun ?_⟩
        ·refine congrArg ib (Bool.eq_iff_iff.2 ?_)
         simp_all [shapedB] <;> omega
       ·try simp only [zz] at hb16
        iterate 6 refine τ ?_
        refine ⟨_, ⟨rfl, rfl⟩, fit_eq rfl nofun ?_⟩
        ·refine congrArg ib (Bool.eq_iff_iff.2 ?_)
         simp_all [shapedB] <;> omega
      ·try simp only [zz] at hb15
       iterate 10 refine τ ?_
       refine ⟨_, ⟨rfl, rfl⟩, fit_eq rfl nofun ?_⟩
       ·refine congrArg ib (Bool.eq_iff_iff.2 ?_)
        simp_all [shapedB] <;> omega
     ·try simp only [zz] at hb14
      iterate 15 refine τ ?_
      refine ⟨_, ⟨rfl, rfl⟩, fit_eq rfl nofun ?_⟩
      ·refine congrArg ib (Bool.eq_iff_iff.2 ?_)
       simp_all [shapedB] <;> omega
    ·try simp only [zz] at hb13
     iterate 5 refine τ ?_
     refine EV_cond rfl rfl rfl (fun hb17 => ?_) (fun hb17 => ?_)
     ·try simp only [zz] at hb17
      iterate 6 refine τ ?_
      refine EVo_case 56 rfl (fun hb18 => ?_) (fun hb18 => ?_)
      ·try simp only [zz] at hb18
       iterate 5 refine τ ?_
       refine EVo_case 61 rfl (fun hb19 => ?_) (fun hb19 => ?_)
       ·try simp only [zz] at hb19
        iterate 4 refine τ ?_
        refine EVo_case 65 rfl (fun hb20 => ?_) (fun hb20 => ?_)
        ·try simp only [zz] at hb20
         iterate 6 refine τ ?_
         refine ⟨_, ⟨rfl, rfl⟩, fit_eq rfl nofun ?_⟩
         ·refine congrArg ib (Bool.eq_iff_iff.2 ?_)
          simp_all [shapedB] <;> omega
        ·try simp only [zz] at hb20
         iterate 6 refine τ ?_
         refine ⟨_, ⟨rfl, rfl⟩, fit_eq rfl nofun ?_⟩
         ·refine congrArg ib (Bool.eq_iff_iff.2 ?_)
          simp_all [shapedB] <;> omega
       ·try simp only [zz] at hb19
        iterate 10 refine τ ?_
        refine ⟨_, ⟨rfl, rfl⟩, fit_eq rfl nofun ?_⟩
        ·refine congrArg ib (Bool.eq_iff_iff.2 ?_)
         simp_all [shapedB] <;> omega
      ·try simp only [zz] at hb18
       iterate 15 refine τ ?_
       refine ⟨_, ⟨rfl, rfl⟩, fit_eq rfl nofun ?_⟩
       ·refine congrArg ib (Bool.eq_iff_iff.2 ?_)
        simp_all [shapedB] <;> omega
     ·try simp only [zz] at hb17
      iterate 5 refine τ ?_
      refine EV_cond rfl rfl rfl (fun hb21 => ?_) (fun hb21 => ?_)
      ·try simp only [zz] at hb21
       iterate 6 refine τ ?_
       refine EVo_case 74 rfl (fun hb22 => ?_) (fun hb22 => ?_)
       ·try simp only [zz] at hb22
        iterate 5 refine τ ?_
        refine EVo_case 79 rfl (fun hb23 => ?_) (fun hb23 => ?_)
        ·try simp only [zz] at hb23
         iterate 4 refine τ ?_
         refine EVo_case 83 rfl (fun hb24 => ?_) (fun hb24 => ?_)
         ·try simp only [zz] at hb24
          iterate 6 refine τ ?_
          refine ⟨_, ⟨rfl, rfl⟩, fit_eq rfl nofun ?_⟩
          ·refine congrArg ib (Bool.eq_iff_iff.2 ?_)
           simp_all [shapedB] <;> omega
         ·try simp only [zz] at hb24
          iterate 6 refine τ ?_
          refine ⟨_, ⟨rfl, rfl⟩, fit_eq rfl nofun ?_⟩
          ·refine congrArg ib (Bool.eq_iff_iff.2 ?_)
           simp_all [shapedB] <;> omega
        ·try simp only [zz] at hb23
         iterate 10 refine τ ?_
         refine ⟨_, ⟨rfl, rfl⟩, fit_eq rfl nofun ?_⟩
         ·refine congrArg ib (Bool.eq_iff_iff.2 ?_)
          simp_all [shapedB] <;> omega
       ·try simp only [zz] at hb22
        iterate 15 refine τ ?_
        refine ⟨_, ⟨rfl, rfl⟩, fit_eq rfl nofun ?_⟩
        ·refine congrArg ib (Bool.eq_iff_iff.2 ?_)
         simp_all [shapedB] <;> omega
      ·try simp only [zz] at hb21
       iterate 5 refine τ ?_
       refine EV_cond rfl rfl rfl (fun hb25 => ?_) (fun hb25 => ?_)
       ·try simp only [zz] at hb25
        iterate 6 refine τ ?_
        refine EVo_case 92 rfl (fun hb26 => ?_) (fun hb26 => ?_)
        ·try simp only [zz] at hb26
         iterate 2 refine τ ?_
         refine EVo_e rfl (D_call false (typ_word _ (by omega)) rfl (φd rfl φn)) ?_
         iterate 4 refine τ ?_
         refine ⟨_, ⟨rfl, rfl⟩, fit_eq rfl nofun ?_⟩
         ·refine congrArg ib (Bool.eq_iff_iff.2 ?_)
          simp_all [shapedB] <;> omega
        ·try simp only [zz] at hb26
         iterate 7 refine τ ?_
         refine ⟨_, ⟨rfl, rfl⟩, fit_eq rfl nofun ?_⟩
         ·refine congrArg ib (Bool.eq_iff_iff.2 ?_)
          simp_all [shapedB] <;> omega
       ·try simp only [zz] at hb25
        iterate 6 refine τ ?_
        refine ⟨_, ⟨rfl, rfl⟩, fit_eq rfl nofun ?_⟩
        ·refine congrArg ib (Bool.eq_iff_iff.2 ?_)
         simp_all [shapedB] <;> omega

end Go.Proofs.YthaiegnohkiegaaGreat.Ab
/-
 Contracts of the functions of package typ: the walk that checks a type.
-/
namespace Go.Proofs.YthaiegnohkiegaaGreat.Ab
set_option linter.unusedVariables false
set_option linter.unusedSimpArgs false
set_option maxRecDepth 20000
set_option maxHeartbeats 4000000
attribute [local irreducible] Tells Does EVo EV EVq EVr TellsC


/-- What the test of a type's nodes does: it counts them and their units. -/
def seeG (t : Ty) (a b : Int) : Bool × Int × Int :=
 if shapedB t then (if a + 1 ≤ 256 ∧ b + t.us.length ≤ 256 then (!t.us.any (fun u => !fineU u), a + 1, b + t.us.length) else (false, a + 1, b + t.us.length)) else (false, a, b)
mutual
def walkG : Ty → Int → Int → Bool × Int × Int
 | .mk k n s ar us, a, b => if (seeG (.mk k n s ar us) a b).1 then walkGs ar (seeG (.mk k n s ar us) a b).2.1 (seeG (.mk k n s ar us) a b).2.2 else seeG (.mk k n s ar us) a b
def walkGs : List Ty → Int → Int → Bool × Int × Int
 | [], a, b => (true, a, b)
 | t :: l, a, b => if (walkG t a b).1 then walkGs l (walkG t a b).2.1 (walkG t a b).2.2 else walkG t a b
end
theorem walkG_eq (t : Ty) (a b : Int) : walkG t a b = if (seeG t a b).1 then walkGs t.ar (seeG t a b).2.1 (seeG t a b).2.2 else seeG t a b := by cases t; simp only [walkG, Ty.ar]
def goodT (t : Ty) : Bool := (walkG t 0 0).1
theorem seeG_no {t : Ty} {a b : Int} (h : shapedB t = false) : seeG t a b = (false, a, b) := by unfold seeG; rw [if_neg (by simp [h])]
theorem seeG_over {t : Ty} {a b : Int} (h : shapedB t = true) (h2 : ¬ (a + 1 ≤ 256 ∧ b + t.us.length ≤ 256)) : seeG t a b = (false, a + 1, b + t.us.length) := by unfold seeG; rw [if_pos h, if_neg h2]
theorem seeG_in {t : Ty} {a b : Int} (h : shapedB t = true) (h2 : a + 1 ≤ 256 ∧ b + t.us.length ≤ 256) : seeG t a b = (!t.us.any (fun u => !fineU u), a + 1, b + t.us.length) := by unfold seeG; rw [if_pos h, if_pos h2]
theorem seeG_bd {t : Ty} {a b : Int} (ha : 0 ≤ a ∧ a ≤ 256) (hb : 0 ≤ b ∧ b ≤ 256) (h : (seeG t a b).1 = true) : (0 ≤ (seeG t a b).2.1 ∧ (seeG t a b).2.1 ≤ 256) ∧ (0 ≤ (seeG t a b).2.2 ∧ (seeG t a b).2.2 ≤ 256) := by
 unfold seeG at *
 split at h
 ·rename_i h1
  rw [if_pos h1]
  split at h
  ·rename_i h2
   rw [if_pos h2]
   simp only
   omega
  ·cases h
 ·cases h
theorem Ty.size_lt {t x : Ty} (h : x ∈ t.ar) : SizeOf.sizeOf x < SizeOf.sizeOf t := by
 cases t with
 | mk k n s ar us =>
  have := List.sizeOf_lt_of_mem (show x ∈ ar from h)
  simp only [Ty.mk.sizeOf_spec]
  omega
mutual
theorem walkG_bd : ∀ (t : Ty) {a b : Int}, (0 ≤ a ∧ a ≤ 256) → (0 ≤ b ∧ b ≤ 256) → (walkG t a b).1 = true → (0 ≤ (walkG t a b).2.1 ∧ (walkG t a b).2.1 ≤ 256) ∧ (0 ≤ (walkG t a b).2.2 ∧ (walkG t a b).2.2 ≤ 256)
 | .mk k n s ar us, a, b, ha, hb, h => by
  simp only [walkG] at h ⊢
  split at h
  ·rename_i h1
   rw [if_pos h1]
   obtain ⟨q1, q2⟩ := seeG_bd ha hb h1
   exact walkGs_bd ar q1 q2 h
  ·rename_i h1
   exact absurd h h1
theorem walkGs_bd : ∀ (l : List Ty) {a b : Int}, (0 ≤ a ∧ a ≤ 256) → (0 ≤ b ∧ b ≤ 256) → (walkGs l a b).1 = true → (0 ≤ (walkGs l a b).2.1 ∧ (walkGs l a b).2.1 ≤ 256) ∧ (0 ≤ (walkGs l a b).2.2 ∧ (walkGs l a b).2.2 ≤ 256)
 | [], a, b, ha, hb, _ => ⟨ha, hb⟩
 | t :: l, a, b, ha, hb, h => by
  simp only [walkGs] at h ⊢
  split at h
  ·rename_i h1
   rw [if_pos h1]
   obtain ⟨q1, q2⟩ := walkG_bd t ha hb h1
   exact walkGs_bd l q1 q2 h
  ·rename_i h1
   exact absurd h h1
end
abbrev tyV (t : Ty) : V := .agg ((tyD t).map (.nd false))
abbrev cF (f : FuncId) (fs cs : List C) : C := .fn (.func f) fs cs
abbrev bsG2 (a b : Int) : List (Nat × List C) := [(900, [ci .i64 a, ci .i64 b]), (901, [cF 171 [.ref 900 0] []])]
abbrev bsG4 (a b : Int) : List (Nat × List C) := [(900, [ci .i64 a, ci .i64 b]), (901, [cF 171 [.ref 900 0] []]), (902, [cF 172 [] [.ref 901 0]]), (903, [cF 178 [] [.ref 902 0, .ref 903 0]])]
def GoG (x : Ty) : Prop := ∀ a b : Int, (0 ≤ a ∧ a ≤ 256) → (0 ≤ b ∧ b ≤ 256) → FnS Tryz.prog 178 [tyV x, .c (.ref 902 0), .c (.ref 903 0)] (bsG4 a b) (vb (walkG x a b).1) (bsG4 (walkG x a b).2.1 (walkG x a b).2.2)

/-- Where the walk of a list stops. -/
def idxG1 : List Ty → Int → Int → Int → Int
 | [], _, _, _ => -1
 | t :: l, i, a, b => if (walkG t a b).1 then idxG1 l (i + 1) (walkG t a b).2.1 (walkG t a b).2.2 else i
def idxG (l : List Ty) (a b : Int) : Int := idxG1 l 0 a b
theorem idxG_neg : ∀ (l : List Ty) (i a b : Int), 0 ≤ i → decide (0 ≤ idxG1 l i a b) = !(walkGs l a b).1
 | [], i, a, b, h => by simp [idxG1, walkGs]
 | t :: l, i, a, b, h => by
  by_cases e : (walkG t a b).1 = true
  ·have e1 : idxG1 (t :: l) i a b = idxG1 l (i + 1) (walkG t a b).2.1 (walkG t a b).2.2 := by simp only [idxG1]; rw [if_pos e]
   have e2 : walkGs (t :: l) a b = walkGs l (walkG t a b).2.1 (walkG t a b).2.2 := by simp only [walkGs]; rw [if_pos e]
   rw [e1, e2]; exact idxG_neg l (i + 1) _ _ (by omega)
  ·have e1 : idxG1 (t :: l) i a b = i := by simp only [idxG1]; rw [if_neg e]
   have e2 : walkGs (t :: l) a b = walkG t a b := by simp only [walkGs]; rw [if_neg e]
   have e' : (walkG t a b).1 = false := by simpa using e
   rw [e1, e2, e']; simp; exact h

theorem node_S (t : Ty) (ht : szT t) (a b : Int) (ha : 0 ≤ a ∧ a ≤ 256) (hb : 0 ≤ b ∧ b ≤ 256) : FnS Tryz.prog 171 [.c (.ref 900 0), tyV t] ([(900, [ci .i64 a, ci .i64 b])]) (vb (decide (a + 1 ≤ 256 ∧ b + t.us.length ≤ 256))) ([(900, [ci .i64 (a + 1), ci .i64 (b + t.us.length)])]) := by
 obtain ⟨hz1, hz2, hz3, hz4, hz5⟩ := szT_eq ht
 refine FnS_of_EV Tryz.func171 rfl (by kernel_rfl) rfl rfl rfl (fun E hE => ?_)
 iterate 2 refine τ ?_
 refine EVo_e rfl (D_box 1 (hE 1 rfl) Free_no rfl) ?_
 iterate 14 refine τ ?_
 refine EV_draw (inX [1]) (.st 0 (.st 1 (.st 2 (.st 4 (.st 5 (.st 6 (.one 3 (.st 7 (.st 8 (.st 9 (.one 10 .done))))))))))) Tryz.mixed (by kernel_rfl) ?_
 refine EVq_t rfl rfl (T_move rfl) ?_
 refine EVq_t rfl rfl (T_nilCheck rfl) ?_
 refine EVq_t rfl rfl (T_faR (fOk rfl) (zOk rfl) rfl) ?_
 refine EVq_t rfl rfl (T_faR (fOk rfl) (zOk rfl) rfl) ?_
 refine EVq_t rfl rfl (T_loadR (gOk rfl) rfl rfl rfl rfl) ?_
 refine EVq_t rfl rfl (T_lenL (uOk rfl) rfl) ?_
 refine EVq_e rfl rfl ((T_loadR (gOk rfl) rfl rfl rfl rfl).now) ?_
 refine EVq_t rfl rfl (T_binI rfl rfl rfl (by omega) (by omega)) ?_
 refine EVq_t rfl rfl (T_nilCheck rfl) ?_
 refine EVq_t rfl rfl (T_faR (fOk rfl) (zOk rfl) rfl) ?_
 refine EVq_e rfl rfl (D_store rfl (Free_in rfl) rfl rfl (zOk rfl) rfl (Nat.le_of_ble_eq_true rfl) rfl) ?_
 refine EVq_done ?_
 iterate 8 refine τ ?_
 refine EVo_case 27 rfl (fun hb1 => ?_) (fun hb1 => ?_)
 ·try simp only [zz] at hb1
  iterate 9 refine τ ?_
  refine ⟨⟨_, ⟨rfl, rfl⟩, .inl (congrArg vb (by simp_all <;> omega))⟩, ⟨rfl, trivial⟩⟩
 ·try simp only [zz] at hb1
  iterate 9 refine τ ?_
  refine ⟨⟨_, ⟨rfl, rfl⟩, .inl (congrArg vb (by simp_all <;> omega))⟩, ⟨rfl, trivial⟩⟩

theorem good1_S (t : Ty) (ht : szT t) (a b : Int) (ha : 0 ≤ a ∧ a ≤ 256) (hb : 0 ≤ b ∧ b ≤ 256) : FnS Tryz.prog 172 [tyV t, .c (.ref 901 0)] (bsG2 a b) (vb (seeG t a b).1) (bsG2 (seeG t a b).2.1 (seeG t a b).2.2) := by
 obtain ⟨hz1, hz2, hz3, hz4, hz5⟩ := szT_eq ht
 refine FnS_of_EV Tryz.func172 rfl (by kernel_rfl) rfl rfl rfl (fun E hE => ?_)
 iterate 2 refine τ ?_
 refine EVo_e rfl (D_box 1 (hE 1 rfl) Free_no rfl) ?_
 iterate 5 refine τ ?_
 refine EVo_e rfl (D_call false (typ_shaped _ (by assumption)) rfl (φa rfl φn)) ?_
 refine τ ?_
 refine EVo_case 6 rfl (fun hb1 => ?_) (fun hb1 => ?_)
 ·try simp only [zz] at hb1
  iterate 2 refine τ ?_
  refine EVo_e rfl (D_callG [(900, 900)] (node_S t ht a b ha hb) rfl rfl rfl rfl (fun _ => Free_no) rfl ⟨⟨_, _, rfl, rfl, rfl⟩, trivial⟩ ⟨.inl rfl, trivial⟩) ?_
  iterate 2 refine τ ?_
  refine EVo_case 11 rfl (fun hb2 => ?_) (fun hb2 => ?_)
  ·try simp only [zz] at hb2
   iterate 2 refine τ ?_
   refine EVo_e rfl (D_call false (has_Un t.us 175 (fun u => !fineU u) (by omega) (fun x hx => typ_notfine x (hz4 x hx))) rfl (φd rfl (φd rfl φn))) ?_
   iterate 5 refine τ ?_
   have hs := seeG_in (t := t) (a := a) (b := b) hb1 (by omega)
   refine ⟨⟨_, ⟨rfl, rfl⟩, .inl (by rw [hs]; rfl)⟩, ⟨(by rw [hs]; rfl), rfl, trivial⟩⟩
  ·try simp only [zz] at hb2
   iterate 8 refine τ ?_
   have hs := seeG_over (t := t) (a := a) (b := b) hb1 (by omega)
   refine ⟨⟨_, ⟨rfl, rfl⟩, .inl (by rw [hs]; rfl)⟩, ⟨(by rw [hs]; rfl), rfl, trivial⟩⟩
 ·try simp only [zz] at hb1
  iterate 13 refine τ ?_
  have hs := seeG_no (t := t) (a := a) (b := b) hb1
  refine ⟨⟨_, ⟨rfl, rfl⟩, .inl (by rw [hs]; rfl)⟩, ⟨(by rw [hs]; rfl), rfl, trivial⟩⟩

theorem notgo_S (t : Ty) (hG : GoG t) (a b : Int) (ha : 0 ≤ a ∧ a ≤ 256) (hb : 0 ≤ b ∧ b ≤ 256) : FnS Tryz.prog 179 [tyV t, .c (.ref 903 0)] (bsG4 a b) (vb (!(walkG t a b).1)) (bsG4 (walkG t a b).2.1 (walkG t a b).2.2) := by
 refine FnS_of_EV Tryz.func179 rfl (by kernel_rfl) rfl rfl rfl (fun E hE => ?_)
 iterate 2 refine τ ?_
 refine EVo_e rfl (D_box 1 (hE 1 rfl) Free_no rfl) ?_
 iterate 6 refine τ ?_
 refine EVo_e rfl (D_callG [(900, 900), (901, 901), (902, 902), (903, 903)] (hG a b ha hb) rfl rfl rfl rfl (fun _ => Free_no) rfl ⟨⟨_, _, rfl, rfl, rfl⟩, ⟨_, _, rfl, rfl, rfl⟩, ⟨_, _, rfl, rfl, rfl⟩, ⟨_, _, rfl, rfl, rfl⟩, trivial⟩ ⟨.inl rfl, .inl rfl, .inl rfl, .inl rfl, trivial⟩) ?_
 iterate 4 refine τ ?_
 refine ⟨⟨_, ⟨rfl, rfl⟩, .inl rfl⟩, ⟨rfl, rfl, rfl, rfl, trivial⟩⟩

theorem idx_TyG (l : List Ty) (hl : l.length ≤ 549755813888) (hG : ∀ x ∈ l, GoG x) (a0 b0 : Int) (ha0 : 0 ≤ a0 ∧ a0 ≤ 256) (hb0 : 0 ≤ b0 ∧ b0 ≤ 256) : FnS Tryz.prog 128 [.c (.d false (.sl (l.map encTy))), .c (cF 179 [] [.ref 903 0])] (bsG4 a0 b0) (vi .i64 (idxG l a0 b0)) (bsG4 (walkGs l a0 b0).2.1 (walkGs l a0 b0).2.2) := by
 refine FnS_of_EV Tryz.func128 rfl (by kernel_rfl) rfl rfl rfl (fun E hE => ?_)
 iterate 12 refine τ ?_
 refine EV_wl (fun mm S => ∃ i : Int, ∃ a : Int, ∃ b : Int, mm = ((l.length : Int) - i).toNat ∧ S = St.of [(0, V.c (.d false (.sl (l.map encTy)))), (1, V.c (cF 179 [] [.ref 903 0])), (7, vi .i64 l.length), (8, vi .i64 i)] (tabO [(900, .box [ci .i64 a, ci .i64 b]), (901, .box [cF 171 [.ref 900 0] []]), (902, .box [cF 172 [] [.ref 901 0]]), (903, .box [cF 178 [] [.ref 902 0, .ref 903 0]])]) 19 ∧ (0 ≤ i ∧ i ≤ l.length) ∧ (0 ≤ a ∧ a ≤ 256) ∧ (0 ≤ b ∧ b ≤ 256) ∧ walkGs l a0 b0 = walkGs (l.drop i.toNat) a b ∧ idxG l a0 b0 = idxG1 (l.drop i.toNat) i a b) _ ⟨_, ⟨0, a0, b0, rfl, rfl, ⟨by omega, ha0, hb0, rfl, rfl⟩⟩, W_keep2 _ _ ⟨rfl, rfl, rfl, rfl, trivial⟩ ⟨rfl, rfl, rfl, rfl, trivial⟩ rfl⟩ ?_
 rintro mm S ⟨i, a, b, rfl, rfl, ⟨h0, ha, hb, h1, h2⟩⟩
 have ei : (i.toNat : Int) = i := by omega
 iterate 5 refine τ ?_
 refine EV_cond rfl rfl rfl (fun hb1 => ?_) (fun hb1 => ?_)
 ·try simp only [zz] at hb1
  iterate 13 refine τ ?_
  refine EVo_t rfl (T_ixL (uOk rfl) (zOk rfl) rfl rfl (by omega) (by omega) (encTy_len _)) ?_
  rw [encTy_eq]
  refine τ ?_
  refine EVo_e rfl (D_callG [(900, 900), (901, 901), (902, 902), (903, 903)] (notgo_S (rd l i) (hG _ (mem_rd (by omega) (by omega))) a b ha hb) rfl rfl rfl rfl (fun _ => Free_no) rfl ⟨⟨_, _, rfl, rfl, rfl⟩, ⟨_, _, rfl, rfl, rfl⟩, ⟨_, _, rfl, rfl, rfl⟩, ⟨_, _, rfl, rfl, rfl⟩, trivial⟩ ⟨.inl rfl, .inl rfl, .inl rfl, .inl rfl, trivial⟩) ?_
  refine τ ?_
  refine EV_cond rfl rfl rfl (fun hb2 => ?_) (fun hb2 => ?_)
  ·try simp only [zz] at hb2
   have hz := hb2
   iterate 6 refine τ ?_
   have hr : (walkG (rd l i) a b).1 = false := by simpa using hz
   have hw : walkGs l a0 b0 = walkG (rd l i) a b := by rw [h1, drop_rdT (l := l) (by omega), ei]; simp only [walkGs]; rw [if_neg (by simp [hr])]
   have hi : idxG l a0 b0 = i := by rw [h2, drop_rdT (l := l) (by omega), ei]; simp only [idxG1]; rw [if_neg (by simp [hr])]
   refine ⟨⟨_, ⟨rfl, rfl⟩, .inl (congrArg (vi .i64) hi.symm)⟩, ⟨(by rw [hw]; rfl), rfl, rfl, rfl, trivial⟩⟩
  ·try simp only [zz] at hb2
   have hz := hb2
   iterate 5 refine τ ?_
   refine ⟨_, ?_, ω ⟨_, ⟨i + 1, _, _, rfl, rfl, ?_⟩, W_keep2 _ _ ⟨rfl, rfl, rfl, rfl, trivial⟩ ⟨rfl, rfl, rfl, rfl, trivial⟩ rfl⟩⟩
   ·omega
   ·have e2 : (i + 1).toNat = i.toNat + 1 := by omega
    have hr : (walkG (rd l i) a b).1 = true := by simpa using hz
    obtain ⟨g1, g2⟩ := walkG_bd _ ha hb hr
    rw [e2]
    refine ⟨by omega, g1, g2, ?_, ?_⟩
    ·rw [h1, drop_rdT (l := l) (by omega), ei]; simp only [walkGs]; rw [if_pos hr]
    ·rw [h2, drop_rdT (l := l) (by omega), ei]; simp only [idxG1]; rw [if_pos hr]
 ·try simp only [zz] at hb1
  iterate 6 refine τ ?_
  rw [List.drop_of_length_le (by omega)] at h1 h2
  refine ⟨⟨_, ⟨rfl, rfl⟩, .inl (congrArg (vi .i64) h2.symm)⟩, ⟨(by rw [h1]; rfl), rfl, rfl, rfl, trivial⟩⟩

theorem has_TyG (l : List Ty) (hl : l.length ≤ 549755813888) (hG : ∀ x ∈ l, GoG x) (a0 b0 : Int) (ha0 : 0 ≤ a0 ∧ a0 ≤ 256) (hb0 : 0 ≤ b0 ∧ b0 ≤ 256) : FnS Tryz.prog 90 [.c (.d false (.sl (l.map encTy))), .c (cF 179 [] [.ref 903 0])] (bsG4 a0 b0) (vb (!(walkGs l a0 b0).1)) (bsG4 (walkGs l a0 b0).2.1 (walkGs l a0 b0).2.2) := by
 refine FnS_of_EV Tryz.func90 rfl (by kernel_rfl) rfl rfl rfl (fun E hE => ?_)
 iterate 8 refine τ ?_
 refine EVo_e rfl (D_callG [(900, 900), (901, 901), (902, 902), (903, 903)] (idx_TyG l hl hG a0 b0 ha0 hb0) rfl rfl rfl rfl (fun _ => Free_no) rfl ⟨⟨_, _, rfl, rfl, rfl⟩, ⟨_, _, rfl, rfl, rfl⟩, ⟨_, _, rfl, rfl, rfl⟩, ⟨_, _, rfl, rfl, rfl⟩, trivial⟩ ⟨.inl rfl, .inl rfl, .inl rfl, .inl rfl, trivial⟩) ?_
 iterate 4 refine τ ?_
 refine ⟨⟨_, ⟨rfl, rfl⟩, .inl (congrArg vb (idxG_neg l 0 a0 b0 (by omega)))⟩, ⟨rfl, rfl, rfl, rfl, trivial⟩⟩

theorem walk1_S (t : Ty) (ht : szT t) (hG : ∀ x ∈ t.ar, GoG x) (a b : Int) (ha : 0 ≤ a ∧ a ≤ 256) (hb : 0 ≤ b ∧ b ≤ 256) : FnS Tryz.prog 178 [tyV t, .c (.ref 902 0), .c (.ref 903 0)] (bsG4 a b) (vb (walkG t a b).1) (bsG4 (walkG t a b).2.1 (walkG t a b).2.2) := by
 obtain ⟨hz1, hz2, hz3, hz4, hz5⟩ := szT_eq ht
 rw [walkG_eq]
 refine FnS_of_EV Tryz.func178 rfl (by kernel_rfl) rfl rfl rfl (fun E hE => ?_)
 iterate 2 refine τ ?_
 refine EVo_e rfl (D_box 1 (hE 1 rfl) Free_no rfl) ?_
 iterate 6 refine τ ?_
 refine EVo_e rfl (D_callG [(900, 900), (901, 901)] (good1_S t ht a b ha hb) rfl rfl rfl rfl (fun _ => Free_no) rfl ⟨⟨_, _, rfl, rfl, rfl⟩, ⟨_, _, rfl, rfl, rfl⟩, trivial⟩ ⟨.inl rfl, .inl rfl, trivial⟩) ?_
 refine τ ?_
 refine EVo_case 8 rfl (fun hb1 => ?_) (fun hb1 => ?_)
 ·try simp only [zz] at hb1
  have hsb := seeG_bd ha hb hb1
  iterate 2 refine τ ?_
  refine EVo_t rfl (T_mf rfl rfl rfl) ?_
  refine EVo_e rfl (D_callG [(900, 900), (901, 901), (902, 902), (903, 903)] (has_TyG t.ar hz2 hG _ _ hsb.1 hsb.2) rfl rfl rfl rfl (fun _ => Free_no) rfl ⟨⟨_, _, rfl, rfl, rfl⟩, ⟨_, _, rfl, rfl, rfl⟩, ⟨_, _, rfl, rfl, rfl⟩, ⟨_, _, rfl, rfl, rfl⟩, trivial⟩ ⟨.inl rfl, .inl rfl, .inl rfl, .inl rfl, trivial⟩) ?_
  iterate 5 refine τ ?_
  refine ⟨⟨_, ⟨rfl, rfl⟩, .inl (congrArg vb (by simp_all))⟩, ⟨(by simp_all; try rfl), rfl, rfl, rfl, trivial⟩⟩
 ·try simp only [zz] at hb1
  iterate 9 refine τ ?_
  refine ⟨⟨_, ⟨rfl, rfl⟩, .inl (congrArg vb (by simp_all))⟩, ⟨(by simp_all; try rfl), rfl, rfl, rfl, trivial⟩⟩

theorem GoG_all : ∀ (n : Nat) (t : Ty), SizeOf.sizeOf t < n → szT t → GoG t
 | 0, t, h, _ => absurd h (Nat.not_lt_zero _)
 | n + 1, t, h, ht => fun a b ha hb => walk1_S t ht (fun x hx => GoG_all n x (by have := Ty.size_lt hx; omega) ((szT_eq ht).2.2.2.2 x hx)) a b ha hb
theorem GoG_of (t : Ty) (ht : szT t) : GoG t := GoG_all (SizeOf.sizeOf t + 1) t (Nat.lt_succ_self _) ht

theorem walk_S (t : Ty) (ht : szT t) (a b : Int) (ha : 0 ≤ a ∧ a ≤ 256) (hb : 0 ≤ b ∧ b ≤ 256) : FnS Tryz.prog 157 [tyV t, .c (cF 172 [] [.ref 901 0])] (bsG2 a b) (vb (walkG t a b).1) (bsG2 (walkG t a b).2.1 (walkG t a b).2.2) := by
 refine FnS_of_EV Tryz.func157 rfl (by kernel_rfl) rfl rfl rfl (fun E hE => ?_)
 iterate 2 refine τ ?_
 refine EVo_e rfl (D_box 1 (hE 1 rfl) Free_no rfl) ?_
 refine EVo_e rfl (D_box 2 (hE 2 rfl) Free_no rfl) ?_
 iterate 4 refine τ ?_
 refine EVo_e rfl (D_alloc 3 (hE 3 rfl) Free_no zr119 rfl) ?_
 iterate 3 refine τ ?_
 refine EVo_t rfl (T_mf rfl rfl rfl) ?_
 iterate 6 refine τ ?_
 refine EVo_e rfl (D_callG [(900, 900), (901, 901), (902, 2), (903, 3)] (GoG_of t ht a b ha hb) rfl rfl rfl rfl (fun _ => Free_no) rfl ⟨⟨_, _, rfl, rfl, rfl⟩, ⟨_, _, rfl, rfl, rfl⟩, ⟨_, _, rfl, rfl, rfl⟩, ⟨_, _, rfl, rfl, rfl⟩, trivial⟩ ⟨.inl rfl, .inl rfl, .inl rfl, .inl rfl, trivial⟩) ?_
 iterate 3 refine τ ?_
 refine ⟨⟨_, ⟨rfl, rfl⟩, .inl rfl⟩, ⟨rfl, rfl, trivial⟩⟩

theorem typ_good (t : Ty) (ht : szT t) : Fn Tryz.prog 152 [.agg (tyD t)] false (.one (.d (ib (goodT t)))) := by
 refine Fn_of_EV Tryz.func152 rfl (by kernel_rfl) rfl rfl (fun E hE => ?_)
 iterate 2 refine τ ?_
 refine EVo_e rfl (D_box 1 (hE 1 rfl) Free_no rfl) ?_
 iterate 4 refine τ ?_
 refine EVo_t rfl (T_build ly188 rfl rfl) ?_
 refine EVo_e rfl (D_box 2 (hE 2 rfl) Free_no rfl) ?_
 iterate 5 refine τ ?_
 refine EVo_t rfl (T_mf rfl rfl rfl) ?_
 refine EVo_e rfl (D_alloc 3 (hE 3 rfl) Free_no zr119 rfl) ?_
 iterate 5 refine τ ?_
 refine EVo_t rfl (T_mf rfl rfl rfl) ?_
 refine EVo_e rfl (D_callG [(900, 2), (901, 3)] (walk_S t ht 0 0 (by omega) (by omega)) rfl rfl rfl rfl (fun _ => Free_no) rfl ⟨⟨_, _, rfl, rfl, rfl⟩, ⟨_, _, rfl, rfl, rfl⟩, trivial⟩ ⟨.inl rfl, .inl rfl, trivial⟩) ?_
 iterate 3 refine τ ?_
 refine ⟨_, ⟨rfl, rfl⟩, fit_eq rfl nofun rfl⟩

theorem typ_Check (t : Ty) (ht : szT t) : Fn Tryz.prog 123 [.agg (tyD t)] false (.one (.d (ii (if goodT t then 0 else 110)))) := by
 refine Fn_of_EV Tryz.func123 rfl (by kernel_rfl) rfl rfl (fun E hE => ?_)
 iterate 2 refine τ ?_
 refine EVo_e rfl (D_box 1 (hE 1 rfl) Free_no rfl) ?_
 iterate 6 refine τ ?_
 refine EVo_e rfl (D_call false (typ_good t ht) rfl (φa rfl φn)) ?_
 refine τ ?_
 refine EV_cond rfl rfl rfl (fun hb1 => ?_) (fun hb1 => ?_)
 ·try simp only [zz] at hb1
  iterate 5 refine τ ?_
  refine ⟨_, ⟨rfl, rfl⟩, fit_eq rfl nofun ?_⟩
  ·rw [if_pos hb1]
 ·try simp only [zz] at hb1
  iterate 6 refine τ ?_
  refine ⟨_, ⟨rfl, rfl⟩, fit_eq rfl nofun ?_⟩
  ·rw [if_neg (by simp [hb1])]

end Go.Proofs.YthaiegnohkiegaaGreat.Ab
/-
 Contracts of the functions of package typ: the variables of a type.
-/
namespace Go.Proofs.YthaiegnohkiegaaGreat.Ab
set_option linter.unusedVariables false
set_option linter.unusedSimpArgs false
set_option maxRecDepth 20000
set_option maxHeartbeats 4000000
attribute [local irreducible] Tells Does EVo EV EVq EVr TellsC


def varsL : List Pw → List Int
 | [] => []
 | p :: l => if p.k = 1 then p.n :: varsL l else varsL l
/-- The variables of a unit. -/
def varsU (u : List Pw) : List Int := if goodU u then varsL u else []
theorem varsL_len : ∀ u : List Pw, (varsL u).length ≤ u.length
 | [] => Nat.le_refl _
 | p :: l => by
  have := varsL_len l
  simp only [varsL]
  split
  ·simp; omega
  ·simp; omega
def hdT (t : Ty) : List Int := if t.k = 1 then [t.n] else []
def usL : List (List Pw) → List Int
 | [] => []
 | u :: l => varsU u ++ usL l
mutual
def tysT : Ty → List Int
 | .mk k n s ar us => hdT (.mk k n s ar us) ++ tysTs ar
def tysTs : List Ty → List Int
 | [] => []
 | t :: l => tysT t ++ tysTs l
end
mutual
def usT : Ty → List Int
 | .mk k n s ar us => usL us ++ usTs ar
def usTs : List Ty → List Int
 | [] => []
 | t :: l => usT t ++ usTs l
end
theorem tysT_eq (t : Ty) : tysT t = hdT t ++ tysTs t.ar := by cases t; simp only [tysT, Ty.ar]
theorem usT_eq (t : Ty) : usT t = usL t.us ++ usTs t.ar := by cases t; simp only [usT, Ty.ar, Ty.us]
theorem gro_apps {k : Nat} {fy : Bool} {l m : List Int} : C.killL k (l.map (ci .i64) ++ ((m.map fun x => [ii x]).flatten.map (C.nd fy))) = (l ++ m).map (ci .i64) := by
 have e : ((m.map fun x => [ii x]).flatten.map (C.nd fy)) = m.map (ci .i64) := by
  induction m with
  | nil => rfl
  | cons x m ih => simp only [List.map_cons, List.flatten_cons, List.map_append, ih]; rfl
 rw [e, ← List.map_append]
 exact killL_map _ _ (ci_kill k .i64) _
theorem killL_ci {k : Nat} {kk : IntKind} {l : List Int} : C.killL k (l.map (ci kk)) = l.map (ci kk) := killL_map _ _ (ci_kill k kk) l
theorem gro_app1 {k : Nat} {fy : Bool} {l : List Int} {x : Int} : C.killL k (l.map (ci .i64) ++ ([[D.val (.int .i64 x)]].flatten.map (C.nd fy))) = (l ++ [x]).map (ci .i64) := gro_apps (m := [x])
theorem gb2 {a b a' b' : Nat} (h1 : a = a') (h2 : b = b') : some (O.box [C.gro 950 3 a 1, C.gro 951 3 b 1]) = some (O.box [C.gro 950 3 a' 1, C.gro 951 3 b' 1]) := by rw [h1, h2]
theorem gbk {k : Nat} {l l' : List Int} (h : l = l') : some (O.box (C.killL k (l.map (ci .i64)))) = some (O.box (l'.map (ci .i64))) := by rw [h, killL_map _ _ (ci_kill k .i64)]
theorem gbe {cs cs' : List C} (h : cs = cs') : some (O.box cs) = some (O.box cs') := by rw [h]
abbrev bsV (a b : List Int) : List (Nat × List C) := [(900, [.gro 950 3 a.length 1, .gro 951 3 b.length 1]), (950, a.map (ci .i64)), (951, b.map (ci .i64))]
abbrev cN : C := cF 158 [.ref 900 0] []
abbrev bsV4 (a b : List Int) : List (Nat × List C) := [(900, [.gro 950 3 a.length 1, .gro 951 3 b.length 1]), (950, a.map (ci .i64)), (951, b.map (ci .i64)), (902, [cN]), (903, [cF 178 [] [.ref 902 0, .ref 903 0]])]
def GoN (x : Ty) : Prop := ∀ a b : List Int, a.length + (tysT x).length ≤ 1099511627776 → b.length + (usT x).length ≤ 1099511627776 → FnS Tryz.prog 178 [tyV x, .c (.ref 902 0), .c (.ref 903 0)] (bsV4 a b) (vb true) (bsV4 (a ++ tysT x) (b ++ usT x))

theorem unit_Vars (u : List Pw) (hu : szU u) : Fn Tryz.prog 180 [.d (encU u)] false (.one (.d (encI (varsU u)))) := by
 refine Fn_of_EV Tryz.func180 rfl (by kernel_rfl) rfl rfl (fun E hE => ?_)
 iterate 8 refine τ ?_
 refine EVo_e rfl (D_call false (unit_good _ (by assumption)) rfl (φd rfl φn)) ?_
 iterate 2 refine τ ?_
 refine EV_cond rfl rfl rfl (fun hb1 => ?_) (fun hb1 => ?_)
 ·try simp only [zz] at hb1
  have hg : goodU u = false := by simpa using hb1
  iterate 5 refine τ ?_
  refine ⟨_, ⟨rfl, rfl⟩, fit_eq rfl nofun ?_⟩
  ·unfold varsU; rw [if_neg (by simp [hg])]; rfl
 ·try simp only [zz] at hb1
  have hg : goodU u = true := by simpa using hb1
  iterate 7 refine τ ?_
  refine EV_weak (W_nilRow 1 3 3 1 (hE 1 rfl) rfl) ?_
  iterate 6 refine τ ?_
  have hul := hu.1
  refine EV_wl (fun mm S => ∃ i : Int, ∃ r : List Int, mm = ((u.length : Int) - i).toNat ∧ S = St.of [(0, V.c (.d false (encU u))), (3, V.c (.own 1 3 1 true (List.map (fun x => [ii x]) r))), (9, V.c (.d false (encU u))), (10, vi .i64 u.length), (11, vi .i64 i)] (tabO [(1, .row)]) 27 ∧ 0 ≤ i ∧ i ≤ u.length ∧ r.length ≤ i.toNat ∧ r ++ varsL (u.drop i.toNat) = varsL u) _ ⟨_, ⟨0, ([] : List Int), rfl, rfl, ⟨by omega, by omega, Nat.le_refl _, rfl⟩⟩, W_keep2 _ _ ⟨rfl, rfl, rfl, rfl, rfl, trivial⟩ ⟨rfl, trivial⟩ rfl⟩ ?_
  rintro mm S ⟨i, r, rfl, rfl, ⟨h0, h1, h2, h3⟩⟩
  have ei : (i.toNat : Int) = i := by omega
  iterate 5 refine τ ?_
  refine EV_cond rfl rfl rfl (fun hb2 => ?_) (fun hb2 => ?_)
  ·try simp only [zz] at hb2
   iterate 5 refine τ ?_
   refine EVo_t rfl (T_ixL (uOk rfl) (zOk rfl) rfl rfl (by omega) (by omega) (rfl)) ?_
   refine τ ?_
   refine EVo_e rfl (D_alloc 2 (hE 2 rfl) Free_no zr84 rfl) ?_
   iterate 9 refine τ ?_
   refine EV_cond rfl rfl rfl (fun hb3 => ?_) (fun hb3 => ?_)
   ·try simp only [zz] at hb3
    iterate 5 refine τ ?_
    refine EVo_e rfl (D_buildSlice (uOk rfl) bz3 rfl rfl rfl (by simp)) ?_
    refine EVo_e rfl (D_append (uOk rfl) ap3 (by decide) rfl rfl (hE 1 rfl) Free_no rfl rfl (by simp) (by simp; omega) (by simp; omega)) ?_
    iterate 6 refine τ ?_
    have e2 : (i + 1).toNat = i.toNat + 1 := by omega
    rw [drop_rdT (l := u) (by omega), ei] at h3
    simp only [varsL] at h3
    refine ⟨_, ?_, ω ⟨_, ⟨i + 1, r ++ [(rd u i).n], rfl, rfl, ?_⟩, W_keep2 _ _ ⟨rfl, (own_app rfl), rfl, rfl, rfl, trivial⟩ ⟨rfl, trivial⟩ rfl⟩⟩
    ·omega
    ·rw [if_pos hb3] at h3
     rw [e2]
     exact ⟨by omega, by omega, by simp; omega, by rw [← h3]; simp⟩
   ·try simp only [zz] at hb3
    iterate 5 refine τ ?_
    have e2 : (i + 1).toNat = i.toNat + 1 := by omega
    rw [drop_rdT (l := u) (by omega), ei] at h3
    simp only [varsL] at h3
    refine ⟨_, ?_, ω ⟨_, ⟨i + 1, r, rfl, rfl, ?_⟩, W_keep2 _ _ ⟨rfl, rfl, rfl, rfl, rfl, trivial⟩ ⟨rfl, trivial⟩ rfl⟩⟩
    ·omega
    ·rw [if_neg hb3] at h3
     rw [e2]
     exact ⟨by omega, by omega, by omega, h3⟩
  ·try simp only [zz] at hb2
   iterate 7 refine τ ?_
   refine ⟨_, ⟨rfl, rfl⟩, fit_eq rfl nofun ?_⟩
   ·rw [List.drop_of_length_le (by omega)] at h3
    unfold varsU
    rw [if_pos hg, ← h3]
    simp [varsL]

theorem node_N (t : Ty) (ht : szT t) (a b : List Int) (hn1 : a.length + (hdT t).length ≤ 1099511627776) (hn2 : b.length + (usL t.us).length ≤ 1099511627776) : FnS Tryz.prog 158 [.c (.ref 900 0), tyV t] (bsV a b) (vb true) (bsV (a ++ hdT t) (b ++ usL t.us)) := by
 obtain ⟨hz1, hz2, hz3, hz4, hz5⟩ := szT_eq ht
 refine FnS_of_EV Tryz.func158 rfl (by kernel_rfl) rfl rfl rfl (fun E hE => ?_)
 iterate 2 refine τ ?_
 refine EVo_e rfl (D_box 1 (hE 1 rfl) Free_no rfl) ?_
 iterate 2 refine τ ?_
 refine EV_join (fun S => S = St.of [(0, V.c (.ref 900 0)), (3, V.c (.ref 1 0)), (4, vb false)] (tabO [(1, .box ((tyD t).map (C.nd false))), (900, .box [.gro 950 3 (a ++ hdT t).length 1, .gro 951 3 (b).length 1]), (950, .box (List.map (ci .i64) (a ++ hdT t))), (951, .box (List.map (ci .i64) (b)))]) 39 ∧ True) ?_ ?_
 ·
  iterate 6 refine τ ?_
  refine EV_cond rfl rfl rfl (fun hb1 => ?_) (fun hb1 => ?_)
  ·try simp only [zz] at hb1
   have hd : hdT t = [t.n] := by unfold hdT; rw [if_pos hb1]
   rw [hd] at hn1
   simp only [List.length_singleton] at hn1
   refine EV_draw (inX [1]) (.st 0 (.st 1 (.st 2 (.st 3 (.st 5 (.st 6 (.two 4 (.one 7 (.one 8 (.st 9 (.st 10 (.one 11 .done))))) 7 (.one 4 (.one 8 (.st 9 (.st 10 (.one 11 .done)))))))))))) Tryz.mixed (by kernel_rfl) ?_
   refine EVq_t rfl rfl (T_move rfl) ?_
   refine EVq_t rfl rfl (T_move rfl) ?_
   refine EVq_t rfl rfl (T_nilCheck rfl) ?_
   refine EVq_t rfl rfl (T_faR (fOk rfl) (zOk rfl) rfl) ?_
   refine EVq_t rfl rfl (T_faR (fOk rfl) (zOk rfl) rfl) ?_
   refine EVq_t rfl rfl (T_loadR (gOk rfl) rfl rfl rfl rfl) ?_
   refine EVq_two rfl rfl ((T_loadR (gOk rfl) rfl rfl rfl rfl).now) rfl rfl (D_buildSlice (uOk rfl) bz3 rfl rfl rfl (by simp)) ?_ ?_
   ·
    refine EVq_e rfl rfl (D_buildSlice (uOk rfl) bz3 rfl rfl rfl (by simp)) ?_
    refine EVq_e rfl rfl (D_appendG (uOk rfl) ap3 (by decide) rfl rfl (.inr rfl) (Free_in rfl) rfl (by simp [killL_length]) rfl (by simp) (by simp; omega) (by simp; omega)) ?_
    refine EVq_t rfl rfl (T_nilCheck rfl) ?_
    refine EVq_t rfl rfl (T_faR (fOk rfl) (zOk rfl) rfl) ?_
    refine EVq_e rfl rfl (D_store rfl (Free_in rfl) rfl rfl (zOk rfl) rfl (Nat.le_of_ble_eq_true rfl) rfl) ?_
    refine EVq_done ?_
    refine ω ⟨_, ⟨rfl, ?_⟩, W_keep2 _ _ ⟨rfl, rfl, rfl, trivial⟩ ⟨rfl, (gb2 (by simp [hd]) rfl), (gbe (by simp only [killL_ci, gro_app1, hd])), (gbe (by simp only [killL_ci])), trivial⟩ rfl⟩
    trivial
   ·
    refine EVq_e rfl rfl ((T_loadR (gOk rfl) rfl rfl rfl rfl).now) ?_
    refine EVq_e rfl rfl (D_appendG (uOk rfl) ap3 (by decide) rfl rfl (.inr rfl) (Free_in rfl) rfl (by simp [killL_length]) rfl (by simp) (by simp; omega) (by simp; omega)) ?_
    refine EVq_t rfl rfl (T_nilCheck rfl) ?_
    refine EVq_t rfl rfl (T_faR (fOk rfl) (zOk rfl) rfl) ?_
    refine EVq_e rfl rfl (D_store rfl (Free_in rfl) rfl rfl (zOk rfl) rfl (Nat.le_of_ble_eq_true rfl) rfl) ?_
    refine EVq_done ?_
    refine ω ⟨_, ⟨rfl, ?_⟩, W_keep2 _ _ ⟨rfl, rfl, rfl, trivial⟩ ⟨rfl, (gb2 (by simp [hd]) rfl), (gbe (by simp only [killL_ci, gro_app1, hd])), (gbe (by simp only [killL_ci])), trivial⟩ rfl⟩
    trivial
  ·try simp only [zz] at hb1
   have hd : hdT t = [] := by unfold hdT; rw [if_neg hb1]
   refine τ ?_
   refine ω ⟨_, ⟨rfl, ?_⟩, W_keep2 _ _ ⟨rfl, rfl, rfl, trivial⟩ ⟨rfl, (gb2 (by simp [hd]) rfl), (gbe (by simp only [killL_ci, hd, List.append_nil])), (gbe (by simp only [killL_ci])), trivial⟩ rfl⟩
   trivial
 ·rintro S ⟨rfl, _⟩
  iterate 9 refine τ ?_
  refine EV_wl (fun mm S => ∃ i : Int, ∃ c : List Int, mm = ((t.us.length : Int) - i).toNat ∧ S = St.of [(0, V.c (.ref 900 0)), (4, vb false), (22, V.c (.d false (.sl (t.us.map fun u => [encU u])))), (23, vi .i64 t.us.length), (24, vi .i64 i)] (tabO [(900, .box [.gro 950 3 (a ++ hdT t).length 1, .gro 951 3 (c).length 1]), (950, .box (List.map (ci .i64) (a ++ hdT t))), (951, .box (List.map (ci .i64) (c)))]) 39 ∧ 0 ≤ i ∧ i ≤ t.us.length ∧ c ++ usL (t.us.drop i.toNat) = b ++ usL t.us) _ ⟨_, ⟨0, b, rfl, rfl, ⟨by omega, by omega, rfl⟩⟩, W_keep2 _ _ ⟨rfl, rfl, rfl, rfl, rfl, trivial⟩ ⟨rfl, rfl, rfl, trivial⟩ rfl⟩ ?_
  rintro mm S ⟨i, c, rfl, rfl, ⟨h0, h1, h2⟩⟩
  have ei : (i.toNat : Int) = i := by omega
  have hln := congrArg List.length h2
  simp only [List.length_append] at hln
  iterate 5 refine τ ?_
  refine EV_cond rfl rfl rfl (fun hb2 => ?_) (fun hb2 => ?_)
  ·try simp only [zz] at hb2
   iterate 5 refine τ ?_
   refine EVo_t rfl (T_ixL (uOk rfl) (zOk rfl) rfl rfl (by omega) (by omega) (rfl)) ?_
   iterate 3 refine τ ?_
   refine EV_draw (inX []) (.st 0 (.st 1 (.st 2 (.st 3 (.st 5 (.two 4 (.one 6 (.one 7 (.st 8 (.st 9 (.one 10 .done))))) 6 (.one 4 (.one 7 (.st 8 (.st 9 (.one 10 .done))))))))))) Tryz.mixed (by kernel_rfl) ?_
   refine EVq_t rfl rfl (T_move rfl) ?_
   refine EVq_t rfl rfl (T_move rfl) ?_
   refine EVq_t rfl rfl (T_nilCheck rfl) ?_
   refine EVq_t rfl rfl (T_faR (fOk rfl) (zOk rfl) rfl) ?_
   refine EVq_t rfl rfl (T_move rfl) ?_
   refine EVq_two rfl rfl ((T_loadR (gOk rfl) rfl rfl rfl rfl).now) rfl rfl (D_call false (unit_Vars _ (hz4 _ (mem_rd h0 (by omega)))) rfl (φd rfl φn)) ?_ ?_
   ·
    refine EVq_e rfl rfl (D_call false (unit_Vars _ (hz4 _ (mem_rd h0 (by omega)))) rfl (φd rfl φn)) ?_
    have hvl : (varsU (rd t.us i)).length ≤ (usL (t.us.drop i.toNat)).length := by rw [drop_rdT (l := t.us) (by omega), ei]; simp only [usL, List.length_append]; omega
    refine EVq_e rfl rfl (D_appendG (uOk rfl) ap3 (by decide) rfl rfl (.inr rfl) (Free_in rfl) rfl (by simp [killL_length]) rfl (by intro ds hds; obtain ⟨x, _, rfl⟩ := List.mem_map.1 hds; rfl) (by simp; omega) (by simp; omega)) ?_
    refine EVq_t rfl rfl (T_nilCheck rfl) ?_
    refine EVq_t rfl rfl (T_faR (fOk rfl) (zOk rfl) rfl) ?_
    refine EVq_e rfl rfl (D_store rfl (Free_in rfl) rfl rfl (zOk rfl) rfl (Nat.le_of_ble_eq_true rfl) rfl) ?_
    refine EVq_done ?_
    iterate 4 refine τ ?_
    refine ⟨_, ?_, ω ⟨_, ⟨i + 1, c ++ varsU (rd t.us i), rfl, rfl, ?_⟩, W_keep2 _ _ ⟨rfl, rfl, rfl, rfl, rfl, trivial⟩ ⟨(gb2 rfl (by simp)), (gbe (by simp only [killL_ci])), (gbe (by simp only [killL_ci, gro_apps])), trivial⟩ rfl⟩⟩
    ·omega
    ·have e2 : (i + 1).toNat = i.toNat + 1 := by omega
     rw [e2]
     rw [drop_rdT (l := t.us) (by omega), ei] at h2
     simp only [usL] at h2
     exact ⟨by omega, by omega, by rw [← h2]; simp⟩
   ·
    refine EVq_e rfl rfl ((T_loadR (gOk rfl) rfl rfl rfl rfl).now) ?_
    have hvl : (varsU (rd t.us i)).length ≤ (usL (t.us.drop i.toNat)).length := by rw [drop_rdT (l := t.us) (by omega), ei]; simp only [usL, List.length_append]; omega
    refine EVq_e rfl rfl (D_appendG (uOk rfl) ap3 (by decide) rfl rfl (.inr rfl) (Free_in rfl) rfl (by simp [killL_length]) rfl (by intro ds hds; obtain ⟨x, _, rfl⟩ := List.mem_map.1 hds; rfl) (by simp; omega) (by simp; omega)) ?_
    refine EVq_t rfl rfl (T_nilCheck rfl) ?_
    refine EVq_t rfl rfl (T_faR (fOk rfl) (zOk rfl) rfl) ?_
    refine EVq_e rfl rfl (D_store rfl (Free_in rfl) rfl rfl (zOk rfl) rfl (Nat.le_of_ble_eq_true rfl) rfl) ?_
    refine EVq_done ?_
    iterate 4 refine τ ?_
    refine ⟨_, ?_, ω ⟨_, ⟨i + 1, c ++ varsU (rd t.us i), rfl, rfl, ?_⟩, W_keep2 _ _ ⟨rfl, rfl, rfl, rfl, rfl, trivial⟩ ⟨(gb2 rfl (by simp)), (gbe (by simp only [killL_ci])), (gbe (by simp only [killL_ci, gro_apps])), trivial⟩ rfl⟩⟩
    ·omega
    ·have e2 : (i + 1).toNat = i.toNat + 1 := by omega
     rw [e2]
     rw [drop_rdT (l := t.us) (by omega), ei] at h2
     simp only [usL] at h2
     exact ⟨by omega, by omega, by rw [← h2]; simp⟩
  ·try simp only [zz] at hb2
   iterate 6 refine τ ?_
   rw [List.drop_of_length_le (by omega)] at h2
   simp only [usL, List.append_nil] at h2
   subst h2
   refine ⟨⟨_, ⟨rfl, rfl⟩, .inl rfl⟩, ⟨rfl, rfl, rfl, trivial⟩⟩

theorem notgo_N (t : Ty) (hG : GoN t) (a b : List Int) (h1 : a.length + (tysT t).length ≤ 1099511627776) (h2 : b.length + (usT t).length ≤ 1099511627776) : FnS Tryz.prog 179 [tyV t, .c (.ref 903 0)] (bsV4 a b) (vb false) (bsV4 (a ++ tysT t) (b ++ usT t)) := by
 refine FnS_of_EV Tryz.func179 rfl (by kernel_rfl) rfl rfl rfl (fun E hE => ?_)
 iterate 2 refine τ ?_
 refine EVo_e rfl (D_box 1 (hE 1 rfl) Free_no rfl) ?_
 iterate 6 refine τ ?_
 refine EVo_e rfl (D_callG [(900, 900), (950, 950), (951, 951), (902, 902), (903, 903)] (hG a b h1 h2) rfl rfl rfl rfl (fun _ => Free_no) rfl ⟨⟨_, _, rfl, rfl, rfl⟩, ⟨_, _, rfl, rfl, (by first | exact trL_ci _ _ _ | (simp only [killL_ci, bkL_ci]; exact trL_ci _ _ _))⟩, ⟨_, _, rfl, rfl, (by first | exact trL_ci _ _ _ | (simp only [killL_ci, bkL_ci]; exact trL_ci _ _ _))⟩, ⟨_, _, rfl, rfl, rfl⟩, ⟨_, _, rfl, rfl, rfl⟩, trivial⟩ ⟨.inl rfl, .inr (.inr rfl), .inr (.inr rfl), .inl rfl, .inl rfl, trivial⟩) ?_
 iterate 4 refine τ ?_
 refine ⟨⟨_, ⟨rfl, rfl⟩, .inl rfl⟩, ⟨rfl, (gbe (by simp only [bkL_ci, killL_ci])), (gbe (by simp only [bkL_ci, killL_ci])), rfl, rfl, trivial⟩⟩

theorem idx_TyN (l : List Ty) (hl : l.length ≤ 549755813888) (hG : ∀ x ∈ l, GoN x) (a0 b0 : List Int) (h1 : a0.length + (tysTs l).length ≤ 1099511627776) (h2 : b0.length + (usTs l).length ≤ 1099511627776) : FnS Tryz.prog 128 [.c (.d false (.sl (l.map encTy))), .c (cF 179 [] [.ref 903 0])] (bsV4 a0 b0) (vi .i64 (-1)) (bsV4 (a0 ++ tysTs l) (b0 ++ usTs l)) := by
 refine FnS_of_EV Tryz.func128 rfl (by kernel_rfl) rfl rfl rfl (fun E hE => ?_)
 iterate 12 refine τ ?_
 refine EV_wl (fun mm S => ∃ i : Int, ∃ a : List Int, ∃ b : List Int, mm = ((l.length : Int) - i).toNat ∧ S = St.of [(0, V.c (.d false (.sl (l.map encTy)))), (1, V.c (cF 179 [] [.ref 903 0])), (7, vi .i64 l.length), (8, vi .i64 i)] (tabO [(900, .box [.gro 950 3 (a).length 1, .gro 951 3 (b).length 1]), (902, .box [cN]), (903, .box [cF 178 [] [.ref 902 0, .ref 903 0]]), (950, .box (List.map (ci .i64) (a))), (951, .box (List.map (ci .i64) (b)))]) 19 ∧ (0 ≤ i ∧ i ≤ l.length) ∧ a ++ tysTs (l.drop i.toNat) = a0 ++ tysTs l ∧ b ++ usTs (l.drop i.toNat) = b0 ++ usTs l) _ ⟨_, ⟨0, a0, b0, rfl, rfl, ⟨by omega, rfl, rfl⟩⟩, W_keep2 _ _ ⟨rfl, rfl, rfl, rfl, trivial⟩ ⟨rfl, rfl, rfl, rfl, rfl, trivial⟩ rfl⟩ ?_
 rintro mm S ⟨i, a, b, rfl, rfl, ⟨h0, h3, h4⟩⟩
 have ei : (i.toNat : Int) = i := by omega
 have hla := congrArg List.length h3
 have hlb := congrArg List.length h4
 simp only [List.length_append] at hla hlb
 iterate 5 refine τ ?_
 refine EV_cond rfl rfl rfl (fun hb1 => ?_) (fun hb1 => ?_)
 ·try simp only [zz] at hb1
  iterate 13 refine τ ?_
  refine EVo_t rfl (T_ixL (uOk rfl) (zOk rfl) rfl rfl (by omega) (by omega) (encTy_len _)) ?_
  rw [encTy_eq]
  have hva : (tysT (rd l i)).length ≤ (tysTs (l.drop i.toNat)).length := by rw [drop_rdT (l := l) (by omega), ei]; simp only [tysTs, List.length_append]; omega
  have hvb : (usT (rd l i)).length ≤ (usTs (l.drop i.toNat)).length := by rw [drop_rdT (l := l) (by omega), ei]; simp only [usTs, List.length_append]; omega
  refine τ ?_
  refine EVo_e rfl (D_callG [(900, 900), (950, 950), (951, 951), (902, 902), (903, 903)] (notgo_N (rd l i) (hG _ (mem_rd (by omega) (by omega))) a b (by omega) (by omega)) rfl rfl rfl rfl (fun _ => Free_no) rfl ⟨⟨_, _, rfl, rfl, rfl⟩, ⟨_, _, rfl, rfl, (by first | exact trL_ci _ _ _ | (simp only [killL_ci, bkL_ci]; exact trL_ci _ _ _))⟩, ⟨_, _, rfl, rfl, (by first | exact trL_ci _ _ _ | (simp only [killL_ci, bkL_ci]; exact trL_ci _ _ _))⟩, ⟨_, _, rfl, rfl, rfl⟩, ⟨_, _, rfl, rfl, rfl⟩, trivial⟩ ⟨.inl rfl, .inr (.inr rfl), .inr (.inr rfl), .inl rfl, .inl rfl, trivial⟩) ?_
  refine τ ?_
  refine EV_cond rfl rfl rfl (fun h => by first | cases h | (exfalso; simp_all; done)) (fun _ => ?_)
  iterate 5 refine τ ?_
  refine ⟨_, ?_, ω ⟨_, ⟨i + 1, a ++ tysT (rd l i), b ++ usT (rd l i), rfl, rfl, ?_⟩, W_keep2 _ _ ⟨rfl, rfl, rfl, rfl, trivial⟩ ⟨rfl, rfl, rfl, (gbe (by simp only [bkL_ci, killL_ci])), (gbe (by simp only [bkL_ci, killL_ci])), trivial⟩ rfl⟩⟩
  ·omega
  ·have e2 : (i + 1).toNat = i.toNat + 1 := by omega
   rw [e2]
   rw [drop_rdT (l := l) (by omega), ei] at h3 h4
   simp only [tysTs, usTs] at h3 h4
   exact ⟨by omega, by rw [← h3]; simp, by rw [← h4]; simp⟩
 ·try simp only [zz] at hb1
  iterate 6 refine τ ?_
  rw [List.drop_of_length_le (by omega)] at h3 h4
  simp only [tysTs, usTs, List.append_nil] at h3 h4
  subst h3
  subst h4
  refine ⟨⟨_, ⟨rfl, rfl⟩, .inl rfl⟩, ⟨rfl, (gbe (by simp only [bkL_ci, killL_ci])), (gbe (by simp only [bkL_ci, killL_ci])), rfl, rfl, trivial⟩⟩

theorem has_TyN (l : List Ty) (hl : l.length ≤ 549755813888) (hG : ∀ x ∈ l, GoN x) (a b : List Int) (h1 : a.length + (tysTs l).length ≤ 1099511627776) (h2 : b.length + (usTs l).length ≤ 1099511627776) : FnS Tryz.prog 90 [.c (.d false (.sl (l.map encTy))), .c (cF 179 [] [.ref 903 0])] (bsV4 a b) (vb false) (bsV4 (a ++ tysTs l) (b ++ usTs l)) := by
 refine FnS_of_EV Tryz.func90 rfl (by kernel_rfl) rfl rfl rfl (fun E hE => ?_)
 iterate 8 refine τ ?_
 refine EVo_e rfl (D_callG [(900, 900), (950, 950), (951, 951), (902, 902), (903, 903)] (idx_TyN l hl hG a b h1 h2) rfl rfl rfl rfl (fun _ => Free_no) rfl ⟨⟨_, _, rfl, rfl, rfl⟩, ⟨_, _, rfl, rfl, (by first | exact trL_ci _ _ _ | (simp only [killL_ci, bkL_ci]; exact trL_ci _ _ _))⟩, ⟨_, _, rfl, rfl, (by first | exact trL_ci _ _ _ | (simp only [killL_ci, bkL_ci]; exact trL_ci _ _ _))⟩, ⟨_, _, rfl, rfl, rfl⟩, ⟨_, _, rfl, rfl, rfl⟩, trivial⟩ ⟨.inl rfl, .inr (.inr rfl), .inr (.inr rfl), .inl rfl, .inl rfl, trivial⟩) ?_
 iterate 4 refine τ ?_
 refine ⟨⟨_, ⟨rfl, rfl⟩, .inl rfl⟩, ⟨rfl, (gbe (by simp only [bkL_ci, killL_ci])), (gbe (by simp only [bkL_ci, killL_ci])), rfl, rfl, trivial⟩⟩

theorem walk1_N (t : Ty) (ht : szT t) (hG : ∀ x ∈ t.ar, GoN x) (a b : List Int) (h1 : a.length + (tysT t).length ≤ 1099511627776) (h2 : b.length + (usT t).length ≤ 1099511627776) : FnS Tryz.prog 178 [tyV t, .c (.ref 902 0), .c (.ref 903 0)] (bsV4 a b) (vb true) (bsV4 (a ++ tysT t) (b ++ usT t)) := by
 obtain ⟨hz1, hz2, hz3, hz4, hz5⟩ := szT_eq ht
 rw [tysT_eq] at h1 ⊢
 rw [usT_eq] at h2 ⊢
 simp only [List.length_append] at h1 h2
 rw [← List.append_assoc, ← List.append_assoc]
 refine FnS_of_EV Tryz.func178 rfl (by kernel_rfl) rfl rfl rfl (fun E hE => ?_)
 iterate 2 refine τ ?_
 refine EVo_e rfl (D_box 1 (hE 1 rfl) Free_no rfl) ?_
 iterate 6 refine τ ?_
 refine EVo_e rfl (D_callG [(900, 900), (950, 950), (951, 951)] (node_N t ht a b (by omega) (by omega)) rfl rfl rfl rfl (fun _ => Free_no) rfl ⟨⟨_, _, rfl, rfl, rfl⟩, ⟨_, _, rfl, rfl, (by first | exact trL_ci _ _ _ | (simp only [killL_ci, bkL_ci]; exact trL_ci _ _ _))⟩, ⟨_, _, rfl, rfl, (by first | exact trL_ci _ _ _ | (simp only [killL_ci, bkL_ci]; exact trL_ci _ _ _))⟩, trivial⟩ ⟨.inl rfl, .inr (.inr rfl), .inr (.inr rfl), trivial⟩) ?_
 iterate 3 refine τ ?_
 refine EVo_t rfl (T_mf rfl rfl rfl) ?_
 refine EVo_e rfl (D_callG [(900, 900), (950, 950), (951, 951), (902, 902), (903, 903)] (has_TyN t.ar hz2 hG (a ++ hdT t) (b ++ usL t.us) (by simp only [List.length_append]; omega) (by simp only [List.length_append]; omega)) rfl rfl rfl rfl (fun _ => Free_no) rfl ⟨⟨_, _, rfl, rfl, rfl⟩, ⟨_, _, rfl, rfl, (by first | exact trL_ci _ _ _ | (simp only [killL_ci, bkL_ci]; exact trL_ci _ _ _))⟩, ⟨_, _, rfl, rfl, (by first | exact trL_ci _ _ _ | (simp only [killL_ci, bkL_ci]; exact trL_ci _ _ _))⟩, ⟨_, _, rfl, rfl, rfl⟩, ⟨_, _, rfl, rfl, rfl⟩, trivial⟩ ⟨.inl rfl, .inr (.inr rfl), .inr (.inr rfl), .inl rfl, .inl rfl, trivial⟩) ?_
 iterate 5 refine τ ?_
 refine ⟨⟨_, ⟨rfl, rfl⟩, .inl rfl⟩, ⟨rfl, (gbe (by simp only [bkL_ci, killL_ci])), (gbe (by simp only [bkL_ci, killL_ci])), rfl, rfl, trivial⟩⟩

theorem GoN_all : ∀ (n : Nat) (t : Ty), SizeOf.sizeOf t < n → szT t → GoN t
 | 0, t, h, _ => absurd h (Nat.not_lt_zero _)
 | n + 1, t, h, ht => fun a b h1 h2 => walk1_N t ht (fun x hx => GoN_all n x (by have := Ty.size_lt hx; omega) ((szT_eq ht).2.2.2.2 x hx)) a b h1 h2
theorem GoN_of (t : Ty) (ht : szT t) : GoN t := GoN_all (SizeOf.sizeOf t + 1) t (Nat.lt_succ_self _) ht

theorem walk_N (t : Ty) (ht : szT t) (a b : List Int) (h1 : a.length + (tysT t).length ≤ 1099511627776) (h2 : b.length + (usT t).length ≤ 1099511627776) : FnS Tryz.prog 157 [tyV t, .c cN] (bsV a b) (vb true) (bsV (a ++ tysT t) (b ++ usT t)) := by
 refine FnS_of_EV Tryz.func157 rfl (by kernel_rfl) rfl rfl rfl (fun E hE => ?_)
 iterate 2 refine τ ?_
 refine EVo_e rfl (D_box 1 (hE 1 rfl) Free_no rfl) ?_
 refine EVo_e rfl (D_box 2 (hE 2 rfl) Free_no rfl) ?_
 iterate 4 refine τ ?_
 refine EVo_e rfl (D_alloc 3 (hE 3 rfl) Free_no zr119 rfl) ?_
 iterate 3 refine τ ?_
 refine EVo_t rfl (T_mf rfl rfl rfl) ?_
 iterate 6 refine τ ?_
 refine EVo_e rfl (D_callG [(900, 900), (950, 950), (951, 951), (902, 2), (903, 3)] (GoN_of t ht a b h1 h2) rfl rfl rfl rfl (fun _ => Free_no) rfl ⟨⟨_, _, rfl, rfl, rfl⟩, ⟨_, _, rfl, rfl, (by first | exact trL_ci _ _ _ | (simp only [killL_ci, bkL_ci]; exact trL_ci _ _ _))⟩, ⟨_, _, rfl, rfl, (by first | exact trL_ci _ _ _ | (simp only [killL_ci, bkL_ci]; exact trL_ci _ _ _))⟩, ⟨_, _, rfl, rfl, rfl⟩, ⟨_, _, rfl, rfl, rfl⟩, trivial⟩ ⟨.inl rfl, .inr (.inr rfl), .inr (.inr rfl), .inl rfl, .inl rfl, trivial⟩) ?_
 iterate 3 refine τ ?_
 refine ⟨⟨_, ⟨rfl, rfl⟩, .inl rfl⟩, ⟨rfl, (gbe (by simp only [bkL_ci, killL_ci])), (gbe (by simp only [bkL_ci, killL_ci])), trivial⟩⟩

def scL (l : List Int) : List Int := Lib.compact (l.mergeSort fun x y => decide (x ≤ y))

theorem typ_Vars (t : Ty) (ht : szT t) (h1 : (tysT t).length ≤ 1099511627776) (h2 : (usT t).length ≤ 1099511627776) : Fn Tryz.prog 125 [.agg (tyD t)] false (.tup [.d (encI (if goodT t then scL (tysT t) else [])), .d (encI (if goodT t then scL (usT t) else []))]) := by
 refine Fn_of_EV Tryz.func125 rfl (by kernel_rfl) rfl rfl (fun E hE => ?_)
 iterate 2 refine τ ?_
 refine EVo_e rfl (D_box 1 (hE 1 rfl) Free_no rfl) ?_
 iterate 7 refine τ ?_
 refine EVo_e rfl (D_call false (typ_good t ht) rfl (φa rfl φn)) ?_
 iterate 2 refine τ ?_
 refine EV_cond rfl rfl rfl (fun hb1 => ?_) (fun hb1 => ?_)
 ·try simp only [zz] at hb1
  have hg : goodT t = false := by simpa using hb1
  iterate 6 refine τ ?_
  refine ⟨_, _, ⟨rfl, rfl⟩, ⟨rfl, rfl⟩, fit_eq rfl nofun ?_, fit_eq rfl nofun ?_⟩
  ·rw [if_neg (by simp [hg])]; rfl
  ·rw [if_neg (by simp [hg])]; rfl
 ·try simp only [zz] at hb1
  have hg : goodT t = true := by simpa using hb1
  iterate 3 refine τ ?_
  refine EVo_t rfl (T_build ly176 rfl rfl) ?_
  refine EVo_e rfl (D_box 2 (hE 2 rfl) Free_no rfl) ?_
  iterate 3 refine τ ?_
  refine EV_weak (W_groBox2 2 10 11 3 1 (hE 10 rfl) (hE 11 rfl) rfl rfl rfl rfl rfl rfl) ?_
  iterate 3 refine τ ?_
  refine EVo_t rfl (T_mf rfl rfl rfl) ?_
  refine EVo_e rfl (D_callG [(900, 2), (950, 10), (951, 11)] (walk_N t ht [] [] (by simp; omega) (by simp; omega)) rfl rfl rfl rfl (fun _ => Free_no) rfl ⟨⟨_, _, rfl, rfl, rfl⟩, ⟨_, _, rfl, rfl, rfl⟩, ⟨_, _, rfl, rfl, rfl⟩, trivial⟩ ⟨.inl rfl, .inr (.inl (hE 10 rfl)), .inr (.inl (hE 11 rfl)), trivial⟩) ?_
  iterate 2 refine τ ?_
  refine EV_cut (fun S => S = St.of [(4, V.c (.ref 2 0))] (tabO [(2, .box [.gro 10 3 (tysT t).length 1, .gro 11 3 (usT t).length 1]), (10, .box (List.map (ci .i64) (tysT t))), (11, .box (List.map (ci .i64) (usT t)))]) 34 ∧ True) (ω ⟨_, ⟨rfl, ?_⟩, W_keep2 _ _ ⟨rfl, trivial⟩ ⟨rfl, (gbe (by simp only [bkL_ci, killL_ci, List.nil_append])), (gbe (by simp only [bkL_ci, killL_ci, List.nil_append])), trivial⟩ rfl⟩) ?_
  ·trivial
  rintro S ⟨rfl, _⟩
  iterate 5 refine τ ?_
  refine EVo_e rfl (D_sortG (id := 10) (by kernel_rfl) Tryz.slices_Sort_int Tryz.slices_Sort_int_none rfl rfl Free_no rfl (by omega) (by omega)) ?_
  iterate 7 refine τ ?_
  refine EVo_e rfl (D_sortG (id := 11) (by kernel_rfl) Tryz.slices_Sort_int Tryz.slices_Sort_int_none rfl rfl Free_no rfl (by omega) (by omega)) ?_
  iterate 2 refine τ ?_
  refine EV_draw (inX [2]) (.st 0 (.st 1 (.st 2 (.st 3 (.st 5 (.st 6 (.st 7 (.st 8 (.one 4 (.one 9 (.st 10 (.st 11 .done)))))))))))) Tryz.mixed (by kernel_rfl) ?_
  refine EVq_t rfl rfl (T_move rfl) ?_
  refine EVq_t rfl rfl (T_nilCheck rfl) ?_
  refine EVq_t rfl rfl (T_faR (fOk rfl) (zOk rfl) rfl) ?_
  refine EVq_t rfl rfl (T_loadR (gOk rfl) rfl rfl rfl rfl) ?_
  refine EVq_t rfl rfl (T_move rfl) ?_
  refine EVq_t rfl rfl (T_nilCheck rfl) ?_
  refine EVq_t rfl rfl (T_faR (fOk rfl) (zOk rfl) rfl) ?_
  refine EVq_t rfl rfl (T_loadR (gOk rfl) rfl rfl rfl rfl) ?_
  refine EVq_e rfl rfl (D_compactG (id := 10) (by kernel_rfl) Tryz.slices_Compact_int Tryz.slices_Compact_int_empty rfl rfl (Free_in rfl) rfl (by simp) (by omega)) ?_
  refine EVq_e rfl rfl (D_compactG (id := 11) (by kernel_rfl) Tryz.slices_Compact_int Tryz.slices_Compact_int_empty rfl rfl (Free_in rfl) rfl (by simp) (by omega)) ?_
  refine EVq_t rfl rfl (T_assign rfl) ?_
  refine EVq_t rfl rfl (T_assign rfl) ?_
  refine EVq_done ?_
  refine EV_weak (W_groMsl 2 rfl) ?_
  refine EV_weak (W_freezeL 2 10 0 _ _ (hE 10 rfl) rfl rfl rfl (by simp) (by omega)) ?_
  refine EV_weak (W_groMsl 3 rfl) ?_
  refine EV_weak (W_freezeL 3 11 0 _ _ (hE 11 rfl) rfl rfl (gbe killL_ci) (by simp) (by omega)) ?_
  refine τ ?_
  refine ⟨_, _, ⟨rfl, rfl⟩, ⟨rfl, rfl⟩, fit_eq rfl nofun ?_, fit_eq rfl nofun ?_⟩
  ·rw [if_pos hg]; simp [scL]
  ·rw [if_pos hg]; simp [scL]

end Go.Proofs.YthaiegnohkiegaaGreat.Ab
/-
 Contracts of the functions of package scheme: rigid variables.
-/
namespace Go.Proofs.YthaiegnohkiegaaGreat.Ab
set_option linter.unusedVariables false
set_option linter.unusedSimpArgs false
set_option maxRecDepth 20000
set_option maxHeartbeats 4000000
attribute [local irreducible] Tells Does EVo EV EVq EVr TellsC


abbrev cb (b : Bool) : C := .d true (.val (.bool b))
def rigU (u : List Pw) : Bool := u.any fun p => decide (p.k = 2)
mutual
def rigT : Ty → Bool
 | .mk k n s ar us => decide (k = 2) || rigTs ar || us.any rigU
def rigTs : List Ty → Bool
 | [] => false
 | t :: l => rigT t || rigTs l
end
theorem rigT_eq (t : Ty) : rigT t = (decide (t.k = 2) || rigTs t.ar || t.us.any rigU) := by cases t; simp only [rigT, Ty.k, Ty.ar, Ty.us]; rfl
theorem rigTs_drop {l : List Ty} {n : Nat} (h : n < l.length) : rigTs (l.drop n) = (rigT (rd l (n : Int)) || rigTs (l.drop (n + 1))) := by rw [drop_rdT h]; simp only [rigTs]
theorem any_drop {α : Type} [Inhabited α] {p : α → Bool} {l : List α} {n : Nat} (h : n < l.length) : (l.drop n).any p = (p (rd l (n : Int)) || (l.drop (n + 1)).any p) := by rw [drop_rdT h]; simp only [List.any_cons]
abbrev bsR (f : Bool) : List (Nat × List C) := [(900, [cb f])]
abbrev bsR4 (f : Bool) : List (Nat × List C) := [(900, [cb f]), (901, [cF 154 [] [.ref 900 0]]), (902, [cF 177 [] [.ref 901 0, .ref 902 0, .ref 903 0]]), (903, [cF 155 [] [.ref 900 0]])]
def GoR (x : Ty) : Prop := ∀ f : Bool, FnS Tryz.prog 177 [tyV x, .c (.ref 901 0), .c (.ref 902 0), .c (.ref 903 0)] (bsR4 f) (.tup []) (bsR4 (f || rigT x))
theorem cbe {b b' : Bool} (h : b = b') : some (O.box [cb b]) = some (O.box [cb b']) := by rw [h]

theorem rigid1_R (t : Ty) (f : Bool) : FnS Tryz.prog 154 [tyV t, .c (.ref 900 0)] (bsR f) (.tup []) (bsR (f || decide (t.k = 2))) := by
 refine FnS_of_EV Tryz.func154 rfl (by kernel_rfl) rfl rfl rfl (fun E hE => ?_)
 iterate 2 refine τ ?_
 refine EVo_e rfl (D_box 1 (hE 1 rfl) Free_no rfl) ?_
 iterate 4 refine τ ?_
 refine EVo_case 4 rfl (fun hb1 => ?_) (fun hb1 => ?_)
 ·try simp only [zz] at hb1
  iterate 6 refine τ ?_
  refine ⟨trivial, ⟨(cbe (by simp_all <;> rfl)), trivial⟩⟩
 ·try simp only [zz] at hb1
  iterate 6 refine τ ?_
  refine ⟨trivial, ⟨(cbe (by simp_all <;> rfl)), trivial⟩⟩

theorem rigid2_R (u : List Pw) (hu : szU u) (f : Bool) : FnS Tryz.prog 155 [.c (.d false (encU u)), .c (.ref 900 0)] (bsR f) (.tup []) (bsR (f || rigU u)) := by
 refine FnS_of_EV Tryz.func155 rfl (by kernel_rfl) rfl rfl rfl (fun E hE => ?_)
 iterate 3 refine τ ?_
 refine EVo_case 4 rfl (fun hb1 => ?_) (fun hb1 => ?_)
 ·try simp only [zz] at hb1
  iterate 5 refine τ ?_
  refine ⟨trivial, ⟨(cbe (by first | rfl | (simp_all [rigU]; done))), trivial⟩⟩
 ·try simp only [zz] at hb1
  refine τ ?_
  refine EVo_e rfl (D_call false (has_Pw u 156 (fun p => decide (p.k = 2)) (by have := hu.1; omega) (fun x _ => scheme_rigidP x)) rfl (φd rfl (φd rfl φn))) ?_
  iterate 3 refine τ ?_
  refine ⟨trivial, ⟨(cbe (by first | rfl | (simp_all [rigU]; done))), trivial⟩⟩

theorem walk1_R (t : Ty) (ht : szT t) (hG : ∀ x ∈ t.ar, GoR x) (f : Bool) : FnS Tryz.prog 177 [tyV t, .c (.ref 901 0), .c (.ref 902 0), .c (.ref 903 0)] (bsR4 f) (.tup []) (bsR4 (f || rigT t)) := by
 obtain ⟨hz1, hz2, hz3, hz4, hz5⟩ := szT_eq ht
 rw [rigT_eq]
 refine FnS_of_EV Tryz.func177 rfl (by kernel_rfl) rfl rfl rfl (fun E hE => ?_)
 iterate 2 refine τ ?_
 refine EVo_e rfl (D_box 1 (hE 1 rfl) Free_no rfl) ?_
 iterate 5 refine τ ?_
 refine EVo_e rfl (D_callG [(900, 900)] (rigid1_R t f) rfl rfl rfl rfl (fun _ => Free_no) rfl ⟨⟨_, _, rfl, rfl, rfl⟩, trivial⟩ ⟨.inl rfl, trivial⟩) ?_
 iterate 10 refine τ ?_
 refine EV_wl (fun mm S => ∃ i : Int, ∃ g : Bool, mm = ((t.ar.length : Int) - i).toNat ∧ S = St.of [(1, V.c (.ref 901 0)), (2, V.c (.ref 902 0)), (3, V.c (.ref 903 0)), (4, V.c (.ref 1 0)), (13, V.c (.d false (.sl (t.ar.map encTy)))), (14, vi .i64 t.ar.length), (15, vi .i64 i)] (tabO [(1, .box ((tyD t).map (C.nd false))), (900, .box [cb g]), (901, .box [cF 154 [] [.ref 900 0]]), (902, .box [cF 177 [] [.ref 901 0, .ref 902 0, .ref 903 0]]), (903, .box [cF 155 [] [.ref 900 0]])]) 34 ∧ 0 ≤ i ∧ i ≤ t.ar.length ∧ (g || rigTs (t.ar.drop i.toNat)) = (f || decide (t.k = 2) || rigTs t.ar)) _ ⟨_, ⟨0, f || decide (t.k = 2), rfl, rfl, ⟨by omega, by omega, rfl⟩⟩, W_keep2 _ _ ⟨rfl, rfl, rfl, rfl, rfl, rfl, rfl, trivial⟩ ⟨rfl, rfl, rfl, rfl, rfl, trivial⟩ rfl⟩ ?_
 rintro mm S ⟨i, g, rfl, rfl, ⟨h0, h1, h2⟩⟩
 have ei : (i.toNat : Int) = i := by omega
 iterate 5 refine τ ?_
 refine EV_cond rfl rfl rfl (fun hb1 => ?_) (fun hb1 => ?_)
 ·try simp only [zz] at hb1
  iterate 5 refine τ ?_
  refine EVo_t rfl (T_ixL (uOk rfl) (zOk rfl) rfl rfl (by omega) (by omega) (encTy_len _)) ?_
  rw [encTy_eq]
  refine τ ?_
  refine EVo_e rfl (D_alloc 2 (hE 2 rfl) Free_no zr27 rfl) ?_
  iterate 5 refine τ ?_
  refine EVo_e rfl (D_callG [(900, 900), (901, 901), (902, 902), (903, 903)] (hG (rd t.ar i) (mem_rd (by omega) (by omega)) g) rfl rfl rfl rfl (fun _ => Free_no) rfl ⟨⟨_, _, rfl, rfl, rfl⟩, ⟨_, _, rfl, rfl, rfl⟩, ⟨_, _, rfl, rfl, rfl⟩, ⟨_, _, rfl, rfl, rfl⟩, trivial⟩ ⟨.inl rfl, .inl rfl, .inl rfl, .inl rfl, trivial⟩) ?_
  iterate 5 refine τ ?_
  refine ⟨_, ?_, ω ⟨_, ⟨i + 1, g || rigT (rd t.ar i), rfl, rfl, ?_⟩, W_keep2 _ _ ⟨rfl, rfl, rfl, rfl, rfl, rfl, rfl, trivial⟩ ⟨rfl, rfl, rfl, rfl, rfl, trivial⟩ rfl⟩⟩
  ·omega
  ·have e2 : (i + 1).toNat = i.toNat + 1 := by omega
   rw [e2]
   rw [rigTs_drop (by omega), ei] at h2
   exact ⟨by omega, by omega, by rw [← h2]; simp [Bool.or_assoc]⟩
 ·try simp only [zz] at hb1
  iterate 2 refine τ ?_
  rw [List.drop_of_length_le (by omega)] at h2
  simp only [rigTs, Bool.or_false] at h2
  subst h2
  iterate 7 refine τ ?_
  refine EV_wl (fun mm S => ∃ i : Int, ∃ g : Bool, mm = ((t.us.length : Int) - i).toNat ∧ S = St.of [(1, V.c (.ref 901 0)), (2, V.c (.ref 902 0)), (3, V.c (.ref 903 0)), (24, V.c (.d false (.sl (t.us.map fun u => [encU u])))), (25, vi .i64 t.us.length), (26, vi .i64 i)] (tabO [(900, .box [cb g]), (901, .box [cF 154 [] [.ref 900 0]]), (902, .box [cF 177 [] [.ref 901 0, .ref 902 0, .ref 903 0]]), (903, .box [cF 155 [] [.ref 900 0]])]) 34 ∧ 0 ≤ i ∧ i ≤ t.us.length ∧ (g || (t.us.drop i.toNat).any rigU) = (f || (decide (t.k = 2) || rigTs t.ar || t.us.any rigU))) _ ⟨_, ⟨0, f || decide (t.k = 2) || rigTs t.ar, rfl, rfl, ⟨by omega, by omega, by simp [Bool.or_assoc]⟩⟩, W_keep2 _ _ ⟨rfl, rfl, rfl, rfl, rfl, rfl, trivial⟩ ⟨rfl, rfl, rfl, rfl, trivial⟩ rfl⟩ ?_
  rintro mm S ⟨i, g, rfl, rfl, ⟨h0, h1, h2⟩⟩
  have ei : (i.toNat : Int) = i := by omega
  iterate 5 refine τ ?_
  refine EV_cond rfl rfl rfl (fun hb2 => ?_) (fun hb2 => ?_)
  ·try simp only [zz] at hb2
   iterate 5 refine τ ?_
   refine EVo_t rfl (T_ixL (uOk rfl) (zOk rfl) rfl rfl (by omega) (by omega) (rfl)) ?_
   iterate 6 refine τ ?_
   refine EVo_e rfl (D_callG [(900, 900)] (rigid2_R (rd t.us i) (hz4 _ (mem_rd (by omega) (by omega))) g) rfl rfl rfl rfl (fun _ => Free_no) rfl ⟨⟨_, _, rfl, rfl, rfl⟩, trivial⟩ ⟨.inl rfl, trivial⟩) ?_
   iterate 5 refine τ ?_
   refine ⟨_, ?_, ω ⟨_, ⟨i + 1, g || rigU (rd t.us i), rfl, rfl, ?_⟩, W_keep2 _ _ ⟨rfl, rfl, rfl, rfl, rfl, rfl, trivial⟩ ⟨rfl, rfl, rfl, rfl, trivial⟩ rfl⟩⟩
   ·omega
   ·have e2 : (i + 1).toNat = i.toNat + 1 := by omega
    rw [e2]
    rw [any_drop (by omega), ei] at h2
    exact ⟨by omega, by omega, by rw [← h2]; simp [Bool.or_assoc]⟩
  ·try simp only [zz] at hb2
   refine τ ?_
   rw [List.drop_of_length_le (by omega)] at h2
   simp only [List.any_nil, Bool.or_false] at h2
   subst h2
   refine ⟨trivial, ⟨rfl, rfl, rfl, rfl, trivial⟩⟩

theorem GoR_all : ∀ (n : Nat) (t : Ty), SizeOf.sizeOf t < n → szT t → GoR t
 | 0, t, h, _ => absurd h (Nat.not_lt_zero _)
 | n + 1, t, h, ht => fun f => walk1_R t ht (fun x hx => GoR_all n x (by have := Ty.size_lt hx; omega) ((szT_eq ht).2.2.2.2 x hx)) f
theorem GoR_of (t : Ty) (ht : szT t) : GoR t := GoR_all (SizeOf.sizeOf t + 1) t (Nat.lt_succ_self _) ht

theorem walk_R (t : Ty) (ht : szT t) (f : Bool) : FnS Tryz.prog 153 [tyV t, .c (cF 154 [] [.ref 900 0]), .c (cF 155 [] [.ref 900 0])] (bsR f) (.tup []) (bsR (f || rigT t)) := by
 refine FnS_of_EV Tryz.func153 rfl (by kernel_rfl) rfl rfl rfl (fun E hE => ?_)
 iterate 2 refine τ ?_
 refine EVo_e rfl (D_box 1 (hE 1 rfl) Free_no rfl) ?_
 refine EVo_e rfl (D_box 2 (hE 2 rfl) Free_no rfl) ?_
 refine EVo_e rfl (D_box 3 (hE 3 rfl) Free_no rfl) ?_
 iterate 3 refine τ ?_
 refine EVo_e rfl (D_alloc 4 (hE 4 rfl) Free_no zr172 rfl) ?_
 iterate 3 refine τ ?_
 refine EVo_t rfl (T_mf rfl rfl rfl) ?_
 iterate 5 refine τ ?_
 refine EVo_e rfl (D_callG [(900, 900), (901, 2), (902, 4), (903, 3)] (GoR_of t ht f) rfl rfl rfl rfl (fun _ => Free_no) rfl ⟨⟨_, _, rfl, rfl, rfl⟩, ⟨_, _, rfl, rfl, rfl⟩, ⟨_, _, rfl, rfl, rfl⟩, ⟨_, _, rfl, rfl, rfl⟩, trivial⟩ ⟨.inl rfl, .inl rfl, .inl rfl, .inl rfl, trivial⟩) ?_
 refine τ ?_
 refine ⟨trivial, ⟨rfl, trivial⟩⟩

theorem scheme_rigid (t : Ty) (ht : szT t) : Fn Tryz.prog 124 [.agg (tyD t)] false (.one (.d (ib (rigT t)))) := by
 refine Fn_of_EV Tryz.func124 rfl (by kernel_rfl) rfl rfl (fun E hE => ?_)
 iterate 2 refine τ ?_
 refine EVo_e rfl (D_box 1 (hE 1 rfl) Free_no rfl) ?_
 iterate 4 refine τ ?_
 refine EVo_e rfl (D_alloc 2 (hE 2 rfl) Free_no zr4 rfl) ?_
 iterate 5 refine τ ?_
 refine EVo_t rfl (T_mf rfl rfl rfl) ?_
 refine EVo_t rfl (T_mf rfl rfl rfl) ?_
 refine EVo_e rfl (D_callG [(900, 2)] (walk_R t ht false) rfl rfl rfl rfl (fun _ => Free_no) rfl ⟨⟨_, _, rfl, rfl, rfl⟩, trivial⟩ ⟨.inl rfl, trivial⟩) ?_
 iterate 7 refine τ ?_
 refine ⟨_, ⟨rfl, rfl⟩, fit_eq rfl nofun rfl⟩

end Go.Proofs.YthaiegnohkiegaaGreat.Ab
/-
 Contracts of the functions of package scheme: what a scheme may be.
-/
namespace Go.Proofs.YthaiegnohkiegaaGreat.Ab
set_option linter.unusedVariables false
set_option linter.unusedSimpArgs false
set_option maxRecDepth 20000
set_option maxHeartbeats 4000000
attribute [local irreducible] Tells Does EVo EV EVq EVr TellsC


def lastOk (l : List Int) (a : Int) : Bool := decide (l.length = 0) || decide (rd l ((l.length : Int) - 1) < a)
abbrev scD (a b : Int) (t : Ty) : List D := ii a :: ii b :: tyD t
/-- May a scheme be? -/
def goodS (a b : Int) (t : Ty) : Bool := decide (0 ≤ a) && decide (a ≤ 256) && decide (0 ≤ b) && decide (b ≤ 256) && goodT t && !rigT t && lastOk (scL (tysT t)) a && lastOk (scL (usT t)) b
theorem vars_good (t : Ty) (ht : szT t) (h1 : (tysT t).length ≤ 1099511627776) (h2 : (usT t).length ≤ 1099511627776) (hg : goodT t = true) : Fn Tryz.prog 125 [.agg (tyD t)] false (.tup [.d (encI (scL (tysT t))), .d (encI (scL (usT t)))]) := by
 have := typ_Vars t ht h1 h2
 rw [if_pos hg, if_pos hg] at this
 exact this

theorem scheme_good (a b : Int) (t : Ty) (ht : szT t) (h1 : (tysT t).length ≤ 1099511627776) (h2 : (usT t).length ≤ 1099511627776) : Fn Tryz.prog 84 [.agg (scD a b t)] false (.one (.d (ib (goodS a b t)))) := by
 have hsl : ∀ l : List Int, (scL l).length ≤ l.length := fun l => by
  simp only [scL, Lib.compact, Lib.compactUpTo, List.length_map]
  exact Nat.le_trans (List.length_filter_le _ _) (by simp)
 have hs1 := hsl (tysT t)
 have hs2 := hsl (usT t)
 refine Fn_of_EV Tryz.func84 rfl (by kernel_rfl) rfl rfl (fun E hE => ?_)
 iterate 2 refine τ ?_
 refine EVo_e rfl (D_box 1 (hE 1 rfl) Free_no rfl) ?_
 iterate 9 refine τ ?_
 refine EVo_case 8 rfl (fun hb1 => ?_) (fun hb1 => ?_)
 ·try simp only [zz] at hb1
  iterate 26 refine τ ?_
  refine EV_cond rfl rfl rfl (fun _ => ?_) (fun h => by first | cases h | (exfalso; simp_all; done))
  iterate 5 refine τ ?_
  refine ⟨_, ⟨rfl, rfl⟩, fit_eq rfl nofun ?_⟩
  ·refine congrArg ib ?_
   unfold goodS lastOk
   simp_all <;> omega
 ·try simp only [zz] at hb1
  iterate 5 refine τ ?_
  refine EVo_case 13 rfl (fun hb2 => ?_) (fun hb2 => ?_)
  ·try simp only [zz] at hb2
   iterate 21 refine τ ?_
   refine EV_cond rfl rfl rfl (fun _ => ?_) (fun h => by first | cases h | (exfalso; simp_all; done))
   iterate 5 refine τ ?_
   refine ⟨_, ⟨rfl, rfl⟩, fit_eq rfl nofun ?_⟩
   ·refine congrArg ib ?_
    unfold goodS lastOk
    simp_all <;> omega
  ·try simp only [zz] at hb2
   iterate 5 refine τ ?_
   refine EVo_case 18 rfl (fun hb3 => ?_) (fun hb3 => ?_)
   ·try simp only [zz] at hb3
    iterate 16 refine τ ?_
    refine EV_cond rfl rfl rfl (fun _ => ?_) (fun h => by first | cases h | (exfalso; simp_all; done))
    iterate 5 refine τ ?_
    refine ⟨_, ⟨rfl, rfl⟩, fit_eq rfl nofun ?_⟩
    ·refine congrArg ib ?_
     unfold goodS lastOk
     simp_all <;> omega
   ·try simp only [zz] at hb3
    iterate 5 refine τ ?_
    refine EVo_case 23 rfl (fun hb4 => ?_) (fun hb4 => ?_)
    ·try simp only [zz] at hb4
     iterate 11 refine τ ?_
     refine EV_cond rfl rfl rfl (fun _ => ?_) (fun h => by first | cases h | (exfalso; simp_all; done))
     iterate 5 refine τ ?_
     refine ⟨_, ⟨rfl, rfl⟩, fit_eq rfl nofun ?_⟩
     ·refine congrArg ib ?_
      unfold goodS lastOk
      simp_all <;> omega
    ·try simp only [zz] at hb4
     iterate 2 refine τ ?_
     refine EVo_e rfl (D_call false (typ_Check _ (by assumption)) rfl (φa rfl φn)) ?_
     iterate 3 refine τ ?_
     refine EVo_case 29 rfl (fun hb5 => ?_) (fun hb5 => ?_)
     ·try simp only [zz] at hb5
      iterate 5 refine τ ?_
      refine EV_cond rfl rfl rfl (fun _ => ?_) (fun h => by first | cases h | (exfalso; simp_all; done))
      iterate 5 refine τ ?_
      refine ⟨_, ⟨rfl, rfl⟩, fit_eq rfl nofun ?_⟩
      ·refine congrArg ib ?_
       unfold goodS lastOk
       simp_all <;> omega
     ·try simp only [zz] at hb5
      iterate 2 refine τ ?_
      refine EVo_e rfl (D_call false (scheme_rigid _ (by assumption)) rfl (φa rfl φn)) ?_
      iterate 2 refine τ ?_
      refine EV_cond rfl rfl rfl (fun hb6 => ?_) (fun hb6 => ?_)
      ·try simp only [zz] at hb6
       iterate 5 refine τ ?_
       refine ⟨_, ⟨rfl, rfl⟩, fit_eq rfl nofun ?_⟩
       ·refine congrArg ib ?_
        unfold goodS lastOk
        simp_all <;> omega
      ·try simp only [zz] at hb6
       iterate 5 refine τ ?_
       refine EVo_e rfl (D_call false (vars_good t ht h1 h2 (by simp_all)) rfl (φa rfl φn)) ?_
       iterate 7 refine τ ?_
       refine EV_draw (inX [1]) (.st 0 (.st 1 (.st 2 (.st 3 (.st 4 (.st 5 (.st 6 (.st 7 (.st 8 (.st 9 (.st 10 (.st 11 (.st 12 (.st 13 (.st 14 (.st 15 (.st 16 (.st 17 (.st 18 (.st 19 (.st 20 (.st 21 (.st 22 (.st 23 (.st 24 (.st 25 (.st 26 (.st 27 (.st 28 (.st 29 (.st 30 .done))))))))))))))))))))))))))))))) Tryz.mixed (by kernel_rfl) ?_
       refine EVq_t rfl rfl (T_move rfl) ?_
       refine EVq_t rfl rfl (T_lenL (uOk rfl) rfl) ?_
       refine EVq_t rfl rfl (T_bin rfl rfl rfl) ?_
       refine EVq_t rfl rfl (T_move rfl) ?_
       refine EVq_case 43 rfl (fun hb7 => ?_) (fun hb7 => ?_)
       ·try simp only [zz] at hb7
        refine EVq_off rfl rfl ?_
        refine EVq_off rfl rfl ?_
        refine EVq_off rfl rfl ?_
        refine EVq_off rfl rfl ?_
        refine EVq_off rfl rfl ?_
        refine EVq_off rfl rfl ?_
        refine EVq_off rfl rfl ?_
        refine EVq_off rfl rfl ?_
        refine EVq_off rfl rfl ?_
        refine EVq_t rfl rfl (T_pick rfl rfl) ?_
        refine EVq_t rfl rfl (T_move rfl) ?_
        refine EVq_t rfl rfl (T_move rfl) ?_
        refine EVq_t rfl rfl (T_lenL (uOk rfl) rfl) ?_
        refine EVq_t rfl rfl (T_bin rfl rfl rfl) ?_
        refine EVq_t rfl rfl (T_move rfl) ?_
        refine EVq_case 58 rfl (fun hb8 => ?_) (fun hb8 => ?_)
        ·try simp only [zz] at hb8
         refine EVq_off rfl rfl ?_
         refine EVq_off rfl rfl ?_
         refine EVq_off rfl rfl ?_
         refine EVq_off rfl rfl ?_
         refine EVq_off rfl rfl ?_
         refine EVq_off rfl rfl ?_
         refine EVq_off rfl rfl ?_
         refine EVq_off rfl rfl ?_
         refine EVq_off rfl rfl ?_
         refine EVq_t rfl rfl (T_pick rfl rfl) ?_
         refine EVq_t rfl rfl (T_pick rfl rfl) ?_
         refine EVq_t rfl rfl (T_assign rfl) ?_
         refine EVq_done ?_
         refine τ ?_
         refine ⟨_, ⟨rfl, rfl⟩, fit_eq rfl nofun ?_⟩
         ·refine congrArg ib ?_
          unfold goodS lastOk
          simp_all <;> omega
        ·try simp only [zz] at hb8
         refine EVq_t rfl rfl (T_move rfl) ?_
         refine EVq_t rfl rfl (T_move rfl) ?_
         refine EVq_t rfl rfl (T_lenL (uOk rfl) rfl) ?_
         refine EVq_t rfl rfl (T_binI rfl rfl rfl (by omega) (by omega)) ?_
         refine EVq_t rfl rfl (T_ixL (uOk rfl) (zOk rfl) rfl rfl (by omega) (by omega) (rfl)) ?_
         refine EVq_t rfl rfl (T_load (gOk rfl) rfl) ?_
         refine EVq_t rfl rfl (T_faR (fOk rfl) (zOk rfl) rfl) ?_
         refine EVq_t rfl rfl (T_loadR (gOk rfl) rfl rfl rfl rfl) ?_
         refine EVq_t rfl rfl (T_bin rfl rfl rfl) ?_
         refine EVq_t rfl rfl (T_pick rfl rfl) ?_
         refine EVq_t rfl rfl (T_pick rfl rfl) ?_
         refine EVq_t rfl rfl (T_assign rfl) ?_
         refine EVq_done ?_
         refine τ ?_
         refine ⟨_, ⟨rfl, rfl⟩, fit_eq rfl nofun ?_⟩
         ·refine congrArg ib ?_
          unfold goodS lastOk
          simp_all <;> omega
       ·try simp only [zz] at hb7
        refine EVq_t rfl rfl (T_move rfl) ?_
        refine EVq_t rfl rfl (T_move rfl) ?_
        refine EVq_t rfl rfl (T_lenL (uOk rfl) rfl) ?_
        refine EVq_t rfl rfl (T_binI rfl rfl rfl (by omega) (by omega)) ?_
        refine EVq_t rfl rfl (T_ixL (uOk rfl) (zOk rfl) rfl rfl (by omega) (by omega) (rfl)) ?_
        refine EVq_t rfl rfl (T_load (gOk rfl) rfl) ?_
        refine EVq_t rfl rfl (T_faR (fOk rfl) (zOk rfl) rfl) ?_
        refine EVq_t rfl rfl (T_loadR (gOk rfl) rfl rfl rfl rfl) ?_
        refine EVq_t rfl rfl (T_bin rfl rfl rfl) ?_
        refine EVq_t rfl rfl (T_pick rfl rfl) ?_
        refine EVq_t rfl rfl (T_move rfl) ?_
        refine EVq_case 54 rfl (fun hb9 => ?_) (fun hb9 => ?_)
        ·try simp only [zz] at hb9
         refine EVq_t rfl rfl (T_move rfl) ?_
         refine EVq_t rfl rfl (T_lenL (uOk rfl) rfl) ?_
         refine EVq_t rfl rfl (T_bin rfl rfl rfl) ?_
         refine EVq_t rfl rfl (T_move rfl) ?_
         refine EVq_case 58 rfl (fun hb10 => ?_) (fun hb10 => ?_)
         ·try simp only [zz] at hb10
          refine EVq_off rfl rfl ?_
          refine EVq_off rfl rfl ?_
          refine EVq_off rfl rfl ?_
          refine EVq_off rfl rfl ?_
          refine EVq_off rfl rfl ?_
          refine EVq_off rfl rfl ?_
          refine EVq_off rfl rfl ?_
          refine EVq_off rfl rfl ?_
          refine EVq_off rfl rfl ?_
          refine EVq_t rfl rfl (T_pick rfl rfl) ?_
          refine EVq_t rfl rfl (T_pick rfl rfl) ?_
          refine EVq_t rfl rfl (T_assign rfl) ?_
          refine EVq_done ?_
          refine τ ?_
          refine ⟨_, ⟨rfl, rfl⟩, fit_eq rfl nofun ?_⟩
          ·refine congrArg ib ?_
           unfold goodS lastOk
           simp_all <;> omega
         ·try simp only [zz] at hb10
          refine EVq_t rfl rfl (T_move rfl) ?_
          refine EVq_t rfl rfl (T_move rfl) ?_
          refine EVq_t rfl rfl (T_lenL (uOk rfl) rfl) ?_
          refine EVq_t rfl rfl (T_binI rfl rfl rfl (by omega) (by omega)) ?_
          refine EVq_t rfl rfl (T_ixL (uOk rfl) (zOk rfl) rfl rfl (by omega) (by omega) (rfl)) ?_
          refine EVq_t rfl rfl (T_load (gOk rfl) rfl) ?_
          refine EVq_t rfl rfl (T_faR (fOk rfl) (zOk rfl) rfl) ?_
          refine EVq_t rfl rfl (T_loadR (gOk rfl) rfl rfl rfl rfl) ?_
          refine EVq_t rfl rfl (T_bin rfl rfl rfl) ?_
          refine EVq_t rfl rfl (T_pick rfl rfl) ?_
          refine EVq_t rfl rfl (T_pick rfl rfl) ?_
          refine EVq_t rfl rfl (T_assign rfl) ?_
          refine EVq_done ?_
          refine τ ?_
          refine ⟨_, ⟨rfl, rfl⟩, fit_eq rfl nofun ?_⟩
          ·refine congrArg ib ?_
           unfold goodS lastOk
           simp_all <;> omega
        ·try simp only [zz] at hb9
         refine EVq_off rfl rfl ?_
         refine EVq_off rfl rfl ?_
         refine EVq_off rfl rfl ?_
         refine EVq_off rfl rfl ?_
         refine EVq_off rfl rfl ?_
         refine EVq_off rfl rfl ?_
         refine EVq_off rfl rfl ?_
         refine EVq_off rfl rfl ?_
         refine EVq_off rfl rfl ?_
         refine EVq_off rfl rfl ?_
         refine EVq_off rfl rfl ?_
         refine EVq_off rfl rfl ?_
         refine EVq_off rfl rfl ?_
         refine EVq_off rfl rfl ?_
         refine EVq_t rfl rfl (T_pick rfl rfl) ?_
         refine EVq_t rfl rfl (T_assign rfl) ?_
         refine EVq_done ?_
         refine τ ?_
         refine ⟨_, ⟨rfl, rfl⟩, fit_eq rfl nofun ?_⟩
         ·refine congrArg ib ?_
          unfold goodS lastOk
          simp_all <;> omega

theorem scheme_Check (a b : Int) (t : Ty) (ht : szT t) (h1 : (tysT t).length ≤ 1099511627776) (h2 : (usT t).length ≤ 1099511627776) : Fn Tryz.prog 33 [.agg (scD a b t)] false (.one (.d (ii (if goodS a b t then 0 else 130)))) := by
 refine Fn_of_EV Tryz.func33 rfl (by kernel_rfl) rfl rfl (fun E hE => ?_)
 iterate 2 refine τ ?_
 refine EVo_e rfl (D_box 1 (hE 1 rfl) Free_no rfl) ?_
 iterate 6 refine τ ?_
 refine EVo_e rfl (D_call false (scheme_good a b t ht h1 h2) rfl (φa rfl φn)) ?_
 refine τ ?_
 refine EV_cond rfl rfl rfl (fun hb1 => ?_) (fun hb1 => ?_)
 ·try simp only [zz] at hb1
  iterate 5 refine τ ?_
  refine ⟨_, ⟨rfl, rfl⟩, fit_eq rfl nofun ?_⟩
  ·rw [if_pos hb1]
 ·try simp only [zz] at hb1
  iterate 6 refine τ ?_
  refine ⟨_, ⟨rfl, rfl⟩, fit_eq rfl nofun ?_⟩
  ·rw [if_neg (by simp [hb1])]

end Go.Proofs.YthaiegnohkiegaaGreat.Ab
/-
 Contracts of the functions of package scale: the numbers on the way of a type.
-/
namespace Go.Proofs.YthaiegnohkiegaaGreat.Ab
set_option linter.unusedVariables false
set_option linter.unusedSimpArgs false
set_option maxRecDepth 20000
set_option maxHeartbeats 4000000
attribute [local irreducible] Tells Does EVo EV EVq EVr TellsC


def numK (t : Ty) : Bool := decide (t.k = 3) || decide (t.k = 4)
def bigP (p : Pw) : Bool := !smallB p.mag || decide (16 < smallV p.mag)
def smallT (t : Ty) : Bool := !(rd t.us 0).any bigP
def badN (t : Ty) : Bool := !numK t || !smallT t
abbrev dF (f : FuncId) : C := .d false (.fn (.func f) [] [])
abbrev bsB : List (Nat × List C) := [(900, [dF 85]), (901, [dF 86])]
def GoB (x : Ty) : Prop := FnS Tryz.prog 91 [tyV x, .c (.ref 900 0), .c (.ref 901 0)] bsB (vb (badN x)) bsB
def shT (t : Ty) : Prop := ∃ a b, (walkG t a b).1 = true
theorem walkGs_mem : ∀ {l : List Ty} {a b : Int}, (walkGs l a b).1 = true → ∀ x ∈ l, shT x
 | [], _, _, _, x, h => by cases h
 | t :: l, a, b, h, x, hx => by
  simp only [walkGs] at h
  split at h
  ·rename_i h1
   rcases List.mem_cons.1 hx with rfl | hx
   ·exact ⟨a, b, h1⟩
   ·exact walkGs_mem h x hx
  ·rename_i h1; exact absurd h h1
theorem shT_eq {t : Ty} (h : shT t) : shapedB t = true ∧ ∀ x ∈ t.ar, shT x := by
 obtain ⟨a, b, h⟩ := h
 rw [walkG_eq] at h
 split at h
 ·rename_i h1
  refine ⟨?_, walkGs_mem h⟩
  unfold seeG at h1
  split at h1
  ·assumption
  ·cases h1
 ·rename_i h1; exact absurd h h1
theorem shT_good {t : Ty} (h : goodT t = true) : shT t := ⟨0, 0, h⟩
theorem shT_arrow {t : Ty} (h : shT t) (hk : t.k = 5) : t.ar.length = 2 := by
 have := (shT_eq h).1
 unfold shapedB at this
 simp [hk] at this
 omega
theorem shT_num {t : Ty} (h : shT t) (hk : numK t = true) : t.us.length = 1 := by
 have := (shT_eq h).1
 unfold shapedB numK at *
 simp only [Bool.or_eq_true, decide_eq_true_eq] at hk
 rw [if_neg (by omega), if_pos hk] at this
 simp only [Bool.and_eq_true, decide_eq_true_eq] at this
 omega
mutual
def nT : Ty → Nat
 | .mk _ _ _ ar _ => 1 + nTs ar
def nTs : List Ty → Nat
 | [] => 0
 | t :: l => nT t + nTs l
end
theorem nTs_mem : ∀ {l : List Ty} {x : Ty}, x ∈ l → nT x ≤ nTs l
 | [], x, h => by cases h
 | t :: l, x, h => by
  simp only [nTs]
  rcases List.mem_cons.1 h with rfl | h
  ·omega
  ·have := nTs_mem h; omega
theorem nT_eq (t : Ty) : nT t = 1 + nTs t.ar := by cases t; simp only [nT, Ty.ar]
theorem rd_size {t : Ty} {i : Int} (h0 : 0 ≤ i) (h1 : i < t.ar.length) : nT (rd t.ar i) < nT t := by
 have := nTs_mem (mem_rd h0 h1)
 rw [nT_eq t]
 omega
theorem nT_pos (t : Ty) : 0 < nT t := by rw [nT_eq]; omega
/-- The types on an arrow's way. -/
def numsN : Nat → Ty → List Ty
 | 0, t => [t]
 | n + 1, t => if t.k = 5 then rd t.ar 0 :: numsN n (rd t.ar 1) else [t]
def numsT (t : Ty) : List Ty := numsN (nT t) t
theorem numsN_more : ∀ (n m : Nat) (t : Ty), shT t → nT t ≤ n → nT t ≤ m → numsN n t = numsN m t
 | 0, m, t, hs, h1, h2 => by have := nT_pos t; omega
 | n + 1, 0, t, hs, h1, h2 => by have := nT_pos t; omega
 | n + 1, m + 1, t, hs, h1, h2 => by
  simp only [numsN]
  split
  ·rename_i hk
   have hl := shT_arrow hs hk
   have := rd_size (t := t) (i := 1) (by omega) (by omega)
   rw [numsN_more n m (rd t.ar 1) ((shT_eq hs).2 _ (mem_rd (by omega) (by omega))) (by omega) (by omega)]
  ·rfl
theorem numsT_arrow {t : Ty} (hs : shT t) (hk : t.k = 5) : numsT t = rd t.ar 0 :: numsT (rd t.ar 1) := by
 have hl := shT_arrow hs hk
 have h1 := rd_size (t := t) (i := 1) (by omega) (by omega)
 unfold numsT
 obtain ⟨n, hn⟩ : ∃ n, nT t = n + 1 := ⟨nT t - 1, by have := nT_pos t; omega⟩
 rw [hn]
 simp only [numsN]
 rw [if_pos hk, numsN_more n (nT (rd t.ar 1)) _ ((shT_eq hs).2 _ (mem_rd (by omega) (by omega))) (by omega) (Nat.le_refl _)]
theorem numsT_end {t : Ty} (hk : t.k ≠ 5) : numsT t = [t] := by
 unfold numsT
 cases h : nT t with
 | zero => rfl
 | succ n => simp only [numsN]; rw [if_neg hk]
theorem numsN_len : ∀ (n : Nat) (t : Ty), (numsN n t).length ≤ n + 1
 | 0, t => by simp [numsN]
 | n + 1, t => by
  simp only [numsN]
  split
  ·have := numsN_len n (rd t.ar 1)
   simp only [List.length_cons]
   omega
  ·simp
theorem numsT_len (t : Ty) : (numsT t).length ≤ nT t + 1 := numsN_len _ _

theorem sca_number (t : Ty) : Fn Tryz.prog 85 [.agg (tyD t)] false (.one (.d (ib (numK t)))) := by
 refine Fn_of_EV Tryz.func85 rfl (by kernel_rfl) rfl rfl (fun E hE => ?_)
 iterate 2 refine τ ?_
 refine EVo_e rfl (D_box 1 (hE 1 rfl) Free_no rfl) ?_
 iterate 8 refine τ ?_
 refine EVo_case 6 rfl (fun hb1 => ?_) (fun hb1 => ?_)
 ·try simp only [zz] at hb1
  iterate 7 refine τ ?_
  refine ⟨_, ⟨rfl, rfl⟩, fit_eq rfl nofun ?_⟩
  ·refine congrArg ib ?_
   unfold numK
   simp_all <;> rfl
 ·try simp only [zz] at hb1
  iterate 7 refine τ ?_
  refine ⟨_, ⟨rfl, rfl⟩, fit_eq rfl nofun ?_⟩
  ·refine congrArg ib ?_
   unfold numK
   simp_all <;> rfl

theorem sca_bigP (p : Pw) (hp : szP p) : Fn Tryz.prog 88 [.agg (encPw p)] false (.one (.d (ib (bigP p)))) := by
 obtain ⟨hp1, hp2, hp3⟩ := hp
 refine Fn_of_EV Tryz.func88 rfl (by kernel_rfl) rfl rfl (fun E hE => ?_)
 iterate 2 refine τ ?_
 refine EVo_e rfl (D_box 1 (hE 1 rfl) Free_no rfl) ?_
 iterate 7 refine τ ?_
 refine EVo_e rfl (D_call false (nat_small p.mag (by omega) hp2) rfl (φd rfl φn)) ?_
 iterate 11 refine τ ?_
 refine EVo_case 14 rfl (fun hb1 => ?_) (fun hb1 => ?_)
 ·try simp only [zz] at hb1
  iterate 6 refine τ ?_
  refine ⟨_, ⟨rfl, rfl⟩, fit_eq rfl nofun ?_⟩
  ·refine congrArg ib ?_
   unfold bigP
   simp_all
 ·try simp only [zz] at hb1
  iterate 6 refine τ ?_
  refine ⟨_, ⟨rfl, rfl⟩, fit_eq rfl nofun ?_⟩
  ·refine congrArg ib ?_
   unfold bigP
   simp_all

theorem sca_small (t : Ty) (ht : szT t) (h1 : 1 ≤ t.us.length) : Fn Tryz.prog 86 [.agg (tyD t)] false (.one (.d (ib (smallT t)))) := by
 obtain ⟨hz1, hz2, hz3, hz4, hz5⟩ := szT_eq ht
 have hu := hz4 _ (mem_rd (i := 0) (by omega) (by omega))
 refine Fn_of_EV Tryz.func86 rfl (by kernel_rfl) rfl rfl (fun E hE => ?_)
 iterate 2 refine τ ?_
 refine EVo_e rfl (D_box 1 (hE 1 rfl) Free_no rfl) ?_
 iterate 6 refine τ ?_
 refine EVo_t rfl (T_ixL (uOk rfl) (zOk rfl) rfl rfl (by omega) (by omega) (rfl)) ?_
 refine τ ?_
 refine EVo_e rfl (D_call false (has_Pw (rd t.us 0) 88 bigP (by have := hu.1; omega) (fun x hx => sca_bigP x (hu.2 x hx))) rfl (φd rfl (φd rfl φn))) ?_
 iterate 4 refine τ ?_
 refine ⟨_, ⟨rfl, rfl⟩, fit_eq rfl nofun rfl⟩

theorem sca_bad (t : Ty) (ht : szT t) (h1 : numK t = true → 1 ≤ t.us.length) : FnS Tryz.prog 91 [tyV t, .c (.ref 900 0), .c (.ref 901 0)] (bsB) (vb (badN t)) (bsB) := by
 refine FnS_of_EV Tryz.func91 rfl (by kernel_rfl) rfl rfl rfl (fun E hE => ?_)
 iterate 2 refine τ ?_
 refine EVo_e rfl (D_box 1 (hE 1 rfl) Free_no rfl) ?_
 iterate 6 refine τ ?_
 refine EVo_e rfl (D_call false (sca_number t) rfl (φa rfl φn)) ?_
 iterate 2 refine τ ?_
 refine EVo_case 9 rfl (fun hb1 => ?_) (fun hb1 => ?_)
 ·try simp only [zz] at hb1
  iterate 8 refine τ ?_
  refine ⟨⟨_, ⟨rfl, rfl⟩, .inl (congrArg vb (by unfold badN; simp_all))⟩, ⟨rfl, rfl, trivial⟩⟩
 ·try simp only [zz] at hb1
  iterate 2 refine τ ?_
  refine EVo_e rfl (D_call false (sca_small t ht (h1 (by simp_all))) rfl (φa rfl φn)) ?_
  iterate 5 refine τ ?_
  refine ⟨⟨_, ⟨rfl, rfl⟩, .inl (congrArg vb (by unfold badN; simp_all))⟩, ⟨rfl, rfl, trivial⟩⟩

theorem idx_TyB (l : List Ty) (hl : l.length ≤ 549755813888) (hG : ∀ x ∈ l, GoB x) : FnS Tryz.prog 128 [.c (.d false (.sl (l.map encTy))), .c (cF 91 [] [.ref 900 0, .ref 901 0])] (bsB) (vi .i64 (idxF badN l)) (bsB) := by
 refine FnS_of_EV Tryz.func128 rfl (by kernel_rfl) rfl rfl rfl (fun E hE => ?_)
 iterate 12 refine τ ?_
 refine EV_wl (fun mm S => ∃ i : Int, mm = ((l.length : Int) - i).toNat ∧ S = St.of [(0, V.c (.d false (.sl (l.map encTy)))), (1, V.c (cF 91 [] [.ref 900 0, .ref 901 0])), (7, vi .i64 l.length), (8, vi .i64 i)] (tabO [(900, .box [dF 85]), (901, .box [dF 86])]) 19 ∧ (0 ≤ i ∧ i ≤ l.length) ∧ ∀ j, j < i.toNat → badN (rd l (j : Int)) = false) _ ⟨_, ⟨0, rfl, rfl, ⟨by omega, fun j hj => absurd hj (Nat.not_lt_zero _)⟩⟩, W_keep2 _ _ ⟨rfl, rfl, rfl, rfl, trivial⟩ ⟨rfl, rfl, trivial⟩ rfl⟩ ?_
 rintro mm S ⟨i, rfl, rfl, ⟨h0, h2⟩⟩
 have ei : (i.toNat : Int) = i := by omega
 iterate 5 refine τ ?_
 refine EV_cond rfl rfl rfl (fun hb1 => ?_) (fun hb1 => ?_)
 ·try simp only [zz] at hb1
  iterate 13 refine τ ?_
  refine EVo_t rfl (T_ixL (uOk rfl) (zOk rfl) rfl rfl (by omega) (by omega) (encTy_len _)) ?_
  rw [encTy_eq]
  refine τ ?_
  refine EVo_e rfl (D_callG [(900, 900), (901, 901)] (hG _ (mem_rd (by omega) (by omega))) rfl rfl rfl rfl (fun _ => Free_no) rfl ⟨⟨_, _, rfl, rfl, rfl⟩, ⟨_, _, rfl, rfl, rfl⟩, trivial⟩ ⟨.inl rfl, .inl rfl, trivial⟩) ?_
  refine τ ?_
  refine EV_cond rfl rfl rfl (fun hb2 => ?_) (fun hb2 => ?_)
  ·try simp only [zz] at hb2
   have hz := hb2
   iterate 6 refine τ ?_
   refine ⟨⟨_, ⟨rfl, rfl⟩, .inl (congrArg (vi .i64) (by rw [idxF_found (p := badN) (u := l) (i := i.toNat) (by omega) (by rw [ei]; exact hz) h2, ei]))⟩, ⟨rfl, rfl, trivial⟩⟩
  ·try simp only [zz] at hb2
   have hz := hb2
   iterate 5 refine τ ?_
   refine ⟨_, ?_, ω ⟨_, ⟨i + 1, rfl, rfl, ?_⟩, W_keep2 _ _ ⟨rfl, rfl, rfl, rfl, trivial⟩ ⟨rfl, rfl, trivial⟩ rfl⟩⟩
   ·omega
   ·refine ⟨by omega, fun j hj => ?_⟩
    by_cases e : j = i.toNat
    ·subst e; rw [ei]; simpa using hz
    ·exact h2 j (by omega)
 ·try simp only [zz] at hb1
  iterate 6 refine τ ?_
  refine ⟨⟨_, ⟨rfl, rfl⟩, .inl (congrArg (vi .i64) (by rw [idxF_none fun j hj => h2 j (by omega)]))⟩, ⟨rfl, rfl, trivial⟩⟩

theorem has_TyB (l : List Ty) (hl : l.length ≤ 549755813888) (hG : ∀ x ∈ l, GoB x) : FnS Tryz.prog 90 [.c (.d false (.sl (l.map encTy))), .c (cF 91 [] [.ref 900 0, .ref 901 0])] (bsB) (vb (l.any badN)) (bsB) := by
 refine FnS_of_EV Tryz.func90 rfl (by kernel_rfl) rfl rfl rfl (fun E hE => ?_)
 iterate 8 refine τ ?_
 refine EVo_e rfl (D_callG [(900, 900), (901, 901)] (idx_TyB l hl hG) rfl rfl rfl rfl (fun _ => Free_no) rfl ⟨⟨_, _, rfl, rfl, rfl⟩, ⟨_, _, rfl, rfl, rfl⟩, trivial⟩ ⟨.inl rfl, .inl rfl, trivial⟩) ?_
 iterate 4 refine τ ?_
 refine ⟨⟨_, ⟨rfl, rfl⟩, .inl (congrArg vb (idxF_any badN l))⟩, ⟨rfl, rfl, trivial⟩⟩

end Go.Proofs.YthaiegnohkiegaaGreat.Ab
/-
 Contracts of the functions of package scale: the numbers on the way of a type, told.
-/
namespace Go.Proofs.YthaiegnohkiegaaGreat.Ab
set_option linter.unusedVariables false
set_option linter.unusedSimpArgs false
set_option maxRecDepth 20000
set_option maxHeartbeats 4000000
attribute [local irreducible] Tells Does EVo EV EVq EVr TellsC


theorem numsN_mem : ∀ (n : Nat) (t : Ty), shT t → szT t → ∀ x ∈ numsN n t, shT x ∧ szT x
 | 0, t, h1, h2, x, hx => by simp [numsN] at hx; subst hx; exact ⟨h1, h2⟩
 | n + 1, t, h1, h2, x, hx => by
  simp only [numsN] at hx
  split at hx
  ·rename_i hk
   have hl := shT_arrow h1 hk
   have hm : ∀ i : Int, 0 ≤ i → i < 2 → shT (rd t.ar i) ∧ szT (rd t.ar i) := fun i h0 h1' =>
    have hm := mem_rd (l := t.ar) h0 (by omega)
    ⟨(shT_eq h1).2 _ hm, (szT_eq h2).2.2.2.2 _ hm⟩
   rcases List.mem_cons.1 hx with rfl | hx
   ·exact hm 0 (by omega) (by omega)
   ·exact numsN_mem n _ (hm 1 (by omega) (by omega)).1 (hm 1 (by omega) (by omega)).2 x hx
  ·simp at hx; subst hx; exact ⟨h1, h2⟩
theorem GoB_of {t : Ty} (h1 : shT t) (h2 : szT t) : ∀ x ∈ numsT t, GoB x := fun x hx => by
 obtain ⟨q1, q2⟩ := numsN_mem _ t h1 h2 x hx
 exact sca_bad x q2 fun hk => by rw [shT_num q1 hk]; exact Nat.le_refl _

theorem sca_numbers (t : Ty) (ht : szT t) (hs : shT t) (hN : (numsT t).length ≤ 549755813888) : Fn Tryz.prog 34 [.agg (tyD t)] false (.tup [.d (.sl ((numsT t).map encTy)), .d (ib (decide (2 ≤ (numsT t).length) && !(numsT t).any badN))]) := by
 refine Fn_of_EV Tryz.func34 rfl (by kernel_rfl) rfl rfl (fun E hE => ?_)
 iterate 2 refine τ ?_
 refine EVo_e rfl (D_box 2 (hE 2 rfl) Free_no rfl) ?_
 iterate 5 refine τ ?_
 refine EV_weak (W_nilRow 1 2 27 5 (hE 1 rfl) rfl) ?_
 refine EV_wl (fun mm S => ∃ c : Ty, ∃ L : List Ty, ∃ f : Bool, mm = nT c ∧ S = St.of [(1, V.c (.ref 2 0)), (2, V.c (.own 1 27 5 f (List.map encTy L))), (3, vb false)] (tabO [(1, .row), (2, .box ((tyD c).map (C.nd false)))]) 34 ∧ shT c ∧ szT c ∧ L ++ numsT c = numsT t) _ ⟨_, ⟨t, ([] : List Ty), true, rfl, rfl, ⟨hs, ht, rfl⟩⟩, W_keep2 _ _ ⟨rfl, rfl, rfl, trivial⟩ ⟨rfl, rfl, trivial⟩ rfl⟩ ?_
 rintro mm S ⟨c, L, f, rfl, rfl, ⟨h1, h2, h3⟩⟩
 have hln := congrArg List.length h3
 simp only [List.length_append] at hln
 iterate 7 refine τ ?_
 refine EV_cond rfl rfl rfl (fun hb1 => ?_) (fun hb1 => ?_)
 ·try simp only [zz] at hb1
  have hl2 := shT_arrow h1 hb1
  have hna := numsT_arrow h1 hb1
  have hpl := congrArg List.length hna
  simp only [List.length_cons] at hpl
  have hmm := mem_rd (l := c.ar) (i := 1) (by omega) (by omega)
  have hm : shT (rd c.ar 1) ∧ szT (rd c.ar 1) := ⟨(shT_eq h1).2 _ hmm, (szT_eq h2).2.2.2.2 _ hmm⟩
  iterate 7 refine τ ?_
  refine EVo_t rfl (T_ixL (uOk rfl) (zOk rfl) rfl rfl (by omega) (by omega) (encTy_len _)) ?_
  rw [encTy_eq]
  refine τ ?_
  refine EVo_e rfl (D_buildSlice (uOk rfl) bz27 rfl rfl rfl (by simp)) ?_
  refine EVo_e rfl (D_append (uOk rfl) ap27 (by decide) rfl rfl (hE 1 rfl) Free_no rfl rfl (by simp) (by simp; omega) (by simp; omega)) ?_
  iterate 5 refine τ ?_
  refine EVo_t rfl (T_ixL (uOk rfl) (zOk rfl) rfl rfl (by omega) (by omega) (encTy_len _)) ?_
  rw [encTy_eq]
  iterate 3 refine τ ?_
  refine ⟨_, ?_, ω ⟨_, ⟨rd c.ar 1, L ++ [rd c.ar 0], _, rfl, rfl, ?_⟩, W_keep2 _ _ ⟨rfl, (own_app (by simp [encTy_eq])), rfl, trivial⟩ ⟨rfl, rfl, trivial⟩ rfl⟩⟩
  ·exact rd_size (by omega) (by omega)
  ·rw [hna] at h3
   exact ⟨hm.1, hm.2, by rw [← h3]; simp⟩
 ·try simp only [zz] at hb1
  have hna := numsT_end hb1
  rw [hna] at h3 hln
  simp only [List.length_singleton] at hln
  iterate 5 refine τ ?_
  refine EVo_e rfl (D_buildSlice (uOk rfl) bz27 rfl rfl rfl (by simp)) ?_
  refine EVo_e rfl (D_append (uOk rfl) ap27 (by decide) rfl rfl (hE 1 rfl) Free_no rfl rfl (by simp) (by simp; omega) (by simp; omega)) ?_
  iterate 3 refine τ ?_
  refine EV_cut (fun S => ∃ f : Bool, S = St.of [(2, V.c (.own 1 27 5 f (List.map encTy (numsT t))))] (tabO [(1, .row)]) 34 ∧ True) (ω ⟨_, ⟨_, rfl, ?_⟩, W_keep2 _ _ ⟨((own_app (m := [c]) (by simp [encTy_eq])).trans (by rw [h3])), trivial⟩ ⟨rfl, trivial⟩ rfl⟩) ?_
  ·trivial
  rintro S ⟨f, rfl, _⟩
  refine τ ?_
  refine EVo_e rfl (D_alloc 3 (hE 3 rfl) Free_no zr119 rfl) ?_
  iterate 4 refine τ ?_
  refine EVo_e rfl (D_alloc 4 (hE 4 rfl) Free_no zr119 rfl) ?_
  iterate 9 refine τ ?_
  refine EVo_case 28 rfl (fun hb2 => ?_) (fun hb2 => ?_)
  ·try simp only [zz] at hb2
   refine τ ?_
   refine EVo_t rfl (T_mf rfl rfl rfl) ?_
   refine EVo_e rfl (D_callG [(900, 3), (901, 4)] (has_TyB (numsT t) (by omega) (GoB_of hs ht)) rfl rfl rfl rfl (fun _ => Free_no) rfl ⟨⟨_, _, rfl, rfl, rfl⟩, ⟨_, _, rfl, rfl, rfl⟩, trivial⟩ ⟨.inl rfl, .inl rfl, trivial⟩) ?_
   iterate 6 refine τ ?_
   refine ⟨_, _, ⟨rfl, rfl⟩, ⟨rfl, rfl⟩, fit_eq rfl nofun rfl, fit_eq rfl nofun ?_⟩
   ·refine congrArg ib ?_
    simp_all
    all_goals (intro _; omega)
  ·try simp only [zz] at hb2
   iterate 9 refine τ ?_
   refine ⟨_, _, ⟨rfl, rfl⟩, ⟨rfl, rfl⟩, fit_eq rfl nofun rfl, fit_eq rfl nofun ?_⟩
   ·refine congrArg ib ?_
    simp_all
    all_goals (intro _; omega)

end Go.Proofs.YthaiegnohkiegaaGreat.Ab
/-
 Contracts of the functions of package scale: numbers and rates.
-/
namespace Go.Proofs.YthaiegnohkiegaaGreat.Ab
set_option linter.unusedVariables false
set_option linter.unusedSimpArgs false
set_option maxRecDepth 20000
set_option maxHeartbeats 4000000
attribute [local irreducible] Tells Does EVo EV EVq EVr TellsC


def bitsQ (q : Rat) (m : Int) : Bool := decide (m < (blen q.num.natAbs : Int)) || decide (m < (blen q.den : Int))
theorem nat_lenL (n : Nat) (h : (limbs n).length ≤ 17592186044416) : Fn Tryz.prog 94 [.d (encN (limbs n))] false (.one (.d (ii (blen n : Int)))) := by
 have := nat_len (limbs n) h (okL_limbs n)
 rw [lenN_limbs] at this
 exact this
def mulN (x P : Rat) : Nat → Rat
 | 0 => x
 | k + 1 => mulN x P k * P
def divN (x P : Rat) : Nat → Rat
 | 0 => x
 | k + 1 => divN x P k / P
theorem szQ_mulN (x P : Rat) : ∀ k, szQ (mulN x P k) ≤ szQ x + k * szQ P
 | 0 => by simp [mulN]
 | k + 1 => by
  have h1 := szQ_mul (mulN x P k) P
  have h2 := szQ_mulN x P k
  simp only [mulN]
  rw [Nat.succ_mul]
  omega
theorem szQ_divN (x : Rat) {P : Rat} (hP : P ≠ 0) : ∀ k, szQ (divN x P k) ≤ szQ x + k * szQ P
 | 0 => by simp [divN]
 | k + 1 => by
  have h1 := szQ_div (p := divN x P k) hP
  have h2 := szQ_divN x hP k
  simp only [divN]
  rw [Nat.succ_mul]
  omega
def powQ (x P : Rat) (n : Int) : Rat := if n < 0 then divN x P (-n).toNat else mulN x P n.toNat
theorem szQ_powQ (x : Rat) {P : Rat} (hP : P ≠ 0) (n : Int) : szQ (powQ x P n) ≤ szQ x + n.natAbs * szQ P := by
 unfold powQ
 split
 ·have := szQ_divN x hP (-n).toNat
  rw [show n.natAbs = (-n).toNat by omega]
  exact this
 ·have := szQ_mulN x P n.toNat
  rw [show n.natAbs = n.toNat by omega]
  exact this
def Pw.z (p : Pw) : Int := zval p.neg p.mag
/-- What a unit makes of a number, at these rates. -/
def scaleQ (p : List Rat) : List Pw → Rat → Rat
 | [], x => x
 | q :: u, x => if q.k = 1 then scaleQ p u (powQ x (rd p q.n) q.z) else scaleQ p u x
theorem bigP_no {q : Pw} (h : bigP q = false) : q.z.natAbs ≤ 16 ∧ goodL q.mag = true := by
 unfold bigP at h
 simp only [Bool.or_eq_false_iff, Bool.not_eq_false', decide_eq_false_iff_not] at h
 obtain ⟨h1, h2⟩ := h
 unfold smallV at h2
 rw [if_pos h1] at h2
 unfold smallB at h1
 simp only [Bool.and_eq_true] at h1
 refine ⟨?_, h1.1⟩
 unfold Pw.z
 rw [zval_natAbs]
 omega
abbrev encQs (l : List Rat) : D := .sl (l.map encQ)
abbrev bsP (p : List Rat) : List (Nat × List C) := [(900, [.d false (encQs p)])]
abbrev qV (q : Rat) : V := .agg ((encQ q).map (.nd false))
theorem szQ_parts {q : Rat} {n : Nat} (h : szQ q ≤ n) : (limbs q.num.natAbs).length ≤ n ∧ (limbs q.den).length ≤ n := by unfold szQ at h; omega
theorem enc_len {a : Int} {l : List Int} (h : limbs a.natAbs = l) : (limbs a.natAbs).length = l.length := by rw [h]

theorem sca_bits (q : Rat) (m : Int) (h : szQ q ≤ 1099511627776) : Fn Tryz.prog 39 [.agg (encQ q), .d (ii m)] false (.one (.d (ib (bitsQ q m)))) := by
 obtain ⟨hs1, hs2⟩ := szQ_parts h
 refine Fn_of_EV Tryz.func39 rfl (by kernel_rfl) rfl rfl (fun E hE => ?_)
 iterate 2 refine τ ?_
 refine EVo_e rfl (D_box 1 (hE 1 rfl) Free_no rfl) ?_
 iterate 7 refine τ ?_
 refine EVo_e rfl (D_call false (nat_lenL _ (by omega)) rfl (φd rfl φn)) ?_
 iterate 3 refine τ ?_
 refine EVo_case 11 rfl (fun hb1 => ?_) (fun hb1 => ?_)
 ·try simp only [zz] at hb1
  iterate 9 refine τ ?_
  refine ⟨_, ⟨rfl, rfl⟩, fit_eq rfl nofun ?_⟩
  ·refine congrArg ib ?_
   unfold bitsQ
   simp_all
   all_goals (intro _; omega)
 ·try simp only [zz] at hb1
  iterate 2 refine τ ?_
  refine EVo_e rfl (D_call false (nat_lenL _ (by omega)) rfl (φd rfl φn)) ?_
  iterate 6 refine τ ?_
  refine ⟨_, ⟨rfl, rfl⟩, fit_eq rfl nofun ?_⟩
  ·refine congrArg ib ?_
   unfold bitsQ
   simp_all
   all_goals (intro _; omega)

theorem sca_f1 (q : Rat) (h : szQ q ≤ 1099511627776) : Fn Tryz.prog 35 [.agg (encQ q)] false (.one (.d (ib false))) := by
 refine Fn_of_EV Tryz.func35 rfl (by kernel_rfl) rfl rfl (fun E hE => ?_)
 iterate 2 refine τ ?_
 refine EVo_e rfl (D_box 1 (hE 1 rfl) Free_no rfl) ?_
 iterate 5 refine τ ?_
 refine EVo_e rfl (D_call false (ratio_CheckQ _ (by omega)) rfl (φa rfl φn)) ?_
 iterate 4 refine τ ?_
 refine ⟨_, ⟨rfl, rfl⟩, fit_eq rfl nofun rfl⟩

theorem sca_f2 (q : Rat) (h : szQ q ≤ 1099511627776) : Fn Tryz.prog 38 [.agg (encQ q)] false (.one (.d (ib (bitsQ q 256)))) := by
 refine Fn_of_EV Tryz.func38 rfl (by kernel_rfl) rfl rfl (fun E hE => ?_)
 iterate 2 refine τ ?_
 refine EVo_e rfl (D_box 1 (hE 1 rfl) Free_no rfl) ?_
 iterate 5 refine τ ?_
 refine EVo_e rfl (D_call false (sca_bits _ _ (by omega)) rfl (φa rfl (φd rfl φn))) ?_
 iterate 3 refine τ ?_
 refine ⟨_, ⟨rfl, rfl⟩, fit_eq rfl nofun rfl⟩

theorem sca_f3 (q : Rat) (h : szQ q ≤ 1099511627776) : Fn Tryz.prog 40 [.agg (encQ q)] false (.one (.d (ib (bitsQ q 4096)))) := by
 refine Fn_of_EV Tryz.func40 rfl (by kernel_rfl) rfl rfl (fun E hE => ?_)
 iterate 2 refine τ ?_
 refine EVo_e rfl (D_box 1 (hE 1 rfl) Free_no rfl) ?_
 iterate 5 refine τ ?_
 refine EVo_e rfl (D_call false (sca_bits _ _ (by omega)) rfl (φa rfl (φd rfl φn))) ?_
 iterate 3 refine τ ?_
 refine ⟨_, ⟨rfl, rfl⟩, fit_eq rfl nofun rfl⟩

theorem sca_f4 (q : Rat) (h : szQ q ≤ 1099511627776) : Fn Tryz.prog 41 [.agg (encQ q)] false (.one (.d (ib (decide (q.num ≤ 0))))) := by
 refine Fn_of_EV Tryz.func41 rfl (by kernel_rfl) rfl rfl (fun E hE => ?_)
 iterate 2 refine τ ?_
 refine EVo_e rfl (D_box 1 (hE 1 rfl) Free_no rfl) ?_
 iterate 5 refine τ ?_
 refine EVo_e rfl (D_call false (ratio_Sign _ (by omega)) rfl (φa rfl φn)) ?_
 iterate 4 refine τ ?_
 refine ⟨_, ⟨rfl, rfl⟩, fit_eq rfl nofun ?_⟩
 ·refine congrArg ib ?_
  split
  ·simp; omega
  ·split <;> simp <;> omega

theorem idx_Ra (u : List Rat) (f : FuncId) (p : Rat → Bool) (hu : u.length ≤ 4611686018427387904) (hf : ∀ x ∈ u, Fn Tryz.prog f [.agg (encQ x)] false (.one (.d (ib (p x))))) : Fn Tryz.prog 93 [.d (.sl (u.map encQ)), .d (.fn (.func f) [] [])] false (.one (.d (ii (idxF p u)))) := by
 refine Fn_of_EV Tryz.func93 rfl (by kernel_rfl) rfl rfl (fun E hE => ?_)
 iterate 12 refine τ ?_
 refine EV_wl (fun mm S => ∃ i : Int, mm = ((u.length : Int) - i).toNat ∧ S = St.of [(0, V.c (.d false (.sl (u.map encQ)))), (1, V.c (.d false (.fn (.func f) [] []))), (7, vi .i64 u.length), (8, vi .i64 i)] (tabO []) 19 ∧ 0 ≤ i ∧ i ≤ u.length ∧ ∀ j, j < i.toNat → p (rd u (j : Int)) = false) _ ⟨_, ⟨0, rfl, rfl, ⟨by omega, by omega, fun j hj => absurd hj (Nat.not_lt_zero _)⟩⟩, W_keep2 _ _ ⟨rfl, rfl, rfl, rfl, trivial⟩ trivial rfl⟩ ?_
 rintro mm S ⟨i, rfl, rfl, ⟨h0, h1, h2⟩⟩
 have ei : (i.toNat : Int) = i := by omega
 iterate 5 refine τ ?_
 refine EV_cond rfl rfl rfl (fun hb1 => ?_) (fun hb1 => ?_)
 ·try simp only [zz] at hb1
  iterate 13 refine τ ?_
  refine EVo_t rfl (T_ixL (uOk rfl) (zOk rfl) rfl rfl (by omega) (by omega) (rfl)) ?_
  refine τ ?_
  refine EVo_e rfl (D_call false (hf _ (mem_rd h0 (by omega))) rfl (φa rfl φn)) ?_
  refine τ ?_
  refine EV_cond rfl rfl rfl (fun hb2 => ?_) (fun hb2 => ?_)
  ·try simp only [zz] at hb2
   have hz := hb2
   iterate 6 refine τ ?_
   refine ⟨_, ⟨rfl, rfl⟩, fit_eq rfl nofun ?_⟩
   ·have := idxF_found (p := p) (u := u) (i := i.toNat) (by omega) (by rw [ei]; exact hz) h2
    rw [this, ei]
  ·try simp only [zz] at hb2
   have hz := hb2
   iterate 5 refine τ ?_
   refine ⟨_, ?_, ω ⟨_, ⟨i + 1, rfl, rfl, ?_⟩, W_keep2 _ _ ⟨rfl, rfl, rfl, rfl, trivial⟩ trivial rfl⟩⟩
   ·omega
   ·refine ⟨by omega, by omega, fun j hj => ?_⟩
    by_cases e : j = i.toNat
    ·subst e; rw [ei]; simpa using hz
    ·exact h2 j (by omega)
 ·try simp only [zz] at hb1
  iterate 6 refine τ ?_
  refine ⟨_, ⟨rfl, rfl⟩, fit_eq rfl nofun ?_⟩
  ·rw [idxF_none fun j hj => h2 j (by omega)]

theorem has_Ra (u : List Rat) (f : FuncId) (p : Rat → Bool) (hu : u.length ≤ 4611686018427387904) (hf : ∀ x ∈ u, Fn Tryz.prog f [.agg (encQ x)] false (.one (.d (ib (p x))))) : Fn Tryz.prog 37 [.d (.sl (u.map encQ)), .d (.fn (.func f) [] [])] false (.one (.d (ib (u.any p)))) := by
 refine Fn_of_EV Tryz.func37 rfl (by kernel_rfl) rfl rfl (fun E hE => ?_)
 iterate 8 refine τ ?_
 refine EVo_e rfl (D_call false (idx_Ra u f p hu hf) rfl (φd rfl (φd rfl φn))) ?_
 iterate 4 refine τ ?_
 refine ⟨_, ⟨rfl, rfl⟩, fit_eq rfl nofun ?_⟩
 ·exact congrArg ib (idxF_any p u)

theorem sca_into (P x : Rat) (n : Int) (h0 : 0 ≤ n) (h1 : n ≤ 16) (h : szQ x + 17 * szQ P ≤ 4398046511104) : Fn Tryz.prog 45 [.agg (encQ P ++ [ii n]), .agg (encQ x)] false (.one (.agg (encQ (powQ x P n)))) := by
 have hpw : powQ x P n = mulN x P n.toNat := by unfold powQ; rw [if_neg (by omega)]
 refine Fn_of_EV Tryz.func45 rfl (by kernel_rfl) rfl rfl (fun E hE => ?_)
 iterate 2 refine τ ?_
 refine EVo_e rfl (D_box 1 (hE 1 rfl) Free_no rfl) ?_
 refine EVo_e rfl (D_box 2 (hE 2 rfl) Free_no rfl) ?_
 refine EVo_e rfl (D_alloc 3 (hE 3 rfl) Free_no zr40 rfl) ?_
 iterate 9 refine τ ?_
 refine EV_wl (fun mm S => ∃ i : Int, mm = (n - i).toNat ∧ S = St.of [(2, V.c (.ref 1 0)), (3, V.c (.ref 2 0)), (4, V.c (.ref 3 0)), (6, vi .i64 n), (7, vi .i64 i)] (tabO [(1, .box ((encQ P ++ [ii n]).map (C.nd false))), (2, .box ((encQ (mulN x P i.toNat)).map (C.nd false))), (3, .box [cb false, .d true (.val (.slice none 0 0)), .d true (.val (.slice none 0 0))])]) 18 ∧ 0 ≤ i ∧ i ≤ n) _ ⟨_, ⟨(0 : Int), rfl, rfl, by omega⟩, W_keep2 _ _ ⟨rfl, rfl, rfl, rfl, rfl, trivial⟩ ⟨rfl, rfl, rfl, trivial⟩ rfl⟩ ?_
 rintro mm S ⟨i, rfl, rfl, ⟨q0, q1⟩⟩
 have hsz := szQ_mulN x P i.toNat
 have hsm : i.toNat * szQ P ≤ 16 * szQ P := Nat.mul_le_mul_right _ (by omega)
 iterate 5 refine τ ?_
 refine EV_cond rfl rfl rfl (fun hb1 => ?_) (fun hb1 => ?_)
 ·try simp only [zz] at hb1
  iterate 7 refine τ ?_
  refine EVo_e rfl (D_call false (ratio_Mul _ _ (by omega)) rfl (φa rfl (φa rfl φn))) ?_
  iterate 9 refine τ ?_
  have e2 : (i + 1).toNat = i.toNat + 1 := by omega
  refine ⟨_, ?_, ω ⟨_, ⟨i + 1, rfl, rfl, ?_⟩, W_keep2 _ _ ⟨rfl, rfl, rfl, rfl, rfl, trivial⟩ ⟨rfl, (by rw [e2]; rfl), rfl, trivial⟩ rfl⟩⟩
  ·omega
  ·omega
 ·try simp only [zz] at hb1
  iterate 7 refine τ ?_
  refine ⟨_, ⟨rfl, _, _, _, rfl, rfl, rfl, .inl ⟨_, gOk rfl, zOk rfl, Nat.le_of_ble_eq_true rfl, rfl⟩⟩, fit_agg rfl nofun ?_⟩
  ·have ei : i.toNat = n.toNat := by omega
   rw [hpw, ei]
   rfl

theorem sca_under (P x : Rat) (n : Int) (h0 : n < 0) (h1 : (-n) ≤ 16) (h : szQ x + 17 * szQ P ≤ 4398046511104) (hP : P ≠ 0) : Fn Tryz.prog 46 [.agg (encQ P ++ [ii n]), .agg (encQ x)] false (.one (.agg (encQ (powQ x P n)))) := by
 have hpw : powQ x P n = divN x P (-n).toNat := by unfold powQ; rw [if_pos h0]
 refine Fn_of_EV Tryz.func46 rfl (by kernel_rfl) rfl rfl (fun E hE => ?_)
 iterate 2 refine τ ?_
 refine EVo_e rfl (D_box 1 (hE 1 rfl) Free_no rfl) ?_
 refine EVo_e rfl (D_box 2 (hE 2 rfl) Free_no rfl) ?_
 refine EVo_e rfl (D_alloc 3 (hE 3 rfl) Free_no zr40 rfl) ?_
 iterate 10 refine τ ?_
 refine EV_wl (fun mm S => ∃ i : Int, mm = ((-n) - i).toNat ∧ S = St.of [(2, V.c (.ref 1 0)), (3, V.c (.ref 2 0)), (4, V.c (.ref 3 0)), (7, vi .i64 (-n)), (8, vi .i64 i)] (tabO [(1, .box ((encQ P ++ [ii n]).map (C.nd false))), (2, .box ((encQ (divN x P i.toNat)).map (C.nd false))), (3, .box [cb false, .d true (.val (.slice none 0 0)), .d true (.val (.slice none 0 0))])]) 19 ∧ 0 ≤ i ∧ i ≤ (-n)) _ ⟨_, ⟨(0 : Int), rfl, rfl, by omega⟩, W_keep2 _ _ ⟨rfl, rfl, rfl, (by show V.c (.d true (.val (.int .i64 (IntKind.i64.wrap (0 - n))))) = _; rw [wrap_in (by omega) (by omega), Int.zero_sub]), rfl, trivial⟩ ⟨rfl, rfl, rfl, trivial⟩ rfl⟩ ?_
 rintro mm S ⟨i, rfl, rfl, ⟨q0, q1⟩⟩
 have hsz := szQ_divN x hP i.toNat
 have hsm : i.toNat * szQ P ≤ 16 * szQ P := Nat.mul_le_mul_right _ (by omega)
 iterate 5 refine τ ?_
 refine EV_cond rfl rfl rfl (fun hb1 => ?_) (fun hb1 => ?_)
 ·try simp only [zz] at hb1
  iterate 7 refine τ ?_
  refine EVo_e rfl (D_call false (ratio_Div _ _ (by omega) hP) rfl (φa rfl (φa rfl φn))) ?_
  iterate 9 refine τ ?_
  have e2 : (i + 1).toNat = i.toNat + 1 := by omega
  refine ⟨_, ?_, ω ⟨_, ⟨i + 1, rfl, rfl, ?_⟩, W_keep2 _ _ ⟨rfl, rfl, rfl, rfl, rfl, trivial⟩ ⟨rfl, (by rw [e2]; rfl), rfl, trivial⟩ rfl⟩⟩
  ·omega
  ·omega
 ·try simp only [zz] at hb1
  iterate 7 refine τ ?_
  refine ⟨_, ⟨rfl, _, _, _, rfl, rfl, rfl, .inl ⟨_, gOk rfl, zOk rfl, Nat.le_of_ble_eq_true rfl, rfl⟩⟩, fit_agg rfl nofun ?_⟩
  ·have ei : i.toNat = (-n).toNat := by omega
   rw [hpw, ei]
   rfl

theorem powQ_ne {x P : Rat} (hx : x ≠ 0) : True := trivial
theorem unit_enc {q : Pw} (hq : szP q) (hg : goodZ q.neg q.mag = true) : [ib q.neg, encN q.mag] = encZ q.z := enc_good hq.2.1 hg
theorem whole_SmallP (q : Pw) (hq : szP q) (hg : goodZ q.neg q.mag = true) (h16 : q.z.natAbs ≤ 16) : Fn Tryz.prog 44 [.agg [ib q.neg, encN q.mag]] false (.tup [.d (ii q.z), .d (ib true)]) := by
 have hl : (limbs q.z.natAbs).length ≤ 17592186044416 := by
  have : (limbs q.z.natAbs).length ≤ (limbs 16).length := limbs_mono h16
  have e : (limbs 16).length = 1 := by decide
  omega
 have := whole_Small q.z hl
 have hi : inI64 q.z := by unfold inI64; omega
 rw [if_pos hi, decide_eq_true hi, ← unit_enc hq hg] at this
 exact this
/-- A unit that may scale: its variables have rates, its powers are small. -/
def okS (p : List Rat) (u : List Pw) : Prop := ∀ q ∈ u, szP q ∧ goodZ q.neg q.mag = true ∧ q.z.natAbs ≤ 16 ∧ (q.k = 1 → 0 ≤ q.n ∧ q.n < p.length)
def okP (p : List Rat) (B : Nat) : Prop := ∀ P ∈ p, P ≠ 0 ∧ szQ P ≤ B

theorem sca_scaled (p : List Rat) (u : List Pw) (x : Rat) (B : Nat) (hpl : p.length ≤ 549755813888) (hul : u.length ≤ 549755813888) (hp : okP p B) (hu : okS p u) (h : szQ x + (u.length + 1) * (17 * B) ≤ 4398046511104) : FnS Tryz.prog 43 [qV x, .c (.d false (encU u)), .c (.ref 900 0)] (bsP p) (qV (scaleQ p u x)) (bsP p) := by
 refine FnS_of_EV Tryz.func43 rfl (by kernel_rfl) rfl rfl rfl (fun E hE => ?_)
 iterate 2 refine τ ?_
 refine EVo_e rfl (D_box 1 (hE 1 rfl) Free_no rfl) ?_
 refine EVo_e rfl (D_alloc 2 (hE 2 rfl) Free_no zr40 rfl) ?_
 iterate 9 refine τ ?_
 refine EV_wl (fun mm S => ∃ i : Int, ∃ y : Rat, mm = ((u.length : Int) - i).toNat ∧ S = St.of [(1, V.c (.d false (encU u))), (2, V.c (.ref 900 0)), (3, V.c (.ref 1 0)), (5, V.c (.ref 2 0)), (11, V.c (.d false (encU u))), (12, vi .i64 u.length), (13, vi .i64 i)] (tabO [(1, .box ((encQ y).map (C.nd false))), (2, .box [cb false, .d true (.val (.slice none 0 0)), .d true (.val (.slice none 0 0))]), (900, .box [.d false (encQs p)])]) 42 ∧ 0 ≤ i ∧ i ≤ u.length ∧ scaleQ p (u.drop i.toNat) y = scaleQ p u x ∧ szQ y + (u.length - i.toNat + 1) * (17 * B) ≤ 4398046511104) _ ⟨_, ⟨(0 : Int), x, rfl, rfl, ⟨by omega, by omega, rfl, by simpa using h⟩⟩, W_keep2 _ _ ⟨rfl, rfl, rfl, rfl, rfl, rfl, rfl, trivial⟩ ⟨rfl, rfl, rfl, trivial⟩ rfl⟩ ?_
 rintro mm S ⟨i, y, rfl, rfl, ⟨h0, h1, h2, h3⟩⟩
 have ei : (i.toNat : Int) = i := by omega
 iterate 5 refine τ ?_
 refine EV_cond rfl rfl rfl (fun hb1 => ?_) (fun hb1 => ?_)
 ·try simp only [zz] at hb1
  obtain ⟨hq1, hq2, hq3, hq4⟩ := hu (rd u i) (mem_rd h0 (by omega))
  iterate 5 refine τ ?_
  refine EVo_t rfl (T_ixL (uOk rfl) (zOk rfl) rfl rfl (by omega) (by omega) (rfl)) ?_
  refine τ ?_
  refine EVo_e rfl (D_alloc 3 (hE 3 rfl) Free_no zr84 rfl) ?_
  iterate 10 refine τ ?_
  refine EV_cond rfl rfl rfl (fun hb2 => ?_) (fun hb2 => ?_)
  ·try simp only [zz] at hb2
   have hk : (rd u i).k ≠ 1 := hb2
   iterate 5 refine τ ?_
   refine ⟨_, ?_, ω ⟨_, ⟨i + 1, y, rfl, rfl, ?_⟩, W_keep2 _ _ ⟨rfl, rfl, rfl, rfl, rfl, rfl, rfl, trivial⟩ ⟨rfl, rfl, rfl, trivial⟩ rfl⟩⟩
   ·omega
   ·have e2 : (i + 1).toNat = i.toNat + 1 := by omega
    rw [e2]
    rw [drop_rdT (l := u) (by omega), ei] at h2
    simp only [scaleQ] at h2
    rw [if_neg hk] at h2
    have hst : (u.length - i.toNat + 1) * (17 * B) = (u.length - (i.toNat + 1) + 1) * (17 * B) + 17 * B := by rw [show u.length - i.toNat + 1 = (u.length - (i.toNat + 1) + 1) + 1 by omega, Nat.succ_mul]
    exact ⟨by omega, by omega, h2, by omega⟩
  ·try simp only [zz] at hb2
   have hk : (rd u i).k = 1 := by simpa using hb2
   obtain ⟨hn0, hn1⟩ := hq4 hk
   obtain ⟨hP, hB⟩ := hp (rd p (rd u i).n) (mem_rd hn0 hn1)
   have hsz := szQ_powQ y hP (rd u i).z
   have hsm : (rd u i).z.natAbs * szQ (rd p (rd u i).n) ≤ 16 * B := Nat.mul_le_mul hq3 hB
   have hst : (u.length - i.toNat + 1) * (17 * B) = (u.length - (i.toNat + 1) + 1) * (17 * B) + 17 * B := by rw [show u.length - i.toNat + 1 = (u.length - (i.toNat + 1) + 1) + 1 by omega, Nat.succ_mul]
   iterate 5 refine τ ?_
   refine EVo_e rfl (D_call false (whole_SmallP (rd u i) hq1 hq2 hq3) rfl (φa rfl φn)) ?_
   iterate 16 refine τ ?_
   refine EV_cond rfl rfl rfl (fun hb3 => ?_) (fun hb3 => ?_)
   ·try simp only [zz] at hb3
    iterate 3 refine τ ?_
    refine EV_draw (inX [3, 900]) (.st 0 (.st 1 (.st 2 (.st 3 (.st 4 (.st 5 (.st 6 (.st 7 (.st 8 (.one 9 (.one 10 (.one 11 .done)))))))))))) Tryz.mixed (by kernel_rfl) ?_
    refine EVq_t rfl rfl (T_move rfl) ?_
    refine EVq_t rfl rfl (T_loadR (gOk rfl) rfl rfl rfl rfl) ?_
    refine EVq_t rfl rfl (T_faR (fOk rfl) (zOk rfl) rfl) ?_
    refine EVq_t rfl rfl (T_faR (fOk rfl) (zOk rfl) rfl) ?_
    refine EVq_t rfl rfl (T_loadR (gOk rfl) rfl rfl rfl rfl) ?_
    refine EVq_t rfl rfl (T_ixL (uOk rfl) (zOk rfl) rfl rfl (by omega) (by omega) (rfl)) ?_
    refine EVq_t rfl rfl (T_loadA (gOk rfl) (zOk rfl) rfl (Nat.le_of_ble_eq_true rfl)) ?_
    refine EVq_t rfl rfl (T_move rfl) ?_
    refine EVq_t rfl rfl (T_build ly89 rfl rfl) ?_
    refine EVq_e rfl rfl ((T_loadRA (gOk rfl) (zOk rfl) rfl rfl (Nat.le_of_ble_eq_true rfl) rfl rfl).now) ?_
    refine EVq_e rfl rfl (D_call false (sca_under (rd p (rd u i).n) y (rd u i).z (by omega) (by omega) (by omega) hP) rfl (φa rfl (φa rfl φn))) ?_
    refine EVq_e rfl rfl (D_store rfl (Free_in rfl) rfl rfl (zOk rfl) rfl (Nat.le_of_ble_eq_true rfl) rfl) ?_
    refine EVq_done ?_
    iterate 4 refine τ ?_
    refine ⟨_, ?_, ω ⟨_, ⟨i + 1, powQ y (rd p (rd u i).n) (rd u i).z, rfl, rfl, ?_⟩, W_keep2 _ _ ⟨rfl, rfl, rfl, rfl, rfl, rfl, rfl, trivial⟩ ⟨rfl, rfl, rfl, trivial⟩ rfl⟩⟩
    ·omega
    ·have e2 : (i + 1).toNat = i.toNat + 1 := by omega
     rw [e2]
     rw [drop_rdT (l := u) (by omega), ei] at h2
     simp only [scaleQ] at h2
     rw [if_pos hk] at h2
     exact ⟨by omega, by omega, h2, by omega⟩
   ·try simp only [zz] at hb3
    refine τ ?_
    refine EV_draw (inX [3, 900]) (.st 0 (.st 1 (.st 2 (.st 3 (.st 4 (.st 5 (.st 6 (.st 7 (.st 8 (.one 9 (.one 10 (.one 11 .done)))))))))))) Tryz.mixed (by kernel_rfl) ?_
    refine EVq_t rfl rfl (T_move rfl) ?_
    refine EVq_t rfl rfl (T_loadR (gOk rfl) rfl rfl rfl rfl) ?_
    refine EVq_t rfl rfl (T_faR (fOk rfl) (zOk rfl) rfl) ?_
    refine EVq_t rfl rfl (T_faR (fOk rfl) (zOk rfl) rfl) ?_
    refine EVq_t rfl rfl (T_loadR (gOk rfl) rfl rfl rfl rfl) ?_
    refine EVq_t rfl rfl (T_ixL (uOk rfl) (zOk rfl) rfl rfl (by omega) (by omega) (rfl)) ?_
    refine EVq_t rfl rfl (T_loadA (gOk rfl) (zOk rfl) rfl (Nat.le_of_ble_eq_true rfl)) ?_
    refine EVq_t rfl rfl (T_move rfl) ?_
    refine EVq_t rfl rfl (T_build ly89 rfl rfl) ?_
    refine EVq_e rfl rfl ((T_loadRA (gOk rfl) (zOk rfl) rfl rfl (Nat.le_of_ble_eq_true rfl) rfl rfl).now) ?_
    refine EVq_e rfl rfl (D_call false (sca_into (rd p (rd u i).n) y (rd u i).z (by omega) (by omega) (by omega)) rfl (φa rfl (φa rfl φn))) ?_
    refine EVq_e rfl rfl (D_store rfl (Free_in rfl) rfl rfl (zOk rfl) rfl (Nat.le_of_ble_eq_true rfl) rfl) ?_
    refine EVq_done ?_
    iterate 4 refine τ ?_
    refine ⟨_, ?_, ω ⟨_, ⟨i + 1, powQ y (rd p (rd u i).n) (rd u i).z, rfl, rfl, ?_⟩, W_keep2 _ _ ⟨rfl, rfl, rfl, rfl, rfl, rfl, rfl, trivial⟩ ⟨rfl, rfl, rfl, trivial⟩ rfl⟩⟩
    ·omega
    ·have e2 : (i + 1).toNat = i.toNat + 1 := by omega
     rw [e2]
     rw [drop_rdT (l := u) (by omega), ei] at h2
     simp only [scaleQ] at h2
     rw [if_pos hk] at h2
     exact ⟨by omega, by omega, h2, by omega⟩
 ·try simp only [zz] at hb1
  iterate 7 refine τ ?_
  rw [List.drop_of_length_le (by omega)] at h2
  simp only [scaleQ] at h2
  subst h2
  refine ⟨⟨_, ⟨rfl, _, _, _, rfl, rfl, rfl, .inl ⟨_, gOk rfl, zOk rfl, Nat.le_of_ble_eq_true rfl, rfl⟩⟩, .inl rfl⟩, ⟨rfl, trivial⟩⟩

end Go.Proofs.YthaiegnohkiegaaGreat.Ab
/-
 What scale.Scale tells: plain.
-/
namespace Go.Proofs.YthaiegnohkiegaaGreat.Ab
set_option linter.unusedVariables false
set_option linter.unusedSimpArgs false
set_option maxRecDepth 20000
set_option maxHeartbeats 4000000
attribute [local irreducible] Tells Does EVo EV EVq EVr TellsC


/-- What is told of a type's units, one number after the other. -/
def loopR (p : List Rat) : List Ty → List Rat → Option (List Rat)
 | t :: ls, x :: xs => if t.k = 3 ∧ ¬ (x.den = 1 ∧ (scaleQ p (rd t.us 0) x).den = 1) then none else (loopR p ls xs).map (scaleQ p (rd t.us 0) x :: ·)
 | _, _ => some []
def byD : Option Rat → List D
 | some q => encQ q
 | none => [ib false, .sl [], .sl []]
def scaleR (a b : Int) (t : Ty) (p xs : List Rat) : List Rat × Option Rat × Int :=
 if goodS a b t = false then ([], none, 210)
 else if (2 ≤ (numsT t).length ∧ (numsT t).any badN = false) then
  if (p.length : Int) = b ∧ (xs.length : Int) = (numsT t).length - 1 then
   if p.any (fun q => bitsQ q 256) = true ∨ xs.any (fun q => bitsQ q 4096) = true then ([], none, 210)
   else if p.any (fun q => decide (q.num ≤ 0)) = true then ([], none, 212)
   else match loopR p (numsT t) xs with
    | none => ([], none, 213)
    | some l => (l, some (scaleQ p (rd (rd (numsT t) ((numsT t).length - 1)).us 0) 1), 0)
  else ([], none, 211)
 else ([], none, 210)
theorem encZ_ite (c : Prop) [Decidable c] (a : Int) : (if c then encZ a else encZ 0) = encZ (if c then a else 0) := by split <;> rfl
theorem ratio_WholeI (q : Rat) (hq : szQ q ≤ 8796093022208) : Fn Tryz.prog 47 [.agg (encQ q)] false (.tup [.agg (encZ (if q.den = 1 then q.num else 0)), .d (ib (decide (q.den = 1)))]) := by
 have := ratio_Whole q hq
 rw [encZ_ite] at this
 exact this
theorem ratio_From0 : Fn Tryz.prog 49 [.agg (encZ 0)] false (.one (.agg (encQ 0))) := ratio_From 0 (by decide)
theorem ratio_From1 : Fn Tryz.prog 49 [.agg (encZ 1)] false (.one (.agg (encQ 1))) := ratio_From 1 (by decide)
theorem ratio_Add0 (q : Rat) (h : szQ q ≤ 4398046511000) : Fn Tryz.prog 48 [.agg (encQ q), .agg (encQ 0)] false (.tup [.agg (encQ q), .d (ii 0)]) := by
 have e : szQ 0 = 1 := by decide
 have := ratio_Add q 0 (by omega)
 rw [Rat.add_zero] at this
 exact this
theorem has_false (p : List Rat) (hl : p.length ≤ 549755813888) (hs : ∀ q ∈ p, szQ q ≤ 1099511627776) : Fn Tryz.prog 37 [.d (encQs p), .d (.fn (.func 35) [] [])] false (.one (.d (ib false))) := by
 have := has_Ra p 35 (fun _ => false) (by omega) (fun x hx => sca_f1 x (hs x hx))
 have e : p.any (fun _ => false) = false := by simp
 rw [e] at this
 exact this
theorem limbs_bits {n m : Nat} (h : blen n ≤ 64 * m) : (limbs n).length ≤ m := by
 have h1 : n < 2 ^ (64 * m) := by
  have : n < 2 ^ blen n := by
   by_cases e : n = 0
   ·subst e; exact Nat.pow_pos (by decide)
   ·exact (blen_bounds e).2
  exact Nat.lt_of_lt_of_le this (Nat.pow_le_pow_right (by decide) h)
 refine limbs_len_le ?_
 rw [show (18446744073709551616 : Nat) = 2 ^ 64 by decide, ← Nat.pow_mul]
 exact h1
theorem bits_szQ {q : Rat} {m : Nat} (h : bitsQ q (64 * m : Nat) = false) : szQ q ≤ 2 * m := by
 unfold bitsQ at h
 simp only [Bool.or_eq_false_iff, decide_eq_false_iff_not] at h
 have h1 := limbs_bits (n := q.num.natAbs) (m := m) (by omega)
 have h2 := limbs_bits (n := q.den) (m := m) (by omega)
 unfold szQ
 omega
theorem szQ_scaleQ (p : List Rat) (B : Nat) (hp : okP p B) : ∀ (u : List Pw) (x : Rat), okS p u → szQ (scaleQ p u x) ≤ szQ x + u.length * (17 * B)
 | [], x, _ => by simp [scaleQ]
 | q :: u, x, hu => by
  have hu' : okS p u := fun q hq => hu q (by simp [hq])
  obtain ⟨q1, q2, q3, q4⟩ := hu q (by simp)
  simp only [scaleQ, List.length_cons]
  rw [Nat.succ_mul]
  split
  ·rename_i hk
   obtain ⟨n0, n1⟩ := q4 hk
   obtain ⟨hP, hB⟩ := hp (rd p q.n) (mem_rd n0 n1)
   have h1 := szQ_scaleQ p B hp u (powQ x (rd p q.n) q.z) hu'
   have h2 := szQ_powQ x hP q.z
   have h3 : q.z.natAbs * szQ (rd p q.n) ≤ 16 * B := Nat.mul_le_mul q3 hB
   omega
  ·have h1 := szQ_scaleQ p B hp u x hu'
   omega
theorem loopR_at {p : List Rat} {l : List Ty} {xs : List Rat} {n : Nat} (hl : n < l.length) (hx : n < xs.length) : loopR p (l.drop n) (xs.drop n) = if (rd l (n : Int)).k = 3 ∧ ¬ ((rd xs (n : Int)).den = 1 ∧ (scaleQ p (rd (rd l (n : Int)).us 0) (rd xs (n : Int))).den = 1) then none else (loopR p (l.drop (n + 1)) (xs.drop (n + 1))).map (scaleQ p (rd (rd l (n : Int)).us 0) (rd xs (n : Int)) :: ·) := by
 rw [drop_rdT hl, drop_rdT hx]
 simp only [loopR]
theorem loopR_end {p : List Rat} {l : List Ty} : loopR p l [] = some [] := by cases l <;> rfl
theorem any_false {α : Type} {p : α → Bool} {l : List α} (h : l.any p = false) : ∀ x ∈ l, p x = false := fun x hx => by
 have := List.any_eq_false.1 h x hx
 simpa using this

theorem scaleR_1 {a b : Int} {t : Ty} {p xs : List Rat} (h : goodS a b t = false) : scaleR a b t p xs = ([], none, 210) := by unfold scaleR; rw [if_pos h]
section
variable {a b : Int} {t : Ty} {p xs : List Rat} (hg : goodS a b t = true)
include hg
theorem scaleR_2 (h : (decide (2 ≤ (numsT t).length) && !(numsT t).any badN) = false) : scaleR a b t p xs = ([], none, 210) := by
 unfold scaleR
 rw [if_neg (by simp [hg]), if_neg]
 rintro ⟨h1, h2⟩
 simp [h1, h2] at h
variable (h1 : 2 ≤ (numsT t).length) (h2 : (numsT t).any badN = false)
include h1 h2
theorem scaleR_3 (h : ¬ ((p.length : Int) = b ∧ (xs.length : Int) = (numsT t).length - 1)) : scaleR a b t p xs = ([], none, 211) := by
 unfold scaleR
 rw [if_neg (by simp [hg]), if_pos ⟨h1, h2⟩, if_neg h]
variable (h3 : (p.length : Int) = b) (h4 : (xs.length : Int) = (numsT t).length - 1)
include h3 h4
theorem scaleR_4 (h : p.any (fun q => bitsQ q 256) = true ∨ xs.any (fun q => bitsQ q 4096) = true) : scaleR a b t p xs = ([], none, 210) := by
 unfold scaleR
 rw [if_neg (by simp [hg]), if_pos ⟨h1, h2⟩, if_pos ⟨h3, h4⟩, if_pos h]
variable (h5 : p.any (fun q => bitsQ q 256) = false) (h6 : xs.any (fun q => bitsQ q 4096) = false)
include h5 h6
theorem scaleR_5 (h : p.any (fun q => decide (q.num ≤ 0)) = true) : scaleR a b t p xs = ([], none, 212) := by
 unfold scaleR
 rw [if_neg (by simp [hg]), if_pos ⟨h1, h2⟩, if_pos ⟨h3, h4⟩, if_neg (by rw [h5, h6]; simp), if_pos h]
variable (h7 : p.any (fun q => decide (q.num ≤ 0)) = false)
include h7
theorem scaleR_6 (h : loopR p (numsT t) xs = none) : scaleR a b t p xs = ([], none, 213) := by
 unfold scaleR
 rw [if_neg (by simp [hg]), if_pos ⟨h1, h2⟩, if_pos ⟨h3, h4⟩, if_neg (by rw [h5, h6]; simp), if_neg (by rw [h7]; simp), h]
theorem scaleR_7 {l : List Rat} (h : loopR p (numsT t) xs = some l) : scaleR a b t p xs = (l, some (scaleQ p (rd (rd (numsT t) ((numsT t).length - 1)).us 0) 1), 0) := by
 unfold scaleR
 rw [if_neg (by simp [hg]), if_pos ⟨h1, h2⟩, if_pos ⟨h3, h4⟩, if_neg (by rw [h5, h6]; simp), if_neg (by rw [h7]; simp), h]
end
theorem badN_no {t x : Ty} (hs : shT t) (ht : szT t) (hx : x ∈ numsT t) (h : (numsT t).any badN = false) : x.us.length = 1 := by
 have hb := any_false h x hx
 unfold badN at hb
 simp only [Bool.or_eq_false_iff, Bool.not_eq_false'] at hb
 exact shT_num (numsN_mem _ t hs ht x hx).1 hb.1

end Go.Proofs.YthaiegnohkiegaaGreat.Ab
/-
 Contracts of the functions of package scale: Scale.
-/
namespace Go.Proofs.YthaiegnohkiegaaGreat.Ab
set_option linter.unusedVariables false
set_option linter.unusedSimpArgs false
set_option maxRecDepth 20000
set_option maxHeartbeats 4000000
attribute [local irreducible] Tells Does EVo EV EVq EVr TellsC


set_option maxHeartbeats 2000000 in
theorem sca_Scale (a b : Int) (t : Ty) (p xs : List Rat) (ht : szT t) (h1 : (tysT t).length ≤ 1099511627776) (h2 : (usT t).length ≤ 1099511627776) (hN : (numsT t).length ≤ 549755813888) (hpl : p.length ≤ 549755813888) (hxl : xs.length ≤ 549755813888) (hps : ∀ q ∈ p, szQ q ≤ 1099511627776) (hxs : ∀ q ∈ xs, szQ q ≤ 1099511627776) (hU : ∀ x ∈ numsT t, (rd x.us 0).length ≤ 16777216) (hOk : goodS a b t = true → (numsT t).any badN = false → (p.length : Int) = b → ∀ x ∈ numsT t, okS p (rd x.us 0)) : Fn Tryz.prog 9 [.agg (scD a b t), .d (encQs p), .d (encQs xs)] false (.tup [.d (encQs (scaleR a b t p xs).1), .agg (byD (scaleR a b t p xs).2.1), .d (ii (scaleR a b t p xs).2.2)]) := by
 refine Fn_of_EV Tryz.func9 rfl (by kernel_rfl) rfl rfl (fun E hE => ?_)
 iterate 2 refine τ ?_
 refine EVo_e rfl (D_box 2 (hE 2 rfl) Free_no rfl) ?_
 refine EVo_e rfl (D_box 3 (hE 3 rfl) Free_no rfl) ?_
 refine τ ?_
 refine EVo_e rfl (D_alloc 4 (hE 4 rfl) Free_no zr40 rfl) ?_
 iterate 6 refine τ ?_
 refine EVo_e rfl (D_call false (scheme_Check a b t ht h1 h2) rfl (φa rfl φn)) ?_
 iterate 2 refine τ ?_
 refine EV_cond rfl rfl rfl (fun hb1 => ?_) (fun hb1 => ?_)
 ·try simp only [zz] at hb1
  have hg : goodS a b t = false := by
   cases h : goodS a b t with
   | false => rfl
   | true => rw [h] at hb1; simp at hb1
  iterate 2 refine τ ?_
  refine EVo_t rfl (T_build ly40 rfl rfl) ?_
  iterate 5 refine τ ?_
  refine ⟨_, _, _, ⟨rfl, rfl⟩, ⟨rfl, _, _, _, rfl, rfl, rfl, .inl ⟨_, gOk rfl, zOk rfl, Nat.le_of_ble_eq_true rfl, rfl⟩⟩, ⟨rfl, rfl⟩, fit_eq rfl nofun ?_, fit_agg rfl nofun ?_, fit_eq rfl nofun ?_⟩
  ·rw [scaleR_1 hg]; try rfl
  ·rw [scaleR_1 hg]; try rfl
  ·rw [scaleR_1 hg]
 ·try simp only [zz] at hb1
  have hg : goodS a b t = true := by
   cases h : goodS a b t with
   | true => rfl
   | false => rw [h] at hb1; simp at hb1
  have hgt : goodT t = true := by unfold goodS at hg; simp only [Bool.and_eq_true] at hg; exact hg.1.1.1.2
  have hsh := shT_good hgt
  iterate 5 refine τ ?_
  refine EVo_e rfl (D_call false (sca_numbers t ht (shT_good hgt) hN) rfl (φa rfl φn)) ?_
  iterate 18 refine τ ?_
  refine EV_cond rfl rfl rfl (fun hb2 => ?_) (fun hb2 => ?_)
  ·try simp only [zz] at hb2
   iterate 2 refine τ ?_
   refine EVo_t rfl (T_build ly40 rfl rfl) ?_
   iterate 5 refine τ ?_
   refine ⟨_, _, _, ⟨rfl, rfl⟩, ⟨rfl, _, _, _, rfl, rfl, rfl, .inl ⟨_, gOk rfl, zOk rfl, Nat.le_of_ble_eq_true rfl, rfl⟩⟩, ⟨rfl, rfl⟩, fit_eq rfl nofun ?_, fit_agg rfl nofun ?_, fit_eq rfl nofun ?_⟩
   ·rw [scaleR_2 hg hb2]; try rfl
   ·rw [scaleR_2 hg hb2]; try rfl
   ·rw [scaleR_2 hg hb2]
  ·try simp only [zz] at hb2
   have hn2 : 2 ≤ (numsT t).length := by simp only [Bool.and_eq_true, decide_eq_true_eq] at hb2; exact hb2.1
   have hbad : (numsT t).any badN = false := by simp only [Bool.and_eq_true, Bool.not_eq_true'] at hb2; exact hb2.2
   iterate 8 refine τ ?_
   refine EVo_case 40 rfl (fun hb3 => ?_) (fun hb3 => ?_)
   ·try simp only [zz] at hb3
    have hpb : ¬ (p.length : Int) = b := hb3
    iterate 9 refine τ ?_
    refine EV_cond rfl rfl rfl (fun _ => ?_) (fun h => by first | cases h | (exfalso; simp_all; done))
    iterate 2 refine τ ?_
    refine EVo_t rfl (T_build ly40 rfl rfl) ?_
    iterate 5 refine τ ?_
    refine ⟨_, _, _, ⟨rfl, rfl⟩, ⟨rfl, _, _, _, rfl, rfl, rfl, .inl ⟨_, gOk rfl, zOk rfl, Nat.le_of_ble_eq_true rfl, rfl⟩⟩, ⟨rfl, rfl⟩, fit_eq rfl nofun ?_, fit_agg rfl nofun ?_, fit_eq rfl nofun ?_⟩
    ·rw [scaleR_3 hg hn2 hbad (fun h => hpb h.1)]; try rfl
    ·rw [scaleR_3 hg hn2 hbad (fun h => hpb h.1)]; try rfl
    ·rw [scaleR_3 hg hn2 hbad (fun h => hpb h.1)]
   ·try simp only [zz] at hb3
    have hpb : (p.length : Int) = b := hb3
    iterate 9 refine τ ?_
    refine EV_cond rfl rfl rfl (fun hb4 => ?_) (fun hb4 => ?_)
    ·try simp only [zz] at hb4
     have hxb : ¬ (xs.length : Int) = (numsT t).length - 1 := hb4
     iterate 2 refine τ ?_
     refine EVo_t rfl (T_build ly40 rfl rfl) ?_
     iterate 5 refine τ ?_
     refine ⟨_, _, _, ⟨rfl, rfl⟩, ⟨rfl, _, _, _, rfl, rfl, rfl, .inl ⟨_, gOk rfl, zOk rfl, Nat.le_of_ble_eq_true rfl, rfl⟩⟩, ⟨rfl, rfl⟩, fit_eq rfl nofun ?_, fit_agg rfl nofun ?_, fit_eq rfl nofun ?_⟩
     ·rw [scaleR_3 hg hn2 hbad (fun h => hxb h.2)]; try rfl
     ·rw [scaleR_3 hg hn2 hbad (fun h => hxb h.2)]; try rfl
     ·rw [scaleR_3 hg hn2 hbad (fun h => hxb h.2)]
    ·try simp only [zz] at hb4
     have hxb : (xs.length : Int) = (numsT t).length - 1 := hb4
     iterate 4 refine τ ?_
     refine EVo_e rfl (D_call false (has_false p hpl hps) rfl (φd rfl (φd rfl φn))) ?_
     iterate 3 refine τ ?_
     refine EVo_e rfl (D_call false (has_false xs hxl hxs) rfl (φd rfl (φd rfl φn))) ?_
     iterate 3 refine τ ?_
     refine EV_cond rfl rfl rfl (fun h => by first | cases h | (exfalso; simp_all; done)) (fun _ => ?_)
     iterate 3 refine τ ?_
     refine EVo_e rfl (D_call false (has_Ra p 38 (fun q => bitsQ q 256) (by omega) (fun x hx => sca_f2 x (hps x hx))) rfl (φd rfl (φd rfl φn))) ?_
     refine τ ?_
     refine EVo_case 62 rfl (fun hb5 => ?_) (fun hb5 => ?_)
     ·try simp only [zz] at hb5
      have hbp := hb5
      iterate 5 refine τ ?_
      refine EV_cond rfl rfl rfl (fun _ => ?_) (fun h => by first | cases h | (exfalso; simp_all; done))
      iterate 2 refine τ ?_
      refine EVo_t rfl (T_build ly40 rfl rfl) ?_
      iterate 5 refine τ ?_
      refine ⟨_, _, _, ⟨rfl, rfl⟩, ⟨rfl, _, _, _, rfl, rfl, rfl, .inl ⟨_, gOk rfl, zOk rfl, Nat.le_of_ble_eq_true rfl, rfl⟩⟩, ⟨rfl, rfl⟩, fit_eq rfl nofun ?_, fit_agg rfl nofun ?_, fit_eq rfl nofun ?_⟩
      ·rw [scaleR_4 hg hn2 hbad hpb hxb (.inl hbp)]; try rfl
      ·rw [scaleR_4 hg hn2 hbad hpb hxb (.inl hbp)]; try rfl
      ·rw [scaleR_4 hg hn2 hbad hpb hxb (.inl hbp)]
     ·try simp only [zz] at hb5
      have hbp := hb5
      refine τ ?_
      refine EVo_e rfl (D_call false (has_Ra xs 40 (fun q => bitsQ q 4096) (by omega) (fun x hx => sca_f3 x (hxs x hx))) rfl (φd rfl (φd rfl φn))) ?_
      iterate 3 refine τ ?_
      refine EV_cond rfl rfl rfl (fun hb6 => ?_) (fun hb6 => ?_)
      ·try simp only [zz] at hb6
       have hbx := hb6
       iterate 2 refine τ ?_
       refine EVo_t rfl (T_build ly40 rfl rfl) ?_
       iterate 5 refine τ ?_
       refine ⟨_, _, _, ⟨rfl, rfl⟩, ⟨rfl, _, _, _, rfl, rfl, rfl, .inl ⟨_, gOk rfl, zOk rfl, Nat.le_of_ble_eq_true rfl, rfl⟩⟩, ⟨rfl, rfl⟩, fit_eq rfl nofun ?_, fit_agg rfl nofun ?_, fit_eq rfl nofun ?_⟩
       ·rw [scaleR_4 hg hn2 hbad hpb hxb (.inr hbx)]; try rfl
       ·rw [scaleR_4 hg hn2 hbad hpb hxb (.inr hbx)]; try rfl
       ·rw [scaleR_4 hg hn2 hbad hpb hxb (.inr hbx)]
      ·try simp only [zz] at hb6
       have hbx := hb6
       iterate 3 refine τ ?_
       refine EVo_e rfl (D_call false (has_Ra p 41 (fun q => decide (q.num ≤ 0)) (by omega) (fun x hx => sca_f4 x (hps x hx))) rfl (φd rfl (φd rfl φn))) ?_
       iterate 2 refine τ ?_
       refine EV_cond rfl rfl rfl (fun hb7 => ?_) (fun hb7 => ?_)
       ·try simp only [zz] at hb7
        have hpp := hb7
        iterate 2 refine τ ?_
        refine EVo_t rfl (T_build ly40 rfl rfl) ?_
        iterate 5 refine τ ?_
        refine ⟨_, _, _, ⟨rfl, rfl⟩, ⟨rfl, _, _, _, rfl, rfl, rfl, .inl ⟨_, gOk rfl, zOk rfl, Nat.le_of_ble_eq_true rfl, rfl⟩⟩, ⟨rfl, rfl⟩, fit_eq rfl nofun ?_, fit_agg rfl nofun ?_, fit_eq rfl nofun ?_⟩
        ·rw [scaleR_5 hg hn2 hbad hpb hxb hbp hbx hpp]; try rfl
        ·rw [scaleR_5 hg hn2 hbad hpb hxb hbp hbx hpp]; try rfl
        ·rw [scaleR_5 hg hn2 hbad hpb hxb hbp hbx hpp]
       ·try simp only [zz] at hb7
        have hpp := hb7
        iterate 3 refine τ ?_
        refine EVo_t rfl (T_mf rfl rfl rfl) ?_
        iterate 10 refine τ ?_
        have hP : okP p 8 := fun P hP => ⟨fun e => by have := any_false hpp P hP; subst e; simp at this, bits_szQ (m := 4) (any_false hbp P hP)⟩
        have hX : ∀ x ∈ xs, szQ x ≤ 128 := fun x hx => bits_szQ (m := 64) (any_false hbx x hx)
        have hok := hOk hg hbad hpb
        refine EV_weak (W_nilRow 1 6 40 3 (hE 1 rfl) rfl) ?_
        refine EV_wl (fun mm S => ∃ i : Int, ∃ L : List Rat, ∃ f : Bool, mm = ((xs.length : Int) - i).toNat ∧ S = St.of [(2, V.c (.d false (encQs xs))), (6, V.c (.own 1 40 3 f (List.map encQ L))), (7, V.c (.ref 4 0)), (9, V.c (.d false (.sl ((numsT t).map encTy)))), (12, V.c (cF 43 [] [.ref 3 0])), (72, V.c (.d false (encQs xs))), (73, vi .i64 xs.length), (74, vi .i64 i)] (tabO [(1, .row), (3, .box [.d false (encQs p)]), (4, .box [cb false, .d true (.val (.slice none 0 0)), .d true (.val (.slice none 0 0))])]) 140 ∧ 0 ≤ i ∧ i ≤ xs.length ∧ L.length = i.toNat ∧ (loopR p ((numsT t).drop i.toNat) (xs.drop i.toNat)).map (L ++ ·) = loopR p (numsT t) xs) _ ⟨_, ⟨(0 : Int), ([] : List Rat), true, rfl, rfl, ⟨by omega, by omega, rfl, by simp⟩⟩, W_keep2 _ _ ⟨rfl, rfl, rfl, rfl, rfl, rfl, rfl, rfl, trivial⟩ ⟨rfl, rfl, rfl, trivial⟩ rfl⟩ ?_
        rintro mm S ⟨i, L, f, rfl, rfl, ⟨h0, hi1, hL, hR⟩⟩
        have ei : (i.toNat : Int) = i := by omega
        iterate 5 refine τ ?_
        refine EV_cond rfl rfl rfl (fun hb8 => ?_) (fun hb8 => ?_)
        ·try simp only [zz] at hb8
         have hm := mem_rd (l := numsT t) h0 (by omega)
         have hx := hX (rd xs i) (mem_rd h0 (by omega))
         have hoi := hok _ hm
         have hul := hU _ hm
         have hone := badN_no hsh ht hm hbad
         have hsz := szQ_scaleQ p 8 hP (rd (rd (numsT t) i).us 0) (rd xs i) hoi
         iterate 6 refine τ ?_
         refine EVo_t rfl (T_ixL (uOk rfl) (zOk rfl) rfl rfl (by omega) (by omega) (rfl)) ?_
         refine τ ?_
         refine EVo_e rfl (D_alloc 5 (hE 5 rfl) Free_no zr40 rfl) ?_
         iterate 4 refine τ ?_
         refine EV_draw (inX []) (.st 0 (.st 2 (.st 3 (.st 4 (.st 5 (.st 6 (.st 7 (.st 8 (.two 1 (.two 9 (.one 10 (.one 11 .done)) 10 (.one 9 (.one 11 .done))) 10 (.one 1 (.one 9 (.one 11 .done)))))))))))) Tryz.mixed (by kernel_rfl) ?_
         refine EVq_t rfl rfl (T_move rfl) ?_
         refine EVq_t rfl rfl (T_move rfl) ?_
         refine EVq_t rfl rfl (T_move rfl) ?_
         refine EVq_t rfl rfl (T_ixL (uOk rfl) (zOk rfl) rfl rfl (by omega) (by omega) (encTy_len _)) ?_
         rw [encTy_eq]
         refine EVq_t rfl rfl (T_fa (fOk rfl) (zOk rfl) rfl (Nat.le_of_ble_eq_true rfl)) ?_
         refine EVq_t rfl rfl (T_load (gOk rfl) rfl) ?_
         refine EVq_t rfl rfl (T_ixL (uOk rfl) (zOk rfl) rfl rfl (by omega) (by omega) (rfl)) ?_
         refine EVq_t rfl rfl (T_load (gOk rfl) rfl) ?_
         refine EVq_two rfl rfl ((T_loadRA (gOk rfl) (zOk rfl) rfl rfl (Nat.le_of_ble_eq_true rfl) rfl rfl).now) rfl rfl (D_alloc 6 (hE 6 rfl) (Free_in rfl) zr40 rfl) ?_ ?_
         ·
          refine EVq_two rfl rfl (D_callG [(900, 3)] (sca_scaled p (rd (rd (numsT t) i).us 0) (rd xs i) 8 hpl (by omega) hP hoi (by omega)) rfl rfl rfl rfl (fun _ => Free_no) rfl ⟨⟨_, _, rfl, rfl, rfl⟩, trivial⟩ ⟨.inl rfl, trivial⟩) rfl rfl (D_alloc 7 (hE 7 rfl) (Free_in rfl) zr40 rfl) ?_ ?_
          ·
           refine EVq_e rfl rfl (D_alloc 8 (hE 8 rfl) (Free_in rfl) zr40 rfl) ?_
           refine EVq_e rfl rfl (D_store rfl (Free_in rfl) rfl rfl (zOk rfl) rfl (Nat.le_of_ble_eq_true rfl) rfl) ?_
           refine EVq_done ?_
           iterate 3 refine τ ?_
           refine EVo_e rfl (D_call false (ratio_WholeI (rd xs i) (by omega)) rfl (φa rfl φn)) ?_
           iterate 3 refine τ ?_
           refine EVo_e rfl (D_alloc 9 (hE 9 rfl) Free_no zr38 rfl) ?_
           iterate 6 refine τ ?_
           refine EVo_e rfl (D_call false (ratio_WholeI (scaleQ p (rd (rd (numsT t) i).us 0) (rd xs i)) (by omega)) rfl (φa rfl φn)) ?_
           iterate 3 refine τ ?_
           refine EVo_e rfl (D_alloc 10 (hE 10 rfl) Free_no zr38 rfl) ?_
           iterate 8 refine τ ?_
           refine EVo_t rfl (T_ixL (uOk rfl) (zOk rfl) rfl rfl (by omega) (by omega) (encTy_len _)) ?_
           rw [encTy_eq]
           iterate 4 refine τ ?_
           refine EVo_case 105 rfl (fun hb9 => ?_) (fun hb9 => ?_)
           ·try simp only [zz] at hb9
            iterate 3 refine τ ?_
            refine EVo_case 108 rfl (fun hb10 => ?_) (fun hb10 => ?_)
            ·try simp only [zz] at hb10
             iterate 5 refine τ ?_
             refine EV_cond rfl rfl rfl (fun _ => ?_) (fun h => by first | cases h | (exfalso; simp_all; done))
             iterate 2 refine τ ?_
             refine EVo_t rfl (T_build ly40 rfl rfl) ?_
             iterate 5 refine τ ?_
             have hnone : loopR p (numsT t) xs = none := by rw [← hR, loopR_at (n := i.toNat) (by omega) (by omega), ei, if_pos (by simp_all)]; rfl
             refine ⟨_, _, _, ⟨rfl, rfl⟩, ⟨rfl, _, _, _, rfl, rfl, rfl, .inl ⟨_, gOk rfl, zOk rfl, Nat.le_of_ble_eq_true rfl, rfl⟩⟩, ⟨rfl, rfl⟩, fit_eq rfl nofun ?_, fit_agg rfl nofun ?_, fit_eq rfl nofun ?_⟩
             ·rw [scaleR_6 hg hn2 hbad hpb hxb hbp hbx hpp hnone]; try rfl
             ·rw [scaleR_6 hg hn2 hbad hpb hxb hbp hbx hpp hnone]; try rfl
             ·rw [scaleR_6 hg hn2 hbad hpb hxb hbp hbx hpp hnone]
            ·try simp only [zz] at hb10
             iterate 5 refine τ ?_
             refine EV_cond rfl rfl rfl (fun hb11 => ?_) (fun hb11 => ?_)
             ·try simp only [zz] at hb11
              iterate 2 refine τ ?_
              refine EVo_t rfl (T_build ly40 rfl rfl) ?_
              iterate 5 refine τ ?_
              have hnone : loopR p (numsT t) xs = none := by rw [← hR, loopR_at (n := i.toNat) (by omega) (by omega), ei, if_pos (by simp_all)]; rfl
              refine ⟨_, _, _, ⟨rfl, rfl⟩, ⟨rfl, _, _, _, rfl, rfl, rfl, .inl ⟨_, gOk rfl, zOk rfl, Nat.le_of_ble_eq_true rfl, rfl⟩⟩, ⟨rfl, rfl⟩, fit_eq rfl nofun ?_, fit_agg rfl nofun ?_, fit_eq rfl nofun ?_⟩
              ·rw [scaleR_6 hg hn2 hbad hpb hxb hbp hbx hpp hnone]; try rfl
              ·rw [scaleR_6 hg hn2 hbad hpb hxb hbp hbx hpp hnone]; try rfl
              ·rw [scaleR_6 hg hn2 hbad hpb hxb hbp hbx hpp hnone]
             ·try simp only [zz] at hb11
              iterate 2 refine τ ?_
              refine EV_draw (inX []) (.st 1 (.two 0 (.one 2 (.one 3 (.st 4 (.st 5 (.st 6 (.one 7 .done)))))) 2 (.one 0 (.one 3 (.st 4 (.st 5 (.st 6 (.one 7 .done)))))))) Tryz.mixed (by kernel_rfl) ?_
              refine EVq_t rfl rfl (T_build ly38 rfl rfl) ?_
              refine EVq_two rfl rfl ((T_loadRA (gOk rfl) (zOk rfl) rfl rfl (Nat.le_of_ble_eq_true rfl) rfl rfl).now) rfl rfl (D_call false (ratio_From0) rfl (φa rfl φn)) ?_ ?_
              ·
               refine EVq_e rfl rfl (D_call false (ratio_From0) rfl (φa rfl φn)) ?_
               refine EVq_e rfl rfl (D_call false (ratio_Add0 _ (by omega)) rfl (φa rfl (φa rfl φn))) ?_
               refine EVq_t rfl rfl (T_move rfl) ?_
               refine EVq_t rfl rfl (T_extract rfl rfl) ?_
               refine EVq_t rfl rfl (T_extract rfl rfl) ?_
               refine EVq_e rfl rfl (D_store rfl (Free_in rfl) rfl rfl (zOk rfl) rfl (Nat.le_of_ble_eq_true rfl) rfl) ?_
               refine EVq_done ?_
               iterate 3 refine τ ?_
               refine EVo_e rfl (D_buildSlice (uOk rfl) bz40 rfl rfl rfl (by simp)) ?_
               refine EVo_e rfl (D_append (uOk rfl) ap40 (by decide) rfl rfl (hE 1 rfl) Free_no rfl rfl (by simp) (by simp; omega) (by simp; omega)) ?_
               iterate 6 refine τ ?_
               refine ⟨_, ?_, ω ⟨_, ⟨i + 1, L ++ [scaleQ p (rd (rd (numsT t) i).us 0) (rd xs i)], _, rfl, rfl, ?_⟩, W_keep2 _ _ ⟨rfl, (own_app rfl), rfl, rfl, rfl, rfl, rfl, rfl, trivial⟩ ⟨rfl, rfl, rfl, trivial⟩ rfl⟩⟩
               ·omega
               ·have e2 : (i + 1).toNat = i.toNat + 1 := by omega
                rw [e2]
                refine ⟨by omega, by omega, by simp; omega, ?_⟩
                rw [← hR, loopR_at (n := i.toNat) (by omega) (by omega), ei, if_neg (by simp_all)]
                cases loopR p ((numsT t).drop (i.toNat + 1)) (xs.drop (i.toNat + 1)) <;> simp
              ·
               refine EVq_e rfl rfl ((T_loadRA (gOk rfl) (zOk rfl) rfl rfl (Nat.le_of_ble_eq_true rfl) rfl rfl).now) ?_
               refine EVq_e rfl rfl (D_call false (ratio_Add0 _ (by omega)) rfl (φa rfl (φa rfl φn))) ?_
               refine EVq_t rfl rfl (T_move rfl) ?_
               refine EVq_t rfl rfl (T_extract rfl rfl) ?_
               refine EVq_t rfl rfl (T_extract rfl rfl) ?_
               refine EVq_e rfl rfl (D_store rfl (Free_in rfl) rfl rfl (zOk rfl) rfl (Nat.le_of_ble_eq_true rfl) rfl) ?_
               refine EVq_done ?_
               iterate 3 refine τ ?_
               refine EVo_e rfl (D_buildSlice (uOk rfl) bz40 rfl rfl rfl (by simp)) ?_
               refine EVo_e rfl (D_append (uOk rfl) ap40 (by decide) rfl rfl (hE 1 rfl) Free_no rfl rfl (by simp) (by simp; omega) (by simp; omega)) ?_
               iterate 6 refine τ ?_
               refine ⟨_, ?_, ω ⟨_, ⟨i + 1, L ++ [scaleQ p (rd (rd (numsT t) i).us 0) (rd xs i)], _, rfl, rfl, ?_⟩, W_keep2 _ _ ⟨rfl, (own_app rfl), rfl, rfl, rfl, rfl, rfl, rfl, trivial⟩ ⟨rfl, rfl, rfl, trivial⟩ rfl⟩⟩
               ·omega
               ·have e2 : (i + 1).toNat = i.toNat + 1 := by omega
                rw [e2]
                refine ⟨by omega, by omega, by simp; omega, ?_⟩
                rw [← hR, loopR_at (n := i.toNat) (by omega) (by omega), ei, if_neg (by simp_all)]
                cases loopR p ((numsT t).drop (i.toNat + 1)) (xs.drop (i.toNat + 1)) <;> simp
           ·try simp only [zz] at hb9
            iterate 8 refine τ ?_
            refine EV_cond rfl rfl rfl (fun h => by first | cases h | (exfalso; simp_all; done)) (fun _ => ?_)
            iterate 2 refine τ ?_
            refine EV_draw (inX []) (.st 1 (.two 0 (.one 2 (.one 3 (.st 4 (.st 5 (.st 6 (.one 7 .done)))))) 2 (.one 0 (.one 3 (.st 4 (.st 5 (.st 6 (.one 7 .done)))))))) Tryz.mixed (by kernel_rfl) ?_
            refine EVq_t rfl rfl (T_build ly38 rfl rfl) ?_
            refine EVq_two rfl rfl ((T_loadRA (gOk rfl) (zOk rfl) rfl rfl (Nat.le_of_ble_eq_true rfl) rfl rfl).now) rfl rfl (D_call false (ratio_From0) rfl (φa rfl φn)) ?_ ?_
            ·
             refine EVq_e rfl rfl (D_call false (ratio_From0) rfl (φa rfl φn)) ?_
             refine EVq_e rfl rfl (D_call false (ratio_Add0 _ (by omega)) rfl (φa rfl (φa rfl φn))) ?_
             refine EVq_t rfl rfl (T_move rfl) ?_
             refine EVq_t rfl rfl (T_extract rfl rfl) ?_
             refine EVq_t rfl rfl (T_extract rfl rfl) ?_
             refine EVq_e rfl rfl (D_store rfl (Free_in rfl) rfl rfl (zOk rfl) rfl (Nat.le_of_ble_eq_true rfl) rfl) ?_
             refine EVq_done ?_
             iterate 3 refine τ ?_
             refine EVo_e rfl (D_buildSlice (uOk rfl) bz40 rfl rfl rfl (by simp)) ?_
             refine EVo_e rfl (D_append (uOk rfl) ap40 (by decide) rfl rfl (hE 1 rfl) Free_no rfl rfl (by simp) (by simp; omega) (by simp; omega)) ?_
             iterate 6 refine τ ?_
             refine ⟨_, ?_, ω ⟨_, ⟨i + 1, L ++ [scaleQ p (rd (rd (numsT t) i).us 0) (rd xs i)], _, rfl, rfl, ?_⟩, W_keep2 _ _ ⟨rfl, (own_app rfl), rfl, rfl, rfl, rfl, rfl, rfl, trivial⟩ ⟨rfl, rfl, rfl, trivial⟩ rfl⟩⟩
             ·omega
             ·have e2 : (i + 1).toNat = i.toNat + 1 := by omega
              rw [e2]
              refine ⟨by omega, by omega, by simp; omega, ?_⟩
              rw [← hR, loopR_at (n := i.toNat) (by omega) (by omega), ei, if_neg (by simp_all)]
              cases loopR p ((numsT t).drop (i.toNat + 1)) (xs.drop (i.toNat + 1)) <;> simp
            ·
             refine EVq_e rfl rfl ((T_loadRA (gOk rfl) (zOk rfl) rfl rfl (Nat.le_of_ble_eq_true rfl) rfl rfl).now) ?_
             refine EVq_e rfl rfl (D_call false (ratio_Add0 _ (by omega)) rfl (φa rfl (φa rfl φn))) ?_
             refine EVq_t rfl rfl (T_move rfl) ?_
             refine EVq_t rfl rfl (T_extract rfl rfl) ?_
             refine EVq_t rfl rfl (T_extract rfl rfl) ?_
             refine EVq_e rfl rfl (D_store rfl (Free_in rfl) rfl rfl (zOk rfl) rfl (Nat.le_of_ble_eq_true rfl) rfl) ?_
             refine EVq_done ?_
             iterate 3 refine τ ?_
             refine EVo_e rfl (D_buildSlice (uOk rfl) bz40 rfl rfl rfl (by simp)) ?_
             refine EVo_e rfl (D_append (uOk rfl) ap40 (by decide) rfl rfl (hE 1 rfl) Free_no rfl rfl (by simp) (by simp; omega) (by simp; omega)) ?_
             iterate 6 refine τ ?_
             refine ⟨_, ?_, ω ⟨_, ⟨i + 1, L ++ [scaleQ p (rd (rd (numsT t) i).us 0) (rd xs i)], _, rfl, rfl, ?_⟩, W_keep2 _ _ ⟨rfl, (own_app rfl), rfl, rfl, rfl, rfl, rfl, rfl, trivial⟩ ⟨rfl, rfl, rfl, trivial⟩ rfl⟩⟩
             ·omega
             ·have e2 : (i + 1).toNat = i.toNat + 1 := by omega
              rw [e2]
              refine ⟨by omega, by omega, by simp; omega, ?_⟩
              rw [← hR, loopR_at (n := i.toNat) (by omega) (by omega), ei, if_neg (by simp_all)]
              cases loopR p ((numsT t).drop (i.toNat + 1)) (xs.drop (i.toNat + 1)) <;> simp
          ·
           refine EVq_e rfl rfl (D_callG [(900, 3)] (sca_scaled p (rd (rd (numsT t) i).us 0) (rd xs i) 8 hpl (by omega) hP hoi (by omega)) rfl rfl rfl rfl (fun _ => Free_no) rfl ⟨⟨_, _, rfl, rfl, rfl⟩, trivial⟩ ⟨.inl rfl, trivial⟩) ?_
           refine EVq_e rfl rfl (D_store rfl (Free_in rfl) rfl rfl (zOk rfl) rfl (Nat.le_of_ble_eq_true rfl) rfl) ?_
           refine EVq_done ?_
           iterate 3 refine τ ?_
           refine EVo_e rfl (D_call false (ratio_WholeI (rd xs i) (by omega)) rfl (φa rfl φn)) ?_
           iterate 3 refine τ ?_
           refine EVo_e rfl (D_alloc 11 (hE 11 rfl) Free_no zr38 rfl) ?_
           iterate 6 refine τ ?_
           refine EVo_e rfl (D_call false (ratio_WholeI (scaleQ p (rd (rd (numsT t) i).us 0) (rd xs i)) (by omega)) rfl (φa rfl φn)) ?_
           iterate 3 refine τ ?_
           refine EVo_e rfl (D_alloc 12 (hE 12 rfl) Free_no zr38 rfl) ?_
           iterate 8 refine τ ?_
           refine EVo_t rfl (T_ixL (uOk rfl) (zOk rfl) rfl rfl (by omega) (by omega) (encTy_len _)) ?_
           rw [encTy_eq]
           iterate 4 refine τ ?_
           refine EVo_case 105 rfl (fun hb12 => ?_) (fun hb12 => ?_)
           ·try simp only [zz] at hb12
            iterate 3 refine τ ?_
            refine EVo_case 108 rfl (fun hb13 => ?_) (fun hb13 => ?_)
            ·try simp only [zz] at hb13
             iterate 5 refine τ ?_
             refine EV_cond rfl rfl rfl (fun _ => ?_) (fun h => by first | cases h | (exfalso; simp_all; done))
             iterate 2 refine τ ?_
             refine EVo_t rfl (T_build ly40 rfl rfl) ?_
             iterate 5 refine τ ?_
             have hnone : loopR p (numsT t) xs = none := by rw [← hR, loopR_at (n := i.toNat) (by omega) (by omega), ei, if_pos (by simp_all)]; rfl
             refine ⟨_, _, _, ⟨rfl, rfl⟩, ⟨rfl, _, _, _, rfl, rfl, rfl, .inl ⟨_, gOk rfl, zOk rfl, Nat.le_of_ble_eq_true rfl, rfl⟩⟩, ⟨rfl, rfl⟩, fit_eq rfl nofun ?_, fit_agg rfl nofun ?_, fit_eq rfl nofun ?_⟩
             ·rw [scaleR_6 hg hn2 hbad hpb hxb hbp hbx hpp hnone]; try rfl
             ·rw [scaleR_6 hg hn2 hbad hpb hxb hbp hbx hpp hnone]; try rfl
             ·rw [scaleR_6 hg hn2 hbad hpb hxb hbp hbx hpp hnone]
            ·try simp only [zz] at hb13
             iterate 5 refine τ ?_
             refine EV_cond rfl rfl rfl (fun hb14 => ?_) (fun hb14 => ?_)
             ·try simp only [zz] at hb14
              iterate 2 refine τ ?_
              refine EVo_t rfl (T_build ly40 rfl rfl) ?_
              iterate 5 refine τ ?_
              have hnone : loopR p (numsT t) xs = none := by rw [← hR, loopR_at (n := i.toNat) (by omega) (by omega), ei, if_pos (by simp_all)]; rfl
              refine ⟨_, _, _, ⟨rfl, rfl⟩, ⟨rfl, _, _, _, rfl, rfl, rfl, .inl ⟨_, gOk rfl, zOk rfl, Nat.le_of_ble_eq_true rfl, rfl⟩⟩, ⟨rfl, rfl⟩, fit_eq rfl nofun ?_, fit_agg rfl nofun ?_, fit_eq rfl nofun ?_⟩
              ·rw [scaleR_6 hg hn2 hbad hpb hxb hbp hbx hpp hnone]; try rfl
              ·rw [scaleR_6 hg hn2 hbad hpb hxb hbp hbx hpp hnone]; try rfl
              ·rw [scaleR_6 hg hn2 hbad hpb hxb hbp hbx hpp hnone]
             ·try simp only [zz] at hb14
              iterate 2 refine τ ?_
              refine EV_draw (inX []) (.st 1 (.two 0 (.one 2 (.one 3 (.st 4 (.st 5 (.st 6 (.one 7 .done)))))) 2 (.one 0 (.one 3 (.st 4 (.st 5 (.st 6 (.one 7 .done)))))))) Tryz.mixed (by kernel_rfl) ?_
              refine EVq_t rfl rfl (T_build ly38 rfl rfl) ?_
              refine EVq_two rfl rfl ((T_loadRA (gOk rfl) (zOk rfl) rfl rfl (Nat.le_of_ble_eq_true rfl) rfl rfl).now) rfl rfl (D_call false (ratio_From0) rfl (φa rfl φn)) ?_ ?_
              ·
               refine EVq_e rfl rfl (D_call false (ratio_From0) rfl (φa rfl φn)) ?_
               refine EVq_e rfl rfl (D_call false (ratio_Add0 _ (by omega)) rfl (φa rfl (φa rfl φn))) ?_
               refine EVq_t rfl rfl (T_move rfl) ?_
               refine EVq_t rfl rfl (T_extract rfl rfl) ?_
               refine EVq_t rfl rfl (T_extract rfl rfl) ?_
               refine EVq_e rfl rfl (D_store rfl (Free_in rfl) rfl rfl (zOk rfl) rfl (Nat.le_of_ble_eq_true rfl) rfl) ?_
               refine EVq_done ?_
               iterate 3 refine τ ?_
               refine EVo_e rfl (D_buildSlice (uOk rfl) bz40 rfl rfl rfl (by simp)) ?_
               refine EVo_e rfl (D_append (uOk rfl) ap40 (by decide) rfl rfl (hE 1 rfl) Free_no rfl rfl (by simp) (by simp; omega) (by simp; omega)) ?_
               iterate 6 refine τ ?_
               refine ⟨_, ?_, ω ⟨_, ⟨i + 1, L ++ [scaleQ p (rd (rd (numsT t) i).us 0) (rd xs i)], _, rfl, rfl, ?_⟩, W_keep2 _ _ ⟨rfl, (own_app rfl), rfl, rfl, rfl, rfl, rfl, rfl, trivial⟩ ⟨rfl, rfl, rfl, trivial⟩ rfl⟩⟩
               ·omega
               ·have e2 : (i + 1).toNat = i.toNat + 1 := by omega
                rw [e2]
                refine ⟨by omega, by omega, by simp; omega, ?_⟩
                rw [← hR, loopR_at (n := i.toNat) (by omega) (by omega), ei, if_neg (by simp_all)]
                cases loopR p ((numsT t).drop (i.toNat + 1)) (xs.drop (i.toNat + 1)) <;> simp
              ·
               refine EVq_e rfl rfl ((T_loadRA (gOk rfl) (zOk rfl) rfl rfl (Nat.le_of_ble_eq_true rfl) rfl rfl).now) ?_
               refine EVq_e rfl rfl (D_call false (ratio_Add0 _ (by omega)) rfl (φa rfl (φa rfl φn))) ?_
               refine EVq_t rfl rfl (T_move rfl) ?_
               refine EVq_t rfl rfl (T_extract rfl rfl) ?_
               refine EVq_t rfl rfl (T_extract rfl rfl) ?_
               refine EVq_e rfl rfl (D_store rfl (Free_in rfl) rfl rfl (zOk rfl) rfl (Nat.le_of_ble_eq_true rfl) rfl) ?_
               refine EVq_done ?_
               iterate 3 refine τ ?_
               refine EVo_e rfl (D_buildSlice (uOk rfl) bz40 rfl rfl rfl (by simp)) ?_
               refine EVo_e rfl (D_append (uOk rfl) ap40 (by decide) rfl rfl (hE 1 rfl) Free_no rfl rfl (by simp) (by simp; omega) (by simp; omega)) ?_
               iterate 6 refine τ ?_
               refine ⟨_, ?_, ω ⟨_, ⟨i + 1, L ++ [scaleQ p (rd (rd (numsT t) i).us 0) (rd xs i)], _, rfl, rfl, ?_⟩, W_keep2 _ _ ⟨rfl, (own_app rfl), rfl, rfl, rfl, rfl, rfl, rfl, trivial⟩ ⟨rfl, rfl, rfl, trivial⟩ rfl⟩⟩
               ·omega
               ·have e2 : (i + 1).toNat = i.toNat + 1 := by omega
                rw [e2]
                refine ⟨by omega, by omega, by simp; omega, ?_⟩
                rw [← hR, loopR_at (n := i.toNat) (by omega) (by omega), ei, if_neg (by simp_all)]
                cases loopR p ((numsT t).drop (i.toNat + 1)) (xs.drop (i.toNat + 1)) <;> simp
           ·try simp only [zz] at hb12
            iterate 8 refine τ ?_
            refine EV_cond rfl rfl rfl (fun h => by first | cases h | (exfalso; simp_all; done)) (fun _ => ?_)
            iterate 2 refine τ ?_
            refine EV_draw (inX []) (.st 1 (.two 0 (.one 2 (.one 3 (.st 4 (.st 5 (.st 6 (.one 7 .done)))))) 2 (.one 0 (.one 3 (.st 4 (.st 5 (.st 6 (.one 7 .done)))))))) Tryz.mixed (by kernel_rfl) ?_
            refine EVq_t rfl rfl (T_build ly38 rfl rfl) ?_
            refine EVq_two rfl rfl ((T_loadRA (gOk rfl) (zOk rfl) rfl rfl (Nat.le_of_ble_eq_true rfl) rfl rfl).now) rfl rfl (D_call false (ratio_From0) rfl (φa rfl φn)) ?_ ?_
            ·
             refine EVq_e rfl rfl (D_call false (ratio_From0) rfl (φa rfl φn)) ?_
             refine EVq_e rfl rfl (D_call false (ratio_Add0 _ (by omega)) rfl (φa rfl (φa rfl φn))) ?_
             refine EVq_t rfl rfl (T_move rfl) ?_
             refine EVq_t rfl rfl (T_extract rfl rfl) ?_
             refine EVq_t rfl rfl (T_extract rfl rfl) ?_
             refine EVq_e rfl rfl (D_store rfl (Free_in rfl) rfl rfl (zOk rfl) rfl (Nat.le_of_ble_eq_true rfl) rfl) ?_
             refine EVq_done ?_
             iterate 3 refine τ ?_
             refine EVo_e rfl (D_buildSlice (uOk rfl) bz40 rfl rfl rfl (by simp)) ?_
             refine EVo_e rfl (D_append (uOk rfl) ap40 (by decide) rfl rfl (hE 1 rfl) Free_no rfl rfl (by simp) (by simp; omega) (by simp; omega)) ?_
             iterate 6 refine τ ?_
             refine ⟨_, ?_, ω ⟨_, ⟨i + 1, L ++ [scaleQ p (rd (rd (numsT t) i).us 0) (rd xs i)], _, rfl, rfl, ?_⟩, W_keep2 _ _ ⟨rfl, (own_app rfl), rfl, rfl, rfl, rfl, rfl, rfl, trivial⟩ ⟨rfl, rfl, rfl, trivial⟩ rfl⟩⟩
             ·omega
             ·have e2 : (i + 1).toNat = i.toNat + 1 := by omega
              rw [e2]
              refine ⟨by omega, by omega, by simp; omega, ?_⟩
              rw [← hR, loopR_at (n := i.toNat) (by omega) (by omega), ei, if_neg (by simp_all)]
              cases loopR p ((numsT t).drop (i.toNat + 1)) (xs.drop (i.toNat + 1)) <;> simp
            ·
             refine EVq_e rfl rfl ((T_loadRA (gOk rfl) (zOk rfl) rfl rfl (Nat.le_of_ble_eq_true rfl) rfl rfl).now) ?_
             refine EVq_e rfl rfl (D_call false (ratio_Add0 _ (by omega)) rfl (φa rfl (φa rfl φn))) ?_
             refine EVq_t rfl rfl (T_move rfl) ?_
             refine EVq_t rfl rfl (T_extract rfl rfl) ?_
             refine EVq_t rfl rfl (T_extract rfl rfl) ?_
             refine EVq_e rfl rfl (D_store rfl (Free_in rfl) rfl rfl (zOk rfl) rfl (Nat.le_of_ble_eq_true rfl) rfl) ?_
             refine EVq_done ?_
             iterate 3 refine τ ?_
             refine EVo_e rfl (D_buildSlice (uOk rfl) bz40 rfl rfl rfl (by simp)) ?_
             refine EVo_e rfl (D_append (uOk rfl) ap40 (by decide) rfl rfl (hE 1 rfl) Free_no rfl rfl (by simp) (by simp; omega) (by simp; omega)) ?_
             iterate 6 refine τ ?_
             refine ⟨_, ?_, ω ⟨_, ⟨i + 1, L ++ [scaleQ p (rd (rd (numsT t) i).us 0) (rd xs i)], _, rfl, rfl, ?_⟩, W_keep2 _ _ ⟨rfl, (own_app rfl), rfl, rfl, rfl, rfl, rfl, rfl, trivial⟩ ⟨rfl, rfl, rfl, trivial⟩ rfl⟩⟩
             ·omega
             ·have e2 : (i + 1).toNat = i.toNat + 1 := by omega
              rw [e2]
              refine ⟨by omega, by omega, by simp; omega, ?_⟩
              rw [← hR, loopR_at (n := i.toNat) (by omega) (by omega), ei, if_neg (by simp_all)]
              cases loopR p ((numsT t).drop (i.toNat + 1)) (xs.drop (i.toNat + 1)) <;> simp
         ·
          refine EVq_e rfl rfl ((T_loadRA (gOk rfl) (zOk rfl) rfl rfl (Nat.le_of_ble_eq_true rfl) rfl rfl).now) ?_
          refine EVq_e rfl rfl (D_callG [(900, 3)] (sca_scaled p (rd (rd (numsT t) i).us 0) (rd xs i) 8 hpl (by omega) hP hoi (by omega)) rfl rfl rfl rfl (fun _ => Free_no) rfl ⟨⟨_, _, rfl, rfl, rfl⟩, trivial⟩ ⟨.inl rfl, trivial⟩) ?_
          refine EVq_e rfl rfl (D_store rfl (Free_in rfl) rfl rfl (zOk rfl) rfl (Nat.le_of_ble_eq_true rfl) rfl) ?_
          refine EVq_done ?_
          iterate 3 refine τ ?_
          refine EVo_e rfl (D_call false (ratio_WholeI (rd xs i) (by omega)) rfl (φa rfl φn)) ?_
          iterate 3 refine τ ?_
          refine EVo_e rfl (D_alloc 13 (hE 13 rfl) Free_no zr38 rfl) ?_
          iterate 6 refine τ ?_
          refine EVo_e rfl (D_call false (ratio_WholeI (scaleQ p (rd (rd (numsT t) i).us 0) (rd xs i)) (by omega)) rfl (φa rfl φn)) ?_
          iterate 3 refine τ ?_
          refine EVo_e rfl (D_alloc 14 (hE 14 rfl) Free_no zr38 rfl) ?_
          iterate 8 refine τ ?_
          refine EVo_t rfl (T_ixL (uOk rfl) (zOk rfl) rfl rfl (by omega) (by omega) (encTy_len _)) ?_
          rw [encTy_eq]
          iterate 4 refine τ ?_
          refine EVo_case 105 rfl (fun hb15 => ?_) (fun hb15 => ?_)
          ·try simp only [zz] at hb15
           iterate 3 refine τ ?_
           refine EVo_case 108 rfl (fun hb16 => ?_) (fun hb16 => ?_)
           ·try simp only [zz] at hb16
            iterate 5 refine τ ?_
            refine EV_cond rfl rfl rfl (fun _ => ?_) (fun h => by first | cases h | (exfalso; simp_all; done))
            iterate 2 refine τ ?_
            refine EVo_t rfl (T_build ly40 rfl rfl) ?_
            iterate 5 refine τ ?_
            have hnone : loopR p (numsT t) xs = none := by rw [← hR, loopR_at (n := i.toNat) (by omega) (by omega), ei, if_pos (by simp_all)]; rfl
            refine ⟨_, _, _, ⟨rfl, rfl⟩, ⟨rfl, _, _, _, rfl, rfl, rfl, .inl ⟨_, gOk rfl, zOk rfl, Nat.le_of_ble_eq_true rfl, rfl⟩⟩, ⟨rfl, rfl⟩, fit_eq rfl nofun ?_, fit_agg rfl nofun ?_, fit_eq rfl nofun ?_⟩
            ·rw [scaleR_6 hg hn2 hbad hpb hxb hbp hbx hpp hnone]; try rfl
            ·rw [scaleR_6 hg hn2 hbad hpb hxb hbp hbx hpp hnone]; try rfl
            ·rw [scaleR_6 hg hn2 hbad hpb hxb hbp hbx hpp hnone]
           ·try simp only [zz] at hb16
            iterate 5 refine τ ?_
            refine EV_cond rfl rfl rfl (fun hb17 => ?_) (fun hb17 => ?_)
            ·try simp only [zz] at hb17
             iterate 2 refine τ ?_
             refine EVo_t rfl (T_build ly40 rfl rfl) ?_
             iterate 5 refine τ ?_
             have hnone : loopR p (numsT t) xs = none := by rw [← hR, loopR_at (n := i.toNat) (by omega) (by omega), ei, if_pos (by simp_all)]; rfl
             refine ⟨_, _, _, ⟨rfl, rfl⟩, ⟨rfl, _, _, _, rfl, rfl, rfl, .inl ⟨_, gOk rfl, zOk rfl, Nat.le_of_ble_eq_true rfl, rfl⟩⟩, ⟨rfl, rfl⟩, fit_eq rfl nofun ?_, fit_agg rfl nofun ?_, fit_eq rfl nofun ?_⟩
             ·rw [scaleR_6 hg hn2 hbad hpb hxb hbp hbx hpp hnone]; try rfl
             ·rw [scaleR_6 hg hn2 hbad hpb hxb hbp hbx hpp hnone]; try rfl
             ·rw [scaleR_6 hg hn2 hbad hpb hxb hbp hbx hpp hnone]
            ·try simp only [zz] at hb17
             iterate 2 refine τ ?_
             refine EV_draw (inX []) (.st 1 (.two 0 (.one 2 (.one 3 (.st 4 (.st 5 (.st 6 (.one 7 .done)))))) 2 (.one 0 (.one 3 (.st 4 (.st 5 (.st 6 (.one 7 .done)))))))) Tryz.mixed (by kernel_rfl) ?_
             refine EVq_t rfl rfl (T_build ly38 rfl rfl) ?_
             refine EVq_two rfl rfl ((T_loadRA (gOk rfl) (zOk rfl) rfl rfl (Nat.le_of_ble_eq_true rfl) rfl rfl).now) rfl rfl (D_call false (ratio_From0) rfl (φa rfl φn)) ?_ ?_
             ·
              refine EVq_e rfl rfl (D_call false (ratio_From0) rfl (φa rfl φn)) ?_
              refine EVq_e rfl rfl (D_call false (ratio_Add0 _ (by omega)) rfl (φa rfl (φa rfl φn))) ?_
              refine EVq_t rfl rfl (T_move rfl) ?_
              refine EVq_t rfl rfl (T_extract rfl rfl) ?_
              refine EVq_t rfl rfl (T_extract rfl rfl) ?_
              refine EVq_e rfl rfl (D_store rfl (Free_in rfl) rfl rfl (zOk rfl) rfl (Nat.le_of_ble_eq_true rfl) rfl) ?_
              refine EVq_done ?_
              iterate 3 refine τ ?_
              refine EVo_e rfl (D_buildSlice (uOk rfl) bz40 rfl rfl rfl (by simp)) ?_
              refine EVo_e rfl (D_append (uOk rfl) ap40 (by decide) rfl rfl (hE 1 rfl) Free_no rfl rfl (by simp) (by simp; omega) (by simp; omega)) ?_
              iterate 6 refine τ ?_
              refine ⟨_, ?_, ω ⟨_, ⟨i + 1, L ++ [scaleQ p (rd (rd (numsT t) i).us 0) (rd xs i)], _, rfl, rfl, ?_⟩, W_keep2 _ _ ⟨rfl, (own_app rfl), rfl, rfl, rfl, rfl, rfl, rfl, trivial⟩ ⟨rfl, rfl, rfl, trivial⟩ rfl⟩⟩
              ·omega
              ·have e2 : (i + 1).toNat = i.toNat + 1 := by omega
               rw [e2]
               refine ⟨by omega, by omega, by simp; omega, ?_⟩
               rw [← hR, loopR_at (n := i.toNat) (by omega) (by omega), ei, if_neg (by simp_all)]
               cases loopR p ((numsT t).drop (i.toNat + 1)) (xs.drop (i.toNat + 1)) <;> simp
             ·
              refine EVq_e rfl rfl ((T_loadRA (gOk rfl) (zOk rfl) rfl rfl (Nat.le_of_ble_eq_true rfl) rfl rfl).now) ?_
              refine EVq_e rfl rfl (D_call false (ratio_Add0 _ (by omega)) rfl (φa rfl (φa rfl φn))) ?_
              refine EVq_t rfl rfl (T_move rfl) ?_
              refine EVq_t rfl rfl (T_extract rfl rfl) ?_
              refine EVq_t rfl rfl (T_extract rfl rfl) ?_
              refine EVq_e rfl rfl (D_store rfl (Free_in rfl) rfl rfl (zOk rfl) rfl (Nat.le_of_ble_eq_true rfl) rfl) ?_
              refine EVq_done ?_
              iterate 3 refine τ ?_
              refine EVo_e rfl (D_buildSlice (uOk rfl) bz40 rfl rfl rfl (by simp)) ?_
              refine EVo_e rfl (D_append (uOk rfl) ap40 (by decide) rfl rfl (hE 1 rfl) Free_no rfl rfl (by simp) (by simp; omega) (by simp; omega)) ?_
              iterate 6 refine τ ?_
              refine ⟨_, ?_, ω ⟨_, ⟨i + 1, L ++ [scaleQ p (rd (rd (numsT t) i).us 0) (rd xs i)], _, rfl, rfl, ?_⟩, W_keep2 _ _ ⟨rfl, (own_app rfl), rfl, rfl, rfl, rfl, rfl, rfl, trivial⟩ ⟨rfl, rfl, rfl, trivial⟩ rfl⟩⟩
              ·omega
              ·have e2 : (i + 1).toNat = i.toNat + 1 := by omega
               rw [e2]
               refine ⟨by omega, by omega, by simp; omega, ?_⟩
               rw [← hR, loopR_at (n := i.toNat) (by omega) (by omega), ei, if_neg (by simp_all)]
               cases loopR p ((numsT t).drop (i.toNat + 1)) (xs.drop (i.toNat + 1)) <;> simp
          ·try simp only [zz] at hb15
           iterate 8 refine τ ?_
           refine EV_cond rfl rfl rfl (fun h => by first | cases h | (exfalso; simp_all; done)) (fun _ => ?_)
           iterate 2 refine τ ?_
           refine EV_draw (inX []) (.st 1 (.two 0 (.one 2 (.one 3 (.st 4 (.st 5 (.st 6 (.one 7 .done)))))) 2 (.one 0 (.one 3 (.st 4 (.st 5 (.st 6 (.one 7 .done)))))))) Tryz.mixed (by kernel_rfl) ?_
           refine EVq_t rfl rfl (T_build ly38 rfl rfl) ?_
           refine EVq_two rfl rfl ((T_loadRA (gOk rfl) (zOk rfl) rfl rfl (Nat.le_of_ble_eq_true rfl) rfl rfl).now) rfl rfl (D_call false (ratio_From0) rfl (φa rfl φn)) ?_ ?_
           ·
            refine EVq_e rfl rfl (D_call false (ratio_From0) rfl (φa rfl φn)) ?_
            refine EVq_e rfl rfl (D_call false (ratio_Add0 _ (by omega)) rfl (φa rfl (φa rfl φn))) ?_
            refine EVq_t rfl rfl (T_move rfl) ?_
            refine EVq_t rfl rfl (T_extract rfl rfl) ?_
            refine EVq_t rfl rfl (T_extract rfl rfl) ?_
            refine EVq_e rfl rfl (D_store rfl (Free_in rfl) rfl rfl (zOk rfl) rfl (Nat.le_of_ble_eq_true rfl) rfl) ?_
            refine EVq_done ?_
            iterate 3 refine τ ?_
            refine EVo_e rfl (D_buildSlice (uOk rfl) bz40 rfl rfl rfl (by simp)) ?_
            refine EVo_e rfl (D_append (uOk rfl) ap40 (by decide) rfl rfl (hE 1 rfl) Free_no rfl rfl (by simp) (by simp; omega) (by simp; omega)) ?_
            iterate 6 refine τ ?_
            refine ⟨_, ?_, ω ⟨_, ⟨i + 1, L ++ [scaleQ p (rd (rd (numsT t) i).us 0) (rd xs i)], _, rfl, rfl, ?_⟩, W_keep2 _ _ ⟨rfl, (own_app rfl), rfl, rfl, rfl, rfl, rfl, rfl, trivial⟩ ⟨rfl, rfl, rfl, trivial⟩ rfl⟩⟩
            ·omega
            ·have e2 : (i + 1).toNat = i.toNat + 1 := by omega
             rw [e2]
             refine ⟨by omega, by omega, by simp; omega, ?_⟩
             rw [← hR, loopR_at (n := i.toNat) (by omega) (by omega), ei, if_neg (by simp_all)]
             cases loopR p ((numsT t).drop (i.toNat + 1)) (xs.drop (i.toNat + 1)) <;> simp
           ·
            refine EVq_e rfl rfl ((T_loadRA (gOk rfl) (zOk rfl) rfl rfl (Nat.le_of_ble_eq_true rfl) rfl rfl).now) ?_
            refine EVq_e rfl rfl (D_call false (ratio_Add0 _ (by omega)) rfl (φa rfl (φa rfl φn))) ?_
            refine EVq_t rfl rfl (T_move rfl) ?_
            refine EVq_t rfl rfl (T_extract rfl rfl) ?_
            refine EVq_t rfl rfl (T_extract rfl rfl) ?_
            refine EVq_e rfl rfl (D_store rfl (Free_in rfl) rfl rfl (zOk rfl) rfl (Nat.le_of_ble_eq_true rfl) rfl) ?_
            refine EVq_done ?_
            iterate 3 refine τ ?_
            refine EVo_e rfl (D_buildSlice (uOk rfl) bz40 rfl rfl rfl (by simp)) ?_
            refine EVo_e rfl (D_append (uOk rfl) ap40 (by decide) rfl rfl (hE 1 rfl) Free_no rfl rfl (by simp) (by simp; omega) (by simp; omega)) ?_
            iterate 6 refine τ ?_
            refine ⟨_, ?_, ω ⟨_, ⟨i + 1, L ++ [scaleQ p (rd (rd (numsT t) i).us 0) (rd xs i)], _, rfl, rfl, ?_⟩, W_keep2 _ _ ⟨rfl, (own_app rfl), rfl, rfl, rfl, rfl, rfl, rfl, trivial⟩ ⟨rfl, rfl, rfl, trivial⟩ rfl⟩⟩
            ·omega
            ·have e2 : (i + 1).toNat = i.toNat + 1 := by omega
             rw [e2]
             refine ⟨by omega, by omega, by simp; omega, ?_⟩
             rw [← hR, loopR_at (n := i.toNat) (by omega) (by omega), ei, if_neg (by simp_all)]
             cases loopR p ((numsT t).drop (i.toNat + 1)) (xs.drop (i.toNat + 1)) <;> simp
        ·try simp only [zz] at hb8
         have hm2 := mem_rd (l := numsT t) (i := (numsT t).length - 1) (by omega) (by omega)
         have hok2 := hok _ hm2
         have hul2 := hU _ hm2
         have hone2 := badN_no hsh ht hm2 hbad
         iterate 2 refine τ ?_
         refine EV_draw (inX []) (.st 0 (.st 1 (.st 4 (.st 5 (.st 6 (.st 7 (.st 8 (.st 9 (.st 10 (.st 11 (.st 12 (.one 2 (.one 3 (.one 13 (.st 14 (.one 15 (.st 16 .done))))))))))))))))) Tryz.mixed (by kernel_rfl) ?_
         refine EVq_t rfl rfl (T_move rfl) ?_
         refine EVq_t rfl rfl (T_move rfl) ?_
         refine EVq_t rfl rfl (T_move rfl) ?_
         refine EVq_t rfl rfl (T_move rfl) ?_
         refine EVq_t rfl rfl (T_lenL (uOk rfl) rfl) ?_
         refine EVq_t rfl rfl (T_binI rfl rfl rfl (by omega) (by omega)) ?_
         refine EVq_t rfl rfl (T_ixL (uOk rfl) (zOk rfl) rfl rfl (by omega) (by omega) (encTy_len _)) ?_
         rw [encTy_eq]
         refine EVq_t rfl rfl (T_fa (fOk rfl) (zOk rfl) rfl (Nat.le_of_ble_eq_true rfl)) ?_
         refine EVq_t rfl rfl (T_load (gOk rfl) rfl) ?_
         refine EVq_t rfl rfl (T_ixL (uOk rfl) (zOk rfl) rfl rfl (by omega) (by omega) (rfl)) ?_
         refine EVq_t rfl rfl (T_load (gOk rfl) rfl) ?_
         refine EVq_e rfl rfl (D_call false (whole_From 1 (by omega) (by omega)) rfl (φd rfl φn)) ?_
         refine EVq_e rfl rfl (D_call false (ratio_From1) rfl (φa rfl φn)) ?_
         refine EVq_e rfl rfl (D_callG [(900, 3)] (sca_scaled p (rd (rd (numsT t) ((numsT t).length - 1)).us 0) 1 8 hpl (by omega) hP hok2 (by have := szQ_one; omega)) rfl rfl rfl rfl (fun _ => Free_no) rfl ⟨⟨_, _, rfl, rfl, rfl⟩, trivial⟩ ⟨.inl rfl, trivial⟩) ?_
         refine EVq_t rfl rfl (T_assign rfl) ?_
         refine EVq_e rfl rfl (D_store rfl (Free_in rfl) rfl rfl (zOk rfl) rfl (Nat.le_of_ble_eq_true rfl) rfl) ?_
         refine EVq_t rfl rfl (T_assign rfl) ?_
         refine EVq_done ?_
         refine τ ?_
         have hsome : loopR p (numsT t) xs = some L := by rw [← hR, List.drop_of_length_le (l := xs) (by omega), loopR_end]; simp
         refine ⟨_, _, _, ⟨rfl, rfl⟩, ⟨rfl, _, _, _, rfl, rfl, rfl, .inl ⟨_, gOk rfl, zOk rfl, Nat.le_of_ble_eq_true rfl, rfl⟩⟩, ⟨rfl, rfl⟩, fit_eq rfl nofun ?_, fit_agg rfl nofun ?_, fit_eq rfl nofun ?_⟩
         ·rw [scaleR_7 hg hn2 hbad hpb hxb hbp hbx hpp hsome]; try rfl
         ·rw [scaleR_7 hg hn2 hbad hpb hxb hbp hbx hpp hsome]; try rfl
         ·rw [scaleR_7 hg hn2 hbad hpb hxb hbp hbx hpp hsome]

end Go.Proofs.YthaiegnohkiegaaGreat.Ab
/-
 Contracts of the reference: units.
-/
namespace Go.Proofs.YthaiegnohkiegaaGreat.Ab
set_option linter.unusedVariables false
set_option linter.unusedSimpArgs false
set_option maxRecDepth 20000
set_option maxHeartbeats 4000000
attribute [local irreducible] Tells Does EVo EV EVq EVr TellsC


def ofP (k n : Int) (s : ByteArray) (z : Int) : Pw := ⟨k, n, s, decide (z < 0), limbs z.natAbs⟩
def ofU (k n : Int) (s : ByteArray) (z : Int) : List Pw := if z = 0 then [] else [ofP k n s z]
abbrev s0 : ByteArray := ⟨#[]⟩
abbrev atD (k n : Int) (s : ByteArray) : List D := [ii k, ii n, sd s]
def powU (u : List Pw) (e : Int) : List Pw := if e = 0 then [] else u.map fun q => ofP q.k q.n q.s (q.z * e)
theorem ofP_z (k n : Int) (s : ByteArray) (z : Int) : (ofP k n s z).z = z := by
 unfold Pw.z ofP zval
 simp only [val_limbs]
 by_cases h : z < 0
 ·simp [h]; omega
 ·simp [h]; omega
theorem ref2_TimesP (q : Pw) (e : Int) (hz : [ib q.neg, encN q.mag] = encZ q.z) (hl : (limbs q.z.natAbs).length + (limbs e.natAbs).length ≤ 4398046511104) : Fn Tryz.prog 64 [.agg [ib q.neg, encN q.mag], .agg (encZ e)] false (.one (.agg (encZ (q.z * e)))) := by
 have := ref2_Times q.z e hl
 rw [← hz] at this
 exact this

theorem take_rdT {α : Type} [Inhabited α] {l : List α} {n : Nat} (h : n < l.length) : l.take (n + 1) = l.take n ++ [rd l (n : Int)] := by
 rw [List.take_succ_eq_append_getElem h]
 unfold rd
 simp [h]

theorem ref6_Var (n : Int) : Fn Tryz.prog 26 [.d (ii n)] false (.one (.agg (atD 1 n s0))) := by
 refine Fn_of_EV Tryz.func26 rfl (by kernel_rfl) rfl rfl (fun E hE => ?_)
 iterate 2 refine τ ?_
 refine EVo_e rfl (D_alloc 1 (hE 1 rfl) Free_no zr69 rfl) ?_
 iterate 4 refine τ ?_
 refine EVo_t rfl (T_build ly69 rfl rfl) ?_
 iterate 3 refine τ ?_
 refine ⟨_, ⟨rfl, _, _, _, rfl, rfl, rfl, .inl ⟨_, gOk rfl, zOk rfl, Nat.le_of_ble_eq_true rfl, rfl⟩⟩, fit_agg rfl nofun rfl⟩

theorem ref6_Of (k n : Int) (s : ByteArray) (z : Int) (hz : (limbs z.natAbs).length ≤ 4398046511104) : Fn Tryz.prog 25 [.agg (atD k n s), .agg (encZ z)] false (.one (.d (encU (ofU k n s z)))) := by
 refine Fn_of_EV Tryz.func25 rfl (by kernel_rfl) rfl rfl (fun E hE => ?_)
 iterate 2 refine τ ?_
 refine EVo_e rfl (D_box 1 (hE 1 rfl) Free_no rfl) ?_
 refine EVo_e rfl (D_box 2 (hE 2 rfl) Free_no rfl) ?_
 iterate 6 refine τ ?_
 refine EVo_e rfl (D_call false (ref2_Zero _ (by omega)) rfl (φa rfl φn)) ?_
 refine τ ?_
 refine EV_cond rfl rfl rfl (fun hb1 => ?_) (fun hb1 => ?_)
 ·try simp only [zz] at hb1
  iterate 5 refine τ ?_
  refine ⟨_, ⟨rfl, rfl⟩, fit_eq rfl nofun ?_⟩
  ·unfold ofU; rw [if_pos hb1]; rfl
 ·try simp only [zz] at hb1
  iterate 5 refine τ ?_
  refine EVo_t rfl (T_build ly84 rfl rfl) ?_
  refine EVo_e rfl (D_buildSlice (uOk rfl) bz84 rfl rfl rfl (by simp)) ?_
  iterate 3 refine τ ?_
  refine ⟨_, ⟨rfl, rfl⟩, fit_eq rfl nofun ?_⟩
  ·unfold ofU; rw [if_neg hb1]; rfl

theorem ref6_One (k n : Int) (s : ByteArray) : Fn Tryz.prog 62 [.agg (atD k n s)] false (.one (.d (encU [ofP k n s 1]))) := by
 refine Fn_of_EV Tryz.func62 rfl (by kernel_rfl) rfl rfl (fun E hE => ?_)
 iterate 2 refine τ ?_
 refine EVo_e rfl (D_box 1 (hE 1 rfl) Free_no rfl) ?_
 iterate 3 refine τ ?_
 refine EV_draw (inX [1]) (.st 0 (.one 1 (.one 2 (.st 3 .done)))) Tryz.mixed (by kernel_rfl) ?_
 refine EVq_t rfl rfl (T_loadRA (gOk rfl) (zOk rfl) rfl rfl (Nat.le_of_ble_eq_true rfl) rfl rfl) ?_
 refine EVq_e rfl rfl (D_call false (ref2_From _ (by omega) (by omega)) rfl (φd rfl φn)) ?_
 refine EVq_e rfl rfl (D_call false (ref6_Of k n s 1 (by decide)) rfl (φa rfl (φa rfl φn))) ?_
 refine EVq_t rfl rfl (T_assign rfl) ?_
 refine EVq_done ?_
 refine τ ?_
 refine ⟨_, ⟨rfl, rfl⟩, fit_eq rfl nofun rfl⟩

theorem ref6_Pow (u : List Pw) (e : Int) (hu : u.length ≤ 549755813888) (hz : ∀ q ∈ u, [ib q.neg, encN q.mag] = encZ q.z ∧ (limbs q.z.natAbs).length ≤ 1099511627776) (he : (limbs e.natAbs).length ≤ 1099511627776) : Fn Tryz.prog 74 [.d (encU u), .agg (encZ e)] false (.one (.d (encU (powU u e)))) := by
 refine Fn_of_EV Tryz.func74 rfl (by kernel_rfl) rfl rfl (fun E hE => ?_)
 iterate 2 refine τ ?_
 refine EVo_e rfl (D_box 2 (hE 2 rfl) Free_no rfl) ?_
 iterate 6 refine τ ?_
 refine EVo_e rfl (D_call false (ref2_Zero _ (by omega)) rfl (φa rfl φn)) ?_
 refine τ ?_
 refine EV_cond rfl rfl rfl (fun hb1 => ?_) (fun hb1 => ?_)
 ·try simp only [zz] at hb1
  iterate 5 refine τ ?_
  refine ⟨_, ⟨rfl, rfl⟩, fit_eq rfl nofun ?_⟩
  ·unfold powU; rw [if_pos hb1]; rfl
 ·try simp only [zz] at hb1
  iterate 7 refine τ ?_
  refine EV_weak (W_nilRow 1 5 84 5 (hE 1 rfl) rfl) ?_
  iterate 4 refine τ ?_
  refine EV_wl (fun mm S => ∃ i : Int, ∃ f : Bool, mm = ((u.length : Int) - i).toNat ∧ S = St.of [(0, V.c (.d false (encU u))), (3, V.c (.ref 2 0)), (5, V.c (.own 1 84 5 f (List.map encPw (List.map (fun q => ofP q.k q.n q.s (q.z * e)) (u.take i.toNat))))), (6, vi .i64 i)] (tabO [(1, .row), (2, .box ((encZ e).map (C.nd false)))]) 32 ∧ 0 ≤ i ∧ i ≤ u.length) _ ⟨_, ⟨(0 : Int), true, rfl, rfl, by omega⟩, W_keep2 _ _ ⟨rfl, rfl, rfl, rfl, trivial⟩ ⟨rfl, rfl, trivial⟩ rfl⟩ ?_
  rintro mm S ⟨i, f, rfl, rfl, ⟨h0, h1⟩⟩
  have ei : (i.toNat : Int) = i := by omega
  iterate 8 refine τ ?_
  refine EV_cond rfl rfl rfl (fun hb2 => ?_) (fun hb2 => ?_)
  ·try simp only [zz] at hb2
   obtain ⟨hq1, hq2⟩ := hz (rd u i) (mem_rd h0 (by omega))
   iterate 3 refine τ ?_
   refine EV_draw (inX [2]) (.st 0 (.st 1 (.st 2 (.st 3 (.st 4 (.st 5 (.st 6 (.st 7 (.st 8 (.st 9 (.st 10 (.st 11 (.one 12 (.st 13 (.one 14 (.one 15 (.st 16 .done))))))))))))))))) Tryz.mixed (by kernel_rfl) ?_
   refine EVq_t rfl rfl (T_move rfl) ?_
   refine EVq_t rfl rfl (T_move rfl) ?_
   refine EVq_t rfl rfl (T_move rfl) ?_
   refine EVq_t rfl rfl (T_ixL (uOk rfl) (zOk rfl) rfl rfl (by omega) (by omega) (rfl)) ?_
   refine EVq_t rfl rfl (T_fa (fOk rfl) (zOk rfl) rfl (Nat.le_of_ble_eq_true rfl)) ?_
   refine EVq_t rfl rfl (T_loadA (gOk rfl) (zOk rfl) rfl (Nat.le_of_ble_eq_true rfl)) ?_
   refine EVq_t rfl rfl (T_move rfl) ?_
   refine EVq_t rfl rfl (T_move rfl) ?_
   refine EVq_t rfl rfl (T_ixL (uOk rfl) (zOk rfl) rfl rfl (by omega) (by omega) (rfl)) ?_
   refine EVq_t rfl rfl (T_fa (fOk rfl) (zOk rfl) rfl (Nat.le_of_ble_eq_true rfl)) ?_
   refine EVq_t rfl rfl (T_loadA (gOk rfl) (zOk rfl) rfl (Nat.le_of_ble_eq_true rfl)) ?_
   refine EVq_t rfl rfl (T_loadRA (gOk rfl) (zOk rfl) rfl rfl (Nat.le_of_ble_eq_true rfl) rfl rfl) ?_
   refine EVq_e rfl rfl (D_call false (ref2_TimesP (rd u i) e hq1 (by omega)) rfl (φa rfl (φa rfl φn))) ?_
   refine EVq_t rfl rfl (T_build ly84 rfl rfl) ?_
   refine EVq_e rfl rfl (D_buildSlice (uOk rfl) bz84 rfl rfl rfl (by simp)) ?_
   refine EVq_e rfl rfl (D_append (uOk rfl) ap84 (by decide) rfl rfl (hE 1 rfl) (Free_in rfl) rfl rfl (by simp) (by simp; omega) (by simp; omega)) ?_
   refine EVq_t rfl rfl (T_assign rfl) ?_
   refine EVq_done ?_
   iterate 5 refine τ ?_
   have e2 : (i + 1).toNat = i.toNat + 1 := by omega
   have hta : u.take (i.toNat + 1) = u.take i.toNat ++ [rd u i] := by rw [take_rdT (by omega), ei]
   refine ⟨_, ?_, ω ⟨_, ⟨i + 1, _, rfl, rfl, ?_⟩, W_keep2 _ _ ⟨rfl, rfl, ((own_app (m := [ofP (rd u i).k (rd u i).n (rd u i).s ((rd u i).z * e)]) rfl).trans (by rw [e2, hta]; simp only [List.map_append, List.map_cons, List.map_nil]; rfl)), rfl, trivial⟩ ⟨rfl, rfl, trivial⟩ rfl⟩⟩
   ·omega
   ·omega
  ·try simp only [zz] at hb2
   iterate 7 refine τ ?_
   refine ⟨_, ⟨rfl, rfl⟩, fit_eq rfl nofun ?_⟩
   ·unfold powU; rw [if_neg hb1, List.take_of_length_le (by omega)]

theorem ref6_Inv (u : List Pw) (hu : u.length ≤ 549755813888) (hz : ∀ q ∈ u, [ib q.neg, encN q.mag] = encZ q.z ∧ (limbs q.z.natAbs).length ≤ 1099511627776) : Fn Tryz.prog 28 [.d (encU u)] false (.one (.d (encU (powU u (-1))))) := by
 refine Fn_of_EV Tryz.func28 rfl (by kernel_rfl) rfl rfl (fun E hE => ?_)
 iterate 7 refine τ ?_
 refine EVo_e rfl (D_call false (ref2_From _ (by omega) (by omega)) rfl (φd rfl φn)) ?_
 refine EVo_e rfl (D_call false (ref6_Pow u (-1) hu hz (by decide)) rfl (φd rfl (φa rfl φn))) ?_
 iterate 3 refine τ ?_
 refine ⟨_, ⟨rfl, rfl⟩, fit_eq rfl nofun rfl⟩

end Go.Proofs.YthaiegnohkiegaaGreat.Ab
/-
  The law of powers: plain.
-/
namespace Go.Proofs.YthaiegnohkiegaaGreat.Ab
set_option linter.unusedVariables false
set_option linter.unusedSimpArgs false

def numTy (u : List Pw) : Ty := .mk 4 0 s0 [] [u]
def arrTy (u v : List Pw) : Ty := .mk 5 0 s0 [numTy u, numTy v] []
theorem s0_nil : (s0.toList == []) = true := by
  have : s0.toList = [] := by
    unfold s0 ByteArray.toList ByteArray.toList.loop
    rfl
  rw [this]; rfl
/-- A unit of variable 0 alone, or none. -/
theorem ofU_good (z : Int) : fineU (ofU 1 0 s0 z) = true := by
  unfold ofU
  split
  · decide
  · rename_i h
    unfold fineU
    have h1 : goodU [ofP 1 0 s0 z] = true := goodU_true fun j hj => by
      have : j = 0 := by simpa using hj
      subst this
      have hz := goodZ_enc z
      have hl : 0 < (limbs z.natAbs).length := (limbs_len_pos _).2 (by omega)
      unfold okAt
      simp only [ofP, rd, List.getD_cons_zero, Int.natCast_zero, Int.toNat_zero]
      simp [atomB, numB, s0_nil, hz, hl]
    rw [h1]
    simp [wildB, ofP]
theorem powU_of (z e : Int) (he : e ≠ 0) : powU (ofU 1 0 s0 z) e = ofU 1 0 s0 (z * e) := by
  unfold powU ofU
  rw [if_neg he]
  by_cases h : z = 0
  · subst h; simp
  · rw [if_neg h, if_neg (by exact Int.mul_ne_zero h he)]
    simp only [List.map_cons, List.map_nil, ofP_z]
    rfl
theorem varsU_of (z : Int) : varsU (ofU 1 0 s0 z) = if z = 0 then [] else [0] := by
  have h := ofU_good z
  unfold fineU at h
  simp only [Bool.and_eq_true] at h
  unfold varsU
  rw [if_pos h.1]
  unfold ofU
  split
  · rfl
  · rfl
theorem shaped_num (u : List Pw) : shapedB (numTy u) = true := by
  unfold shapedB numTy
  simp [Ty.k, Ty.n, Ty.s, Ty.ar, Ty.us, s0_nil]
theorem shaped_arr (u v : List Pw) : shapedB (arrTy u v) = true := by
  unfold shapedB arrTy
  simp [Ty.k, Ty.n, Ty.s, Ty.ar, Ty.us, s0_nil]
theorem arr_good {u v : List Pw} (hu : fineU u = true) (hv : fineU v = true) : goodT (arrTy u v) = true := by
  unfold goodT
  rw [walkG_eq, seeG_in (shaped_arr u v) (by simp [arrTy, Ty.us])]
  have e1 : (arrTy u v).us.any (fun u => !fineU u) = false := by simp [arrTy, Ty.us]
  have n1 : ∀ (w : List Pw) (a b : Int), fineU w = true → a + 1 ≤ 256 → b + 1 ≤ 256 → walkG (numTy w) a b = (true, a + 1, b + 1) := fun w a b hw ha hb => by
    rw [walkG_eq, seeG_in (shaped_num w) (by simp [numTy, Ty.us]; omega)]
    have e2 : (numTy w).us.any (fun u => !fineU u) = false := by simp [numTy, Ty.us, hw]
    rw [e2]
    simp [numTy, Ty.us, Ty.ar, walkGs]
  rw [e1]
  simp only [Bool.not_false, if_true]
  simp only [arrTy, Ty.ar, Ty.us, walkGs, List.length_nil]
  simp [n1 u 1 0 hu (by omega) (by omega), n1 v 2 1 hv (by omega) (by omega)]
theorem arr_rigid (y z : Int) : rigT (arrTy (ofU 1 0 s0 y) (ofU 1 0 s0 z)) = false := by
  have : ∀ z, rigU (ofU 1 0 s0 z) = false := fun z => by
    unfold ofU
    split
    · rfl
    · simp [rigU, ofP]
  simp [rigT_eq, arrTy, numTy, Ty.k, Ty.ar, Ty.us, rigTs, this]
theorem arr_tys (u v : List Pw) : tysT (arrTy u v) = [] := by
  simp [arrTy, numTy, tysT, tysTs, hdT, Ty.k]
theorem arr_us (u v : List Pw) : usT (arrTy u v) = varsU u ++ varsU v := by
  simp [arrTy, numTy, usT, usTs, usL]
theorem arr_nums (u v : List Pw) : numsT (arrTy u v) = [numTy u, numTy v] := by
  have h : nT (arrTy u v) = 3 := by simp [arrTy, numTy, nT, nTs]
  unfold numsT
  rw [h]
  rfl
theorem scL_0 : scL [] = [] := by simp [scL]; rfl
theorem scL_1 : scL [0] = [0] := by simp [scL]; rfl
theorem scL_2 : scL [0, 0] = [0] := by
  have : ([0, 0] : List Int).mergeSort (fun x y => decide (x ≤ y)) = [0, 0] := List.mergeSort_of_pairwise (by simp)
  unfold scL
  rw [this]
  rfl
theorem arr_goodS (y z : Int) : goodS 0 1 (arrTy (ofU 1 0 s0 y) (ofU 1 0 s0 z)) = true := by
  unfold goodS
  rw [arr_good (ofU_good y) (ofU_good z), arr_rigid, arr_tys, arr_us, varsU_of, varsU_of]
  by_cases h1 : y = 0 <;> by_cases h2 : z = 0 <;> simp [h1, h2, scL_0, scL_1, scL_2, lastOk, rd]
theorem big_of {z : Int} : (ofU 1 0 s0 z).any bigP = decide (16 < z.natAbs) := by
  unfold ofU
  split
  · rename_i h; subst h; rfl
  · simp only [List.any_cons, List.any_nil, Bool.or_false]
    show (!smallB (limbs z.natAbs) || decide (16 < smallV (limbs z.natAbs))) = _
    by_cases h16 : z.natAbs < 18446744073709551616
    · have hs : smallB (limbs z.natAbs) = true := by rw [smallB_limbs]; simpa using h16
      have e : smallV (limbs z.natAbs) = (z.natAbs : Int) := by unfold smallV; rw [if_pos hs, val_limbs]
      rw [e, hs]
      simp
      omega
    · have hs : smallB (limbs z.natAbs) = false := by rw [smallB_limbs]; simpa using h16
      rw [hs]
      simp
      omega
theorem bad_num (z : Int) : badN (numTy (ofU 1 0 s0 z)) = decide (16 < z.natAbs) := by
  unfold badN smallT
  have : rd (numTy (ofU 1 0 s0 z)).us 0 = ofU 1 0 s0 z := rfl
  rw [this, big_of]
  simp [numK, numTy, Ty.k]
theorem okS_of {p : List Rat} {z : Int} (h : z.natAbs ≤ 16) (hp : 0 < p.length) : okS p (ofU 1 0 s0 z) := fun q hq => by
  unfold ofU at hq
  split at hq
  · cases hq
  · simp at hq
    subst hq
    refine ⟨⟨?_, okL_limbs _, by show s0.size ≤ _; simp [ByteArray.size]⟩, goodZ_enc z, by rw [ofP_z]; exact h, fun _ => ⟨by simp [ofP], by simpa [ofP] using hp⟩⟩
    have : (limbs z.natAbs).length ≤ (limbs 16).length := limbs_mono h
    have e : (limbs 16).length = 1 := by decide
    simp only [ofP]
    omega
theorem scale_of {p : List Rat} (x : Rat) (z : Int) : scaleQ p (ofU 1 0 s0 z) x = powQ x (rd p 0) z := by
  unfold ofU
  split
  · rename_i h; subst h; rfl
  · simp only [scaleQ]
    rw [ofP_z]
    rfl
theorem mulN_mul (x P : Rat) : ∀ n, mulN x P n = x * mulN 1 P n
  | 0 => by simp [mulN, Rat.mul_one]
  | n + 1 => by simp only [mulN]; rw [mulN_mul x P n, Rat.mul_assoc]
theorem divN_mul (x P : Rat) : ∀ n, divN x P n = x * divN 1 P n
  | 0 => by simp [divN, Rat.mul_one]
  | n + 1 => by simp only [divN]; rw [divN_mul x P n, Rat.div_def, Rat.div_def, Rat.mul_assoc]
theorem powQ_mul (x P : Rat) (z : Int) : powQ x P z = x * powQ 1 P z := by
  unfold powQ
  split
  · exact divN_mul x P _
  · exact mulN_mul x P _
theorem mulN_ne {P : Rat} (hP : P ≠ 0) : ∀ n, mulN 1 P n ≠ 0
  | 0 => by simp [mulN]
  | n + 1 => by simp only [mulN]; exact fun h => by rcases Rat.mul_eq_zero.1 h with h | h; exact mulN_ne hP n h; exact hP h
theorem inv_1 : (1 : Rat)⁻¹ = 1 := by
  have h : (1 : Rat) * (1 : Rat)⁻¹ = 1 := Rat.mul_inv_cancel 1 (by decide)
  rwa [Rat.one_mul] at h
theorem divN_inv {P : Rat} (hP : P ≠ 0) : ∀ n, divN 1 P n = (mulN 1 P n)⁻¹
  | 0 => by simp only [divN, mulN]; exact inv_1.symm
  | n + 1 => by simp only [divN, mulN]; rw [divN_inv hP n, Rat.div_def, Rat.inv_mul_rev, Rat.mul_comm]
theorem powQ_inv {P : Rat} (hP : P ≠ 0) (z : Int) : powQ 1 P (-z) = 1 / powQ 1 P z := by
  unfold powQ
  rw [Rat.div_def, Rat.one_mul]
  by_cases h : z < 0
  · rw [if_neg (by omega), if_pos h, divN_inv hP, Rat.inv_inv]
  · rw [if_neg h]
    by_cases h0 : z = 0
    · subst h0; simp only [mulN, Int.neg_zero, Int.toNat_zero]; rw [if_neg (by omega)]; exact inv_1.symm
    · rw [if_pos (by omega), Int.neg_neg, divN_inv hP]
theorem powQ1_ne {P : Rat} (hP : P ≠ 0) (z : Int) : powQ 1 P z ≠ 0 := by
  unfold powQ
  split
  · rw [divN_inv hP]; exact fun h => mulN_ne hP _ (by rw [← Rat.inv_inv (mulN 1 P (-z).toNat), h]; exact Rat.inv_zero)
  · exact mulN_ne hP _
theorem szU_of (z : Int) (hz : z.natAbs < 18446744073709551616) : szU (ofU 1 0 s0 z) := by
  unfold ofU
  split
  · exact ⟨by simp, fun p hp => by cases hp⟩
  · refine ⟨by simp, fun p hp => ?_⟩
    simp at hp
    subst hp
    refine ⟨?_, okL_limbs _, by show s0.size ≤ _; simp [ByteArray.size]⟩
    have h1 : (limbs z.natAbs).length ≤ 1 := limbs_len_le (by simpa using hz)
    simp only [ofP]
    omega
theorem szT_arr {u v : List Pw} (hu : szU u) (hv : szU v) : szT (arrTy u v) := by
  have h0 : s0.size ≤ 4611686018427387904 := by simp [ByteArray.size]
  simp only [arrTy, numTy, szT, szTs, h0, List.length_nil, List.length_cons, true_and, and_true]
  refine ⟨by omega, by omega, (fun w hw => by simp at hw), ⟨by omega, by omega, fun w hw => ?_⟩, by omega, by omega, fun w hw => ?_⟩
  · simp at hw; subst hw; exact hu
  · simp at hw; subst hw; exact hv
theorem ofU_len (z : Int) : (ofU 1 0 s0 z).length ≤ 1 := by unfold ofU; split <;> simp
theorem varsU_len (z : Int) : (varsU (ofU 1 0 s0 z)).length ≤ 1 := by rw [varsU_of]; split <;> simp
theorem arr_bad (y z : Int) : [numTy (ofU 1 0 s0 y), numTy (ofU 1 0 s0 z)].any badN = (decide (16 < y.natAbs) || decide (16 < z.natAbs)) := by
  simp [bad_num]
theorem scale_arr {P x : Rat} (y z : Int) (hP : 0 < P.num) (hb : bitsQ P 256 = false) (hx : bitsQ x 4096 = false) :
    scaleR 0 1 (arrTy (ofU 1 0 s0 y) (ofU 1 0 s0 z)) [P] [x] = if 16 < y.natAbs ∨ 16 < z.natAbs then ([], none, 210) else ([powQ x P y], some (powQ 1 P z), 0) := by
  have hg := arr_goodS y z
  have hn := arr_nums (ofU 1 0 s0 y) (ofU 1 0 s0 z)
  by_cases h : 16 < y.natAbs ∨ 16 < z.natAbs
  · rw [if_pos h]
    refine scaleR_2 hg ?_
    rw [hn, arr_bad]
    rcases h with h | h <;> simp [h]
  · rw [if_neg h]
    have hbad : (numsT (arrTy (ofU 1 0 s0 y) (ofU 1 0 s0 z))).any badN = false := by
      rw [hn, arr_bad]
      simp only [Bool.or_eq_false_iff, decide_eq_false_iff_not]
      omega
    have hl : loopR [P] (numsT (arrTy (ofU 1 0 s0 y) (ofU 1 0 s0 z))) [x] = some [powQ x P y] := by
      rw [hn]
      simp only [loopR]
      rw [if_neg (by simp [numTy, Ty.k])]
      have : rd (numTy (ofU 1 0 s0 y)).us 0 = ofU 1 0 s0 y := rfl
      rw [this, scale_of]
      rfl
    have hf : (decide (P.num ≤ 0)) = false := by simp; omega
    rw [scaleR_7 hg (by rw [hn]; exact Nat.le_refl _) hbad rfl (by rw [hn]; rfl) (by simp [hb]) (by simp [hx]) (by simp [hf]) hl, hn]
    have : rd (rd [numTy (ofU 1 0 s0 y), numTy (ofU 1 0 s0 z)] (([numTy (ofU 1 0 s0 y), numTy (ofU 1 0 s0 z)].length : Int) - 1)).us 0 = ofU 1 0 s0 z := rfl
    rw [this, scale_of]
    rfl
theorem law_Scale (y z : Int) (P x : Rat) (hy : y.natAbs < 18446744073709551616) (hz : z.natAbs < 18446744073709551616) (hP : 0 < P.num) (hb : bitsQ P 256 = false) (hx : bitsQ x 4096 = false) (hs1 : szQ P ≤ 1099511627776) (hs2 : szQ x ≤ 1099511627776) :
    Fn Tryz.prog 9 [.agg (scD 0 1 (arrTy (ofU 1 0 s0 y) (ofU 1 0 s0 z))), .d (encQs [P]), .d (encQs [x])] false
      (.tup [.d (encQs (if 16 < y.natAbs ∨ 16 < z.natAbs then [] else [powQ x P y])), .agg (byD (if 16 < y.natAbs ∨ 16 < z.natAbs then none else some (powQ 1 P z))), .d (ii (if 16 < y.natAbs ∨ 16 < z.natAbs then 210 else 0))]) := by
  have hn := arr_nums (ofU 1 0 s0 y) (ofU 1 0 s0 z)
  have h1 := varsU_len y
  have h2 := varsU_len z
  have h3 := ofU_len y
  have h4 := ofU_len z
  have hu : (usT (arrTy (ofU 1 0 s0 y) (ofU 1 0 s0 z))).length ≤ 1099511627776 := by rw [arr_us, List.length_append]; omega
  have := sca_Scale 0 1 (arrTy (ofU 1 0 s0 y) (ofU 1 0 s0 z)) [P] [x] (szT_arr (szU_of y hy) (szU_of z hz)) (by rw [arr_tys]; simp) hu (by rw [hn]; simp) (by simp) (by simp)
    (fun q hq => by simp at hq; subst hq; exact hs1) (fun q hq => by simp at hq; subst hq; exact hs2) (fun t ht => by
      rw [hn] at ht
      simp at ht
      rcases ht with rfl | rfl
      · show (ofU 1 0 s0 y).length ≤ _; omega
      · show (ofU 1 0 s0 z).length ≤ _; omega) (fun _ hbad _ t ht => by
      rw [hn] at ht hbad
      rw [arr_bad] at hbad
      simp only [Bool.or_eq_false_iff, decide_eq_false_iff_not] at hbad
      simp at ht
      rcases ht with rfl | rfl
      · exact okS_of (by omega) (by simp)
      · exact okS_of (by omega) (by simp))
  rw [scale_arr y z hP hb hx] at this
  split at this
  · rename_i h
    simp only [if_pos h]
    exact this
  · rename_i h
    simp only [if_neg h]
    exact this
end Go.Proofs.YthaiegnohkiegaaGreat.Ab
/-
 The law of powers: what its walks ask for.
-/
namespace Go.Proofs.YthaiegnohkiegaaGreat.Ab
set_option linter.unusedVariables false
set_option linter.unusedSimpArgs false
set_option maxRecDepth 20000
set_option maxHeartbeats 4000000
attribute [local irreducible] Tells Does EVo EV EVq EVr TellsC


/-- A row of the law of powers, as it is read. -/
structure Rw where
 n : Int
 pn : Bool
 pl : List Int
 pm : List Int
 xn : Bool
 xl : List Int
 xm : List Int
instance : Inhabited Rw := ⟨⟨0, false, [], [], false, [], []⟩⟩
def encRw (r : Rw) : List D := [ii r.n, ib r.pn, encN r.pl, encN r.pm, ib r.xn, encN r.xl, encN r.xm]
def szRw (r : Rw) : Prop := (r.pl.length ≤ 1000000000000000000 ∧ r.pm.length ≤ 1000000000000000000 ∧ r.xl.length ≤ 1000000000000000000 ∧ r.xm.length ≤ 1000000000000000000) ∧ okL r.pl ∧ okL r.pm ∧ okL r.xl ∧ okL r.xm
def byT : Option Rat → Bool × List Int × List Int
 | some q => (decide (q.num < 0), limbs q.num.natAbs, limbs q.den)
 | none => (false, [], [])
theorem byD_eq (o : Option Rat) : byD o = [ib (byT o).1, encN (byT o).2.1, encN (byT o).2.2] := by cases o <;> rfl
theorem law_ScaleT (y z : Int) (P x : Rat) (hy : y.natAbs < 18446744073709551616) (hz : z.natAbs < 18446744073709551616) (hP : 0 < P.num) (hb : bitsQ P 256 = false) (hx : bitsQ x 4096 = false) (hs1 : szQ P ≤ 1099511627776) (hs2 : szQ x ≤ 1099511627776) :
  Fn Tryz.prog 9 [.agg (scD 0 1 (arrTy (ofU 1 0 s0 y) (ofU 1 0 s0 z))), .d (encQs [P]), .d (encQs [x])] false
   (.tup [.d (encQs (if 16 < y.natAbs ∨ 16 < z.natAbs then [] else [powQ x P y])), .agg [ib (byT (if 16 < y.natAbs ∨ 16 < z.natAbs then none else some (powQ 1 P z))).1, encN (byT (if 16 < y.natAbs ∨ 16 < z.natAbs then none else some (powQ 1 P z))).2.1, encN (byT (if 16 < y.natAbs ∨ 16 < z.natAbs then none else some (powQ 1 P z))).2.2], .d (ii (if 16 < y.natAbs ∨ 16 < z.natAbs then 210 else 0))]) := by
 have := law_Scale y z P x hy hz hP hb hx hs1 hs2
 rw [byD_eq] at this
 exact this
theorem law_ScaleIn (y z : Int) (P x : Rat) (hy : y.natAbs ≤ 16) (hz : z.natAbs ≤ 16) (hP : 0 < P.num) (hb : bitsQ P 256 = false) (hx : bitsQ x 4096 = false) (hs1 : szQ P ≤ 1099511627776) (hs2 : szQ x ≤ 1099511627776) :
  Fn Tryz.prog 9 [.agg (scD 0 1 (arrTy (ofU 1 0 s0 y) (ofU 1 0 s0 z))), .d (encQs [P]), .d (encQs [x])] false (.tup [.d (encQs [powQ x P y]), .agg (encQ (powQ 1 P z)), .d (ii 0)]) := by
 have := law_Scale y z P x (by omega) (by omega) hP hb hx hs1 hs2
 have hn : ¬ (16 < y.natAbs ∨ 16 < z.natAbs) := by omega
 simp only [if_neg hn] at this
 exact this
theorem ref_EqQ (a b : Rat) (ha : szQ a ≤ 17592186044416) (hb : szQ b ≤ 17592186044416) : Fn Tryz.prog 13 [.agg (encQ a), .agg (encQ b)] false (.one (.d (ib (decide (a = b))))) := by
 obtain ⟨a1, a2⟩ := szQ_parts ha
 obtain ⟨b1, b2⟩ := szQ_parts hb
 have := ref_EqRat (decide (a.num < 0)) (decide (b.num < 0)) (limbs a.num.natAbs) (limbs b.num.natAbs) (limbs a.den) (limbs b.den) a1 b1 a2 b2
 have e : decide ((decide (a.num < 0) = decide (b.num < 0) ∧ limbs a.num.natAbs = limbs b.num.natAbs) ∧ limbs a.den = limbs b.den) = decide (a = b) := by
  congr 1
  apply propext
  constructor
  ·rintro ⟨⟨h1, h2⟩, h3⟩
   exact encQ_inj (by unfold encQ; rw [h1, h2, h3])
  ·rintro rfl
   exact ⟨⟨rfl, rfl⟩, rfl⟩
 rw [e] at this
 exact this
theorem law_of1 : Fn Tryz.prog 21 [.d (ii 1), .d (iu 1)] false (.one (.agg (encQ 1))) := by
 have := law_of 1 1 (by omega) (by omega) (by omega) (by omega)
 have e : mkRat 1 (Int.toNat 1) = 1 := mk_one 1
 rw [e] at this
 exact this
theorem ref6_InvU (z : Int) (hz : z.natAbs < 18446744073709551616) : Fn Tryz.prog 28 [.d (encU (ofU 1 0 s0 z))] false (.one (.d (encU (ofU 1 0 s0 (z * -1))))) := by
 have := ref6_Inv (ofU 1 0 s0 z) (by have := ofU_len z; omega) (fun q hq => by
  unfold ofU at hq
  split at hq
  ·cases hq
  ·simp at hq
   subst hq
   rw [ofP_z]
   refine ⟨rfl, ?_⟩
   have h1 : (limbs z.natAbs).length ≤ 1 := limbs_len_le (by simpa using hz)
   omega)
 rw [powU_of _ _ (by decide)] at this
 exact this
theorem ref3_SignR (neg : Bool) (l m : List Int) (hl : l.length ≤ 549755813888) (hm : m.length ≤ 549755813888) (hk : okL l) (hkm : okL m) (hg : ratB neg l m = true) : Fn Tryz.prog 24 [.agg [ib neg, encN l, encN m]] false (.one (.d (ii (if (ratV neg l m).num < 0 then -1 else if 0 < (ratV neg l m).num then 1 else 0)))) := by
 obtain ⟨e1, e2⟩ := ratV_parts hkm hg
 have hsz : szQ (ratV neg l m) ≤ 1099511627776 := by
  unfold szQ
  rw [e1, e2, zval_natAbs]
  simp only [ratB, goodZ, Bool.and_eq_true] at hg
  rw [limbs_val hk hg.1.1.1.1, limbs_val hkm hg.1.1.2]
  omega
 have := ref3_Sign (ratV neg l m) hsz
 rw [← ratV_enc hk hkm hg] at this
 exact this
theorem bits_of {q : Rat} {m : Nat} (h1 : (limbs q.num.natAbs).length ≤ m) (h2 : (limbs q.den).length ≤ m) : bitsQ q (64 * m : Nat) = false := by
 have h3 := blen_limbs q.num.natAbs
 have h4 := blen_limbs q.den
 unfold bitsQ
 simp only [Bool.or_eq_false_iff, decide_eq_false_iff_not]
 omega
theorem bitsQ_le {q : Rat} {m n : Int} (h : bitsQ q m = false) (hm : m ≤ n) : bitsQ q n = false := by
 unfold bitsQ at *
 simp only [Bool.or_eq_false_iff, decide_eq_false_iff_not] at *
 omega
def wantQ (P : Rat) (e : Int) (k : Nat) : Rat := if 0 < e then mulN 1 P k else divN 1 P k
theorem wantQ_end (P : Rat) (e : Int) : wantQ P e e.natAbs = powQ 1 P e := by
 unfold wantQ powQ
 by_cases h : 0 < e
 ·rw [if_pos h, if_neg (by omega), show e.natAbs = e.toNat by omega]
 ·rw [if_neg h]
  by_cases h0 : e = 0
  ·subst h0; rfl
  ·rw [if_pos (by omega), show e.natAbs = (-e).toNat by omega]
theorem szQ_wantQ {P : Rat} (hP : P ≠ 0) (e : Int) (k : Nat) : szQ (wantQ P e k) ≤ 2 + k * szQ P := by
 have h1 := szQ_one
 unfold wantQ
 split
 ·have := szQ_mulN 1 P k; omega
 ·have := szQ_divN 1 hP k; omega

theorem law_num (v : Int) : Fn Tryz.prog 11 [.d (ii v)] false (.one (.d (ii v))) := by
 refine Fn_of_EV Tryz.func11 rfl (by kernel_rfl) rfl rfl (fun E hE => ?_)
 iterate 10 refine τ ?_
 refine ⟨_, ⟨rfl, rfl⟩, fit_eq rfl nofun rfl⟩

theorem law_of32 : Fn Tryz.prog 21 [.d (ii 3), .d (iu 2)] false (.one (.agg (encQ (mkRat 3 2)))) := law_of 3 2 (by omega) (by omega) (by omega) (by omega)
theorem law_of51 : Fn Tryz.prog 21 [.d (ii 5), .d (iu 1)] false (.one (.agg (encQ (mkRat 5 1)))) := law_of 5 1 (by omega) (by omega) (by omega) (by omega)
theorem law_of152 : Fn Tryz.prog 21 [.d (ii 15), .d (iu 2)] false (.one (.agg (encQ (mkRat 15 2)))) := law_of 15 2 (by omega) (by omega) (by omega) (by omega)
theorem law_of94 : Fn Tryz.prog 21 [.d (ii 9), .d (iu 4)] false (.one (.agg (encQ (mkRat 9 4)))) := law_of 9 4 (by omega) (by omega) (by omega) (by omega)
theorem wake_1 : powQ (mkRat 5 1) (mkRat 3 2) 1 = mkRat 15 2 := by
 show mkRat 5 1 * mkRat 3 2 = _
 rw [Rat.mkRat_mul_mkRat]
 rfl
theorem wake_2 : powQ 1 (mkRat 3 2) 2 = mkRat 9 4 := by
 show 1 * mkRat 3 2 * mkRat 3 2 = _
 rw [Rat.one_mul, Rat.mkRat_mul_mkRat]
 rfl

end Go.Proofs.YthaiegnohkiegaaGreat.Ab
