/-
  Part 5 of the walks of the program and of the laws of its arithmetic: what each function of the program tells at every input that its premise takes.
-/
import Derived.Test.YthaiegnohkiegaaGreatP4
/-
 Contracts of the reference: halves.
-/
namespace Go.Proofs.YthaiegnohkiegaaGreat.Ab
set_option linter.unusedVariables false
set_option linter.unusedSimpArgs false
set_option maxRecDepth 20000


theorem ref_cut (l : List Int) (hl : l.length ≤ 4611686018427387904) (hk : okLH l) : Fn Tryz.prog 119 [.d (encH l)] false (.one (.d (encH (limbsH (valH l))))) := by
 refine Fn_of_EV Tryz.func119 rfl (by kernel_rfl) rfl rfl (fun E hE => ?_)
 refine EV_seq (EV_region ?_)
 refine EVo_t rfl (T_assign rfl) ?_
 refine EVo_nil (EV_seq (EV_region ?_))
 refine EVo_t rfl (T_move rfl) ?_
 refine EVo_t rfl (T_lenL (uOk rfl) rfl) ?_
 refine EVo_t rfl (T_assign rfl) ?_
 refine EVo_nil ?_
 refine EV_seq ?_
 refine EV_block ?_
 refine EV_weak (W_keep2 [(0, V.c (.d false (encH l))), (3, vi .i64 ((l.length : Int)))] [] ⟨rfl, rfl, trivial⟩ trivial rfl) ?_
 refine EV_loop (fun mm S => ∃ n : Int, mm = n.toNat ∧ S = St.of [(0, V.c (.d false (encH l))), (3, vi .i64 n)] (tabO []) 21 ∧ 0 ≤ n ∧ n ≤ l.length ∧ ∀ i : Nat, n ≤ i → i < l.length → rd l i = 0) _ ⟨(l.length : Int), rfl, rfl, ⟨by omega, by omega, fun i h1 h2 => by omega⟩⟩ ?_
 rintro mm S ⟨n, rfl, rfl, ⟨h0, h1, h2⟩⟩
 refine EV_seq ?_
 refine EV_seq (EV_region ?_)
 refine EVo_t rfl (T_move rfl) ?_
 refine EVo_t rfl (T_bin rfl rfl rfl) ?_
 refine EVo_t rfl (T_move rfl) ?_
 refine EVo_case 8 rfl (fun hb1 => ?_) (fun hb1 => ?_)
 ·try simp only [z1, z2, z3, z4, z5, z6, z7, z8, z9, y1, y2, y3] at hb1
  refine EVo_t rfl (T_move rfl) ?_
  refine EVo_t rfl (T_move rfl) ?_
  refine EVo_t rfl (T_binI rfl rfl rfl (by omega) (by omega)) ?_
  refine EVo_t rfl (T_ixL (uOk rfl) (zOk rfl) rfl rfl (by omega) (by omega) rfl) ?_
  refine EVo_t rfl (T_load (gOk rfl) rfl) ?_
  refine EVo_t rfl (T_bin rfl rfl rfl) ?_
  refine EVo_t rfl (T_pick rfl rfl) ?_
  refine EVo_nil ?_
  refine EV_cond rfl rfl rfl (fun hb2 => ?_) (fun hb2 => ?_)
  ·try simp only [z1, z2, z3, z4, z5, z6, z7, z8, z9, y1, y2, y3] at hb2
   have hz := hb2
   refine EV_skip ?_
   refine EV_block ?_
   refine EV_region ?_
   refine EVo_t rfl (T_move rfl) ?_
   refine EVo_t rfl (T_binI rfl rfl rfl (by omega) (by omega)) ?_
   refine EVo_t rfl (T_assign rfl) ?_
   refine EVo_nil ?_
   refine ⟨_, ?_, _, W_keep2 [(0, V.c (.d false (encH l))), (3, vi .i64 (n - 1))] [] ⟨rfl, rfl, trivial⟩ trivial rfl, n - 1, rfl, rfl, ?_⟩
   ·omega
   ·refine ⟨by omega, by omega, fun i q1 q2 => ?_⟩
    by_cases e : (i : Int) = n - 1
    ·rw [e]; exact hz
    ·exact h2 i (by omega) q2
  ·try simp only [z1, z2, z3, z4, z5, z6, z7, z8, z9, y1, y2, y3] at hb2
   have hz := hb2
   refine EV_exit ?_
   refine EV_seq (EV_region ?_)
   refine EVo_t rfl (T_move rfl) ?_
   refine EVo_t rfl (T_move rfl) ?_
   refine EVo_t rfl (T_slL (m := 0) (uOk rfl) (zOk rfl) rfl (fun _ => rfl) rfl rfl (.inl rfl) (by omega) (by omega) (by omega)) ?_
   refine EVo_t rfl (T_assign rfl) ?_
   refine EVo_nil ?_
   refine EV_ret ?_
   refine ⟨_, ⟨rfl, rfl⟩, fit_eq rfl nofun ?_⟩
   ·have := trim_eqH hk (n := n.toNat) (by omega) (fun i q1 q2 => h2 i (by omega) q2) (.inr (by rw [Int.toNat_of_nonneg h0]; exact hz)); simp [this]
 ·try simp only [z1, z2, z3, z4, z5, z6, z7, z8, z9, y1, y2, y3] at hb1
  refine EVo_off rfl rfl ?_
  refine EVo_off rfl rfl ?_
  refine EVo_off rfl rfl ?_
  refine EVo_off rfl rfl ?_
  refine EVo_off rfl rfl ?_
  refine EVo_off rfl rfl ?_
  refine EVo_t rfl (T_pick rfl rfl) ?_
  refine EVo_nil ?_
  refine EV_cond rfl rfl rfl (fun h => by cases h) (fun _ => ?_)
  refine EV_exit ?_
  refine EV_seq (EV_region ?_)
  refine EVo_t rfl (T_move rfl) ?_
  refine EVo_t rfl (T_move rfl) ?_
  refine EVo_t rfl (T_slL (m := 0) (uOk rfl) (zOk rfl) rfl (fun _ => rfl) rfl rfl (.inl rfl) (by omega) (by omega) (by omega)) ?_
  refine EVo_t rfl (T_assign rfl) ?_
  refine EVo_nil ?_
  refine EV_ret ?_
  refine ⟨_, ⟨rfl, rfl⟩, fit_eq rfl nofun ?_⟩
  ·have := trim_eqH hk (n := n.toNat) (by omega) (fun i q1 q2 => h2 i (by omega) q2) (.inl (by omega)); simp [this]

theorem ref_halves (l : List Int) (hl : l.length ≤ 8796093022208) (hk : okL l) : Fn Tryz.prog 117 [.d (encN l)] false (.one (.d (encH (limbsH (val l))))) := by
 refine Fn_of_EV Tryz.func117 rfl (by kernel_rfl) rfl rfl (fun E hE => ?_)
 refine EV_seq (EV_region ?_)
 refine EVo_t rfl (T_assign rfl) ?_
 refine EVo_nil (EV_seq (EV_region ?_))
 refine EVo_t rfl (T_assign rfl) ?_
 refine EVo_nil ?_
 refine EV_seq ?_
 refine EV_seq ?_
 refine EV_weak (W_nilRow 1 3 145 1 (hE 1 rfl) rfl) ?_
 refine EV_region ?_
 refine EVo_t rfl (T_assign rfl) ?_
 refine EVo_nil ?_
 refine EV_block ?_
 refine EV_weak (W_keep2 [(0, V.c (.d false (encN l))), (3, V.c (.own 1 145 1 true (List.map (fun x => [ih x]) (([] : List Int))))), (4, vi .i64 (0))] [(1, .row)] ⟨rfl, rfl, rfl, trivial⟩ ⟨rfl, trivial⟩ rfl) ?_
 refine EV_loop (fun mm S => ∃ i : Int, ∃ r : List Int, mm = ((l.length : Int) - i).toNat ∧ S = St.of [(0, V.c (.d false (encN l))), (3, V.c (.own 1 145 1 true (List.map (fun x => [ih x]) r))), (4, vi .i64 i)] (tabO [(1, .row)]) 27 ∧ 0 ≤ i ∧ i ≤ l.length ∧ okLH r ∧ r.length = 2 * i.toNat ∧ valH r = val (l.take i.toNat)) _ ⟨0, ([] : List Int), rfl, rfl, ⟨by omega, by omega, okL_nilH, rfl, rfl⟩⟩ ?_
 rintro mm S ⟨i, r, rfl, rfl, ⟨h0, h1, h2, h3, h4⟩⟩
 refine EV_seq ?_
 refine EV_seq (EV_region ?_)
 refine EVo_t rfl (T_move rfl) ?_
 refine EVo_t rfl (T_move rfl) ?_
 refine EVo_t rfl (T_lenL (uOk rfl) rfl) ?_
 refine EVo_t rfl (T_bin rfl rfl rfl) ?_
 refine EVo_nil ?_
 refine EV_cond rfl rfl rfl (fun hb1 => ?_) (fun hb1 => ?_)
 ·try simp only [z1, z2, z3, z4, z5, z6, z7, z8, z9, y1, y2, y3] at hb1
  refine EV_skip ?_
  refine EV_seq ?_
  refine EV_block ?_
  refine EV_draw (inX []) (.st 0 (.st 1 (.st 2 (.st 3 (.st 4 (.st 5 (.st 6 (.st 7 (.st 8 (.st 9 (.st 10 (.st 11 (.one 12 (.one 13 (.st 14 .done))))))))))))))) Tryz.mixed (by kernel_rfl) ?_
  refine EVq_t rfl rfl (T_move rfl) ?_
  refine EVq_t rfl rfl (T_move rfl) ?_
  refine EVq_t rfl rfl (T_move rfl) ?_
  refine EVq_t rfl rfl (T_ixL (uOk rfl) (zOk rfl) rfl rfl (by omega) (by omega) rfl) ?_
  refine EVq_t rfl rfl (T_load (gOk rfl) rfl) ?_
  refine EVq_t rfl rfl (T_conv (uOk rfl) (uOk rfl) rfl) ?_
  refine EVq_t rfl rfl (T_move rfl) ?_
  refine EVq_t rfl rfl (T_move rfl) ?_
  refine EVq_t rfl rfl (T_ixL (uOk rfl) (zOk rfl) rfl rfl (by omega) (by omega) rfl) ?_
  refine EVq_t rfl rfl (T_load (gOk rfl) rfl) ?_
  refine EVq_t rfl rfl (T_shrK rfl rfl rfl rfl) ?_
  refine EVq_t rfl rfl (T_conv (uOk rfl) (uOk rfl) rfl) ?_
  refine EVq_e rfl rfl (D_buildSlice (uOk rfl) bz145 rfl rfl rfl (by simp)) ?_
  refine EVq_e rfl rfl (D_append (uOk rfl) ap145 (by decide) rfl rfl (hE 1 rfl) (Free_in rfl) rfl rfl (by simp) (by simp; omega) (by simp; omega)) ?_
  refine EVq_t rfl rfl (T_assign rfl) ?_
  refine EVq_done ?_
  refine EV_region ?_
  refine EVo_t rfl (T_move rfl) ?_
  refine EVo_t rfl (T_binI rfl rfl rfl (by omega) (by omega)) ?_
  refine EVo_t rfl (T_assign rfl) ?_
  refine EVo_nil ?_
  refine ⟨_, ?_, _, W_keep2 [(0, V.c (.d false (encN l))), (3, V.c (.own 1 145 1 true (List.map (fun x => [ih x]) (r ++ [IntKind.u32.wrap (rd l i), IntKind.u32.wrap (rd l i / 4294967296)])))), (4, vi .i64 (i + 1))] [(1, .row)] ⟨rfl, (own_app rfl), rfl, trivial⟩ ⟨rfl, trivial⟩ rfl, i + 1, r ++ [IntKind.u32.wrap (rd l i), IntKind.u32.wrap (rd l i / 4294967296)], rfl, rfl, ?_⟩
  ·omega
  ·have e2 : (i + 1).toNat = i.toNat + 1 := by omega
   have ei : (i.toNat : Int) = i := by omega
   have hst := half_step (i := i.toNat) hk h3 h4
   rw [ei] at hst
   refine ⟨by omega, by omega, okL_appendH.2 ⟨h2, ?_⟩, by simp; omega, by rw [e2]; exact hst⟩
   intro y hy
   simp [u32_wrap'] at hy
   omega
 ·try simp only [z1, z2, z3, z4, z5, z6, z7, z8, z9, y1, y2, y3] at hb1
  refine EV_exit ?_
  refine EV_seq (EV_region ?_)
  refine EVo_t rfl (T_move rfl) ?_
  refine EVo_e rfl (D_call false (ref_cut _ (by omega) (by assumption)) rfl (fit_cons (fit_d rfl nofun) (fit_nil))) ?_
  refine EVo_t rfl (T_assign rfl) ?_
  refine EVo_nil ?_
  refine EV_ret ?_
  refine ⟨_, ⟨rfl, rfl⟩, fit_eq rfl nofun ?_⟩
  ·have e : i.toNat = l.length := by omega
   rw [e, List.take_of_length_le (Nat.le_refl _)] at h4
   rw [h4]

theorem ref_whole (l : List Int) (hl : l.length ≤ 17592186044416) (hk : okLH l) : Fn Tryz.prog 118 [.d (encH l)] false (.one (.d (encN (limbs (valH l))))) := by
 refine Fn_of_EV Tryz.func118 rfl (by kernel_rfl) rfl rfl (fun E hE => ?_)
 refine EV_seq (EV_region ?_)
 refine EVo_t rfl (T_assign rfl) ?_
 refine EVo_nil (EV_seq (EV_region ?_))
 refine EVo_t rfl (T_assign rfl) ?_
 refine EVo_nil ?_
 refine EV_seq ?_
 refine EV_seq ?_
 refine EV_weak (W_nilRow 1 3 58 1 (hE 1 rfl) rfl) ?_
 refine EV_region ?_
 refine EVo_t rfl (T_assign rfl) ?_
 refine EVo_nil ?_
 refine EV_block ?_
 refine EV_weak (W_keep2 [(0, V.c (.d false (encH l))), (3, V.c (.own 1 58 1 true (List.map (fun x => [iu x]) (([] : List Int))))), (4, vi .i64 (0))] [(1, .row)] ⟨rfl, rfl, rfl, trivial⟩ ⟨rfl, trivial⟩ rfl) ?_
 refine EV_loop (fun mm S => ∃ i : Int, ∃ r : List Int, mm = ((l.length : Int) + 1 - i).toNat ∧ S = St.of [(0, V.c (.d false (encH l))), (3, V.c (.own 1 58 1 true (List.map (fun x => [iu x]) r))), (4, vi .i64 i)] (tabO [(1, .row)]) 37 ∧ 0 ≤ i ∧ i ≤ l.length + 1 ∧ okL r ∧ 2 * r.length = i.toNat ∧ val r = valH (l.take i.toNat)) _ ⟨0, ([] : List Int), rfl, rfl, ⟨by omega, by omega, okL_nil, rfl, rfl⟩⟩ ?_
 rintro mm S ⟨i, r, rfl, rfl, ⟨h0, h1, h2, h3, h4⟩⟩
 refine EV_seq ?_
 refine EV_seq (EV_region ?_)
 refine EVo_t rfl (T_move rfl) ?_
 refine EVo_t rfl (T_move rfl) ?_
 refine EVo_t rfl (T_lenL (uOk rfl) rfl) ?_
 refine EVo_t rfl (T_bin rfl rfl rfl) ?_
 refine EVo_nil ?_
 refine EV_cond rfl rfl rfl (fun hb1 => ?_) (fun hb1 => ?_)
 ·try simp only [z1, z2, z3, z4, z5, z6, z7, z8, z9, y1, y2, y3] at hb1
  refine EV_skip ?_
  refine EV_seq ?_
  refine EV_block ?_
  refine EV_seq (EV_region ?_)
  refine EVo_t rfl (T_move rfl) ?_
  refine EVo_t rfl (T_move rfl) ?_
  refine EVo_t rfl (T_ixL (uOk rfl) (zOk rfl) rfl rfl (by omega) (by omega) rfl) ?_
  refine EVo_t rfl (T_load (gOk rfl) rfl) ?_
  refine EVo_t rfl (T_conv (uOk rfl) (uOk rfl) rfl) ?_
  refine EVo_t rfl (T_assign rfl) ?_
  refine EVo_nil ?_
  refine EV_seq ?_
  refine EV_seq (EV_region ?_)
  refine EVo_t rfl (T_move rfl) ?_
  refine EVo_t rfl (T_binI rfl rfl rfl (by omega) (by omega)) ?_
  refine EVo_t rfl (T_move rfl) ?_
  refine EVo_t rfl (T_lenL (uOk rfl) rfl) ?_
  refine EVo_t rfl (T_bin rfl rfl rfl) ?_
  refine EVo_nil ?_
  refine EV_cond rfl rfl rfl (fun hb2 => ?_) (fun hb2 => ?_)
  ·try simp only [z1, z2, z3, z4, z5, z6, z7, z8, z9, y1, y2, y3] at hb2
   refine EV_region ?_
   refine EVo_t rfl (T_move rfl) ?_
   refine EVo_t rfl (T_move rfl) ?_
   refine EVo_t rfl (T_move rfl) ?_
   refine EVo_t rfl (T_binI rfl rfl rfl (by omega) (by omega)) ?_
   refine EVo_t rfl (T_ixL (uOk rfl) (zOk rfl) rfl rfl (by omega) (by omega) rfl) ?_
   refine EVo_t rfl (T_load (gOk rfl) rfl) ?_
   refine EVo_t rfl (T_conv (uOk rfl) (uOk rfl) rfl) ?_
   refine EVo_t rfl (T_shlK rfl rfl rfl rfl) ?_
   refine EVo_t rfl (T_bin rfl rfl rfl) ?_
   refine EVo_t rfl (T_assign rfl) ?_
   refine EVo_nil ?_
   refine EV_region ?_
   refine EVo_t rfl (T_move rfl) ?_
   refine EVo_t rfl (T_move rfl) ?_
   refine EVo_e rfl (D_buildSlice (uOk rfl) bz58 rfl rfl rfl (by simp)) ?_
   refine EVo_e rfl (D_append (uOk rfl) ap58 (by decide) rfl rfl (hE 1 rfl) Free_no rfl rfl (by simp) (by simp; omega) (by simp; omega)) ?_
   refine EVo_t rfl (T_assign rfl) ?_
   refine EVo_nil ?_
   refine EV_region ?_
   refine EVo_t rfl (T_move rfl) ?_
   refine EVo_t rfl (T_binI rfl rfl rfl (by omega) (by omega)) ?_
   refine EVo_t rfl (T_assign rfl) ?_
   refine EVo_nil ?_
   have e2 : (i + 2).toNat = i.toNat + 2 := by omega
   have ei : (i.toNat : Int) = i := by omega
   have ej : ((i.toNat + 1 : Nat) : Int) = i + 1 := by omega
   have hx := okL_rdH hk i
   have hy := okL_rdH hk (i + 1)
   refine ⟨_, ?_, _, W_keep2 [(0, V.c (.d false (encH l))), (3, V.c (.own 1 58 1 true (List.map (fun x => [iu x]) (r ++ [_])))), (4, vi .i64 (i + 2))] [(1, .row)] ⟨rfl, (own_app rfl), rfl, trivial⟩ ⟨rfl, trivial⟩ rfl, i + 2, r ++ [_], rfl, rfl, ?_⟩
   ·omega
   ·have hst := whole_step (i := i.toNat) (x := rd l i + 4294967296 * rd l (i + 1)) hk h3 h4 (by rw [ei, ej])
    have hor : bits .or .u64 (IntKind.u64.wrap (rd l i)) (IntKind.u64.wrap (IntKind.u64.wrap (rd l (i + 1)) * ((2 ^ 32 : Nat) : Int))) = rd l i + 4294967296 * rd l (i + 1) := or_halves hx.1 hx.2 hy.1 hy.2
    rw [hor]
    refine ⟨by omega, by omega, okL_append.2 ⟨h2, ?_⟩, by (simp <;> omega), by rw [e2]; exact hst.1⟩
    intro y hy
    simp at hy
    rw [hy]; exact hst.2
  ·try simp only [z1, z2, z3, z4, z5, z6, z7, z8, z9, y1, y2, y3] at hb2
   refine EV_skip ?_
   refine EV_region ?_
   refine EVo_t rfl (T_move rfl) ?_
   refine EVo_t rfl (T_move rfl) ?_
   refine EVo_e rfl (D_buildSlice (uOk rfl) bz58 rfl rfl rfl (by simp)) ?_
   refine EVo_e rfl (D_append (uOk rfl) ap58 (by decide) rfl rfl (hE 1 rfl) Free_no rfl rfl (by simp) (by simp; omega) (by simp; omega)) ?_
   refine EVo_t rfl (T_assign rfl) ?_
   refine EVo_nil ?_
   refine EV_region ?_
   refine EVo_t rfl (T_move rfl) ?_
   refine EVo_t rfl (T_binI rfl rfl rfl (by omega) (by omega)) ?_
   refine EVo_t rfl (T_assign rfl) ?_
   refine EVo_nil ?_
   have e2 : (i + 2).toNat = i.toNat + 2 := by omega
   have ei : (i.toNat : Int) = i := by omega
   have ej : ((i.toNat + 1 : Nat) : Int) = i + 1 := by omega
   have hx := okL_rdH hk i
   have hy := okL_rdH hk (i + 1)
   refine ⟨_, ?_, _, W_keep2 [(0, V.c (.d false (encH l))), (3, V.c (.own 1 58 1 true (List.map (fun x => [iu x]) (r ++ [_])))), (4, vi .i64 (i + 2))] [(1, .row)] ⟨rfl, (own_app rfl), rfl, trivial⟩ ⟨rfl, trivial⟩ rfl, i + 2, r ++ [_], rfl, rfl, ?_⟩
   ·omega
   ·have hz : rd l (i + 1) = 0 := by rw [← ej]; exact rd_ge (by omega)
    have hst := whole_step (i := i.toNat) hk h3 h4 (x := IntKind.u64.wrap (rd l i)) (by rw [ei, ej, hz]; simp only [u64_wrap]; omega)
    refine ⟨by omega, by omega, okL_append.2 ⟨h2, ?_⟩, by (simp <;> omega), by rw [e2]; exact hst.1⟩
    intro y hy
    simp at hy
    rw [hy]; exact hst.2
 ·try simp only [z1, z2, z3, z4, z5, z6, z7, z8, z9, y1, y2, y3] at hb1
  refine EV_exit ?_
  refine EV_seq (EV_region ?_)
  refine EVo_t rfl (T_move rfl) ?_
  refine EVo_e rfl (D_call false (ref_Trim _ (by omega) (by assumption)) rfl (fit_cons (fit_d rfl nofun) (fit_nil))) ?_
  refine EVo_t rfl (T_assign rfl) ?_
  refine EVo_nil ?_
  refine EV_ret ?_
  refine ⟨_, ⟨rfl, rfl⟩, fit_eq rfl nofun ?_⟩
  ·rw [List.take_of_length_le (by omega)] at h4
   rw [h4]

end Go.Proofs.YthaiegnohkiegaaGreat.Ab
/-
 Contracts of the reference: sums.
-/
namespace Go.Proofs.YthaiegnohkiegaaGreat.Ab
set_option linter.unusedVariables false
set_option linter.unusedSimpArgs false
set_option maxRecDepth 20000


theorem ref_Plus (l m : List Int) (hl : l.length ≤ 4398046511104) (hm : m.length ≤ 4398046511104) (hk : okL l) (hkm : okL m) : Fn Tryz.prog 198 [.d (encN l), .d (encN m)] false (.one (.d (encN (limbs (val l + val m))))) := by
 have hX := halves_len hk
 have hY := halves_len hkm
 have oX := okL_limbsH (val l)
 have oY := okL_limbsH (val m)
 refine Fn_of_EV Tryz.func198 rfl (by kernel_rfl) rfl rfl (fun E hE => ?_)
 refine EV_seq (EV_region ?_)
 refine EVo_t rfl (T_assign rfl) ?_
 refine EVo_nil (EV_seq (EV_region ?_))
 refine EVo_t rfl (T_move rfl) ?_
 refine EVo_e rfl (D_call false (ref_halves _ (by omega) (by assumption)) rfl (fit_cons (fit_d rfl nofun) (fit_nil))) ?_
 refine EVo_t rfl (T_assign rfl) ?_
 refine EVo_nil (EV_seq (EV_region ?_))
 refine EVo_t rfl (T_move rfl) ?_
 refine EVo_e rfl (D_call false (ref_halves _ (by omega) (by assumption)) rfl (fit_cons (fit_d rfl nofun) (fit_nil))) ?_
 refine EVo_t rfl (T_assign rfl) ?_
 refine EVo_nil (EV_seq (EV_region ?_))
 refine EVo_t rfl (T_assign rfl) ?_
 refine EVo_nil ?_
 refine EV_seq ?_
 refine EV_weak (W_nilRow 1 7 145 1 (hE 1 rfl) rfl) ?_
 refine EV_region ?_
 refine EVo_t rfl (T_assign rfl) ?_
 refine EVo_nil ?_
 refine EV_seq ?_
 refine EV_seq (EV_region ?_)
 refine EVo_t rfl (T_assign rfl) ?_
 refine EVo_nil ?_
 refine EV_block ?_
 refine EV_weak (W_keep2 [(5, V.c (.d false (encH (limbsH (val l))))), (6, V.c (.d false (encH (limbsH (val m))))), (7, V.c (.own 1 145 1 true (List.map (fun x => [ih x]) (([] : List Int))))), (8, vi .u64 (0)), (9, vi .i64 (0))] [(1, .row)] ⟨rfl, rfl, rfl, rfl, rfl, trivial⟩ ⟨rfl, trivial⟩ rfl) ?_
 refine EV_loop (fun mm S => ∃ i : Int, ∃ c : Int, ∃ r : List Int, mm = ((max (limbsH (val l)).length (limbsH (val m)).length : Nat) - i).toNat ∧ S = St.of [(5, V.c (.d false (encH (limbsH (val l))))), (6, V.c (.d false (encH (limbsH (val m))))), (7, V.c (.own 1 145 1 true (List.map (fun x => [ih x]) r))), (8, vi .u64 c), (9, vi .i64 i)] (tabO [(1, .row)]) 62 ∧ 0 ≤ i ∧ (i ≤ (limbsH (val l)).length ∨ i ≤ (limbsH (val m)).length) ∧ (0 ≤ c ∧ c ≤ 1) ∧ okLH r ∧ r.length = i.toNat ∧ valH r + 4294967296 ^ i.toNat * c.toNat = valH ((limbsH (val l)).take i.toNat) + valH ((limbsH (val m)).take i.toNat)) _ ⟨0, 0, ([] : List Int), rfl, rfl, ⟨by omega, by omega, by omega, okL_nilH, rfl, rfl⟩⟩ ?_
 rintro mm S ⟨i, c, r, rfl, rfl, ⟨h0, h1, h2, h3, h4, h5⟩⟩
 have ei : (i.toNat : Int) = i := by omega
 have hx := okL_rdH oX i
 have hy := okL_rdH oY i
 refine EV_seq ?_
 refine EV_seq (EV_region ?_)
 refine EVo_t rfl (T_move rfl) ?_
 refine EVo_t rfl (T_move rfl) ?_
 refine EVo_t rfl (T_lenL (uOk rfl) rfl) ?_
 refine EVo_t rfl (T_bin rfl rfl rfl) ?_
 refine EVo_t rfl (T_move rfl) ?_
 refine EVo_case 18 rfl (fun hb1 => ?_) (fun hb1 => ?_)
 ·try simp only [z1, z2, z3, z4, z5, z6, z7, z8, z9, y1, y2, y3] at hb1
  refine EVo_off rfl rfl ?_
  refine EVo_off rfl rfl ?_
  refine EVo_off rfl rfl ?_
  refine EVo_off rfl rfl ?_
  refine EVo_t rfl (T_pick rfl rfl) ?_
  refine EVo_nil ?_
  refine EV_cond rfl rfl rfl (fun _ => ?_) (fun h => by cases h)
  refine EV_skip ?_
  refine EV_seq ?_
  refine EV_block ?_
  refine EV_join (fun S => ∃ d : Int, S = St.of [(5, V.c (.d false (encH (limbsH (val l))))), (6, V.c (.d false (encH (limbsH (val m))))), (7, V.c (.own 1 145 1 true (List.map (fun x => [ih x]) r))), (8, vi .u64 d), (9, vi .i64 i)] (tabO [(1, .row)]) 62 ∧ d = c + rd (limbsH (val l)) i) ?_ ?_
  ·
   refine EV_seq (EV_region ?_)
   refine EVo_t rfl (T_move rfl) ?_
   refine EVo_t rfl (T_move rfl) ?_
   refine EVo_t rfl (T_lenL (uOk rfl) rfl) ?_
   refine EVo_t rfl (T_bin rfl rfl rfl) ?_
   refine EVo_nil ?_
   refine EV_cond rfl rfl rfl (fun hb2 => ?_) (fun hb2 => ?_)
   ·try simp only [z1, z2, z3, z4, z5, z6, z7, z8, z9, y1, y2, y3] at hb2
    refine EV_region ?_
    refine EVo_t rfl (T_move rfl) ?_
    refine EVo_t rfl (T_move rfl) ?_
    refine EVo_t rfl (T_move rfl) ?_
    refine EVo_t rfl (T_ixL (uOk rfl) (zOk rfl) rfl rfl (by omega) (by omega) rfl) ?_
    refine EVo_t rfl (T_load (gOk rfl) rfl) ?_
    refine EVo_t rfl (T_conv (uOk rfl) (uOk rfl) rfl) ?_
    refine EVo_t rfl (T_bin rfl rfl rfl) ?_
    refine EVo_t rfl (T_assign rfl) ?_
    refine EVo_nil ?_
    refine ⟨_, W_keep2 [(5, V.c (.d false (encH (limbsH (val l))))), (6, V.c (.d false (encH (limbsH (val m))))), (7, V.c (.own 1 145 1 true (List.map (fun x => [ih x]) r))), (8, vi .u64 (_)), (9, vi .i64 i)] [(1, .row)] ⟨rfl, rfl, rfl, rfl, rfl, trivial⟩ ⟨rfl, trivial⟩ rfl, _, rfl, ?_⟩
    rw [u64_in hx.1 (by omega), u64_in (by omega) (by omega)]
   ·try simp only [z1, z2, z3, z4, z5, z6, z7, z8, z9, y1, y2, y3] at hb2
    refine EV_skip ?_
    refine ⟨_, W_keep2 [(5, V.c (.d false (encH (limbsH (val l))))), (6, V.c (.d false (encH (limbsH (val m))))), (7, V.c (.own 1 145 1 true (List.map (fun x => [ih x]) r))), (8, vi .u64 (_)), (9, vi .i64 i)] [(1, .row)] ⟨rfl, rfl, rfl, rfl, rfl, trivial⟩ ⟨rfl, trivial⟩ rfl, _, rfl, ?_⟩
    have := rd_ge (l := (limbsH (val l))) (n := i.toNat) (by omega); rw [ei] at this; omega
  ·rintro S ⟨d, rfl, hd⟩
   refine EV_join (fun S => ∃ e : Int, S = St.of [(5, V.c (.d false (encH (limbsH (val l))))), (6, V.c (.d false (encH (limbsH (val m))))), (7, V.c (.own 1 145 1 true (List.map (fun x => [ih x]) r))), (8, vi .u64 e), (9, vi .i64 i)] (tabO [(1, .row)]) 62 ∧ e = c + rd (limbsH (val l)) i + rd (limbsH (val m)) i) ?_ ?_
   ·
    refine EV_seq (EV_region ?_)
    refine EVo_t rfl (T_move rfl) ?_
    refine EVo_t rfl (T_move rfl) ?_
    refine EVo_t rfl (T_lenL (uOk rfl) rfl) ?_
    refine EVo_t rfl (T_bin rfl rfl rfl) ?_
    refine EVo_nil ?_
    refine EV_cond rfl rfl rfl (fun hb3 => ?_) (fun hb3 => ?_)
    ·try simp only [z1, z2, z3, z4, z5, z6, z7, z8, z9, y1, y2, y3] at hb3
     refine EV_region ?_
     refine EVo_t rfl (T_move rfl) ?_
     refine EVo_t rfl (T_move rfl) ?_
     refine EVo_t rfl (T_move rfl) ?_
     refine EVo_t rfl (T_ixL (uOk rfl) (zOk rfl) rfl rfl (by omega) (by omega) rfl) ?_
     refine EVo_t rfl (T_load (gOk rfl) rfl) ?_
     refine EVo_t rfl (T_conv (uOk rfl) (uOk rfl) rfl) ?_
     refine EVo_t rfl (T_bin rfl rfl rfl) ?_
     refine EVo_t rfl (T_assign rfl) ?_
     refine EVo_nil ?_
     refine ⟨_, W_keep2 [(5, V.c (.d false (encH (limbsH (val l))))), (6, V.c (.d false (encH (limbsH (val m))))), (7, V.c (.own 1 145 1 true (List.map (fun x => [ih x]) r))), (8, vi .u64 (_)), (9, vi .i64 i)] [(1, .row)] ⟨rfl, rfl, rfl, rfl, rfl, trivial⟩ ⟨rfl, trivial⟩ rfl, _, rfl, ?_⟩
     rw [u64_in hy.1 (by omega), u64_in (by omega) (by omega)]; omega
    ·try simp only [z1, z2, z3, z4, z5, z6, z7, z8, z9, y1, y2, y3] at hb3
     refine EV_skip ?_
     refine ⟨_, W_keep2 [(5, V.c (.d false (encH (limbsH (val l))))), (6, V.c (.d false (encH (limbsH (val m))))), (7, V.c (.own 1 145 1 true (List.map (fun x => [ih x]) r))), (8, vi .u64 (_)), (9, vi .i64 i)] [(1, .row)] ⟨rfl, rfl, rfl, rfl, rfl, trivial⟩ ⟨rfl, trivial⟩ rfl, _, rfl, ?_⟩
     have := rd_ge (l := (limbsH (val m))) (n := i.toNat) (by omega); rw [ei] at this; omega
   ·rintro S ⟨e, rfl, he⟩
    refine EV_seq (EV_region ?_)
    refine EVo_t rfl (T_move rfl) ?_
    refine EVo_t rfl (T_move rfl) ?_
    refine EVo_t rfl (T_conv (uOk rfl) (uOk rfl) rfl) ?_
    refine EVo_e rfl (D_buildSlice (uOk rfl) bz145 rfl rfl rfl (by simp)) ?_
    refine EVo_e rfl (D_append (uOk rfl) ap145 (by decide) rfl rfl (hE 1 rfl) Free_no rfl rfl (by simp) (by simp; omega) (by simp; omega)) ?_
    refine EVo_t rfl (T_assign rfl) ?_
    refine EVo_nil ?_
    refine EV_region ?_
    refine EVo_t rfl (T_move rfl) ?_
    refine EVo_t rfl (T_shrK rfl rfl rfl rfl) ?_
    refine EVo_t rfl (T_assign rfl) ?_
    refine EVo_nil ?_
    refine EV_region ?_
    refine EVo_t rfl (T_move rfl) ?_
    refine EVo_t rfl (T_binI rfl rfl rfl (by omega) (by omega)) ?_
    refine EVo_t rfl (T_assign rfl) ?_
    refine EVo_nil ?_
    refine ⟨_, ?_, _, W_keep2 [(5, V.c (.d false (encH (limbsH (val l))))), (6, V.c (.d false (encH (limbsH (val m))))), (7, V.c (.own 1 145 1 true (List.map (fun x => [ih x]) (r ++ [_])))), (8, vi .u64 (_)), (9, vi .i64 (i + 1))] [(1, .row)] ⟨rfl, rfl, (own_app rfl), rfl, rfl, trivial⟩ ⟨rfl, trivial⟩ rfl, i + 1, _, r ++ [_], rfl, rfl, ?_⟩
    ·omega
    ·have e2 : (i + 1).toNat = i.toNat + 1 := by omega
     have hst := plus_step (i := i.toNat) (e := e) oX oY h4 h2.1 h2.2 (by rw [ei]; exact he) h5
     refine ⟨by omega, by omega, ⟨hst.2.1, hst.2.2.1⟩, okL_appendH.2 ⟨h3, ?_⟩, by (simp <;> omega), by rw [e2]; exact hst.1⟩
     intro y hy
     simp at hy
     rw [hy]; exact hst.2.2.2
 ·try simp only [z1, z2, z3, z4, z5, z6, z7, z8, z9, y1, y2, y3] at hb1
  refine EVo_t rfl (T_move rfl) ?_
  refine EVo_t rfl (T_move rfl) ?_
  refine EVo_t rfl (T_lenL (uOk rfl) rfl) ?_
  refine EVo_t rfl (T_bin rfl rfl rfl) ?_
  refine EVo_t rfl (T_pick rfl rfl) ?_
  refine EVo_nil ?_
  refine EV_cond rfl rfl rfl (fun hb4 => ?_) (fun hb4 => ?_)
  ·try simp only [z1, z2, z3, z4, z5, z6, z7, z8, z9, y1, y2, y3] at hb4
   refine EV_skip ?_
   refine EV_seq ?_
   refine EV_block ?_
   refine EV_join (fun S => ∃ d : Int, S = St.of [(5, V.c (.d false (encH (limbsH (val l))))), (6, V.c (.d false (encH (limbsH (val m))))), (7, V.c (.own 1 145 1 true (List.map (fun x => [ih x]) r))), (8, vi .u64 d), (9, vi .i64 i)] (tabO [(1, .row)]) 62 ∧ d = c + rd (limbsH (val l)) i) ?_ ?_
   ·
    refine EV_seq (EV_region ?_)
    refine EVo_t rfl (T_move rfl) ?_
    refine EVo_t rfl (T_move rfl) ?_
    refine EVo_t rfl (T_lenL (uOk rfl) rfl) ?_
    refine EVo_t rfl (T_bin rfl rfl rfl) ?_
    refine EVo_nil ?_
    refine EV_cond rfl rfl rfl (fun hb5 => ?_) (fun hb5 => ?_)
    ·try simp only [z1, z2, z3, z4, z5, z6, z7, z8, z9, y1, y2, y3] at hb5
     refine EV_region ?_
     refine EVo_t rfl (T_move rfl) ?_
     refine EVo_t rfl (T_move rfl) ?_
     refine EVo_t rfl (T_move rfl) ?_
     refine EVo_t rfl (T_ixL (uOk rfl) (zOk rfl) rfl rfl (by omega) (by omega) rfl) ?_
     refine EVo_t rfl (T_load (gOk rfl) rfl) ?_
     refine EVo_t rfl (T_conv (uOk rfl) (uOk rfl) rfl) ?_
     refine EVo_t rfl (T_bin rfl rfl rfl) ?_
     refine EVo_t rfl (T_assign rfl) ?_
     refine EVo_nil ?_
     refine ⟨_, W_keep2 [(5, V.c (.d false (encH (limbsH (val l))))), (6, V.c (.d false (encH (limbsH (val m))))), (7, V.c (.own 1 145 1 true (List.map (fun x => [ih x]) r))), (8, vi .u64 (_)), (9, vi .i64 i)] [(1, .row)] ⟨rfl, rfl, rfl, rfl, rfl, trivial⟩ ⟨rfl, trivial⟩ rfl, _, rfl, ?_⟩
     rw [u64_in hx.1 (by omega), u64_in (by omega) (by omega)]
    ·try simp only [z1, z2, z3, z4, z5, z6, z7, z8, z9, y1, y2, y3] at hb5
     refine EV_skip ?_
     refine ⟨_, W_keep2 [(5, V.c (.d false (encH (limbsH (val l))))), (6, V.c (.d false (encH (limbsH (val m))))), (7, V.c (.own 1 145 1 true (List.map (fun x => [ih x]) r))), (8, vi .u64 (_)), (9, vi .i64 i)] [(1, .row)] ⟨rfl, rfl, rfl, rfl, rfl, trivial⟩ ⟨rfl, trivial⟩ rfl, _, rfl, ?_⟩
     have := rd_ge (l := (limbsH (val l))) (n := i.toNat) (by omega); rw [ei] at this; omega
   ·rintro S ⟨d, rfl, hd⟩
    refine EV_join (fun S => ∃ e : Int, S = St.of [(5, V.c (.d false (encH (limbsH (val l))))), (6, V.c (.d false (encH (limbsH (val m))))), (7, V.c (.own 1 145 1 true (List.map (fun x => [ih x]) r))), (8, vi .u64 e), (9, vi .i64 i)] (tabO [(1, .row)]) 62 ∧ e = c + rd (limbsH (val l)) i + rd (limbsH (val m)) i) ?_ ?_
    ·
     refine EV_seq (EV_region ?_)
     refine EVo_t rfl (T_move rfl) ?_
     refine EVo_t rfl (T_move rfl) ?_
     refine EVo_t rfl (T_lenL (uOk rfl) rfl) ?_
     refine EVo_t rfl (T_bin rfl rfl rfl) ?_
     refine EVo_nil ?_
     refine EV_cond rfl rfl rfl (fun hb6 => ?_) (fun hb6 => ?_)
     ·try simp only [z1, z2, z3, z4, z5, z6, z7, z8, z9, y1, y2, y3] at hb6
      refine EV_region ?_
      refine EVo_t rfl (T_move rfl) ?_
      refine EVo_t rfl (T_move rfl) ?_
      refine EVo_t rfl (T_move rfl) ?_
      refine EVo_t rfl (T_ixL (uOk rfl) (zOk rfl) rfl rfl (by omega) (by omega) rfl) ?_
      refine EVo_t rfl (T_load (gOk rfl) rfl) ?_
      refine EVo_t rfl (T_conv (uOk rfl) (uOk rfl) rfl) ?_
      refine EVo_t rfl (T_bin rfl rfl rfl) ?_
      refine EVo_t rfl (T_assign rfl) ?_
      refine EVo_nil ?_
      refine ⟨_, W_keep2 [(5, V.c (.d false (encH (limbsH (val l))))), (6, V.c (.d false (encH (limbsH (val m))))), (7, V.c (.own 1 145 1 true (List.map (fun x => [ih x]) r))), (8, vi .u64 (_)), (9, vi .i64 i)] [(1, .row)] ⟨rfl, rfl, rfl, rfl, rfl, trivial⟩ ⟨rfl, trivial⟩ rfl, _, rfl, ?_⟩
      rw [u64_in hy.1 (by omega), u64_in (by omega) (by omega)]; omega
     ·try simp only [z1, z2, z3, z4, z5, z6, z7, z8, z9, y1, y2, y3] at hb6
      refine EV_skip ?_
      refine ⟨_, W_keep2 [(5, V.c (.d false (encH (limbsH (val l))))), (6, V.c (.d false (encH (limbsH (val m))))), (7, V.c (.own 1 145 1 true (List.map (fun x => [ih x]) r))), (8, vi .u64 (_)), (9, vi .i64 i)] [(1, .row)] ⟨rfl, rfl, rfl, rfl, rfl, trivial⟩ ⟨rfl, trivial⟩ rfl, _, rfl, ?_⟩
      have := rd_ge (l := (limbsH (val m))) (n := i.toNat) (by omega); rw [ei] at this; omega
    ·rintro S ⟨e, rfl, he⟩
     refine EV_seq (EV_region ?_)
     refine EVo_t rfl (T_move rfl) ?_
     refine EVo_t rfl (T_move rfl) ?_
     refine EVo_t rfl (T_conv (uOk rfl) (uOk rfl) rfl) ?_
     refine EVo_e rfl (D_buildSlice (uOk rfl) bz145 rfl rfl rfl (by simp)) ?_
     refine EVo_e rfl (D_append (uOk rfl) ap145 (by decide) rfl rfl (hE 1 rfl) Free_no rfl rfl (by simp) (by simp; omega) (by simp; omega)) ?_
     refine EVo_t rfl (T_assign rfl) ?_
     refine EVo_nil ?_
     refine EV_region ?_
     refine EVo_t rfl (T_move rfl) ?_
     refine EVo_t rfl (T_shrK rfl rfl rfl rfl) ?_
     refine EVo_t rfl (T_assign rfl) ?_
     refine EVo_nil ?_
     refine EV_region ?_
     refine EVo_t rfl (T_move rfl) ?_
     refine EVo_t rfl (T_binI rfl rfl rfl (by omega) (by omega)) ?_
     refine EVo_t rfl (T_assign rfl) ?_
     refine EVo_nil ?_
     refine ⟨_, ?_, _, W_keep2 [(5, V.c (.d false (encH (limbsH (val l))))), (6, V.c (.d false (encH (limbsH (val m))))), (7, V.c (.own 1 145 1 true (List.map (fun x => [ih x]) (r ++ [_])))), (8, vi .u64 (_)), (9, vi .i64 (i + 1))] [(1, .row)] ⟨rfl, rfl, (own_app rfl), rfl, rfl, trivial⟩ ⟨rfl, trivial⟩ rfl, i + 1, _, r ++ [_], rfl, rfl, ?_⟩
     ·omega
     ·have e2 : (i + 1).toNat = i.toNat + 1 := by omega
      have hst := plus_step (i := i.toNat) (e := e) oX oY h4 h2.1 h2.2 (by rw [ei]; exact he) h5
      refine ⟨by omega, by omega, ⟨hst.2.1, hst.2.2.1⟩, okL_appendH.2 ⟨h3, ?_⟩, by (simp <;> omega), by rw [e2]; exact hst.1⟩
      intro y hy
      simp at hy
      rw [hy]; exact hst.2.2.2
  ·try simp only [z1, z2, z3, z4, z5, z6, z7, z8, z9, y1, y2, y3] at hb4
   refine EV_exit ?_
   refine EV_seq (EV_region ?_)
   refine EVo_t rfl (T_move rfl) ?_
   refine EVo_t rfl (T_move rfl) ?_
   refine EVo_t rfl (T_conv (uOk rfl) (uOk rfl) rfl) ?_
   refine EVo_e rfl (D_buildSlice (uOk rfl) bz145 rfl rfl rfl (by simp)) ?_
   refine EVo_e rfl (D_append (uOk rfl) ap145 (by decide) rfl rfl (hE 1 rfl) Free_no rfl rfl (by simp) (by simp; omega) (by simp; omega)) ?_
   refine EVo_weak (W_keep2 [(59, V.c (.own 1 145 1 true (List.map (fun x => [ih x]) (r ++ [_]))))] [] ⟨own_app rfl, trivial⟩ trivial rfl) ?_
   refine EVo_e rfl (D_call false (ref_cut _ (by simp; omega) (okL_appendH.2 ⟨h3, by intro y hy; simp at hy; rw [hy, u32_wrap']; omega⟩)) rfl (fit_cons (fit_d rfl nofun) (fit_nil))) ?_
   refine EVo_e rfl (D_call false (ref_whole _ (Nat.le_trans (limbs_len_leH (val_ltH (okL_appendH.2 ⟨h3, by intro y hy; simp at hy; rw [hy, u32_wrap']; omega⟩))) (by simp; omega)) (okL_limbsH _)) rfl (fit_cons (fit_d rfl nofun) (fit_nil))) ?_
   refine EVo_t rfl (T_assign rfl) ?_
   refine EVo_nil ?_
   refine EV_ret ?_
   have hcc : IntKind.u32.wrap c = c := by rw [u32_wrap']; omega
   refine ⟨_, ⟨rfl, rfl⟩, fit_eq rfl nofun ?_⟩
   ·rw [val_limbsH, val_appendH, hcc, h4]
    rw [List.take_of_length_le (by omega), List.take_of_length_le (by omega), val_limbsH, val_limbsH] at h5
    simp only [valH]
    rw [← h5]; simp

end Go.Proofs.YthaiegnohkiegaaGreat.Ab
/-
 Contracts of the reference: differences.
-/
namespace Go.Proofs.YthaiegnohkiegaaGreat.Ab
set_option linter.unusedVariables false
set_option linter.unusedSimpArgs false
set_option maxRecDepth 20000


theorem ref_Less (l m : List Int) (hl : l.length ≤ 4398046511104) (hm : m.length ≤ 4398046511104) (hk : okL l) (hkm : okL m) (hle : val m ≤ val l) : Fn Tryz.prog 149 [.d (encN l), .d (encN m)] false (.one (.d (encN (limbs (val l - val m))))) := by
 have hX := halves_len hk
 have hY := halves_len hkm
 have oX := okL_limbsH (val l)
 have oY := okL_limbsH (val m)
 refine Fn_of_EV Tryz.func149 rfl (by kernel_rfl) rfl rfl (fun E hE => ?_)
 refine EV_seq (EV_region ?_)
 refine EVo_t rfl (T_assign rfl) ?_
 refine EVo_nil (EV_seq (EV_region ?_))
 refine EVo_t rfl (T_move rfl) ?_
 refine EVo_e rfl (D_call false (ref_halves _ (by omega) (by assumption)) rfl (fit_cons (fit_d rfl nofun) (fit_nil))) ?_
 refine EVo_t rfl (T_assign rfl) ?_
 refine EVo_nil (EV_seq (EV_region ?_))
 refine EVo_t rfl (T_move rfl) ?_
 refine EVo_e rfl (D_call false (ref_halves _ (by omega) (by assumption)) rfl (fit_cons (fit_d rfl nofun) (fit_nil))) ?_
 refine EVo_t rfl (T_assign rfl) ?_
 refine EVo_nil (EV_seq (EV_region ?_))
 refine EVo_t rfl (T_assign rfl) ?_
 refine EVo_nil ?_
 refine EV_seq ?_
 refine EV_weak (W_nilRow 1 7 145 1 (hE 1 rfl) rfl) ?_
 refine EV_region ?_
 refine EVo_t rfl (T_assign rfl) ?_
 refine EVo_nil ?_
 refine EV_seq ?_
 refine EV_seq (EV_region ?_)
 refine EVo_t rfl (T_assign rfl) ?_
 refine EVo_nil ?_
 refine EV_block ?_
 refine EV_weak (W_keep2 [(5, V.c (.d false (encH (limbsH (val l))))), (6, V.c (.d false (encH (limbsH (val m))))), (7, V.c (.own 1 145 1 true (List.map (fun x => [ih x]) (([] : List Int))))), (8, vi .i64 (0)), (9, vi .i64 (0))] [(1, .row)] ⟨rfl, rfl, rfl, rfl, rfl, trivial⟩ ⟨rfl, trivial⟩ rfl) ?_
 refine EV_loop (fun mm S => ∃ i : Int, ∃ c : Int, ∃ r : List Int, mm = (((limbsH (val l)).length : Int) - i).toNat ∧ S = St.of [(5, V.c (.d false (encH (limbsH (val l))))), (6, V.c (.d false (encH (limbsH (val m))))), (7, V.c (.own 1 145 1 true (List.map (fun x => [ih x]) r))), (8, vi .i64 c), (9, vi .i64 i)] (tabO [(1, .row)]) 49 ∧ 0 ≤ i ∧ i ≤ (limbsH (val l)).length ∧ (-1 ≤ c ∧ c ≤ 0) ∧ okLH r ∧ r.length = i.toNat ∧ valH r + valH ((limbsH (val m)).take i.toNat) = valH ((limbsH (val l)).take i.toNat) + 4294967296 ^ i.toNat * (-c).toNat) _ ⟨0, 0, ([] : List Int), rfl, rfl, ⟨by omega, by omega, by omega, okL_nilH, rfl, rfl⟩⟩ ?_
 rintro mm S ⟨i, c, r, rfl, rfl, ⟨h0, h1, h2, h3, h4, h5⟩⟩
 have ei : (i.toNat : Int) = i := by omega
 have hx := okL_rdH oX i
 have hy := okL_rdH oY i
 refine EV_seq ?_
 refine EV_seq (EV_region ?_)
 refine EVo_t rfl (T_move rfl) ?_
 refine EVo_t rfl (T_move rfl) ?_
 refine EVo_t rfl (T_lenL (uOk rfl) rfl) ?_
 refine EVo_t rfl (T_bin rfl rfl rfl) ?_
 refine EVo_nil ?_
 refine EV_cond rfl rfl rfl (fun hb1 => ?_) (fun hb1 => ?_)
 ·try simp only [z1, z2, z3, z4, z5, z6, z7, z8, z9, y1, y2, y3] at hb1
  refine EV_skip ?_
  refine EV_seq ?_
  refine EV_block ?_
  refine EV_seq (EV_region ?_)
  refine EVo_t rfl (T_move rfl) ?_
  refine EVo_t rfl (T_move rfl) ?_
  refine EVo_t rfl (T_move rfl) ?_
  refine EVo_t rfl (T_ixL (uOk rfl) (zOk rfl) rfl rfl (by omega) (by omega) rfl) ?_
  refine EVo_t rfl (T_load (gOk rfl) rfl) ?_
  refine EVo_t rfl (T_conv (uOk rfl) (uOk rfl) rfl) ?_
  refine EVo_t rfl (T_binI rfl rfl rfl (by rw [wrap_in (by omega) (by omega)]; omega) (by rw [wrap_in (by omega) (by omega)]; omega)) ?_
  refine EVo_t rfl (T_assign rfl) ?_
  refine EVo_nil ?_
  refine EV_join (fun S => ∃ e : Int, S = St.of [(5, V.c (.d false (encH (limbsH (val l))))), (6, V.c (.d false (encH (limbsH (val m))))), (7, V.c (.own 1 145 1 true (List.map (fun x => [ih x]) r))), (8, vi .i64 e), (9, vi .i64 i)] (tabO [(1, .row)]) 49 ∧ e = c + rd (limbsH (val l)) i - rd (limbsH (val m)) i) ?_ ?_
  ·
   refine EV_seq (EV_region ?_)
   refine EVo_t rfl (T_move rfl) ?_
   refine EVo_t rfl (T_move rfl) ?_
   refine EVo_t rfl (T_lenL (uOk rfl) rfl) ?_
   refine EVo_t rfl (T_bin rfl rfl rfl) ?_
   refine EVo_nil ?_
   refine EV_cond rfl rfl rfl (fun hb2 => ?_) (fun hb2 => ?_)
   ·try simp only [z1, z2, z3, z4, z5, z6, z7, z8, z9, y1, y2, y3] at hb2
    refine EV_region ?_
    refine EVo_t rfl (T_move rfl) ?_
    refine EVo_t rfl (T_move rfl) ?_
    refine EVo_t rfl (T_move rfl) ?_
    refine EVo_t rfl (T_ixL (uOk rfl) (zOk rfl) rfl rfl (by omega) (by omega) rfl) ?_
    refine EVo_t rfl (T_load (gOk rfl) rfl) ?_
    refine EVo_t rfl (T_conv (uOk rfl) (uOk rfl) rfl) ?_
    refine EVo_t rfl (T_binI rfl rfl rfl (by rw [wrap_in (by omega) (by omega), wrap_in (by omega) (by omega)]; omega) (by rw [wrap_in (by omega) (by omega), wrap_in (by omega) (by omega)]; omega)) ?_
    refine EVo_t rfl (T_assign rfl) ?_
    refine EVo_nil ?_
    refine ⟨_, W_keep2 [(5, V.c (.d false (encH (limbsH (val l))))), (6, V.c (.d false (encH (limbsH (val m))))), (7, V.c (.own 1 145 1 true (List.map (fun x => [ih x]) r))), (8, vi .i64 (_)), (9, vi .i64 i)] [(1, .row)] ⟨rfl, rfl, rfl, rfl, rfl, trivial⟩ ⟨rfl, trivial⟩ rfl, _, rfl, ?_⟩
    rw [wrap_in (by omega) (by omega), wrap_in (by omega) (by omega)]
   ·try simp only [z1, z2, z3, z4, z5, z6, z7, z8, z9, y1, y2, y3] at hb2
    refine EV_skip ?_
    refine ⟨_, W_keep2 [(5, V.c (.d false (encH (limbsH (val l))))), (6, V.c (.d false (encH (limbsH (val m))))), (7, V.c (.own 1 145 1 true (List.map (fun x => [ih x]) r))), (8, vi .i64 (_)), (9, vi .i64 i)] [(1, .row)] ⟨rfl, rfl, rfl, rfl, rfl, trivial⟩ ⟨rfl, trivial⟩ rfl, _, rfl, ?_⟩
    have hz := rd_ge (l := (limbsH (val m))) (n := i.toNat) (by omega)
    rw [ei] at hz
    rw [wrap_in (by omega) (by omega)]; omega
  ·rintro S ⟨e, rfl, he⟩
   refine EV_seq (EV_region ?_)
   refine EVo_t rfl (T_move rfl) ?_
   refine EVo_t rfl (T_move rfl) ?_
   refine EVo_t rfl (T_conv (uOk rfl) (uOk rfl) rfl) ?_
   refine EVo_t rfl (T_conv (uOk rfl) (uOk rfl) rfl) ?_
   refine EVo_e rfl (D_buildSlice (uOk rfl) bz145 rfl rfl rfl (by simp)) ?_
   refine EVo_e rfl (D_append (uOk rfl) ap145 (by decide) rfl rfl (hE 1 rfl) Free_no rfl rfl (by simp) (by simp; omega) (by simp; omega)) ?_
   refine EVo_t rfl (T_assign rfl) ?_
   refine EVo_nil ?_
   refine EV_region ?_
   refine EVo_t rfl (T_move rfl) ?_
   refine EVo_t rfl (T_shrK rfl rfl rfl rfl) ?_
   refine EVo_t rfl (T_assign rfl) ?_
   refine EVo_nil ?_
   refine EV_region ?_
   refine EVo_t rfl (T_move rfl) ?_
   refine EVo_t rfl (T_binI rfl rfl rfl (by omega) (by omega)) ?_
   refine EVo_t rfl (T_assign rfl) ?_
   refine EVo_nil ?_
   refine ⟨_, ?_, _, W_keep2 [(5, V.c (.d false (encH (limbsH (val l))))), (6, V.c (.d false (encH (limbsH (val m))))), (7, V.c (.own 1 145 1 true (List.map (fun x => [ih x]) (r ++ [_])))), (8, vi .i64 (_)), (9, vi .i64 (i + 1))] [(1, .row)] ⟨rfl, rfl, (own_app rfl), rfl, rfl, trivial⟩ ⟨rfl, trivial⟩ rfl, i + 1, _, r ++ [_], rfl, rfl, ?_⟩
   ·omega
   ·have e2 : (i + 1).toNat = i.toNat + 1 := by omega
    have hst := less_step (i := i.toNat) (e := e) oX oY h4 h2.1 h2.2 (by rw [ei]; exact he) h5
    refine ⟨by omega, by omega, ⟨hst.2.1, hst.2.2.1⟩, okL_appendH.2 ⟨h3, ?_⟩, by (simp <;> omega), by rw [e2]; exact hst.1⟩
    intro y hy
    simp at hy
    rw [hy]; exact hst.2.2.2
 ·try simp only [z1, z2, z3, z4, z5, z6, z7, z8, z9, y1, y2, y3] at hb1
  refine EV_exit ?_
  refine EV_seq (EV_region ?_)
  refine EVo_t rfl (T_move rfl) ?_
  refine EVo_e rfl (D_call false (ref_cut _ (by omega) (by assumption)) rfl (fit_cons (fit_d rfl nofun) (fit_nil))) ?_
  refine EVo_e rfl (D_call false (ref_whole _ (Nat.le_trans (limbs_len_leH (val_ltH h3)) (by omega)) (okL_limbsH _)) rfl (fit_cons (fit_d rfl nofun) (fit_nil))) ?_
  refine EVo_t rfl (T_assign rfl) ?_
  refine EVo_nil ?_
  refine EV_ret ?_
  have e2 : i.toNat = (limbsH (val l)).length := by omega
  have hYX : (limbsH (val m)).length ≤ (limbsH (val l)).length := limbs_len_leH (Nat.lt_of_le_of_lt hle (by have := val_ltH oX; rwa [val_limbsH] at this))
  have hlt := val_ltH h3
  rw [h4, e2] at hlt
  rw [e2, List.take_of_length_le hYX, List.take_of_length_le (Nat.le_refl (limbsH (val l)).length), val_limbsH, val_limbsH] at h5
  have hc : (-c).toNat = 0 ∨ (-c).toNat = 1 := by omega
  have hv : valH r = val l - val m := by
   rcases hc with hc | hc <;> rw [hc] at h5 <;> omega
  refine ⟨_, ⟨rfl, rfl⟩, fit_eq rfl nofun ?_⟩
  ·rw [val_limbsH, hv]

end Go.Proofs.YthaiegnohkiegaaGreat.Ab
/-
 Halves of limbs: products, short division: plain arithmetic (the laws of limbs, at half the base).
-/
namespace Go.Proofs.YthaiegnohkiegaaGreat.Ab
set_option linter.unusedVariables false
set_option linter.unusedSimpArgs false

theorem val_take_zeroH {l : List Int} {n : Nat} (hz : ∀ i : Nat, n ≤ i → i < l.length → rd l i = 0) : valH l = valH (l.take n) := by
 have : valH l = valH (l.take n) + 4294967296 ^ (l.take n).length * valH (l.drop n) := by rw [← val_appendH, List.take_append_drop]
 rw [this, val_zeroH (l := l.drop n)]
 ·simp
 ·intro x hx
  obtain ⟨i, hi, rfl⟩ := List.getElem_of_mem hx
  have hi' : n + i < l.length := by simp at hi; omega
  have := hz (n + i) (by omega) hi'
  rw [List.getElem_drop]
  have e : rd l (((n + i : Nat)) : Int) = l[n + i] := by unfold rd; rw [Int.toNat_natCast]; simp [hi']
  rw [← e]; exact this
theorem rd_dropH {c l : List Int} {i j : Nat} (h : c.drop i = l.drop i) (hj : i ≤ j) : rd c j = rd l j := by
 have := congrArg (·[j - i]?) h
 simp only [List.getElem?_drop, show i + (j - i) = j by omega] at this
 simp [rd, List.getD_eq_getElem?_getD, this]
theorem mul_stepH {m c c2 : List Int} {i k : Nat} {x cy s cy' : Int} (hc : i + k < c2.length) (hck : okLH c) (hm : okLH m) (hx : 0 ≤ x) (hcy : 0 ≤ cy) (hs : 0 ≤ s) (hcy' : 0 ≤ cy')
  (inv : valH (c2.take (i + k)) + 4294967296 ^ (i + k) * cy.toNat = valH (c.take (i + k)) + 4294967296 ^ i * (x.toNat * valH (m.take k)))
  (hF : x * rd m k + cy + rd c ((i + k : Nat) : Int) = s + 4294967296 * cy') :
  valH ((c2.set (i + k) s).take (i + k + 1)) + 4294967296 ^ (i + k + 1) * cy'.toNat = valH (c.take (i + k + 1)) + 4294967296 ^ i * (x.toNat * valH (m.take (k + 1))) := by
 rw [val_set_takeH hc, val_take_succ'H, val_take_succ'H]
 have a1 := (okL_rdH hm k).1
 have a2 := (okL_rdH hck ((i + k : Nat) : Int)).1
 generalize rd m k = y at *
 generalize rd c ((i + k : Nat) : Int) = r at *
 obtain ⟨x, rfl⟩ := Int.eq_ofNat_of_zero_le hx
 obtain ⟨y, rfl⟩ := Int.eq_ofNat_of_zero_le a1
 obtain ⟨cy, rfl⟩ := Int.eq_ofNat_of_zero_le hcy
 obtain ⟨r, rfl⟩ := Int.eq_ofNat_of_zero_le a2
 obtain ⟨s, rfl⟩ := Int.eq_ofNat_of_zero_le hs
 obtain ⟨cy', rfl⟩ := Int.eq_ofNat_of_zero_le hcy'
 simp only [Int.toNat_natCast] at *
 have e : x * y + cy + r = s + 4294967296 * cy' := by
  apply Int.ofNat_inj.1
  rw [Int.natCast_add, Int.natCast_add, Int.natCast_mul, Int.natCast_add, Int.natCast_mul]
  exact hF
 have e2 := congrArg (4294967296 ^ (i + k) * ·) e
 simp only [Nat.mul_add] at e2
 have e3 : 4294967296 ^ i * (x * (valH (m.take k) + 4294967296 ^ k * y)) = 4294967296 ^ i * (x * valH (m.take k)) + 4294967296 ^ (i + k) * (x * y) := by
  rw [Nat.mul_add, Nat.mul_add, Nat.pow_add, Nat.mul_left_comm x, ← Nat.mul_assoc (4294967296 ^ i) (4294967296 ^ k)]
 rw [e3, Nat.pow_succ, Nat.mul_assoc]
 omega
theorem mul_endH {l m c c2 : List Int} {i : Nat} {cy : Int} (hl : okLH l) (hi : i < l.length) (hlen : c.length = l.length + m.length) (hz : ∀ j : Nat, i + m.length ≤ j → j < c.length → rd c j = 0)
  (hlen2 : c2.length = c.length) (hd : c2.drop (i + m.length) = c.drop (i + m.length)) (hcy : 0 ≤ cy)
  (g5 : valH (c2.take (i + m.length)) + 4294967296 ^ (i + m.length) * cy.toNat = valH (c.take (i + m.length)) + 4294967296 ^ i * ((rd l i).toNat * valH m)) (h5 : valH c = valH (l.take i) * valH m) :
  valH (c2.set (i + m.length) cy) = valH (l.take (i + 1)) * valH m ∧ ∀ j : Nat, i + 1 + m.length ≤ j → j < c.length → rd (c2.set (i + m.length) cy) j = 0 := by
 have h2 : ∀ j : Nat, i + 1 + m.length ≤ j → j < c.length → rd (c2.set (i + m.length) cy) j = 0 := fun j h1 h2 => by
  rw [rd_set_neH (by omega), rd_dropH hd (by omega)]
  exact hz j (by omega) h2
 refine ⟨?_, h2⟩
 rw [val_take_zeroH (n := i + m.length + 1) (l := c2.set _ _) (fun j h1 h3 => h2 j (by omega) (by simpa [hlen2] using h3)), val_set_takeH (by omega), g5, val_take_succ'H, Nat.add_mul, ← h5, val_take_zeroH (l := c) hz, Nat.mul_assoc]


theorem dw_stepH {l c : List Int} {i : Nat} {b q rest rest' : Int} (hi : i < l.length) (hc : c.length = l.length) (hk : okLH l) (hq : 0 ≤ q) (inv : (valH (l.drop (i + 1)) : Int) = b * (valH (c.drop (i + 1)) : Int) + rest)
  (hF : q * b + rest' = rest * 4294967296 + rd l i) : (valH (l.drop i) : Int) = b * (valH ((c.set i q).drop i) : Int) + rest' := by
 rw [drop_rdH hi, set_drop_self (by omega)]
 simp only [valH]
 have h1 := (okL_rdH hk i).1
 have e1 : (((rd l i).toNat + 4294967296 * valH (l.drop (i + 1)) : Nat) : Int) = rd l i + 4294967296 * (valH (l.drop (i + 1)) : Int) := by omega
 have e2 : ((q.toNat + 4294967296 * valH (c.drop (i + 1)) : Nat) : Int) = q + 4294967296 * (valH (c.drop (i + 1)) : Int) := by omega
 rw [e1, e2, inv, Int.mul_add b, Int.mul_left_comm b, Int.mul_comm b q]
 omega
theorem div_bdH {hi lo b : Int} (h0 : 0 ≤ hi) (h1 : hi < b) (h2 : 0 ≤ lo) (h3 : lo < 4294967296) : 0 ≤ (hi * 4294967296 + lo) / b ∧ (hi * 4294967296 + lo) / b < 4294967296 ∧
  0 ≤ (hi * 4294967296 + lo) % b ∧ (hi * 4294967296 + lo) % b < b ∧ (hi * 4294967296 + lo) / b * b + (hi * 4294967296 + lo) % b = hi * 4294967296 + lo := by
 refine ⟨Int.ediv_nonneg (by omega) (by omega), div_lt (by omega) (by omega), Int.emod_nonneg _ (by omega), Int.emod_lt_of_pos _ (by omega), ?_⟩
 have := Int.mul_ediv_add_emod (hi * 4294967296 + lo) b
 rw [Int.mul_comm b] at this
 exact this
theorem dw_endH {L C : Nat} {b rest : Int} (h : (L : Int) = b * (C : Int) + rest) (h0 : 0 ≤ rest) (h1 : rest < b) : C = L / b.toNat ∧ rest = ((L % b.toNat : Nat) : Int) := by
 obtain ⟨B, rfl⟩ := Int.eq_ofNat_of_zero_le (show 0 ≤ b by omega)
 obtain ⟨r, rfl⟩ := Int.eq_ofNat_of_zero_le h0
 simp only [Int.toNat_natCast]
 have h2 : L = B * C + r := by
  have : ((B * C + r : Nat) : Int) = (B : Int) * C + r := by rw [Int.natCast_add, Int.natCast_mul]
  omega
 subst h2
 have hr : r < B := by omega
 rw [Nat.mul_add_div (by omega), Nat.mul_add_mod, Nat.div_eq_of_lt hr, Nat.mod_eq_of_lt hr]
 exact ⟨by omega, rfl⟩

end Go.Proofs.YthaiegnohkiegaaGreat.Ab
/-
 Contracts of the reference: products, short division, length.
-/
namespace Go.Proofs.YthaiegnohkiegaaGreat.Ab
set_option linter.unusedVariables false
set_option linter.unusedSimpArgs false
set_option maxRecDepth 20000


theorem ref_Times (l m : List Int) (hl : l.length ≤ 4398046511104) (hm : m.length ≤ 4398046511104) (hk : okL l) (hkm : okL m) : Fn Tryz.prog 65 [.d (encN l), .d (encN m)] false (.one (.d (encN (limbs (val l * val m))))) := by
 have hX := halves_len hk
 have hY := halves_len hkm
 have oX := okL_limbsH (val l)
 have oY := okL_limbsH (val m)
 refine Fn_of_EV Tryz.func65 rfl (by kernel_rfl) rfl rfl (fun E hE => ?_)
 refine EV_seq (EV_region ?_)
 refine EVo_t rfl (T_assign rfl) ?_
 refine EVo_nil (EV_seq (EV_region ?_))
 refine EVo_t rfl (T_move rfl) ?_
 refine EVo_e rfl (D_call false (ref_halves _ (by omega) (by assumption)) rfl (fit_cons (fit_d rfl nofun) (fit_nil))) ?_
 refine EVo_t rfl (T_assign rfl) ?_
 refine EVo_nil (EV_seq (EV_region ?_))
 refine EVo_t rfl (T_move rfl) ?_
 refine EVo_e rfl (D_call false (ref_halves _ (by omega) (by assumption)) rfl (fit_cons (fit_d rfl nofun) (fit_nil))) ?_
 refine EVo_t rfl (T_assign rfl) ?_
 refine EVo_nil (EV_seq (EV_region ?_))
 refine EVo_t rfl (T_move rfl) ?_
 refine EVo_t rfl (T_lenL (uOk rfl) rfl) ?_
 refine EVo_t rfl (T_move rfl) ?_
 refine EVo_t rfl (T_lenL (uOk rfl) rfl) ?_
 refine EVo_t rfl (T_binI rfl rfl rfl (by omega) (by omega)) ?_
 refine EVo_e rfl (D_makeL 1 (hE 1 rfl) Free_no (uOk rfl) ap145 rfl (by omega) (by omega) (by omega)) ?_
 refine EVo_t rfl (T_assign rfl) ?_
 refine EVo_nil ?_
 refine EV_seq ?_
 refine EV_seq (EV_region ?_)
 refine EVo_t rfl (T_assign rfl) ?_
 refine EVo_nil ?_
 refine EV_block ?_
 refine EV_weak (W_keep2 [(5, V.c (.d false (encH (limbsH (val l))))), (6, V.c (.d false (encH (limbsH (val m))))), (7, V.c (.msl 1 0 (((limbsH (val l)).length : Int) + (limbsH (val m)).length).toNat (((limbsH (val l)).length : Int) + (limbsH (val m)).length).toNat)), (8, vi .i64 (_))] [(1, .box (List.map (ci .u32) (_)))] ⟨rfl, rfl, rfl, rfl, trivial⟩ ⟨rfl, trivial⟩ rfl) ?_
 refine EV_loop (fun mm S => ∃ i : Int, ∃ c : List Int, mm = (((limbsH (val l)).length : Int) - i).toNat ∧ S = St.of [(5, V.c (.d false (encH (limbsH (val l))))), (6, V.c (.d false (encH (limbsH (val m))))), (7, V.c (.msl 1 0 (((limbsH (val l)).length : Int) + (limbsH (val m)).length).toNat (((limbsH (val l)).length : Int) + (limbsH (val m)).length).toNat)), (8, vi .i64 i)] (tabO [(1, .box (List.map (ci .u32) c))]) 74 ∧ 0 ≤ i ∧ i ≤ (limbsH (val l)).length ∧ c.length = (limbsH (val l)).length + (limbsH (val m)).length ∧ okLH c ∧ (∀ j : Nat, i + (limbsH (val m)).length ≤ j → j < c.length → rd c j = 0) ∧ valH c = valH ((limbsH (val l)).take i.toNat) * valH (limbsH (val m))) _ ⟨_, _, rfl, rfl, ⟨by omega, by omega, by simp; omega, okL_repH _, fun j _ _ => rd_rep _ _, by rw [val_repH]; simp [valH]⟩⟩ ?_
 rintro mm S ⟨i, c, rfl, rfl, ⟨h0, h1, h2, h3, h4, h5⟩⟩
 refine EV_seq ?_
 refine EV_seq (EV_region ?_)
 refine EVo_t rfl (T_move rfl) ?_
 refine EVo_t rfl (T_move rfl) ?_
 refine EVo_t rfl (T_lenL (uOk rfl) rfl) ?_
 refine EVo_t rfl (T_bin rfl rfl rfl) ?_
 refine EVo_nil ?_
 refine EV_cond rfl rfl rfl (fun hb1 => ?_) (fun hb1 => ?_)
 ·try simp only [z1, z2, z3, z4, z5, z6, z7, z8, z9, y1, y2, y3] at hb1
  refine EV_skip ?_
  refine EV_seq ?_
  refine EV_block ?_
  refine EV_seq (EV_region ?_)
  refine EVo_t rfl (T_assign rfl) ?_
  refine EVo_nil ?_
  refine EV_seq ?_
  refine EV_seq (EV_region ?_)
  refine EVo_t rfl (T_assign rfl) ?_
  refine EVo_nil ?_
  refine EV_block ?_
  refine EV_weak (W_keep2 [(5, V.c (.d false (encH (limbsH (val l))))), (6, V.c (.d false (encH (limbsH (val m))))), (7, V.c (.msl 1 0 (((limbsH (val l)).length : Int) + (limbsH (val m)).length).toNat (((limbsH (val l)).length : Int) + (limbsH (val m)).length).toNat)), (8, vi .i64 i), (9, vi .u64 (_)), (10, vi .i64 (_))] [(1, .box (List.map (ci .u32) (_)))] ⟨rfl, rfl, rfl, rfl, rfl, rfl, trivial⟩ ⟨rfl, trivial⟩ rfl) ?_
  refine EV_loop (fun mm S => ∃ k : Int, ∃ cy : Int, ∃ c2 : List Int, mm = (((limbsH (val m)).length : Int) - k).toNat ∧ S = St.of [(5, V.c (.d false (encH (limbsH (val l))))), (6, V.c (.d false (encH (limbsH (val m))))), (7, V.c (.msl 1 0 (((limbsH (val l)).length : Int) + (limbsH (val m)).length).toNat (((limbsH (val l)).length : Int) + (limbsH (val m)).length).toNat)), (8, vi .i64 i), (9, vi .u64 cy), (10, vi .i64 k)] (tabO [(1, .box (List.map (ci .u32) c2))]) 74 ∧ 0 ≤ k ∧ k ≤ (limbsH (val m)).length ∧ (0 ≤ cy ∧ cy < 4294967296) ∧ c2.length = c.length ∧ okLH c2 ∧ c2.drop (i.toNat + k.toNat) = c.drop (i.toNat + k.toNat) ∧ valH (c2.take (i.toNat + k.toNat)) + 4294967296 ^ (i.toNat + k.toNat) * cy.toNat = valH (c.take (i.toNat + k.toNat)) + 4294967296 ^ i.toNat * ((rd (limbsH (val l)) i).toNat * valH ((limbsH (val m)).take k.toNat))) _ ⟨_, _, _, rfl, rfl, ⟨by omega, by omega, by omega, rfl, h3, rfl, by simp [valH]⟩⟩ ?_
  rintro mm S ⟨k, cy, c2, rfl, rfl, ⟨g0, g1, g2, g3, g4, g6, g5⟩⟩
  refine EV_seq ?_
  refine EV_seq (EV_region ?_)
  refine EVo_t rfl (T_move rfl) ?_
  refine EVo_t rfl (T_move rfl) ?_
  refine EVo_t rfl (T_lenL (uOk rfl) rfl) ?_
  refine EVo_t rfl (T_bin rfl rfl rfl) ?_
  refine EVo_nil ?_
  refine EV_cond rfl rfl rfl (fun hb2 => ?_) (fun hb2 => ?_)
  ·try simp only [z1, z2, z3, z4, z5, z6, z7, z8, z9, y1, y2, y3] at hb2
   refine EV_skip ?_
   refine EV_seq ?_
   refine EV_block ?_
   refine EV_seq ?_
   refine EV_draw (inX [1]) (.st 0 (.st 1 (.st 2 (.st 3 (.st 4 (.st 5 (.st 6 (.st 7 (.st 8 (.st 9 (.st 10 (.st 11 (.st 12 (.st 13 (.st 14 (.st 15 (.st 16 (.st 17 (.st 18 (.st 19 (.st 20 (.st 21 .done)))))))))))))))))))))) Tryz.mixed (by kernel_rfl) ?_
   refine EVq_t rfl rfl (T_move rfl) ?_
   refine EVq_t rfl rfl (T_move rfl) ?_
   refine EVq_t rfl rfl (T_move rfl) ?_
   refine EVq_t rfl rfl (T_move rfl) ?_
   refine EVq_t rfl rfl (T_binI rfl rfl rfl (by omega) (by omega)) ?_
   refine EVq_t rfl rfl (T_indexAddrM (uOk rfl) (zOk rfl) rfl rfl (by omega) (by omega)) ?_
   refine EVq_t rfl rfl (T_loadL (gOk rfl) rfl rfl (by omega) rfl rfl) ?_
   refine EVq_t rfl rfl (T_conv (uOk rfl) (uOk rfl) rfl) ?_
   refine EVq_t rfl rfl (T_bin rfl rfl rfl) ?_
   refine EVq_t rfl rfl (T_move rfl) ?_
   refine EVq_t rfl rfl (T_move rfl) ?_
   refine EVq_t rfl rfl (T_ixL (uOk rfl) (zOk rfl) rfl rfl (by omega) (by omega) rfl) ?_
   refine EVq_t rfl rfl (T_load (gOk rfl) rfl) ?_
   refine EVq_t rfl rfl (T_conv (uOk rfl) (uOk rfl) rfl) ?_
   refine EVq_t rfl rfl (T_move rfl) ?_
   refine EVq_t rfl rfl (T_move rfl) ?_
   refine EVq_t rfl rfl (T_ixL (uOk rfl) (zOk rfl) rfl rfl (by omega) (by omega) rfl) ?_
   refine EVq_t rfl rfl (T_load (gOk rfl) rfl) ?_
   refine EVq_t rfl rfl (T_conv (uOk rfl) (uOk rfl) rfl) ?_
   refine EVq_t rfl rfl (T_bin rfl rfl rfl) ?_
   refine EVq_t rfl rfl (T_bin rfl rfl rfl) ?_
   refine EVq_t rfl rfl (T_assign rfl) ?_
   refine EVq_done ?_
   refine EV_seq (EV_region ?_)
   refine EVo_t rfl (T_move rfl) ?_
   refine EVo_t rfl (T_move rfl) ?_
   refine EVo_t rfl (T_move rfl) ?_
   refine EVo_t rfl (T_binI rfl rfl rfl (by omega) (by omega)) ?_
   refine EVo_t rfl (T_move rfl) ?_
   refine EVo_t rfl (T_conv (uOk rfl) (uOk rfl) rfl) ?_
   refine EVo_t rfl (T_indexAddrM (uOk rfl) (zOk rfl) rfl rfl (by omega) (by omega)) ?_
   refine EVo_e rfl (D_storeL rfl Free_no rfl rfl (zOk rfl) (by omega)) ?_
   refine EVo_nil ?_
   refine EV_region ?_
   refine EVo_t rfl (T_move rfl) ?_
   refine EVo_t rfl (T_shrK rfl rfl rfl rfl) ?_
   refine EVo_t rfl (T_assign rfl) ?_
   refine EVo_nil ?_
   refine EV_region ?_
   refine EVo_t rfl (T_move rfl) ?_
   refine EVo_t rfl (T_binI rfl rfl rfl (by omega) (by omega)) ?_
   refine EVo_t rfl (T_assign rfl) ?_
   refine EVo_nil ?_
   have e0 : 0 + (i + k).toNat * 1 = i.toNat + k.toNat := by omega
   have hci := getD_drop g6
   have hx := okL_rdH oX i
   have hy := okL_rdH oY k
   have hr := okL_rdH h3 ((i.toNat + k.toNat : Nat) : Int)
   have hp := mul_bd (n := 4294967295) (m := 4294967295) hx.1 hy.1 (by omega) (by omega)
   have e1 : (k + 1).toNat = k.toNat + 1 := by omega
   have ek : ((k.toNat : Nat) : Int) = k := by omega
   have ewx : IntKind.u64.wrap (rd (limbsH (val l)) i) = rd (limbsH (val l)) i := u64_in hx.1 (by omega)
   have ewy : IntKind.u64.wrap (rd (limbsH (val m)) k) = rd (limbsH (val m)) k := u64_in hy.1 (by omega)
   simp only [e0, hci, ewx, ewy, u64_wrap, u32_wrap'] at *
   refine ⟨_, ?_, _, W_keep2 [(5, V.c (.d false (encH (limbsH (val l))))), (6, V.c (.d false (encH (limbsH (val m))))), (7, V.c (.msl 1 0 (((limbsH (val l)).length : Int) + (limbsH (val m)).length).toNat (((limbsH (val l)).length : Int) + (limbsH (val m)).length).toNat)), (8, vi .i64 i), (9, vi .u64 (_)), (10, vi .i64 (_))] [(1, .box (List.map (ci .u32) (_)))] ⟨rfl, rfl, rfl, rfl, rfl, rfl, trivial⟩ ⟨rfl, trivial⟩ rfl, _, _, _, rfl, rfl, ?_⟩
   ·omega
   ·refine ⟨by omega, by omega, by omega, by simpa using g3, okL_setH g4 _ (by omega), ?_, ?_⟩
    ·rw [e1, ← Nat.add_assoc]; exact set_drop g6
    rw [e1, ← Nat.add_assoc]
    refine mul_stepH (by omega) h3 oY hx.1 g2.1 (by omega) (by omega) g5 ?_
    rw [ek]
    omega
  ·try simp only [z1, z2, z3, z4, z5, z6, z7, z8, z9, y1, y2, y3] at hb2
   refine EV_exit ?_
   refine EV_region ?_
   refine EVo_t rfl (T_move rfl) ?_
   refine EVo_t rfl (T_move rfl) ?_
   refine EVo_t rfl (T_move rfl) ?_
   refine EVo_t rfl (T_lenL (uOk rfl) rfl) ?_
   refine EVo_t rfl (T_binI rfl rfl rfl (by omega) (by omega)) ?_
   refine EVo_t rfl (T_move rfl) ?_
   refine EVo_t rfl (T_conv (uOk rfl) (uOk rfl) rfl) ?_
   refine EVo_t rfl (T_indexAddrM (uOk rfl) (zOk rfl) rfl rfl (by omega) (by omega)) ?_
   refine EVo_e rfl (D_storeL rfl Free_no rfl rfl (zOk rfl) (by omega)) ?_
   refine EVo_nil ?_
   refine EV_region ?_
   refine EVo_t rfl (T_move rfl) ?_
   refine EVo_t rfl (T_binI rfl rfl rfl (by omega) (by omega)) ?_
   refine EVo_t rfl (T_assign rfl) ?_
   refine EVo_nil ?_
   have e1 : (i + 1).toNat = i.toNat + 1 := by omega
   have ek : k.toNat = (limbsH (val m)).length := by omega
   have e0 : 0 + (i + ((limbsH (val m)).length : Int)).toNat * 1 = i.toNat + (limbsH (val m)).length := by omega
   have ecy : IntKind.u32.wrap cy = cy := by rw [u32_wrap']; omega
   simp only [e0, ecy]
   rw [ek] at g5 g6
   rw [List.take_of_length_le (Nat.le_refl (limbsH (val m)).length)] at g5
   have hend := mul_endH (i := i.toNat) oX (by omega) h2 (fun j q1 q2 => h4 j (by omega) q2) g3 g6 g2.1 (by rw [Int.toNat_of_nonneg h0]; exact g5) h5
   refine ⟨_, ?_, _, W_keep2 [(5, V.c (.d false (encH (limbsH (val l))))), (6, V.c (.d false (encH (limbsH (val m))))), (7, V.c (.msl 1 0 (((limbsH (val l)).length : Int) + (limbsH (val m)).length).toNat (((limbsH (val l)).length : Int) + (limbsH (val m)).length).toNat)), (8, vi .i64 (_))] [(1, .box (List.map (ci .u32) (_)))] ⟨rfl, rfl, rfl, rfl, trivial⟩ ⟨rfl, trivial⟩ rfl, _, _, rfl, rfl, ?_⟩
   ·omega
   ·refine ⟨by omega, by omega, by simp; omega, okL_setH g4 _ g2, fun j q1 q2 => hend.2 j (by omega) (by simpa [g3] using q2), ?_⟩
    rw [e1]; exact hend.1
 ·try simp only [z1, z2, z3, z4, z5, z6, z7, z8, z9, y1, y2, y3] at hb1
  refine EV_exit ?_
  refine EV_seq (EV_region ?_)
  refine EVo_t rfl (T_move rfl) ?_
  refine EVo_weak (W_freezeL 71 1 _ _ _ (hE 1 rfl) rfl rfl rfl (by omega) (by omega)) ?_
  refine EVo_e rfl (D_call false (ref_cut _ (by simp; omega) (okL_takeH (okL_dropH h3 _) _)) rfl (fit_cons (fit_d rfl nofun) (fit_nil))) ?_
  refine EVo_e rfl (D_call false (ref_whole _ (Nat.le_trans (limbs_len_leH (val_ltH (okL_takeH (okL_dropH h3 0) (((limbsH (val l)).length : Int) + (limbsH (val m)).length).toNat))) (by simp; omega)) (okL_limbsH _)) rfl (fit_cons (fit_d rfl nofun) (fit_nil))) ?_
  refine EVo_t rfl (T_assign rfl) ?_
  refine EVo_nil ?_
  refine EV_ret ?_
  refine ⟨_, ⟨rfl, rfl⟩, fit_eq rfl nofun ?_⟩
  ·have e2 : i.toNat = (limbsH (val l)).length := by omega
   rw [e2, List.take_of_length_le (Nat.le_refl _), val_limbsH, val_limbsH] at h5
   rw [val_limbsH, List.drop_zero, List.take_of_length_le (by omega), h5]

theorem ref_short (l : List Int) (d : Int) (hl : l.length ≤ 17592186044416) (hk : okLH l) (hd0 : 0 < d) (hd1 : d < 4294967296) : Fn Tryz.prog 146 [.d (encH l), .d (ih d)] false (.tup [.d (encH (limbsH (valH l / d.toNat))), .d (ih ((valH l % d.toNat : Nat) : Int))]) := by
 have ewd : IntKind.u64.wrap d = d := u64_in (by omega) (by omega)
 refine Fn_of_EV Tryz.func146 rfl (by kernel_rfl) rfl rfl (fun E hE => ?_)
 refine EV_seq (EV_region ?_)
 refine EVo_t rfl (T_assign rfl) ?_
 refine EVo_t rfl (T_assign rfl) ?_
 refine EVo_nil (EV_seq (EV_region ?_))
 refine EVo_t rfl (T_move rfl) ?_
 refine EVo_t rfl (T_lenL (uOk rfl) rfl) ?_
 refine EVo_e rfl (D_makeL 1 (hE 1 rfl) Free_no (uOk rfl) ap145 rfl (by omega) (by omega) (by omega)) ?_
 refine EVo_t rfl (T_assign rfl) ?_
 refine EVo_nil (EV_seq (EV_region ?_))
 refine EVo_t rfl (T_assign rfl) ?_
 refine EVo_nil ?_
 refine EV_seq ?_
 refine EV_seq (EV_region ?_)
 refine EVo_t rfl (T_move rfl) ?_
 refine EVo_t rfl (T_lenL (uOk rfl) rfl) ?_
 refine EVo_t rfl (T_binI rfl rfl rfl (by omega) (by omega)) ?_
 refine EVo_t rfl (T_assign rfl) ?_
 refine EVo_nil ?_
 refine EV_block ?_
 refine EV_weak (W_keep2 [(0, V.c (.d false (encH l))), (1, V.c (.d true (ih d))), (6, V.c (.msl 1 0 ((l.length : Int)).toNat ((l.length : Int)).toNat)), (7, vi .u64 (_)), (8, vi .i64 (_))] [(1, .box (List.map (ci .u32) (_)))] ⟨rfl, rfl, rfl, rfl, rfl, trivial⟩ ⟨rfl, trivial⟩ rfl) ?_
 refine EV_loop (fun mm S => ∃ i : Int, ∃ rest : Int, ∃ c : List Int, mm = (i + 1).toNat ∧ S = St.of [(0, V.c (.d false (encH l))), (1, V.c (.d true (ih d))), (6, V.c (.msl 1 0 ((l.length : Int)).toNat ((l.length : Int)).toNat)), (7, vi .u64 rest), (8, vi .i64 i)] (tabO [(1, .box (List.map (ci .u32) c))]) 43 ∧ -1 ≤ i ∧ i < l.length ∧ (0 ≤ rest ∧ rest < d) ∧ c.length = l.length ∧ okLH c ∧ (valH (l.drop (i + 1).toNat) : Int) = d * (valH (c.drop (i + 1).toNat) : Int) + rest) _ ⟨_, _, _, rfl, rfl, ⟨by omega, by omega, by omega, by simp, okL_repH _, by rw [List.drop_of_length_le (by omega), List.drop_of_length_le (by simp)]; simp [valH]⟩⟩ ?_
 rintro mm S ⟨i, rest, c, rfl, rfl, ⟨h0, h1, h2, h3, h4, h5⟩⟩
 refine EV_seq ?_
 refine EV_seq (EV_region ?_)
 refine EVo_t rfl (T_move rfl) ?_
 refine EVo_t rfl (T_bin rfl rfl rfl) ?_
 refine EVo_nil ?_
 refine EV_cond rfl rfl rfl (fun hb1 => ?_) (fun hb1 => ?_)
 ·try simp only [z1, z2, z3, z4, z5, z6, z7, z8, z9, y1, y2, y3] at hb1
  have hx := okL_rdH hk i
  have ei : (i.toNat : Int) = i := by omega
  have hd := div_bdH h2.1 h2.2 hx.1 hx.2
  have hor := or_shl h2.1 (by omega) hx.1 hx.2
  refine EV_skip ?_
  refine EV_seq ?_
  refine EV_block ?_
  refine EV_seq (EV_region ?_)
  refine EVo_t rfl (T_move rfl) ?_
  refine EVo_t rfl (T_shlK rfl rfl rfl rfl) ?_
  refine EVo_t rfl (T_move rfl) ?_
  refine EVo_t rfl (T_move rfl) ?_
  refine EVo_t rfl (T_ixL (uOk rfl) (zOk rfl) rfl rfl (by omega) (by omega) rfl) ?_
  refine EVo_t rfl (T_load (gOk rfl) rfl) ?_
  refine EVo_t rfl (T_conv (uOk rfl) (uOk rfl) rfl) ?_
  refine EVo_t rfl (T_bin rfl rfl rfl) ?_
  refine EVo_t rfl (T_assign rfl) ?_
  refine EVo_nil (EV_seq (EV_region ?_))
  refine EVo_t rfl (T_move rfl) ?_
  refine EVo_t rfl (T_move rfl) ?_
  refine EVo_t rfl (T_move rfl) ?_
  refine EVo_t rfl (T_move rfl) ?_
  refine EVo_t rfl (T_conv (uOk rfl) (uOk rfl) rfl) ?_
  refine EVo_t rfl (T_quoU rfl rfl (by rw [hor]; omega) (by rw [ewd]; omega) (by rw [hor]; omega)) ?_
  refine EVo_t rfl (T_conv (uOk rfl) (uOk rfl) rfl) ?_
  refine EVo_t rfl (T_indexAddrM (uOk rfl) (zOk rfl) rfl rfl (by omega) (by omega)) ?_
  refine EVo_e rfl (D_storeL rfl Free_no rfl rfl (zOk rfl) (by omega)) ?_
  refine EVo_nil ?_
  refine EV_region ?_
  refine EVo_t rfl (T_move rfl) ?_
  refine EVo_t rfl (T_move rfl) ?_
  refine EVo_t rfl (T_conv (uOk rfl) (uOk rfl) rfl) ?_
  refine EVo_t rfl (T_remN rfl rfl (by rw [hor]; omega) (by rw [ewd]; omega) (by rw [hor]; omega)) ?_
  refine EVo_t rfl (T_assign rfl) ?_
  refine EVo_nil ?_
  refine EV_region ?_
  refine EVo_t rfl (T_move rfl) ?_
  refine EVo_t rfl (T_binI rfl rfl rfl (by omega) (by omega)) ?_
  refine EVo_t rfl (T_assign rfl) ?_
  refine EVo_nil ?_
  refine ⟨_, ?_, _, W_keep2 [(0, V.c (.d false (encH l))), (1, V.c (.d true (ih d))), (6, V.c (.msl 1 0 ((l.length : Int)).toNat ((l.length : Int)).toNat)), (7, vi .u64 (_)), (8, vi .i64 (_))] [(1, .box (List.map (ci .u32) (_)))] ⟨rfl, rfl, rfl, rfl, rfl, trivial⟩ ⟨rfl, trivial⟩ rfl, _, _, _, rfl, rfl, ?_⟩
  ·omega
  ·have e1 : (i - 1 + 1).toNat = i.toNat := by omega
   have e2 : (i + 1).toNat = i.toNat + 1 := by omega
   have e0 : 0 + i.toNat * 1 = i.toNat := by omega
   have ewq : IntKind.u32.wrap ((rest * 4294967296 + rd l i) / d) = (rest * 4294967296 + rd l i) / d := by rw [u32_wrap']; exact Int.emod_eq_of_lt hd.1 hd.2.1
   rw [e1, e0]
   simp only [hor, ewd, ewq]
   refine ⟨by omega, by omega, ⟨hd.2.2.1, hd.2.2.2.1⟩, by simpa using h3, okL_setH h4 _ ⟨hd.1, hd.2.1⟩, ?_⟩
   refine dw_stepH (by omega) h3 hk hd.1 (by rw [← e2]; exact h5) ?_
   rw [ei]; exact hd.2.2.2.2
 ·try simp only [z1, z2, z3, z4, z5, z6, z7, z8, z9, y1, y2, y3] at hb1
  refine EV_exit ?_
  refine EV_seq (EV_region ?_)
  refine EVo_t rfl (T_move rfl) ?_
  refine EVo_weak (W_freezeL 39 1 _ _ _ (hE 1 rfl) rfl rfl rfl (by omega) (by omega)) ?_
  refine EVo_e rfl (D_call false (ref_cut _ (by simp; omega) (okL_takeH (okL_dropH h4 _) _)) rfl (fit_cons (fit_d rfl nofun) (fit_nil))) ?_
  refine EVo_t rfl (T_move rfl) ?_
  refine EVo_t rfl (T_conv (uOk rfl) (uOk rfl) rfl) ?_
  refine EVo_t rfl (T_assign rfl) ?_
  refine EVo_t rfl (T_assign rfl) ?_
  refine EVo_nil ?_
  refine EV_ret ?_
  have e2 : (i + 1).toNat = 0 := by omega
  rw [e2, List.drop_zero, List.drop_zero] at h5
  have hend := dw_endH h5 h2.1 h2.2
  have ewr : IntKind.u32.wrap rest = rest := by rw [u32_wrap']; omega
  refine ⟨_, _, ⟨rfl, rfl⟩, ⟨rfl, rfl⟩, fit_eq rfl nofun ?_, fit_eq rfl nofun ?_⟩
  ·rw [List.drop_zero, List.take_of_length_le (by omega), hend.1]
  ·rw [ewr, ← hend.2]

theorem ref_Len (l : List Int) (hl : l.length ≤ 17592186044416) (hk : okL l) (hg : goodL l = true) : Fn Tryz.prog 144 [.d (encN l)] false (.one (.d (ii (blen (val l) : Int)))) := by
 refine Fn_of_EV Tryz.func144 rfl (by kernel_rfl) rfl rfl (fun E hE => ?_)
 refine EV_seq (EV_region ?_)
 refine EVo_t rfl (T_assign rfl) ?_
 refine EVo_nil ?_
 refine EV_seq ?_
 refine EV_seq (EV_region ?_)
 refine EVo_t rfl (T_move rfl) ?_
 refine EVo_t rfl (T_lenL (uOk rfl) rfl) ?_
 refine EVo_t rfl (T_bin rfl rfl rfl) ?_
 refine EVo_nil ?_
 refine EV_cond rfl rfl rfl (fun hb1 => ?_) (fun hb1 => ?_)
 ·try simp only [z1, z2, z3, z4, z5, z6, z7, z8, z9, y1, y2, y3] at hb1
  refine EV_seq (EV_region ?_)
  refine EVo_t rfl (T_assign rfl) ?_
  refine EVo_nil ?_
  refine EV_ret ?_
  refine ⟨_, ⟨rfl, rfl⟩, fit_eq rfl nofun ?_⟩
  ·have e : l = [] := List.eq_nil_of_length_eq_zero (by omega)
   subst e; rfl
 ·try simp only [z1, z2, z3, z4, z5, z6, z7, z8, z9, y1, y2, y3] at hb1
  refine EV_skip ?_
  refine EV_seq (EV_region ?_)
  refine EVo_t rfl (T_move rfl) ?_
  refine EVo_t rfl (T_lenL (uOk rfl) rfl) ?_
  refine EVo_t rfl (T_binI rfl rfl rfl (by omega) (by omega)) ?_
  refine EVo_t rfl (T_binI rfl rfl rfl (by omega) (by omega)) ?_
  refine EVo_t rfl (T_assign rfl) ?_
  refine EVo_nil ?_
  refine EV_seq ?_
  refine EV_seq (EV_region ?_)
  refine EVo_t rfl (T_move rfl) ?_
  refine EVo_t rfl (T_move rfl) ?_
  refine EVo_t rfl (T_lenL (uOk rfl) rfl) ?_
  refine EVo_t rfl (T_binI rfl rfl rfl (by omega) (by omega)) ?_
  refine EVo_t rfl (T_ixL (uOk rfl) (zOk rfl) rfl rfl (by omega) (by omega) rfl) ?_
  have hne : l ≠ [] := by intro e; subst e; simp at hb1
  have ht := okL_rd hk ((l.length : Int) - 1)
  have htb := top_bounds hk hg hne
  have hbl := Lib.bitLen_le (rd l ((l.length : Int) - 1)).toNat 64 (by omega) (by omega)
  refine EVo_t rfl (T_load (gOk rfl) rfl) ?_
  refine EVo_t rfl (T_assign rfl) ?_
  refine EVo_nil ?_
  refine EV_block ?_
  refine EV_weak (W_keep2 [(3, vi .i64 (_)), (4, vi .u64 (_))] [] ⟨rfl, rfl, trivial⟩ trivial rfl) ?_
  refine EV_loop (fun mm S => ∃ n : Int, ∃ x : Int, mm = x.toNat ∧ S = St.of [(3, vi .i64 n), (4, vi .u64 x)] (tabO []) 25 ∧ (0 ≤ x ∧ x < 18446744073709551616) ∧ n + Lib.bitLen x.toNat = blen (val l) ∧ 0 ≤ n) _ ⟨_, _, rfl, rfl, ⟨ht, by omega, by omega⟩⟩ ?_
  rintro mm S ⟨n, x, rfl, rfl, ⟨h0, h1, h2⟩⟩
  refine EV_seq ?_
  refine EV_seq (EV_region ?_)
  refine EVo_t rfl (T_move rfl) ?_
  refine EVo_t rfl (T_bin rfl rfl rfl) ?_
  refine EVo_nil ?_
  refine EV_cond rfl rfl rfl (fun hb2 => ?_) (fun hb2 => ?_)
  ·try simp only [z1, z2, z3, z4, z5, z6, z7, z8, z9, y1, y2, y3] at hb2
   refine EV_skip ?_
   refine EV_seq ?_
   refine EV_block ?_
   refine EV_region ?_
   refine EVo_t rfl (T_move rfl) ?_
   refine EVo_t rfl (T_binI rfl rfl rfl (by omega) (by have := blen_limbs (val l); have := limbs_val_len hk; omega)) ?_
   refine EVo_t rfl (T_assign rfl) ?_
   refine EVo_nil ?_
   refine EV_region ?_
   refine EVo_t rfl (T_move rfl) ?_
   refine EVo_t rfl (T_shrK rfl rfl rfl rfl) ?_
   refine EVo_t rfl (T_assign rfl) ?_
   refine EVo_nil ?_
   refine ⟨_, ?_, _, W_keep2 [(3, vi .i64 (_)), (4, vi .u64 (_))] [] ⟨rfl, rfl, trivial⟩ trivial rfl, _, _, rfl, rfl, ?_⟩
   ·rw [show ((2 ^ 1 : Nat) : Int) = 2 from rfl]; omega
   ·rw [show ((2 ^ 1 : Nat) : Int) = 2 from rfl]
    have e : (x / 2).toNat = x.toNat / 2 := by omega
    have hh := Lib.bitLen_half x.toNat (by omega) (by omega)
    exact ⟨by omega, by rw [e]; omega, by omega⟩
  ·try simp only [z1, z2, z3, z4, z5, z6, z7, z8, z9, y1, y2, y3] at hb2
   have hx0 : x = 0 := by omega
   subst hx0
   have hbz : Lib.bitLen (0 : Int).toNat = 0 := by decide
   rw [hbz] at h1
   refine EV_exit ?_
   refine EV_seq (EV_region ?_)
   refine EVo_t rfl (T_move rfl) ?_
   refine EVo_t rfl (T_assign rfl) ?_
   refine EVo_nil ?_
   refine EV_ret ?_
   refine ⟨_, ⟨rfl, rfl⟩, fit_eq rfl nofun ?_⟩
   ·refine congrArg ii ?_; omega

end Go.Proofs.YthaiegnohkiegaaGreat.Ab
/-
 Contracts of the reference: shifts, division, the greatest common divisor.
-/
namespace Go.Proofs.YthaiegnohkiegaaGreat.Ab
set_option linter.unusedVariables false
set_option linter.unusedSimpArgs false
set_option maxRecDepth 20000


theorem ref_Up2 (l : List Int) (n : Int) (hl : l.length ≤ 4398046511104) (hk : okL l) (hn0 : 0 ≤ n) (hn1 : n ≤ 281474976710656) : Fn Tryz.prog 147 [.d (encN l), .d (ii n)] false (.one (.d (encN (limbs (val l * 2 ^ n.toNat))))) := by
 obtain ⟨k, s, hks, hk0, hs0, hs1⟩ : ∃ k s : Int, n = 64 * k + s ∧ 0 ≤ k ∧ 0 ≤ s ∧ s ≤ 63 := ⟨n / 64, n % 64, by omega, by omega, by omega, by omega⟩
 have ek : n / 64 = k := by omega
 have es : n % 64 = s := by omega
 have ews : IntKind.u64.wrap s = s := u64_in (by omega) (by omega)
 have ew64 : IntKind.u64.wrap (64 - s) = 64 - s := u64_in (by omega) (by omega)
 have epw : 18446744073709551616 ^ k.toNat * (val l * 2 ^ s.toNat) = val l * 2 ^ n.toNat := by
  rw [pow64, show n.toNat = 64 * k.toNat + s.toNat by omega, Nat.pow_add]
  exact Nat.mul_left_comm _ _ _
 refine Fn_of_EV Tryz.func147 rfl (by kernel_rfl) rfl rfl (fun E hE => ?_)
 refine EV_seq (EV_region ?_)
 refine EVo_t rfl (T_assign rfl) ?_
 refine EVo_nil ?_
 refine EV_seq ?_
 refine EV_seq (EV_region ?_)
 refine EVo_t rfl (T_move rfl) ?_
 refine EVo_t rfl (T_lenL (uOk rfl) rfl) ?_
 refine EVo_t rfl (T_bin rfl rfl rfl) ?_
 refine EVo_nil ?_
 refine EV_cond rfl rfl rfl (fun hb1 => ?_) (fun hb1 => ?_)
 ·try simp only [z1, z2, z3, z4, z5, z6, z7, z8, z9, y1, y2, y3] at hb1
  refine EV_seq (EV_region ?_)
  refine EVo_t rfl (T_assign rfl) ?_
  refine EVo_nil ?_
  refine EV_ret ?_
  refine ⟨_, ⟨rfl, rfl⟩, fit_eq rfl nofun ?_⟩
  ·have e : l = [] := List.eq_nil_of_length_eq_zero (by omega)
   subst e; simp [val, limbs_zero]
 ·try simp only [z1, z2, z3, z4, z5, z6, z7, z8, z9, y1, y2, y3] at hb1
  refine EV_skip ?_
  refine EV_seq (EV_region ?_)
  refine EVo_t rfl (T_move rfl) ?_
  refine EVo_t rfl (T_quoN rfl rfl (by omega) (by decide) (by omega)) ?_
  refine EVo_e rfl (D_makeRow 1 (hE 1 rfl) Free_no (uOk rfl) ap58 rfl (by omega) (by omega) (by omega)) ?_
  refine EVo_t rfl (T_assign rfl) ?_
  refine EVo_nil (EV_seq (EV_region ?_))
  refine EVo_t rfl (T_move rfl) ?_
  refine EVo_t rfl (T_remN rfl rfl (by omega) (by decide) (by omega)) ?_
  refine EVo_t rfl (T_conv (uOk rfl) (uOk rfl) rfl) ?_
  refine EVo_t rfl (T_assign rfl) ?_
  refine EVo_nil (EV_seq (EV_region ?_))
  refine EVo_t rfl (T_assign rfl) ?_
  refine EVo_nil ?_
  refine EV_seq ?_
  refine EV_seq (EV_region ?_)
  refine EVo_t rfl (T_assign rfl) ?_
  refine EVo_nil ?_
  refine EV_block ?_
  refine EV_weak (W_keep2 [(0, V.c (.d false (encN l))), (5, V.c (.own 1 58 1 true (List.map (fun x => [iu x]) (_)))), (6, vi .u64 s), (7, vi .u64 (0)), (8, vi .i64 (0))] [(1, .row)] ⟨rfl, rfl, (by show vi .u64 (IntKind.u64.wrap (n % 64)) = _; rw [es, ews]), rfl, rfl, trivial⟩ ⟨rfl, trivial⟩ rfl) ?_
  refine EV_loop (fun mm S => ∃ i : Int, ∃ c : Int, ∃ L : List Int, mm = ((l.length : Int) - i).toNat ∧ S = St.of [(0, V.c (.d false (encN l))), (5, V.c (.own 1 58 1 true (List.map (fun x => [iu x]) L))), (6, vi .u64 s), (7, vi .u64 c), (8, vi .i64 i)] (tabO [(1, .row)]) 49 ∧ (0 ≤ i ∧ i ≤ l.length) ∧ (0 ≤ c ∧ c.toNat < 2 ^ s.toNat) ∧ okL L ∧ L.length = k.toNat + i.toNat ∧ val L + 18446744073709551616 ^ (k.toNat + i.toNat) * c.toNat = 18446744073709551616 ^ k.toNat * (val (l.take i.toNat) * 2 ^ s.toNat)) _ ⟨0, 0, _, rfl, rfl, ⟨by omega, ⟨by omega, Nat.pow_pos (by decide)⟩, okL_rep _, by simp [ek], by simp [val_rep, val]⟩⟩ ?_
  rintro mm S ⟨i, c, L, rfl, rfl, ⟨h0, hc, h2, h3, h4⟩⟩
  have hx := okL_rd hk i
  have ei : (i.toNat : Int) = i := by omega
  obtain ⟨lo, hi, p1, p2, p3, p4, p5, p6⟩ := shl_parts hx.1 hx.2 hs0 hs1
  obtain ⟨cc, rfl⟩ := Int.eq_ofNat_of_zero_le hc.1
  have hq := p6 cc (by simpa using hc.2)
  have hor : bits .or .u64 (lo : Int) (cc : Int) = ((cc + lo : Nat) : Int) := by rw [u64_or_nat _ _ p4 (by omega), Nat.or_comm, ← u64_or_nat _ _ (by omega) p4]; exact hq.1
  refine EV_seq ?_
  refine EV_seq (EV_region ?_)
  refine EVo_t rfl (T_move rfl) ?_
  refine EVo_t rfl (T_move rfl) ?_
  refine EVo_t rfl (T_lenL (uOk rfl) rfl) ?_
  refine EVo_t rfl (T_bin rfl rfl rfl) ?_
  refine EVo_nil ?_
  refine EV_cond rfl rfl rfl (fun hb2 => ?_) (fun hb2 => ?_)
  ·try simp only [z1, z2, z3, z4, z5, z6, z7, z8, z9, y1, y2, y3] at hb2
   have hst := up_step (l := l) (k := k.toNat) (i := i.toNat) h3 (by omega) (by simpa using h4) (by rw [ei]; exact p5)
   refine EV_skip ?_
   refine EV_seq ?_
   refine EV_block ?_
   refine EV_seq (EV_region ?_)
   refine EVo_t rfl (T_move rfl) ?_
   refine EVo_t rfl (T_move rfl) ?_
   refine EVo_t rfl (T_move rfl) ?_
   refine EVo_t rfl (T_ixL (uOk rfl) (zOk rfl) rfl rfl (by omega) (by omega) rfl) ?_
   refine EVo_t rfl (T_load (gOk rfl) rfl) ?_
   refine EVo_t rfl (T_move rfl) ?_
   refine EVo_t rfl (T_shl rfl rfl (by omega)) ?_
   refine EVo_t rfl (T_move rfl) ?_
   refine EVo_t rfl (T_bin rfl rfl rfl) ?_
   refine EVo_e rfl (D_buildSlice (uOk rfl) bz58 rfl rfl rfl (by simp)) ?_
   refine EVo_e rfl (D_append (uOk rfl) ap58 (by decide) rfl rfl (hE 1 rfl) Free_no rfl rfl (by simp) (by simp; omega) (by simp; omega)) ?_
   refine EVo_t rfl (T_assign rfl) ?_
   refine EVo_nil (EV_seq (EV_region ?_))
   refine EVo_t rfl (T_assign rfl) ?_
   refine EVo_nil (EV_seq (EV_region ?_))
   refine EVo_t rfl (T_move rfl) ?_
   refine EVo_t rfl (T_bin rfl rfl rfl) ?_
   refine EVo_nil ?_
   refine EV_cond rfl rfl rfl (fun hb3 => ?_) (fun hb3 => ?_)
   ·try simp only [z1, z2, z3, z4, z5, z6, z7, z8, z9, y1, y2, y3] at hb3
    refine EV_region ?_
    refine EVo_t rfl (T_move rfl) ?_
    refine EVo_t rfl (T_move rfl) ?_
    refine EVo_t rfl (T_ixL (uOk rfl) (zOk rfl) rfl rfl (by omega) (by omega) rfl) ?_
    refine EVo_t rfl (T_load (gOk rfl) rfl) ?_
    refine EVo_t rfl (T_move rfl) ?_
    refine EVo_t rfl (T_bin rfl rfl rfl) ?_
    refine EVo_t rfl (T_shr rfl rfl (by omega)) ?_
    refine EVo_t rfl (T_assign rfl) ?_
    refine EVo_nil ?_
    refine EV_region ?_
    refine EVo_t rfl (T_move rfl) ?_
    refine EVo_t rfl (T_binI rfl rfl rfl (by omega) (by omega)) ?_
    refine EVo_t rfl (T_assign rfl) ?_
    refine EVo_nil ?_
    have e2 : (i + 1).toNat = i.toNat + 1 := by omega
    simp only [show IntKind.u64.bits = 64 from rfl, p1, hor]
    refine ⟨_, ?_, _, W_keep2 [(0, V.c (.d false (encN l))), (5, V.c (.own 1 58 1 true (List.map (fun x => [iu x]) (L ++ [_])))), (6, vi .u64 s), (7, vi .u64 ((hi : Int))), (8, vi .i64 (i + 1))] [(1, .row)] ⟨rfl, (own_app rfl), rfl, (show V.c (.d true (.val (.int .u64 (rd l i / 2 ^ min (IntKind.u64.wrap (64 - s)).toNat 64)))) = _ from by rw [ew64, p2]), rfl, trivial⟩ ⟨rfl, trivial⟩ rfl, i + 1, (hi : Int), L ++ [_], rfl, rfl, ?_⟩
    ·omega
    ·rw [e2]
     exact ⟨by omega, ⟨by omega, by simpa using p3⟩, okL_append.2 ⟨h2, by intro y hy; simp at hy; omega⟩, by simp; omega, by simpa using hst⟩
   ·try simp only [z1, z2, z3, z4, z5, z6, z7, z8, z9, y1, y2, y3] at hb3
    refine EV_skip ?_
    refine EV_region ?_
    refine EVo_t rfl (T_move rfl) ?_
    refine EVo_t rfl (T_binI rfl rfl rfl (by omega) (by omega)) ?_
    refine EVo_t rfl (T_assign rfl) ?_
    refine EVo_nil ?_
    have e2 : (i + 1).toNat = i.toNat + 1 := by omega
    simp only [show IntKind.u64.bits = 64 from rfl, p1, hor]
    refine ⟨_, ?_, _, W_keep2 [(0, V.c (.d false (encN l))), (5, V.c (.own 1 58 1 true (List.map (fun x => [iu x]) (L ++ [_])))), (6, vi .u64 s), (7, vi .u64 (0)), (8, vi .i64 (i + 1))] [(1, .row)] ⟨rfl, (own_app rfl), rfl, rfl, rfl, trivial⟩ ⟨rfl, trivial⟩ rfl, i + 1, 0, L ++ [_], rfl, rfl, ?_⟩
    ·omega
    ·rw [e2]
     have hs00 : s = 0 := by omega
     have hhi : hi = 0 := by rw [hs00] at p3; simpa using p3
     subst hhi
     exact ⟨by omega, ⟨by omega, Nat.pow_pos (by decide)⟩, okL_append.2 ⟨h2, by intro y hy; simp at hy; omega⟩, by simp; omega, by simpa using hst⟩
  ·try simp only [z1, z2, z3, z4, z5, z6, z7, z8, z9, y1, y2, y3] at hb2
   refine EV_exit ?_
   refine EV_seq (EV_region ?_)
   refine EVo_t rfl (T_move rfl) ?_
   refine EVo_t rfl (T_move rfl) ?_
   refine EVo_e rfl (D_buildSlice (uOk rfl) bz58 rfl rfl rfl (by simp)) ?_
   refine EVo_e rfl (D_append (uOk rfl) ap58 (by decide) rfl rfl (hE 1 rfl) Free_no rfl rfl (by simp) (by simp; omega) (by simp; omega)) ?_
   refine EVo_weak (W_keep2 [(47, V.c (.own 1 58 1 true (List.map (fun x => [iu x]) (L ++ [_]))))] [] ⟨own_app rfl, trivial⟩ trivial rfl) ?_
   refine EVo_e rfl (D_call false (ref_Trim _ (by simp; omega) (okL_append.2 ⟨h2, by intro y hy; simp at hy; have := Nat.pow_lt_pow_right (a := 2) (by decide) (show s.toNat < 64 by omega); omega⟩)) rfl (fit_cons (fit_d rfl nofun) (fit_nil))) ?_
   refine EVo_t rfl (T_assign rfl) ?_
   refine EVo_nil ?_
   refine EV_ret ?_
   refine ⟨_, ⟨rfl, rfl⟩, fit_eq rfl nofun ?_⟩
   ·have e9 : i.toNat = l.length := by omega
    rw [e9, List.take_of_length_le (Nat.le_refl _), epw] at h4
    rw [val_append, h3, e9]
    simp only [val, Nat.mul_zero, Nat.add_zero]
    rw [h4]

theorem ref_Down1 (l : List Int) (hl : l.length ≤ 4398046511104) (hk : okL l) (hg : goodL l = true) : Fn Tryz.prog 150 [.d (encN l), .d (ii 1)] false (.one (.d (encN (limbs (val l / 2))))) := by
 refine Fn_of_EV Tryz.func150 rfl (by kernel_rfl) rfl rfl (fun E hE => ?_)
 refine EV_seq (EV_region ?_)
 refine EVo_t rfl (T_assign rfl) ?_
 refine EVo_nil ?_
 refine EV_seq ?_
 refine EV_seq (EV_region ?_)
 refine EVo_t rfl (T_move rfl) ?_
 refine EVo_t rfl (T_move rfl) ?_
 refine EVo_e rfl (D_call false (ref_Len _ (by omega) (by assumption) (by assumption)) rfl (fit_cons (fit_d rfl nofun) (fit_nil))) ?_
 refine EVo_t rfl (T_bin rfl rfl rfl) ?_
 refine EVo_nil ?_
 refine EV_cond rfl rfl rfl (fun hb1 => ?_) (fun hb1 => ?_)
 ·try simp only [z1, z2, z3, z4, z5, z6, z7, z8, z9, y1, y2, y3] at hb1
  refine EV_seq (EV_region ?_)
  refine EVo_t rfl (T_assign rfl) ?_
  refine EVo_nil ?_
  refine EV_ret ?_
  refine ⟨_, ⟨rfl, rfl⟩, fit_eq rfl nofun ?_⟩
  ·have h2 : val l / 2 = 0 := by
    by_cases h0 : val l = 0
    ·omega
    ·have := (blen_bounds h0).2
     have hb : blen (val l) ≤ 1 := by omega
     have := Nat.pow_le_pow_right (n := 2) (by decide) hb
     omega
   rw [h2]; rfl
 ·try simp only [z1, z2, z3, z4, z5, z6, z7, z8, z9, y1, y2, y3] at hb1
  refine EV_skip ?_
  refine EV_seq (EV_region ?_)
  refine EVo_t rfl (T_move rfl) ?_
  refine EVo_t rfl (T_remN rfl rfl (by omega) (by decide) (by omega)) ?_
  refine EVo_t rfl (T_conv (uOk rfl) (uOk rfl) rfl) ?_
  refine EVo_t rfl (T_assign rfl) ?_
  refine EVo_nil (EV_seq (EV_region ?_))
  refine EVo_t rfl (T_assign rfl) ?_
  refine EVo_nil ?_
  refine EV_seq ?_
  refine EV_seq ?_
  refine EV_weak (W_nilRow 1 6 58 1 (hE 1 rfl) rfl) ?_
  refine EV_cut (fun S => S = St.of [(0, V.c (.d false (encN l))), (1, V.c (.d true (ii 1))), (5, vi .u64 1), (6, V.c (.own 1 58 1 true (List.map (fun x => [iu x]) ([] : List Int))))] (tabO [(1, .row)]) 55 ∧ True) ⟨_, W_keep2 [(0, V.c (.d false (encN l))), (1, V.c (.d true (ii 1))), (5, vi .u64 1), (6, V.c (.own 1 58 1 true (List.map (fun x => [iu x]) ([] : List Int))))] [(1, .row)] ⟨rfl, rfl, rfl, rfl, trivial⟩ ⟨rfl, trivial⟩ rfl, rfl, ?_⟩ ?_
  ·trivial
  rintro S ⟨rfl, _⟩
  refine EV_region ?_
  refine EVo_t rfl (T_move rfl) ?_
  refine EVo_t rfl (T_quoN rfl rfl (by omega) (by decide) (by omega)) ?_
  refine EVo_t rfl (T_assign rfl) ?_
  refine EVo_nil ?_
  refine EV_block ?_
  refine EV_weak (W_keep2 [(0, V.c (.d false (encN l))), (5, vi .u64 1), (6, V.c (.own 1 58 1 true (List.map (fun x => [iu x]) ([])))), (7, vi .i64 (0))] [(1, .row)] ⟨rfl, rfl, rfl, rfl, trivial⟩ ⟨rfl, trivial⟩ rfl) ?_
  refine EV_loop (fun mm S => ∃ i : Int, ∃ L : List Int, mm = ((l.length : Int) - i).toNat ∧ S = St.of [(0, V.c (.d false (encN l))), (5, vi .u64 1), (6, V.c (.own 1 58 1 true (List.map (fun x => [iu x]) L))), (7, vi .i64 i)] (tabO [(1, .row)]) 55 ∧ (0 ≤ i ∧ i ≤ l.length) ∧ okL L ∧ L.length = i.toNat ∧ val L = val l / 2 ^ 1 % 18446744073709551616 ^ i.toNat) _ ⟨0, [], rfl, rfl, ⟨by omega, okL_nil, rfl, by simp [val, Nat.mod_one]⟩⟩ ?_
  rintro mm S ⟨i, L, rfl, rfl, ⟨h0, h1, h2, h3⟩⟩
  have hx := okL_rd hk i
  have hy := okL_rd hk (i + 1)
  have ei : (i.toNat : Int) = i := by omega
  have ej : ((i.toNat + 1 : Nat) : Int) = i + 1 := by omega
  obtain ⟨lo, hi, p1, p2, p3, p4, p5, p6, p7⟩ := shr_parts hx.1 hx.2 hy.1 hy.2 (show (0 : Int) ≤ 1 by omega) (by omega)
  simp only [show (64 : Int) - 1 = 63 from rfl] at p2
  refine EV_seq ?_
  refine EV_seq (EV_region ?_)
  refine EVo_t rfl (T_move rfl) ?_
  refine EVo_t rfl (T_move rfl) ?_
  refine EVo_t rfl (T_lenL (uOk rfl) rfl) ?_
  refine EVo_t rfl (T_bin rfl rfl rfl) ?_
  refine EVo_nil ?_
  refine EV_cond rfl rfl rfl (fun hb2 => ?_) (fun hb2 => ?_)
  ·try simp only [z1, z2, z3, z4, z5, z6, z7, z8, z9, y1, y2, y3] at hb2
   refine EV_skip ?_
   refine EV_seq ?_
   refine EV_block ?_
   refine EV_seq (EV_region ?_)
   refine EVo_t rfl (T_move rfl) ?_
   refine EVo_t rfl (T_move rfl) ?_
   refine EVo_t rfl (T_ixL (uOk rfl) (zOk rfl) rfl rfl (by omega) (by omega) rfl) ?_
   refine EVo_t rfl (T_load (gOk rfl) rfl) ?_
   refine EVo_t rfl (T_move rfl) ?_
   refine EVo_t rfl (T_shr rfl rfl (by omega)) ?_
   refine EVo_t rfl (T_assign rfl) ?_
   refine EVo_nil ?_
   refine EV_seq ?_
   refine EV_seq (EV_region ?_)
   refine EVo_t rfl (T_move rfl) ?_
   refine EVo_t rfl (T_bin rfl rfl rfl) ?_
   refine EVo_t rfl (T_move rfl) ?_
   refine EVo_case 32 rfl (fun hb3 => ?_) (fun hb3 => ?_)
   ·try simp only [z1, z2, z3, z4, z5, z6, z7, z8, z9, y1, y2, y3] at hb3
    refine EVo_t rfl (T_move rfl) ?_
    refine EVo_t rfl (T_binI rfl rfl rfl (by omega) (by omega)) ?_
    refine EVo_t rfl (T_move rfl) ?_
    refine EVo_t rfl (T_lenL (uOk rfl) rfl) ?_
    refine EVo_t rfl (T_bin rfl rfl rfl) ?_
    refine EVo_t rfl (T_pick rfl rfl) ?_
    refine EVo_nil ?_
    refine EV_cond rfl rfl rfl (fun hb4 => ?_) (fun hb4 => ?_)
    ·try simp only [z1, z2, z3, z4, z5, z6, z7, z8, z9, y1, y2, y3] at hb4
     refine EV_region ?_
     refine EVo_t rfl (T_move rfl) ?_
     refine EVo_t rfl (T_move rfl) ?_
     refine EVo_t rfl (T_move rfl) ?_
     refine EVo_t rfl (T_binI rfl rfl rfl (by omega) (by omega)) ?_
     refine EVo_t rfl (T_ixL (uOk rfl) (zOk rfl) rfl rfl (by omega) (by omega) rfl) ?_
     refine EVo_t rfl (T_load (gOk rfl) rfl) ?_
     refine EVo_t rfl (T_move rfl) ?_
     refine EVo_t rfl (T_bin rfl rfl rfl) ?_
     refine EVo_t rfl (T_shl rfl rfl (by decide)) ?_
     refine EVo_t rfl (T_bin rfl rfl rfl) ?_
     refine EVo_t rfl (T_assign rfl) ?_
     refine EVo_nil ?_
     refine EV_region ?_
     refine EVo_t rfl (T_move rfl) ?_
     refine EVo_t rfl (T_move rfl) ?_
     refine EVo_e rfl (D_buildSlice (uOk rfl) bz58 rfl rfl rfl (by simp)) ?_
     refine EVo_e rfl (D_append (uOk rfl) ap58 (by decide) rfl rfl (hE 1 rfl) Free_no rfl rfl (by simp) (by simp; omega) (by simp; omega)) ?_
     refine EVo_t rfl (T_assign rfl) ?_
     refine EVo_nil ?_
     refine EV_region ?_
     refine EVo_t rfl (T_move rfl) ?_
     refine EVo_t rfl (T_binI rfl rfl rfl (by omega) (by omega)) ?_
     refine EVo_t rfl (T_assign rfl) ?_
     refine EVo_nil ?_
     have e2 : (i + 1).toNat = i.toNat + 1 := by omega
     simp only [show IntKind.u64.bits = 64 from rfl, p1]
     refine ⟨_, ?_, _, W_keep2 [(0, V.c (.d false (encN l))), (5, vi .u64 1), (6, V.c (.own 1 58 1 true (List.map (fun x => [iu x]) (L ++ [_])))), (7, vi .i64 (i + 1))] [(1, .row)] ⟨rfl, rfl, (own_app rfl), rfl, trivial⟩ ⟨rfl, trivial⟩ rfl, i + 1, L ++ [_], rfl, rfl, ?_⟩
     ·omega
     ·have p2' : IntKind.u64.wrap (rd l (i + 1) * 2 ^ min (IntKind.u64.wrap (64 - 1)).toNat 64) = (hi : Int) := p2
      rw [p2', p4, e2]
      have hst := right_app (s := lo + hi) h2 h3 (by omega) hk (by rw [drop_rd (by omega), drop_rd (n := i.toNat + 1) (by omega)]; simp only [val]; rw [ei, ej]; exact p6 _)
      exact ⟨by omega, okL_append.2 ⟨h1, by intro y hy; simp at hy; omega⟩, by simp; omega, hst⟩
    ·try simp only [z1, z2, z3, z4, z5, z6, z7, z8, z9, y1, y2, y3] at hb4
     refine EV_skip ?_
     refine EV_region ?_
     refine EVo_t rfl (T_move rfl) ?_
     refine EVo_t rfl (T_move rfl) ?_
     refine EVo_e rfl (D_buildSlice (uOk rfl) bz58 rfl rfl rfl (by simp)) ?_
     refine EVo_e rfl (D_append (uOk rfl) ap58 (by decide) rfl rfl (hE 1 rfl) Free_no rfl rfl (by simp) (by simp; omega) (by simp; omega)) ?_
     refine EVo_t rfl (T_assign rfl) ?_
     refine EVo_nil ?_
     refine EV_region ?_
     refine EVo_t rfl (T_move rfl) ?_
     refine EVo_t rfl (T_binI rfl rfl rfl (by omega) (by omega)) ?_
     refine EVo_t rfl (T_assign rfl) ?_
     refine EVo_nil ?_
     have e2 : (i + 1).toNat = i.toNat + 1 := by omega
     simp only [show IntKind.u64.bits = 64 from rfl, p1]
     refine ⟨_, ?_, _, W_keep2 [(0, V.c (.d false (encN l))), (5, vi .u64 1), (6, V.c (.own 1 58 1 true (List.map (fun x => [iu x]) (L ++ [_])))), (7, vi .i64 (i + 1))] [(1, .row)] ⟨rfl, rfl, (own_app rfl), rfl, trivial⟩ ⟨rfl, trivial⟩ rfl, i + 1, L ++ [_], rfl, rfl, ?_⟩
     ·omega
     ·rw [e2]
      have hst := right_app (s := lo) h2 h3 (by omega) hk (by rw [drop_rd (by omega), List.drop_of_length_le (by omega)]; simp only [val]; rw [ei]; simpa using p7)
      exact ⟨by omega, okL_append.2 ⟨h1, by intro y hy; simp at hy; omega⟩, by simp; omega, hst⟩
   ·try simp only [z1, z2, z3, z4, z5, z6, z7, z8, z9, y1, y2, y3] at hb3
    refine EVo_off rfl rfl ?_
    refine EVo_off rfl rfl ?_
    refine EVo_off rfl rfl ?_
    refine EVo_off rfl rfl ?_
    refine EVo_off rfl rfl ?_
    refine EVo_t rfl (T_pick rfl rfl) ?_
    refine EVo_nil ?_
    refine EV_cond rfl rfl rfl (fun h => by cases h) (fun _ => ?_)
    refine EV_skip ?_
    refine EV_region ?_
    refine EVo_t rfl (T_move rfl) ?_
    refine EVo_t rfl (T_move rfl) ?_
    refine EVo_e rfl (D_buildSlice (uOk rfl) bz58 rfl rfl rfl (by simp)) ?_
    refine EVo_e rfl (D_append (uOk rfl) ap58 (by decide) rfl rfl (hE 1 rfl) Free_no rfl rfl (by simp) (by simp; omega) (by simp; omega)) ?_
    refine EVo_t rfl (T_assign rfl) ?_
    refine EVo_nil ?_
    refine EV_region ?_
    refine EVo_t rfl (T_move rfl) ?_
    refine EVo_t rfl (T_binI rfl rfl rfl (by omega) (by omega)) ?_
    refine EVo_t rfl (T_assign rfl) ?_
    refine EVo_nil ?_
    have e2 : (i + 1).toNat = i.toNat + 1 := by omega
    simp only [show IntKind.u64.bits = 64 from rfl, p1]
    refine ⟨_, ?_, _, W_keep2 [(0, V.c (.d false (encN l))), (5, vi .u64 1), (6, V.c (.own 1 58 1 true (List.map (fun x => [iu x]) (L ++ [_])))), (7, vi .i64 (i + 1))] [(1, .row)] ⟨rfl, rfl, (own_app rfl), rfl, trivial⟩ ⟨rfl, trivial⟩ rfl, i + 1, L ++ [_], rfl, rfl, ?_⟩
    ·omega
    ·omega
  ·try simp only [z1, z2, z3, z4, z5, z6, z7, z8, z9, y1, y2, y3] at hb2
   refine EV_exit ?_
   refine EV_seq (EV_region ?_)
   refine EVo_t rfl (T_move rfl) ?_
   refine EVo_e rfl (D_call false (ref_Trim _ (by omega) (by assumption)) rfl (fit_cons (fit_d rfl nofun) (fit_nil))) ?_
   refine EVo_t rfl (T_assign rfl) ?_
   refine EVo_nil ?_
   refine EV_ret ?_
   refine ⟨_, ⟨rfl, rfl⟩, fit_eq rfl nofun ?_⟩
   ·have e9 : i.toNat = l.length := by omega
    have hv := val_lt hk
    rw [e9, Nat.mod_eq_of_lt (Nat.lt_of_le_of_lt (Nat.div_le_self _ _) hv)] at h3
    rw [h3]

theorem ref_LenN (a : Nat) (h : (limbs a).length ≤ 17592186044416) : Fn Tryz.prog 144 [.d (encN (limbs a))] false (.one (.d (ii (blen a : Int)))) := by
 have := ref_Len (limbs a) h (okL_limbs a) (good_limbs a)
 rw [val_limbs] at this; exact this
theorem ref_Up2N (a : Nat) (n : Int) (h : (limbs a).length ≤ 4398046511104) (hn0 : 0 ≤ n) (hn1 : n ≤ 281474976710656) : Fn Tryz.prog 147 [.d (encN (limbs a)), .d (ii n)] false (.one (.d (encN (limbs (a * 2 ^ n.toNat))))) := by
 have := ref_Up2 (limbs a) n h (okL_limbs a) hn0 hn1
 rw [val_limbs] at this; exact this
theorem ref_Down1N (a : Nat) (h : (limbs a).length ≤ 4398046511104) : Fn Tryz.prog 150 [.d (encN (limbs a)), .d (ii 1)] false (.one (.d (encN (limbs (a / 2))))) := by
 have := ref_Down1 (limbs a) h (okL_limbs a) (good_limbs a)
 rw [val_limbs] at this; exact this
theorem ref_CmpN (a b : Nat) (ha : (limbs a).length ≤ 17592186044416) (hb : (limbs b).length ≤ 17592186044416) : Fn Tryz.prog 148 [.d (encN (limbs a)), .d (encN (limbs b))] false (.one (.d (ii (cmpN a b)))) := by
 have := ref_Cmp (limbs a) (limbs b) (by omega) (by omega) (okL_limbs a) (okL_limbs b) (good_limbs a) (good_limbs b)
 rw [val_limbs, val_limbs] at this; exact this
theorem ref_LessN (a b : Nat) (ha : (limbs a).length ≤ 4398046511104) (hb : (limbs b).length ≤ 4398046511104) (hle : b ≤ a) : Fn Tryz.prog 149 [.d (encN (limbs a)), .d (encN (limbs b))] false (.one (.d (encN (limbs (a - b))))) := by
 have := ref_Less (limbs a) (limbs b) ha hb (okL_limbs a) (okL_limbs b) (by rw [val_limbs, val_limbs]; exact hle)
 rw [val_limbs, val_limbs] at this; exact this
theorem ref_halvesN (a : Nat) (h : (limbs a).length ≤ 8796093022208) : Fn Tryz.prog 117 [.d (encN (limbs a))] false (.one (.d (encH (limbsH a)))) := by
 have := ref_halves (limbs a) h (okL_limbs a)
 rw [val_limbs] at this; exact this
theorem halvesN_len (a : Nat) : (limbsH a).length ≤ 2 * (limbs a).length := by
 have := halves_len (okL_limbs a)
 rwa [val_limbs] at this
theorem one_half {B : Nat} (h : ((limbsH B).length : Int) = 1) : rd (limbsH B) 0 = (B : Int) ∧ B < 4294967296 ∧ B ≠ 0 := by
 have hlt := val_ltH (okL_limbsH B)
 rw [val_limbsH] at hlt
 have h1 : (limbsH B).length = 1 := by omega
 rw [h1] at hlt
 have h0 : B ≠ 0 := fun e => by subst e; simp [limbs_zeroH] at h1
 rw [limbs_oneH h0 (by simpa using hlt)]
 exact ⟨rfl, by simpa using hlt, h0⟩
theorem cmpN_ge {a b : Nat} : 0 ≤ cmpN a b ↔ b ≤ a := by
 have := cmpN_neg a b
 constructor
 ·intro h; have := mt this.2 (by omega); omega
 ·intro h; have := mt this.1 (by omega); omega
theorem pow_half (B : Nat) {i : Int} (h : 0 ≤ i) : B * 2 ^ (i + 1).toNat / 2 = B * 2 ^ i.toNat := by
 rw [show (i + 1).toNat = i.toNat + 1 by omega, Nat.pow_succ, ← Nat.mul_assoc, Nat.mul_div_cancel _ (by decide)]

theorem ref_Divide (A B : Nat) (hB : B ≠ 0) (hA : (limbs A).length ≤ 1099511627776) (hBl : (limbs B).length ≤ 1099511627776) : Fn Tryz.prog 116 [.d (encN (limbs A)), .d (encN (limbs B))] false (.tup [.d (encN (limbs (A / B))), .d (encN (limbs (A % B)))]) := by
 have hXA := halvesN_len A
 have hXB := halvesN_len B
 have hbA := blen_limbs A
 have hbB := blen_limbs B
 refine Fn_of_EV Tryz.func116 rfl (by kernel_rfl) rfl rfl (fun E hE => ?_)
 refine EV_seq (EV_region ?_)
 refine EVo_t rfl (T_assign rfl) ?_
 refine EVo_t rfl (T_assign rfl) ?_
 refine EVo_nil (EV_seq (EV_region ?_))
 refine EVo_t rfl (T_move rfl) ?_
 refine EVo_e rfl (D_call false (ref_halvesN _ (by omega)) rfl (fit_cons (fit_d rfl nofun) (fit_nil))) ?_
 refine EVo_t rfl (T_assign rfl) ?_
 refine EVo_nil ?_
 refine EV_seq ?_
 refine EV_seq (EV_region ?_)
 refine EVo_t rfl (T_move rfl) ?_
 refine EVo_t rfl (T_lenL (uOk rfl) rfl) ?_
 refine EVo_t rfl (T_bin rfl rfl rfl) ?_
 refine EVo_nil ?_
 refine EV_cond rfl rfl rfl (fun hb1 => ?_) (fun hb1 => ?_)
 ·try simp only [z1, z2, z3, z4, z5, z6, z7, z8, z9, y1, y2, y3] at hb1
  have hone := one_half hb1
  have hmB := Nat.mod_lt A (Nat.pos_of_ne_zero hB)
  refine EV_seq ?_
  refine EV_draw (inX []) (.st 0 (.st 2 (.st 3 (.st 4 (.one 1 (.one 5 (.st 6 (.st 7 (.st 8 (.st 9 (.st 10 .done))))))))))) Tryz.mixed (by kernel_rfl) ?_
  refine EVq_t rfl rfl (T_move rfl) ?_
  refine EVq_t rfl rfl (T_move rfl) ?_
  refine EVq_t rfl rfl (T_ixL (uOk rfl) (zOk rfl) rfl rfl (by omega) (by omega) rfl) ?_
  refine EVq_t rfl rfl (T_load (gOk rfl) rfl) ?_
  refine EVq_e rfl rfl (D_call false (ref_halvesN _ (by omega)) rfl (fit_cons (fit_d rfl nofun) (fit_nil))) ?_
  refine EVq_e rfl rfl (D_call false (ref_short _ _ (by omega) (okL_limbsH _) (by omega) (by omega)) rfl (fit_cons (fit_d rfl nofun) (fit_cons (fit_d rfl nofun) (fit_nil)))) ?_
  refine EVq_t rfl rfl (T_move rfl) ?_
  refine EVq_t rfl rfl (T_extract rfl rfl) ?_
  refine EVq_t rfl rfl (T_extract rfl rfl) ?_
  refine EVq_t rfl rfl (T_assign rfl) ?_
  refine EVq_t rfl rfl (T_assign rfl) ?_
  refine EVq_done ?_
  refine EV_seq (EV_region ?_)
  refine EVo_t rfl (T_move rfl) ?_
  refine EVo_e rfl (D_call false (ref_whole _ (Nat.le_trans (limbs_len_leH (Nat.lt_of_le_of_lt (Nat.div_le_self _ _) (val_ltH (okL_limbsH A)))) (by omega)) (okL_limbsH _)) rfl (fit_cons (fit_d rfl nofun) (fit_nil))) ?_
  refine EVo_t rfl (T_move rfl) ?_
  refine EVo_t rfl (T_conv (uOk rfl) (uOk rfl) rfl) ?_
  have eR : (valH (limbsH A) % (rd (limbsH B) 0).toNat : Nat) = A % B := by rw [hone.1, val_limbsH, Int.toNat_natCast]
  have ewR : IntKind.u64.wrap ((valH (limbsH A) % (rd (limbsH B) 0).toNat : Nat) : Int) = ((A % B : Nat) : Int) := by rw [eR]; exact u64_in (by omega) (by omega)
  refine EVo_e rfl (D_call false (ref_Of _ (by rw [ewR]; omega) (by rw [ewR]; omega)) rfl (fit_cons (fit_d rfl nofun) (fit_nil))) ?_
  refine EVo_t rfl (T_assign rfl) ?_
  refine EVo_t rfl (T_assign rfl) ?_
  refine EVo_nil ?_
  refine EV_ret ?_
  refine ⟨_, _, ⟨rfl, rfl⟩, ⟨rfl, rfl⟩, fit_eq rfl nofun ?_, fit_eq rfl nofun ?_⟩
  ·rw [val_limbsH, hone.1, val_limbsH, Int.toNat_natCast]
  ·rw [ewR, Int.toNat_natCast]
 ·try simp only [z1, z2, z3, z4, z5, z6, z7, z8, z9, y1, y2, y3] at hb1
  refine EV_skip ?_
  refine EV_seq (EV_region ?_)
  refine EVo_t rfl (T_move rfl) ?_
  refine EVo_e rfl (D_call false (ref_LenN _ (by omega)) rfl (fit_cons (fit_d rfl nofun) (fit_nil))) ?_
  refine EVo_t rfl (T_move rfl) ?_
  refine EVo_e rfl (D_call false (ref_LenN _ (by omega)) rfl (fit_cons (fit_d rfl nofun) (fit_nil))) ?_
  refine EVo_t rfl (T_binI rfl rfl rfl (by omega) (by omega)) ?_
  refine EVo_t rfl (T_assign rfl) ?_
  refine EVo_nil ?_
  refine EV_seq ?_
  refine EV_seq (EV_region ?_)
  refine EVo_t rfl (T_move rfl) ?_
  refine EVo_t rfl (T_bin rfl rfl rfl) ?_
  refine EVo_nil ?_
  refine EV_cond rfl rfl rfl (fun hb2 => ?_) (fun hb2 => ?_)
  ·try simp only [z1, z2, z3, z4, z5, z6, z7, z8, z9, y1, y2, y3] at hb2
   have hlt : A < B := blen_lt (by omega)
   refine EV_seq (EV_region ?_)
   refine EVo_t rfl (T_move rfl) ?_
   refine EVo_t rfl (T_assign rfl) ?_
   refine EVo_t rfl (T_assign rfl) ?_
   refine EVo_nil ?_
   refine EV_ret ?_
   refine ⟨_, _, ⟨rfl, rfl⟩, ⟨rfl, rfl⟩, fit_eq rfl nofun ?_, fit_eq rfl nofun ?_⟩
   ·rw [Nat.div_eq_of_lt hlt]; rfl
   ·rw [Nat.mod_eq_of_lt hlt]
  ·try simp only [z1, z2, z3, z4, z5, z6, z7, z8, z9, y1, y2, y3] at hb2
   refine EV_skip ?_
   refine EV_seq ?_
   refine EV_cut (fun S => ∃ n : Int, S = St.of [(0, V.c (.d false (encN (limbs A)))), (1, V.c (.d false (encN (limbs B)))), (9, vi .i64 n)] (tabO []) 80 ∧ 0 ≤ n ∧ (blen A : Int) = blen B + n) ⟨_, W_keep2 [(0, V.c (.d false (encN (limbs A)))), (1, V.c (.d false (encN (limbs B)))), (9, vi .i64 (_))] [] ⟨rfl, rfl, rfl, trivial⟩ trivial rfl, _, rfl, ?_⟩ ?_
   ·omega
   rintro S ⟨n, rfl, ⟨hn0, hn⟩⟩
   have hdf := div_first (A := A) (B := B) (n := n.toNat) hB (by omega)
   have hdl0 := limbs_mul_len 2 A
   have hdl1 : (limbs 2).length = 1 := by decide
   have hdl : (limbs (2 * A)).length ≤ 1099511627777 := by omega
   refine EV_region ?_
   refine EVo_t rfl (T_move rfl) ?_
   refine EVo_t rfl (T_quoN rfl rfl (by omega) (by decide) (by omega)) ?_
   refine EVo_t rfl (T_binI rfl rfl rfl (by omega) (by omega)) ?_
   refine EVo_e rfl (D_makeL 1 (hE 1 rfl) Free_no (uOk rfl) ap58 rfl (by omega) (by omega) (by omega)) ?_
   refine EVo_t rfl (T_assign rfl) ?_
   refine EVo_nil (EV_seq (EV_region ?_))
   refine EVo_t rfl (T_move rfl) ?_
   refine EVo_t rfl (T_assign rfl) ?_
   refine EVo_nil (EV_seq (EV_region ?_))
   refine EVo_t rfl (T_move rfl) ?_
   refine EVo_t rfl (T_move rfl) ?_
   refine EVo_e rfl (D_call false (ref_Up2N _ _ (by omega) (by omega) (by omega)) rfl (fit_cons (fit_d rfl nofun) (fit_cons (fit_d rfl nofun) (fit_nil)))) ?_
   refine EVo_t rfl (T_assign rfl) ?_
   refine EVo_nil ?_
   refine EV_seq ?_
   refine EV_seq (EV_region ?_)
   refine EVo_t rfl (T_move rfl) ?_
   refine EVo_t rfl (T_assign rfl) ?_
   refine EVo_nil ?_
   refine EV_block ?_
   refine EV_weak (W_keep2 [(10, V.c (.msl 1 0 ((n / 64 + 1).toNat) ((n / 64 + 1).toNat))), (11, V.c (.d false (encN (limbs (A))))), (12, V.c (.d false (encN (limbs (B * 2 ^ ((n) + 1).toNat / 2))))), (13, vi .i64 (n))] [(1, .box (List.map (ci .u64) (_)))] ⟨rfl, rfl, (by show V.c (.d false (encN (limbs (B * 2 ^ n.toNat)))) = _; rw [pow_half B hn0]), rfl, trivial⟩ ⟨rfl, trivial⟩ rfl) ?_
   refine EV_loop (fun mm S => ∃ i : Int, ∃ r : Nat, ∃ q : List Int, mm = (i + 1).toNat ∧ S = St.of [(10, V.c (.msl 1 0 ((n / 64 + 1).toNat) ((n / 64 + 1).toNat))), (11, V.c (.d false (encN (limbs r)))), (12, V.c (.d false (encN (limbs (B * 2 ^ (i + 1).toNat / 2))))), (13, vi .i64 i)] (tabO [(1, .box (List.map (ci .u64) q))]) 80 ∧ (-1 ≤ i ∧ i ≤ n) ∧ q.length = ((n / 64 + 1).toNat) ∧ okL q ∧ A = val q * B + r ∧ r < B * 2 ^ (i + 1).toNat ∧ val q % 2 ^ (i + 1).toNat = 0 ∧ r ≤ A) _ ⟨n, A, _, rfl, rfl, ⟨by omega, by simp, okL_rep _, by rw [val_rep]; omega, by rw [show (n + 1).toNat = n.toNat + 1 by omega]; exact hdf.1, by rw [val_rep]; exact Nat.zero_mod _, Nat.le_refl _⟩⟩ ?_
   rintro mm S ⟨i, r, q, rfl, rfl, ⟨k1, k2, k3, k4, k5, k6, k7⟩⟩
   refine EV_seq ?_
   refine EV_seq (EV_region ?_)
   refine EVo_t rfl (T_move rfl) ?_
   refine EVo_t rfl (T_bin rfl rfl rfl) ?_
   refine EVo_nil ?_
   refine EV_cond rfl rfl rfl (fun hb3 => ?_) (fun hb3 => ?_)
   ·try simp only [z1, z2, z3, z4, z5, z6, z7, z8, z9, y1, y2, y3] at hb3
    have hph := pow_half B hb3
    have ei : (i + 1).toNat = i.toNat + 1 := by omega
    rw [ei] at k5 k6
    have hbr := bit_round k4 k5 k6
    have hsb := set_bit k3 (show i.toNat / 64 < q.length by omega) k6
    have hdm : B * 2 ^ i.toNat ≤ 2 * A := Nat.le_trans (Nat.mul_le_mul_left _ (Nat.pow_le_pow_right (by decide) (by omega))) hdf.2
    have hdd := limbs_mono hdm
    have hrr := limbs_mono k7
    refine EV_skip ?_
    refine EV_seq ?_
    refine EV_block ?_
    refine EV_seq ?_
    refine EV_seq (EV_region ?_)
    refine EVo_t rfl (T_move rfl) ?_
    refine EVo_t rfl (T_move rfl) ?_
    refine EVo_e rfl (D_call false (ref_CmpN _ _ (by omega) (by rw [hph]; omega)) rfl (fit_cons (fit_d rfl nofun) (fit_cons (fit_d rfl nofun) (fit_nil)))) ?_
    refine EVo_t rfl (T_bin rfl rfl rfl) ?_
    refine EVo_nil ?_
    refine EV_cond rfl rfl rfl (fun hb4 => ?_) (fun hb4 => ?_)
    ·try simp only [z1, z2, z3, z4, z5, z6, z7, z8, z9, y1, y2, y3] at hb4
     have hge := cmpN_ge.1 hb4
     rw [hph] at hge
     refine EV_seq (EV_region ?_)
     refine EVo_t rfl (T_move rfl) ?_
     refine EVo_t rfl (T_move rfl) ?_
     rw [hph]
     refine EVo_e rfl (D_call false (ref_LessN _ _ (by omega) (by omega) hge) rfl (fit_cons (fit_d rfl nofun) (fit_cons (fit_d rfl nofun) (fit_nil)))) ?_
     refine EVo_t rfl (T_assign rfl) ?_
     refine EVo_nil ?_
     refine EV_region ?_
     refine EVo_t rfl (T_move rfl) ?_
     refine EVo_t rfl (T_move rfl) ?_
     refine EVo_t rfl (T_quoN rfl rfl (by omega) (by decide) (by omega)) ?_
     refine EVo_t rfl (T_move rfl) ?_
     refine EVo_t rfl (T_move rfl) ?_
     refine EVo_t rfl (T_quoN rfl rfl (by omega) (by decide) (by omega)) ?_
     refine EVo_t rfl (T_indexAddrM (uOk rfl) (zOk rfl) rfl rfl (by omega) (by omega)) ?_
     refine EVo_t rfl (T_loadL (gOk rfl) rfl rfl (by omega) rfl rfl) ?_
     refine EVo_t rfl (T_move rfl) ?_
     refine EVo_t rfl (T_remN rfl rfl (by omega) (by decide) (by omega)) ?_
     refine EVo_t rfl (T_conv (uOk rfl) (uOk rfl) rfl) ?_
     refine EVo_t rfl (T_shl rfl rfl (by rw [u64_wrap]; omega)) ?_
     refine EVo_t rfl (T_bin rfl rfl rfl) ?_
     refine EVo_t rfl (T_indexAddrM (uOk rfl) (zOk rfl) rfl rfl (by omega) (by omega)) ?_
     refine EVo_e rfl (D_storeL rfl Free_no rfl rfl (zOk rfl) (by omega)) ?_
     refine EVo_nil ?_
     refine EV_region ?_
     refine EVo_t rfl (T_move rfl) ?_
     refine EVo_e rfl (D_call false (ref_Down1N _ (by (try rw [hph]); omega)) rfl (fit_cons (fit_d rfl nofun) (fit_cons (fit_d rfl nofun) (fit_nil)))) ?_
     refine EVo_t rfl (T_assign rfl) ?_
     refine EVo_nil ?_
     refine EV_region ?_
     refine EVo_t rfl (T_move rfl) ?_
     refine EVo_t rfl (T_binI rfl rfl rfl (by omega) (by omega)) ?_
     refine EVo_t rfl (T_assign rfl) ?_
     refine EVo_nil ?_
     refine ⟨_, ?_, _, W_keep2 [(10, V.c (.msl 1 0 ((n / 64 + 1).toNat) ((n / 64 + 1).toNat))), (11, V.c (.d false (encN (limbs (_))))), (12, V.c (.d false (encN (limbs (B * 2 ^ ((i - 1) + 1).toNat / 2))))), (13, vi .i64 (i - 1))] [(1, .box (List.map (ci .u64) (_)))] ⟨rfl, rfl, (by show V.c (.d false (encN (limbs (B * 2 ^ i.toNat / 2)))) = _; rw [show i - 1 + 1 = i by omega]), rfl, trivial⟩ ⟨rfl, trivial⟩ rfl, i - 1, _, _, rfl, rfl, ?_⟩
     ·omega
     ·have e1 : (i - 1 + 1).toNat = i.toNat := by omega
      rw [e1]
      have hst := hbr.1 hge
      obtain ⟨x, x1, x2, x3, x4⟩ := hsb
      have e0 : 0 + (i / 64).toNat * 1 = i.toNat / 64 := by omega
      have x1' : q.getD (i.toNat / 64) default = (x : Int) := by rw [← x1, rd_nat]
      simp only [show IntKind.u64.bits = 64 from rfl]
      rw [shl_one (by omega), e0, x1', x3]
      exact ⟨by omega, by simpa using k2, okL_set k3 _ ⟨Int.natCast_nonneg _, Int.ofNat_lt.2 x2⟩, by rw [x4]; exact hst.1, hst.2.1, by rw [x4]; exact hst.2.2, by omega⟩
    ·try simp only [z1, z2, z3, z4, z5, z6, z7, z8, z9, y1, y2, y3] at hb4
     have hlt : r < B * 2 ^ i.toNat := Nat.lt_of_not_le (fun hc => by have := cmpN_ge.2 (show B * 2 ^ (i + 1).toNat / 2 ≤ r by rw [hph]; exact hc); omega)
     refine EV_skip ?_
     refine EV_region ?_
     refine EVo_t rfl (T_move rfl) ?_
     refine EVo_e rfl (D_call false (ref_Down1N _ (by (try rw [hph]); omega)) rfl (fit_cons (fit_d rfl nofun) (fit_cons (fit_d rfl nofun) (fit_nil)))) ?_
     refine EVo_t rfl (T_assign rfl) ?_
     refine EVo_nil ?_
     refine EV_region ?_
     refine EVo_t rfl (T_move rfl) ?_
     refine EVo_t rfl (T_binI rfl rfl rfl (by omega) (by omega)) ?_
     refine EVo_t rfl (T_assign rfl) ?_
     refine EVo_nil ?_
     refine ⟨_, ?_, _, W_keep2 [(10, V.c (.msl 1 0 ((n / 64 + 1).toNat) ((n / 64 + 1).toNat))), (11, V.c (.d false (encN (limbs (_))))), (12, V.c (.d false (encN (limbs (B * 2 ^ ((i - 1) + 1).toNat / 2))))), (13, vi .i64 (i - 1))] [(1, .box (List.map (ci .u64) (_)))] ⟨rfl, rfl, (by show V.c (.d false (encN (limbs (B * 2 ^ (i + 1).toNat / 2 / 2)))) = _; rw [hph, show i - 1 + 1 = i by omega]), rfl, trivial⟩ ⟨rfl, trivial⟩ rfl, i - 1, _, _, rfl, rfl, ?_⟩
     ·omega
     ·have e1 : (i - 1 + 1).toNat = i.toNat := by omega
      rw [e1]
      exact ⟨by omega, k2, k3, k4, hlt, hbr.2, k7⟩
   ·try simp only [z1, z2, z3, z4, z5, z6, z7, z8, z9, y1, y2, y3] at hb3
    have e9 : i = -1 := by omega
    subst e9
    simp only [show ((-1 : Int) + 1).toNat = 0 from rfl, Nat.pow_zero, Nat.mul_one] at k5
    have hend := step_end (w := r) (W := A) (V := B) (g := val q) (by omega) (by rw [Nat.add_mul]; omega)
    refine EV_exit ?_
    refine EV_seq (EV_region ?_)
    refine EVo_t rfl (T_move rfl) ?_
    refine EVo_weak (W_freezeL 77 1 _ _ _ (hE 1 rfl) rfl rfl rfl (by omega) (by omega)) ?_
    refine EVo_e rfl (D_call false (ref_Trim _ (by simp; omega) (okL_take (okL_drop k3 _) _)) rfl (fit_cons (fit_d rfl nofun) (fit_nil))) ?_
    refine EVo_t rfl (T_move rfl) ?_
    refine EVo_t rfl (T_assign rfl) ?_
    refine EVo_t rfl (T_assign rfl) ?_
    refine EVo_nil ?_
    refine EV_ret ?_
    refine ⟨_, _, ⟨rfl, rfl⟩, ⟨rfl, rfl⟩, fit_eq rfl nofun ?_, fit_eq rfl nofun ?_⟩
    ·rw [List.drop_zero, List.take_of_length_le (by omega), hend.1]
    ·rw [hend.2]

theorem ref_Gcd (A B : Nat) (hA : (limbs A).length ≤ 1099511627776) (hB : (limbs B).length ≤ 1099511627776) : Fn Tryz.prog 69 [.d (encN (limbs A)), .d (encN (limbs B))] false (.one (.d (encN (limbs (Nat.gcd A B))))) := by
 refine Fn_of_EV Tryz.func69 rfl (by kernel_rfl) rfl rfl (fun E hE => ?_)
 refine EV_seq (EV_region ?_)
 refine EVo_t rfl (T_assign rfl) ?_
 refine EVo_nil ?_
 refine EV_seq ?_
 refine EV_block ?_
 refine EV_weak (W_keep2 [(0, V.c (.d false (encN (limbs (A))))), (1, V.c (.d false (encN (limbs (B)))))] [] ⟨rfl, rfl, trivial⟩ trivial rfl) ?_
 refine EV_loop (fun mm S => ∃ a : Nat, ∃ b : Nat, mm = 0 + b ∧ S = St.of [(0, V.c (.d false (encN (limbs a)))), (1, V.c (.d false (encN (limbs b))))] (tabO []) 19 ∧ Nat.gcd a b = Nat.gcd A B ∧ (limbs a).length ≤ 1099511627776 ∧ (limbs b).length ≤ 1099511627776) _ ⟨A, B, rfl, rfl, ⟨rfl, hA, hB⟩⟩ ?_
 rintro mm S ⟨a, b, rfl, rfl, ⟨k1, k2, k3⟩⟩
 refine EV_seq ?_
 refine EV_seq (EV_region ?_)
 refine EVo_t rfl (T_move rfl) ?_
 refine EVo_t rfl (T_lenL (uOk rfl) rfl) ?_
 refine EVo_t rfl (T_bin rfl rfl rfl) ?_
 refine EVo_nil ?_
 refine EV_cond rfl rfl rfl (fun hb1 => ?_) (fun hb1 => ?_)
 ·try simp only [z1, z2, z3, z4, z5, z6, z7, z8, z9, y1, y2, y3] at hb1
  have hb0 : b ≠ 0 := (limbs_len_pos b).1 (by omega)
  refine EV_skip ?_
  refine EV_block ?_
  refine EV_seq (EV_region ?_)
  refine EVo_t rfl (T_move rfl) ?_
  refine EVo_t rfl (T_move rfl) ?_
  refine EVo_e rfl (D_call false (ref_Divide _ _ hb0 (by omega) (by omega)) rfl (fit_cons (fit_d rfl nofun) (fit_cons (fit_d rfl nofun) (fit_nil)))) ?_
  refine EVo_t rfl (T_move rfl) ?_
  refine EVo_t rfl (T_extract rfl rfl) ?_
  refine EVo_t rfl (T_extract rfl rfl) ?_
  refine EVo_t rfl (T_assign rfl) ?_
  refine EVo_t rfl (T_assign rfl) ?_
  refine EVo_nil (EV_seq (EV_region ?_))
  refine EVo_t rfl (T_move rfl) ?_
  refine EVo_t rfl (T_assign rfl) ?_
  refine EVo_nil ?_
  refine EV_region ?_
  refine EVo_t rfl (T_move rfl) ?_
  refine EVo_t rfl (T_assign rfl) ?_
  refine EVo_nil ?_
  refine ⟨_, ?_, _, W_keep2 [(0, V.c (.d false (encN (limbs (_))))), (1, V.c (.d false (encN (limbs (_)))))] [] ⟨rfl, rfl, trivial⟩ trivial rfl, _, _, rfl, rfl, ?_⟩
  ·have := Nat.mod_lt a (Nat.pos_of_ne_zero hb0); omega
  ·exact ⟨by rw [← k1, Nat.gcd_comm a b, Nat.gcd_rec b a, Nat.gcd_comm], by omega, Nat.le_trans (limbs_mono (Nat.le_of_lt (Nat.mod_lt _ (by omega)))) k3⟩
 ·try simp only [z1, z2, z3, z4, z5, z6, z7, z8, z9, y1, y2, y3] at hb1
  have hb0 : b = 0 := by have := mt (limbs_len_pos b).2 (by omega); omega
  subst hb0
  rw [Nat.gcd_zero_right] at k1
  refine EV_exit ?_
  refine EV_seq (EV_region ?_)
  refine EVo_t rfl (T_move rfl) ?_
  refine EVo_t rfl (T_assign rfl) ?_
  refine EVo_nil ?_
  refine EV_ret ?_
  refine ⟨_, ⟨rfl, rfl⟩, fit_eq rfl nofun ?_⟩
  ·rw [k1]

end Go.Proofs.YthaiegnohkiegaaGreat.Ab
/-
 Contracts of the reference: whole numbers.
-/
namespace Go.Proofs.YthaiegnohkiegaaGreat.Ab
set_option linter.unusedVariables false
set_option linter.unusedSimpArgs false
set_option maxRecDepth 20000


theorem ref_TimesN (a b : Nat) (ha : (limbs a).length ≤ 4398046511104) (hb : (limbs b).length ≤ 4398046511104) : Fn Tryz.prog 65 [.d (encN (limbs a)), .d (encN (limbs b))] false (.one (.d (encN (limbs (a * b))))) := by
 have := ref_Times (limbs a) (limbs b) ha hb (okL_limbs a) (okL_limbs b)
 rw [val_limbs, val_limbs] at this
 exact this
theorem ref_GcdG (l m : List Int) (hl : l.length ≤ 1099511627776) (hm : m.length ≤ 1099511627776) (hk : okL l) (hkm : okL m) (hg : goodL l = true) (hgm : goodL m = true) : Fn Tryz.prog 69 [.d (encN l), .d (encN m)] false (.one (.d (encN (limbs (Nat.gcd (val l) (val m)))))) := by
 have := ref_Gcd (val l) (val m) (by rw [limbs_val hk hg]; exact hl) (by rw [limbs_val hkm hgm]; exact hm)
 rw [limbs_val hk hg, limbs_val hkm hgm] at this
 exact this
theorem is_one {g : Nat} : (((limbs g).length : Int) = 1 ∧ rd (limbs g) 0 = 1) ↔ g = 1 := by
 constructor
 ·rintro ⟨h1, h2⟩
  have := (one_limb h1).2.1
  omega
 ·rintro rfl
  exact ⟨by decide, by decide⟩
theorem made_sign {n : Int} {g : Nat} (hg : 0 < g) (hd : g ∣ n.natAbs) : (decide (n < 0) && decide (0 < (limbs (n.natAbs / g)).length)) = decide (n < 0) := by
 by_cases h : n < 0
 ·have hp : n.natAbs / g ≠ 0 := by
   have := Nat.div_pos (Nat.le_of_dvd (by omega) hd) hg
   omega
  have := (limbs_len_pos _).2 hp
  simp [h, this]
 ·simp [h]

theorem ref2_Made (neg : Bool) (l : List Int) (hl : l.length ≤ 17592186044416) : Fn Tryz.prog 72 [.d (ib neg), .d (encN l)] false (.one (.agg [ib (neg && decide (0 < l.length)), encN l])) := by
 refine Fn_of_EV Tryz.func72 rfl (by kernel_rfl) rfl rfl (fun E hE => ?_)
 refine EV_seq (EV_region ?_)
 refine EVo_e rfl (D_alloc 1 (hE 1 rfl) Free_no zr38 rfl) ?_
 refine EVo_nil (EV_seq (EV_region ?_))
 refine EVo_t rfl (T_move rfl) ?_
 refine EVo_t rfl (T_move rfl) ?_
 refine EVo_case 6 rfl (fun hb1 => ?_) (fun hb1 => ?_)
 ·try simp only [z1, z2, z3, z4, z5, z6, z7, z8, z9, y1, y2, y3] at hb1
  refine EVo_t rfl (T_move rfl) ?_
  refine EVo_t rfl (T_lenL (uOk rfl) rfl) ?_
  refine EVo_t rfl (T_bin rfl rfl rfl) ?_
  refine EVo_t rfl (T_pick rfl rfl) ?_
  refine EVo_t rfl (T_move rfl) ?_
  refine EVo_t rfl (T_build ly38 rfl rfl) ?_
  refine EVo_e rfl (D_store rfl Free_no rfl rfl (zOk rfl) rfl (Nat.le_of_ble_eq_true rfl) rfl) ?_
  refine EVo_nil ?_
  refine EV_ret ?_
  refine ⟨_, ⟨rfl, _, _, _, rfl, rfl, rfl, .inl ⟨_, gOk rfl, zOk rfl, Nat.le_of_ble_eq_true rfl, rfl⟩⟩, fit_agg rfl nofun ?_⟩
  ·simp_all
 ·try simp only [z1, z2, z3, z4, z5, z6, z7, z8, z9, y1, y2, y3] at hb1
  refine EVo_off rfl rfl ?_
  refine EVo_off rfl rfl ?_
  refine EVo_off rfl rfl ?_
  refine EVo_t rfl (T_pick rfl rfl) ?_
  refine EVo_t rfl (T_move rfl) ?_
  refine EVo_t rfl (T_build ly38 rfl rfl) ?_
  refine EVo_e rfl (D_store rfl Free_no rfl rfl (zOk rfl) rfl (Nat.le_of_ble_eq_true rfl) rfl) ?_
  refine EVo_nil ?_
  refine EV_ret ?_
  refine ⟨_, ⟨rfl, _, _, _, rfl, rfl, rfl, .inl ⟨_, gOk rfl, zOk rfl, Nat.le_of_ble_eq_true rfl, rfl⟩⟩, fit_agg rfl nofun ?_⟩
  ·simp_all

theorem ref2_MadeN (neg : Bool) (n : Nat) (hl : (limbs n).length ≤ 17592186044416) : Fn Tryz.prog 72 [.d (ib neg), .d (encN (limbs n))] false (.one (.agg (encZ (if neg then -(n : Int) else n)))) := by
 have := ref2_Made neg (limbs n) (by omega)
 rw [enc_of] at this
 exact this

theorem ref2_Size (n : Int) (h0 : -9223372036854775808 ≤ n) (h1 : n ≤ 9223372036854775807) : Fn Tryz.prog 73 [.d (ii n)] false (.one (.d (iu n.natAbs))) := by
 refine Fn_of_EV Tryz.func73 rfl (by kernel_rfl) rfl rfl (fun E hE => ?_)
 refine EV_seq (EV_region ?_)
 refine EVo_t rfl (T_assign rfl) ?_
 refine EVo_nil ?_
 refine EV_seq ?_
 refine EV_seq (EV_region ?_)
 refine EVo_t rfl (T_move rfl) ?_
 refine EVo_t rfl (T_bin rfl rfl rfl) ?_
 refine EVo_nil ?_
 refine EV_cond rfl rfl rfl (fun hb1 => ?_) (fun hb1 => ?_)
 ·try simp only [z1, z2, z3, z4, z5, z6, z7, z8, z9, y1, y2, y3] at hb1
  refine EV_seq (EV_region ?_)
  refine EVo_t rfl (T_move rfl) ?_
  refine EVo_t rfl (T_conv (uOk rfl) (uOk rfl) rfl) ?_
  refine EVo_t rfl (T_bin rfl rfl rfl) ?_
  refine EVo_t rfl (T_assign rfl) ?_
  refine EVo_nil ?_
  refine EV_ret ?_
  refine ⟨_, ⟨rfl, rfl⟩, fit_eq rfl nofun ?_⟩
  ·refine congrArg iu ?_; simp only [u64_wrap]; omega
 ·try simp only [z1, z2, z3, z4, z5, z6, z7, z8, z9, y1, y2, y3] at hb1
  refine EV_skip ?_
  refine EV_seq (EV_region ?_)
  refine EVo_t rfl (T_move rfl) ?_
  refine EVo_t rfl (T_conv (uOk rfl) (uOk rfl) rfl) ?_
  refine EVo_t rfl (T_assign rfl) ?_
  refine EVo_nil ?_
  refine EV_ret ?_
  refine ⟨_, ⟨rfl, rfl⟩, fit_eq rfl nofun ?_⟩
  ·refine congrArg iu ?_; simp only [u64_wrap]; omega

theorem ref2_From (n : Int) (h0 : -9223372036854775808 ≤ n) (h1 : n ≤ 9223372036854775807) : Fn Tryz.prog 27 [.d (ii n)] false (.one (.agg (encZ n))) := by
 have hl1 : (limbs n.natAbs).length ≤ 1 := limbs_len_le (by omega)
 refine Fn_of_EV Tryz.func27 rfl (by kernel_rfl) rfl rfl (fun E hE => ?_)
 refine EV_seq (EV_region ?_)
 refine EVo_e rfl (D_alloc 1 (hE 1 rfl) Free_no zr38 rfl) ?_
 refine EVo_nil (EV_seq (EV_region ?_))
 refine EVo_t rfl (T_move rfl) ?_
 refine EVo_t rfl (T_bin rfl rfl rfl) ?_
 refine EVo_t rfl (T_move rfl) ?_
 refine EVo_e rfl (D_call false (ref2_Size _ (by omega) (by omega)) rfl (fit_cons (fit_d rfl nofun) (fit_nil))) ?_
 refine EVo_e rfl (D_call false (ref_Of _ (by omega) (by omega)) rfl (fit_cons (fit_d rfl nofun) (fit_nil))) ?_
 refine EVo_e rfl (D_call false (ref2_MadeN _ _ (by rw [Int.toNat_natCast]; omega)) rfl (fit_cons (fit_d rfl nofun) (fit_cons (fit_d rfl nofun) (fit_nil)))) ?_
 refine EVo_e rfl (D_store rfl Free_no rfl rfl (zOk rfl) rfl (Nat.le_of_ble_eq_true rfl) rfl) ?_
 refine EVo_nil ?_
 refine EV_ret ?_
 refine ⟨_, ⟨rfl, _, _, _, rfl, rfl, rfl, .inl ⟨_, gOk rfl, zOk rfl, Nat.le_of_ble_eq_true rfl, rfl⟩⟩, fit_agg rfl nofun ?_⟩
 ·refine congrArg encZ ?_
  split
  ·simp_all; omega
  ·simp_all; omega

theorem ref2_Sign (a : Int) (hl : (limbs a.natAbs).length ≤ 17592186044416) : Fn Tryz.prog 70 [.agg (encZ a)] false (.one (.d (ii (if a < 0 then -1 else if 0 < a then 1 else 0)))) := by
 have hp := limbs_len_pos a.natAbs
 refine Fn_of_EV Tryz.func70 rfl (by kernel_rfl) rfl rfl (fun E hE => ?_)
 refine EV_seq (EV_region ?_)
 refine EVo_e rfl (D_box 1 (hE 1 rfl) Free_no rfl) ?_
 refine EVo_t rfl (T_assign rfl) ?_
 refine EVo_nil ?_
 refine EV_seq ?_
 refine EV_seq (EV_region ?_)
 refine EVo_t rfl (T_faR (fOk rfl) (zOk rfl) rfl) ?_
 refine EVo_t rfl (T_loadR (gOk rfl) rfl rfl rfl rfl) ?_
 refine EVo_nil ?_
 refine EV_cond rfl rfl rfl (fun hb1 => ?_) (fun hb1 => ?_)
 ·try simp only [z1, z2, z3, z4, z5, z6, z7, z8, z9, y1, y2, y3] at hb1
  refine EV_seq (EV_region ?_)
  refine EVo_t rfl (T_assign rfl) ?_
  refine EVo_nil ?_
  refine EV_ret ?_
  refine ⟨_, ⟨rfl, rfl⟩, fit_eq rfl nofun ?_⟩
  ·rw [if_pos hb1]
 ·try simp only [z1, z2, z3, z4, z5, z6, z7, z8, z9, y1, y2, y3] at hb1
  refine EV_skip ?_
  refine EV_seq ?_
  refine EV_seq (EV_region ?_)
  refine EVo_t rfl (T_faR (fOk rfl) (zOk rfl) rfl) ?_
  refine EVo_t rfl (T_loadR (gOk rfl) rfl rfl rfl rfl) ?_
  refine EVo_t rfl (T_lenL (uOk rfl) rfl) ?_
  refine EVo_t rfl (T_bin rfl rfl rfl) ?_
  refine EVo_nil ?_
  refine EV_cond rfl rfl rfl (fun hb2 => ?_) (fun hb2 => ?_)
  ·try simp only [z1, z2, z3, z4, z5, z6, z7, z8, z9, y1, y2, y3] at hb2
   refine EV_seq (EV_region ?_)
   refine EVo_t rfl (T_assign rfl) ?_
   refine EVo_nil ?_
   refine EV_ret ?_
   refine ⟨_, ⟨rfl, rfl⟩, fit_eq rfl nofun ?_⟩
   ·have : 0 < a := by have := hp.1 (by omega); omega
    rw [if_neg (by omega), if_pos this]
  ·try simp only [z1, z2, z3, z4, z5, z6, z7, z8, z9, y1, y2, y3] at hb2
   refine EV_skip ?_
   refine EV_seq (EV_region ?_)
   refine EVo_t rfl (T_assign rfl) ?_
   refine EVo_nil ?_
   refine EV_ret ?_
   refine ⟨_, ⟨rfl, rfl⟩, fit_eq rfl nofun ?_⟩
   ·have : ¬ 0 < a := by have := mt hp.2 (by omega); omega
    rw [if_neg (by omega), if_neg this]

theorem ref2_Zero (a : Int) (hl : (limbs a.natAbs).length ≤ 17592186044416) : Fn Tryz.prog 71 [.agg (encZ a)] false (.one (.d (ib (decide (a = 0))))) := by
 have hp := limbs_len_pos a.natAbs
 refine Fn_of_EV Tryz.func71 rfl (by kernel_rfl) rfl rfl (fun E hE => ?_)
 refine EV_seq (EV_region ?_)
 refine EVo_e rfl (D_box 1 (hE 1 rfl) Free_no rfl) ?_
 refine EVo_t rfl (T_assign rfl) ?_
 refine EVo_nil (EV_seq (EV_region ?_))
 refine EVo_t rfl (T_faR (fOk rfl) (zOk rfl) rfl) ?_
 refine EVo_t rfl (T_loadR (gOk rfl) rfl rfl rfl rfl) ?_
 refine EVo_t rfl (T_lenL (uOk rfl) rfl) ?_
 refine EVo_t rfl (T_bin rfl rfl rfl) ?_
 refine EVo_t rfl (T_assign rfl) ?_
 refine EVo_nil ?_
 refine EV_ret ?_
 refine ⟨_, ⟨rfl, rfl⟩, fit_eq rfl nofun ?_⟩
 ·refine congrArg ib (decide_eq_decide.2 ?_)
  omega

theorem ref2_Neg (a : Int) (hl : (limbs a.natAbs).length ≤ 17592186044416) : Fn Tryz.prog 76 [.agg (encZ a)] false (.one (.agg (encZ (-a)))) := by
 refine Fn_of_EV Tryz.func76 rfl (by kernel_rfl) rfl rfl (fun E hE => ?_)
 refine EV_seq (EV_region ?_)
 refine EVo_e rfl (D_box 1 (hE 1 rfl) Free_no rfl) ?_
 refine EVo_e rfl (D_alloc 2 (hE 2 rfl) Free_no zr38 rfl) ?_
 refine EVo_nil (EV_seq (EV_region ?_))
 refine EVo_t rfl (T_faR (fOk rfl) (zOk rfl) rfl) ?_
 refine EVo_t rfl (T_loadR (gOk rfl) rfl rfl rfl rfl) ?_
 refine EVo_t rfl (T_un rfl rfl) ?_
 refine EVo_t rfl (T_faR (fOk rfl) (zOk rfl) rfl) ?_
 refine EVo_t rfl (T_loadR (gOk rfl) rfl rfl rfl rfl) ?_
 refine EVo_e rfl (D_call false (ref2_MadeN _ _ (by omega)) rfl (fit_cons (fit_d rfl nofun) (fit_cons (fit_d rfl nofun) (fit_nil)))) ?_
 refine EVo_e rfl (D_store rfl Free_no rfl rfl (zOk rfl) rfl (Nat.le_of_ble_eq_true rfl) rfl) ?_
 refine EVo_nil ?_
 refine EV_ret ?_
 refine ⟨_, ⟨rfl, _, _, _, rfl, rfl, rfl, .inl ⟨_, gOk rfl, zOk rfl, Nat.le_of_ble_eq_true rfl, rfl⟩⟩, fit_agg rfl nofun ?_⟩
 ·exact congrArg encZ (neg_sign a)

theorem ref2_Times (a b : Int) (hl : (limbs a.natAbs).length + (limbs b.natAbs).length ≤ 4398046511104) : Fn Tryz.prog 64 [.agg (encZ a), .agg (encZ b)] false (.one (.agg (encZ (a * b)))) := by
 have hml := limbs_mul_len a.natAbs b.natAbs
 refine Fn_of_EV Tryz.func64 rfl (by kernel_rfl) rfl rfl (fun E hE => ?_)
 refine EV_seq (EV_region ?_)
 refine EVo_e rfl (D_box 1 (hE 1 rfl) Free_no rfl) ?_
 refine EVo_e rfl (D_box 2 (hE 2 rfl) Free_no rfl) ?_
 refine EVo_e rfl (D_alloc 3 (hE 3 rfl) Free_no zr38 rfl) ?_
 refine EVo_nil ?_
 refine EV_seq ?_
 refine EV_draw (inX [1, 2]) (.st 0 (.st 1 (.st 2 (.st 3 (.st 4 (.st 5 (.st 6 (.st 7 (.st 8 (.one 9 (.one 10 (.one 11 .done)))))))))))) Tryz.mixed (by kernel_rfl) ?_
 refine EVq_t rfl rfl (T_faR (fOk rfl) (zOk rfl) rfl) ?_
 refine EVq_t rfl rfl (T_loadR (gOk rfl) rfl rfl rfl rfl) ?_
 refine EVq_t rfl rfl (T_faR (fOk rfl) (zOk rfl) rfl) ?_
 refine EVq_t rfl rfl (T_loadR (gOk rfl) rfl rfl rfl rfl) ?_
 refine EVq_t rfl rfl (T_eqb (uOk rfl) rfl rfl (.inr ⟨rfl, rfl⟩)) ?_
 refine EVq_t rfl rfl (T_faR (fOk rfl) (zOk rfl) rfl) ?_
 refine EVq_t rfl rfl (T_loadR (gOk rfl) rfl rfl rfl rfl) ?_
 refine EVq_t rfl rfl (T_faR (fOk rfl) (zOk rfl) rfl) ?_
 refine EVq_t rfl rfl (T_loadR (gOk rfl) rfl rfl rfl rfl) ?_
 refine EVq_e rfl rfl (D_call false (ref_TimesN _ _ (by omega) (by omega)) rfl (fit_cons (fit_d rfl nofun) (fit_cons (fit_d rfl nofun) (fit_nil)))) ?_
 refine EVq_e rfl rfl (D_call false (ref2_MadeN _ _ (by omega)) rfl (fit_cons (fit_d rfl nofun) (fit_cons (fit_d rfl nofun) (fit_nil)))) ?_
 refine EVq_e rfl rfl (D_store rfl (Free_in rfl) rfl rfl (zOk rfl) rfl (Nat.le_of_ble_eq_true rfl) rfl) ?_
 refine EVq_done ?_
 refine EV_ret ?_
 refine ⟨_, ⟨rfl, _, _, _, rfl, rfl, rfl, .inl ⟨_, gOk rfl, zOk rfl, Nat.le_of_ble_eq_true rfl, rfl⟩⟩, fit_agg rfl nofun ?_⟩
 ·exact congrArg encZ (mul_sign a b)

theorem ref2_May (neg : Bool) (l : List Int) (hl : l.length ≤ 17592186044416) : Fn Tryz.prog 67 [.agg [ib neg, encN l]] false (.one (.d (ib (goodZ neg l)))) := by
 refine Fn_of_EV Tryz.func67 rfl (by kernel_rfl) rfl rfl (fun E hE => ?_)
 refine EV_seq (EV_region ?_)
 refine EVo_e rfl (D_box 1 (hE 1 rfl) Free_no rfl) ?_
 refine EVo_t rfl (T_assign rfl) ?_
 refine EVo_nil (EV_seq (EV_region ?_))
 refine EVo_t rfl (T_faR (fOk rfl) (zOk rfl) rfl) ?_
 refine EVo_t rfl (T_loadR (gOk rfl) rfl rfl rfl rfl) ?_
 refine EVo_e rfl (D_call false (ref_May _ (by omega)) rfl (fit_cons (fit_d rfl nofun) (fit_nil))) ?_
 refine EVo_t rfl (T_move rfl) ?_
 refine EVo_case 6 rfl (fun hb1 => ?_) (fun hb1 => ?_)
 ·try simp only [z1, z2, z3, z4, z5, z6, z7, z8, z9, y1, y2, y3] at hb1
  refine EVo_t rfl (T_faR (fOk rfl) (zOk rfl) rfl) ?_
  refine EVo_t rfl (T_loadR (gOk rfl) rfl rfl rfl rfl) ?_
  refine EVo_t rfl (T_lenL (uOk rfl) rfl) ?_
  refine EVo_t rfl (T_bin rfl rfl rfl) ?_
  refine EVo_t rfl (T_move rfl) ?_
  refine EVo_case 11 rfl (fun hb2 => ?_) (fun hb2 => ?_)
  ·try simp only [z1, z2, z3, z4, z5, z6, z7, z8, z9, y1, y2, y3] at hb2
   refine EVo_off rfl rfl ?_
   refine EVo_off rfl rfl ?_
   refine EVo_off rfl rfl ?_
   refine EVo_t rfl (T_pick rfl rfl) ?_
   refine EVo_t rfl (T_pick rfl rfl) ?_
   refine EVo_t rfl (T_assign rfl) ?_
   refine EVo_nil ?_
   refine EV_ret ?_
   refine ⟨_, ⟨rfl, rfl⟩, fit_eq rfl nofun ?_⟩
   ·rcases hg : goodL l <;> cases neg <;> simp_all [goodZ] <;> omega
  ·try simp only [z1, z2, z3, z4, z5, z6, z7, z8, z9, y1, y2, y3] at hb2
   refine EVo_t rfl (T_faR (fOk rfl) (zOk rfl) rfl) ?_
   refine EVo_t rfl (T_loadR (gOk rfl) rfl rfl rfl rfl) ?_
   refine EVo_t rfl (T_un rfl rfl) ?_
   refine EVo_t rfl (T_pick rfl rfl) ?_
   refine EVo_t rfl (T_pick rfl rfl) ?_
   refine EVo_t rfl (T_assign rfl) ?_
   refine EVo_nil ?_
   refine EV_ret ?_
   refine ⟨_, ⟨rfl, rfl⟩, fit_eq rfl nofun ?_⟩
   ·rcases hg : goodL l <;> cases neg <;> simp_all [goodZ] <;> omega
 ·try simp only [z1, z2, z3, z4, z5, z6, z7, z8, z9, y1, y2, y3] at hb1
  refine EVo_off rfl rfl ?_
  refine EVo_off rfl rfl ?_
  refine EVo_off rfl rfl ?_
  refine EVo_off rfl rfl ?_
  refine EVo_off rfl rfl ?_
  refine EVo_off rfl rfl ?_
  refine EVo_off rfl rfl ?_
  refine EVo_off rfl rfl ?_
  refine EVo_off rfl rfl ?_
  refine EVo_t rfl (T_pick rfl rfl) ?_
  refine EVo_t rfl (T_assign rfl) ?_
  refine EVo_nil ?_
  refine EV_ret ?_
  refine ⟨_, ⟨rfl, rfl⟩, fit_eq rfl nofun ?_⟩
  ·rcases hg : goodL l <;> cases neg <;> simp_all [goodZ] <;> omega

end Go.Proofs.YthaiegnohkiegaaGreat.Ab
/-
 Contracts of the reference: rationals.
-/
namespace Go.Proofs.YthaiegnohkiegaaGreat.Ab
set_option linter.unusedVariables false
set_option linter.unusedSimpArgs false
set_option maxRecDepth 20000


theorem ref3_den (q : Rat) (h : szQ q ≤ 1099511627776) : Fn Tryz.prog 75 [.agg (encQ q)] false (.one (.agg (encZ (q.den : Int)))) := by
 have hzq : szQ q = (limbs q.num.natAbs).length + (limbs q.den).length := rfl
 refine Fn_of_EV Tryz.func75 rfl (by kernel_rfl) rfl rfl (fun E hE => ?_)
 refine EV_seq (EV_region ?_)
 refine EVo_e rfl (D_box 1 (hE 1 rfl) Free_no rfl) ?_
 refine EVo_e rfl (D_alloc 2 (hE 2 rfl) Free_no zr38 rfl) ?_
 refine EVo_nil (EV_seq (EV_region ?_))
 refine EVo_t rfl (T_faR (fOk rfl) (zOk rfl) rfl) ?_
 refine EVo_t rfl (T_loadR (gOk rfl) rfl rfl rfl rfl) ?_
 refine EVo_e rfl (D_call false (ref2_MadeN false q.den (by omega)) rfl (fit_cons (fit_d rfl nofun) (fit_cons (fit_d rfl nofun) (fit_nil)))) ?_
 refine EVo_e rfl (D_store rfl Free_no rfl rfl (zOk rfl) rfl (Nat.le_of_ble_eq_true rfl) rfl) ?_
 refine EVo_nil ?_
 refine EV_ret ?_
 refine ⟨_, ⟨rfl, _, _, _, rfl, rfl, rfl, .inl ⟨_, gOk rfl, zOk rfl, Nat.le_of_ble_eq_true rfl, rfl⟩⟩, fit_agg rfl nofun rfl⟩

theorem ref3_Make (n : Int) (d : Nat) (hd : d ≠ 0) (hn : (limbs n.natAbs).length ≤ 1099511627776) (hdl : (limbs d).length ≤ 1099511627776) : Fn Tryz.prog 63 [.agg (encZ n), .d (encN (limbs d))] false (.one (.agg (encQ (mkRat n d)))) := by
 have hg : Nat.gcd n.natAbs d ≠ 0 := Nat.ne_of_gt (Nat.gcd_pos_of_pos_right n.natAbs (Nat.pos_of_ne_zero hd))
 have hgl := limbs_mono (Nat.gcd_le_right n.natAbs (Nat.pos_of_ne_zero hd))
 have hdv := limbs_mono (Nat.div_le_self n.natAbs (Nat.gcd n.natAbs d))
 refine Fn_of_EV Tryz.func63 rfl (by kernel_rfl) rfl rfl (fun E hE => ?_)
 refine EV_seq (EV_region ?_)
 refine EVo_e rfl (D_box 1 (hE 1 rfl) Free_no rfl) ?_
 refine EVo_e rfl (D_alloc 2 (hE 2 rfl) Free_no zr40 rfl) ?_
 refine EVo_nil (EV_seq (EV_region ?_))
 refine EVo_t rfl (T_faR (fOk rfl) (zOk rfl) rfl) ?_
 refine EVo_t rfl (T_loadR (gOk rfl) rfl rfl rfl rfl) ?_
 refine EVo_t rfl (T_move rfl) ?_
 refine EVo_e rfl (D_call false (ref_Gcd n.natAbs d (by omega) (by omega)) rfl (fit_cons (fit_d rfl nofun) (fit_cons (fit_d rfl nofun) (fit_nil)))) ?_
 refine EVo_t rfl (T_assign rfl) ?_
 refine EVo_nil (EV_seq (EV_region ?_))
 refine EVo_t rfl (T_faR (fOk rfl) (zOk rfl) rfl) ?_
 refine EVo_t rfl (T_loadR (gOk rfl) rfl rfl rfl rfl) ?_
 refine EVo_t rfl (T_move rfl) ?_
 refine EVo_e rfl (D_call false (ref_Divide _ _ hg (by omega) (by omega)) rfl (fit_cons (fit_d rfl nofun) (fit_cons (fit_d rfl nofun) (fit_nil)))) ?_
 refine EVo_t rfl (T_move rfl) ?_
 refine EVo_t rfl (T_extract rfl rfl) ?_
 refine EVo_t rfl (T_extract rfl rfl) ?_
 refine EVo_t rfl (T_assign rfl) ?_
 refine EVo_t rfl (T_assign rfl) ?_
 refine EVo_nil (EV_seq (EV_region ?_))
 refine EVo_t rfl (T_move rfl) ?_
 refine EVo_t rfl (T_move rfl) ?_
 refine EVo_e rfl (D_call false (ref_Divide _ _ hg (by omega) (by omega)) rfl (fit_cons (fit_d rfl nofun) (fit_cons (fit_d rfl nofun) (fit_nil)))) ?_
 refine EVo_t rfl (T_move rfl) ?_
 refine EVo_t rfl (T_extract rfl rfl) ?_
 refine EVo_t rfl (T_extract rfl rfl) ?_
 refine EVo_t rfl (T_assign rfl) ?_
 refine EVo_t rfl (T_assign rfl) ?_
 refine EVo_nil (EV_seq (EV_region ?_))
 refine EVo_t rfl (T_faR (fOk rfl) (zOk rfl) rfl) ?_
 refine EVo_t rfl (T_loadR (gOk rfl) rfl rfl rfl rfl) ?_
 refine EVo_t rfl (T_move rfl) ?_
 refine EVo_e rfl (D_call false (ref2_Made _ _ (by omega)) rfl (fit_cons (fit_d rfl nofun) (fit_cons (fit_d rfl nofun) (fit_nil)))) ?_
 refine EVo_t rfl (T_move rfl) ?_
 refine EVo_t rfl (T_build ly40 rfl rfl) ?_
 refine EVo_e rfl (D_store rfl Free_no rfl rfl (zOk rfl) rfl (Nat.le_of_ble_eq_true rfl) rfl) ?_
 refine EVo_nil ?_
 refine EV_ret ?_
 refine ⟨_, ⟨rfl, _, _, _, rfl, rfl, rfl, .inl ⟨_, gOk rfl, zOk rfl, Nat.le_of_ble_eq_true rfl, rfl⟩⟩, fit_agg rfl nofun ?_⟩
 ·rw [encQ_mk n hd, made_sign (Nat.pos_of_ne_zero hg) (Nat.gcd_dvd_left _ _)]

theorem ref3_Times (p q : Rat) (h : szQ p + szQ q ≤ 549755813888) : Fn Tryz.prog 20 [.agg (encQ p), .agg (encQ q)] false (.one (.agg (encQ (p * q)))) := by
 have hzp : szQ p = (limbs p.num.natAbs).length + (limbs p.den).length := rfl
 have hzq : szQ q = (limbs q.num.natAbs).length + (limbs q.den).length := rfl
 have hpd := p.den_nz
 have hqd := q.den_nz
 have hm1 := limbs_mul_len p.num.natAbs q.num.natAbs
 have hm2 := limbs_mul_len p.den q.den
 have hss : (limbs (p.num * q.num).natAbs).length ≤ szQ p + szQ q := by rw [Int.natAbs_mul]; omega
 refine Fn_of_EV Tryz.func20 rfl (by kernel_rfl) rfl rfl (fun E hE => ?_)
 refine EV_seq (EV_region ?_)
 refine EVo_e rfl (D_box 1 (hE 1 rfl) Free_no rfl) ?_
 refine EVo_e rfl (D_box 2 (hE 2 rfl) Free_no rfl) ?_
 refine EVo_e rfl (D_alloc 3 (hE 3 rfl) Free_no zr40 rfl) ?_
 refine EVo_nil ?_
 refine EV_seq ?_
 refine EV_draw (inX [1, 2]) (.st 0 (.st 1 (.st 2 (.st 3 (.st 5 (.st 6 (.st 7 (.st 8 (.one 4 (.one 9 (.one 10 (.one 11 .done)))))))))))) Tryz.mixed (by kernel_rfl) ?_
 refine EVq_t rfl rfl (T_faR (fOk rfl) (zOk rfl) rfl) ?_
 refine EVq_t rfl rfl (T_loadRA (gOk rfl) (zOk rfl) rfl rfl (Nat.le_of_ble_eq_true rfl) rfl rfl) ?_
 refine EVq_t rfl rfl (T_faR (fOk rfl) (zOk rfl) rfl) ?_
 refine EVq_t rfl rfl (T_loadRA (gOk rfl) (zOk rfl) rfl rfl (Nat.le_of_ble_eq_true rfl) rfl rfl) ?_
 refine EVq_t rfl rfl (T_faR (fOk rfl) (zOk rfl) rfl) ?_
 refine EVq_t rfl rfl (T_loadR (gOk rfl) rfl rfl rfl rfl) ?_
 refine EVq_t rfl rfl (T_faR (fOk rfl) (zOk rfl) rfl) ?_
 refine EVq_t rfl rfl (T_loadR (gOk rfl) rfl rfl rfl rfl) ?_
 refine EVq_e rfl rfl (D_call false (ref2_Times p.num q.num (by omega)) rfl (fit_cons (fit_ag rfl nofun) (fit_cons (fit_ag rfl nofun) (fit_nil)))) ?_
 refine EVq_e rfl rfl (D_call false (ref_TimesN p.den q.den (by omega) (by omega)) rfl (fit_cons (fit_d rfl nofun) (fit_cons (fit_d rfl nofun) (fit_nil)))) ?_
 refine EVq_e rfl rfl (D_call false (ref3_Make (p.num * q.num) (p.den * q.den) (Nat.mul_ne_zero hpd hqd) (by omega) (by omega)) rfl (fit_cons (fit_ag rfl nofun) (fit_cons (fit_d rfl nofun) (fit_nil)))) ?_
 refine EVq_e rfl rfl (D_store rfl (Free_in rfl) rfl rfl (zOk rfl) rfl (Nat.le_of_ble_eq_true rfl) rfl) ?_
 refine EVq_done ?_
 refine EV_ret ?_
 refine ⟨_, ⟨rfl, _, _, _, rfl, rfl, rfl, .inl ⟨_, gOk rfl, zOk rfl, Nat.le_of_ble_eq_true rfl, rfl⟩⟩, fit_agg rfl nofun ?_⟩
 ·exact congrArg encQ (Rat.mul_def' p q).symm

theorem ref3_Over (p q : Rat) (h : szQ p + szQ q ≤ 549755813888) (hq0 : q ≠ 0) : Fn Tryz.prog 29 [.agg (encQ p), .agg (encQ q)] false (.one (.agg (encQ (p / q)))) := by
 have hzp : szQ p = (limbs p.num.natAbs).length + (limbs p.den).length := rfl
 have hzq : szQ q = (limbs q.num.natAbs).length + (limbs q.den).length := rfl
 have hpd := p.den_nz
 have hqd := q.den_nz
 have hqn : q.num.natAbs ≠ 0 := (inv_parts hq0).2.2
 have hm1 := limbs_mul_len p.num.natAbs q.den
 have hm2 := limbs_mul_len p.den q.num.natAbs
 have hss : (limbs (p.num * (q.den : Int)).natAbs).length ≤ szQ p + szQ q := by rw [Int.natAbs_mul, Int.natAbs_natCast]; omega
 refine Fn_of_EV Tryz.func29 rfl (by kernel_rfl) rfl rfl (fun E hE => ?_)
 refine EV_seq (EV_region ?_)
 refine EVo_e rfl (D_box 1 (hE 1 rfl) Free_no rfl) ?_
 refine EVo_e rfl (D_box 2 (hE 2 rfl) Free_no rfl) ?_
 refine EVo_e rfl (D_alloc 3 (hE 3 rfl) Free_no zr40 rfl) ?_
 refine EVo_nil ?_
 refine EV_seq ?_
 refine EV_draw (inX [1, 2]) (.st 0 (.st 1 (.st 2 (.two 3 (.two 4 (.one 5 (.one 6 .done)) 5 (.one 4 (.one 6 .done))) 5 (.one 3 (.one 4 (.one 6 .done))))))) Tryz.mixed (by kernel_rfl) ?_
 refine EVq_t rfl rfl (T_faR (fOk rfl) (zOk rfl) rfl) ?_
 refine EVq_t rfl rfl (T_loadRA (gOk rfl) (zOk rfl) rfl rfl (Nat.le_of_ble_eq_true rfl) rfl rfl) ?_
 refine EVq_t rfl rfl (T_loadRA (gOk rfl) (zOk rfl) rfl rfl (Nat.le_of_ble_eq_true rfl) rfl rfl) ?_
 refine EVq_two rfl rfl (D_call false (ref3_den q (by omega)) rfl (fit_cons (fit_ag rfl nofun) (fit_nil))) rfl rfl (D_alloc 4 (hE 4 rfl) (Free_in rfl) zr38 rfl) ?_ ?_
 ·
  refine EVq_two rfl rfl (D_call false (ref2_Times p.num (q.den : Int) (by rw [Int.natAbs_natCast]; omega)) rfl (fit_cons (fit_ag rfl nofun) (fit_cons (fit_ag rfl nofun) (fit_nil)))) rfl rfl (D_alloc 5 (hE 5 rfl) (Free_in rfl) zr38 rfl) ?_ ?_
  ·
   refine EVq_e rfl rfl (D_alloc 6 (hE 6 rfl) (Free_in rfl) zr38 rfl) ?_
   refine EVq_e rfl rfl (D_store rfl (Free_in rfl) rfl rfl (zOk rfl) rfl (Nat.le_of_ble_eq_true rfl) rfl) ?_
   refine EVq_done ?_
   refine EV_seq ?_
   refine EV_seq (EV_region ?_)
   refine EVo_t rfl (T_faR (fOk rfl) (zOk rfl) rfl) ?_
   refine EVo_t rfl (T_faR (fOk rfl) (zOk rfl) rfl) ?_
   refine EVo_t rfl (T_loadR (gOk rfl) rfl rfl rfl rfl) ?_
   refine EVo_nil ?_
   refine EV_cond rfl rfl rfl (fun hb1 => ?_) (fun hb1 => ?_)
   ·try simp only [z1, z2, z3, z4, z5, z6, z7, z8, z9, y1, y2, y3] at hb1
    have hbn := hb1
    refine EV_region ?_
    refine EVo_t rfl (T_loadRA (gOk rfl) (zOk rfl) rfl rfl (Nat.le_of_ble_eq_true rfl) rfl rfl) ?_
    refine EVo_e rfl (D_call false (ref2_Neg (p.num * (q.den : Int)) (by omega)) rfl (fit_cons (fit_ag rfl nofun) (fit_nil))) ?_
    refine EVo_e rfl (D_store rfl Free_no rfl rfl (zOk rfl) rfl (Nat.le_of_ble_eq_true rfl) rfl) ?_
    refine EVo_nil ?_
    refine EV_seq ?_
    refine EV_draw (inX [1, 2, 6]) (.st 0 (.st 1 (.st 2 (.st 3 (.st 4 (.st 5 (.one 6 (.one 7 (.one 8 .done))))))))) Tryz.mixed (by kernel_rfl) ?_
    refine EVq_t rfl rfl (T_loadRA (gOk rfl) (zOk rfl) rfl rfl (Nat.le_of_ble_eq_true rfl) rfl rfl) ?_
    refine EVq_t rfl rfl (T_faR (fOk rfl) (zOk rfl) rfl) ?_
    refine EVq_t rfl rfl (T_loadR (gOk rfl) rfl rfl rfl rfl) ?_
    refine EVq_t rfl rfl (T_faR (fOk rfl) (zOk rfl) rfl) ?_
    refine EVq_t rfl rfl (T_faR (fOk rfl) (zOk rfl) rfl) ?_
    refine EVq_t rfl rfl (T_loadR (gOk rfl) rfl rfl rfl rfl) ?_
    refine EVq_e rfl rfl (D_call false (ref_TimesN p.den q.num.natAbs (by omega) (by omega)) rfl (fit_cons (fit_d rfl nofun) (fit_cons (fit_d rfl nofun) (fit_nil)))) ?_
    refine EVq_e rfl rfl (D_call false (ref3_Make _ _ (Nat.mul_ne_zero hpd hqn) (by (try rw [Int.natAbs_neg]); omega) (by omega)) rfl (fit_cons (fit_ag rfl nofun) (fit_cons (fit_d rfl nofun) (fit_nil)))) ?_
    refine EVq_e rfl rfl (D_store rfl (Free_in rfl) rfl rfl (zOk rfl) rfl (Nat.le_of_ble_eq_true rfl) rfl) ?_
    refine EVq_done ?_
    refine EV_ret ?_
    refine ⟨_, ⟨rfl, _, _, _, rfl, rfl, rfl, .inl ⟨_, gOk rfl, zOk rfl, Nat.le_of_ble_eq_true rfl, rfl⟩⟩, fit_agg rfl nofun ?_⟩
    ·refine congrArg encQ ?_
     rw [div_mk hq0]
     first | rw [if_pos hbn, Int.mul_neg] | rw [if_neg hbn]
   ·try simp only [z1, z2, z3, z4, z5, z6, z7, z8, z9, y1, y2, y3] at hb1
    have hbn : ¬ q.num < 0 := by omega
    refine EV_skip ?_
    refine EV_seq ?_
    refine EV_draw (inX [1, 2, 6]) (.st 0 (.st 1 (.st 2 (.st 3 (.st 4 (.st 5 (.one 6 (.one 7 (.one 8 .done))))))))) Tryz.mixed (by kernel_rfl) ?_
    refine EVq_t rfl rfl (T_loadRA (gOk rfl) (zOk rfl) rfl rfl (Nat.le_of_ble_eq_true rfl) rfl rfl) ?_
    refine EVq_t rfl rfl (T_faR (fOk rfl) (zOk rfl) rfl) ?_
    refine EVq_t rfl rfl (T_loadR (gOk rfl) rfl rfl rfl rfl) ?_
    refine EVq_t rfl rfl (T_faR (fOk rfl) (zOk rfl) rfl) ?_
    refine EVq_t rfl rfl (T_faR (fOk rfl) (zOk rfl) rfl) ?_
    refine EVq_t rfl rfl (T_loadR (gOk rfl) rfl rfl rfl rfl) ?_
    refine EVq_e rfl rfl (D_call false (ref_TimesN p.den q.num.natAbs (by omega) (by omega)) rfl (fit_cons (fit_d rfl nofun) (fit_cons (fit_d rfl nofun) (fit_nil)))) ?_
    refine EVq_e rfl rfl (D_call false (ref3_Make _ _ (Nat.mul_ne_zero hpd hqn) (by (try rw [Int.natAbs_neg]); omega) (by omega)) rfl (fit_cons (fit_ag rfl nofun) (fit_cons (fit_d rfl nofun) (fit_nil)))) ?_
    refine EVq_e rfl rfl (D_store rfl (Free_in rfl) rfl rfl (zOk rfl) rfl (Nat.le_of_ble_eq_true rfl) rfl) ?_
    refine EVq_done ?_
    refine EV_ret ?_
    refine ⟨_, ⟨rfl, _, _, _, rfl, rfl, rfl, .inl ⟨_, gOk rfl, zOk rfl, Nat.le_of_ble_eq_true rfl, rfl⟩⟩, fit_agg rfl nofun ?_⟩
    ·refine congrArg encQ ?_
     rw [div_mk hq0]
     first | rw [if_pos hbn, Int.mul_neg] | rw [if_neg hbn]
  ·
   refine EVq_e rfl rfl (D_call false (ref2_Times p.num (q.den : Int) (by rw [Int.natAbs_natCast]; omega)) rfl (fit_cons (fit_ag rfl nofun) (fit_cons (fit_ag rfl nofun) (fit_nil)))) ?_
   refine EVq_e rfl rfl (D_store rfl (Free_in rfl) rfl rfl (zOk rfl) rfl (Nat.le_of_ble_eq_true rfl) rfl) ?_
   refine EVq_done ?_
   refine EV_seq ?_
   refine EV_seq (EV_region ?_)
   refine EVo_t rfl (T_faR (fOk rfl) (zOk rfl) rfl) ?_
   refine EVo_t rfl (T_faR (fOk rfl) (zOk rfl) rfl) ?_
   refine EVo_t rfl (T_loadR (gOk rfl) rfl rfl rfl rfl) ?_
   refine EVo_nil ?_
   refine EV_cond rfl rfl rfl (fun hb2 => ?_) (fun hb2 => ?_)
   ·try simp only [z1, z2, z3, z4, z5, z6, z7, z8, z9, y1, y2, y3] at hb2
    have hbn := hb2
    refine EV_region ?_
    refine EVo_t rfl (T_loadRA (gOk rfl) (zOk rfl) rfl rfl (Nat.le_of_ble_eq_true rfl) rfl rfl) ?_
    refine EVo_e rfl (D_call false (ref2_Neg (p.num * (q.den : Int)) (by omega)) rfl (fit_cons (fit_ag rfl nofun) (fit_nil))) ?_
    refine EVo_e rfl (D_store rfl Free_no rfl rfl (zOk rfl) rfl (Nat.le_of_ble_eq_true rfl) rfl) ?_
    refine EVo_nil ?_
    refine EV_seq ?_
    refine EV_draw (inX [1, 2, 5]) (.st 0 (.st 1 (.st 2 (.st 3 (.st 4 (.st 5 (.one 6 (.one 7 (.one 8 .done))))))))) Tryz.mixed (by kernel_rfl) ?_
    refine EVq_t rfl rfl (T_loadRA (gOk rfl) (zOk rfl) rfl rfl (Nat.le_of_ble_eq_true rfl) rfl rfl) ?_
    refine EVq_t rfl rfl (T_faR (fOk rfl) (zOk rfl) rfl) ?_
    refine EVq_t rfl rfl (T_loadR (gOk rfl) rfl rfl rfl rfl) ?_
    refine EVq_t rfl rfl (T_faR (fOk rfl) (zOk rfl) rfl) ?_
    refine EVq_t rfl rfl (T_faR (fOk rfl) (zOk rfl) rfl) ?_
    refine EVq_t rfl rfl (T_loadR (gOk rfl) rfl rfl rfl rfl) ?_
    refine EVq_e rfl rfl (D_call false (ref_TimesN p.den q.num.natAbs (by omega) (by omega)) rfl (fit_cons (fit_d rfl nofun) (fit_cons (fit_d rfl nofun) (fit_nil)))) ?_
    refine EVq_e rfl rfl (D_call false (ref3_Make _ _ (Nat.mul_ne_zero hpd hqn) (by (try rw [Int.natAbs_neg]); omega) (by omega)) rfl (fit_cons (fit_ag rfl nofun) (fit_cons (fit_d rfl nofun) (fit_nil)))) ?_
    refine EVq_e rfl rfl (D_store rfl (Free_in rfl) rfl rfl (zOk rfl) rfl (Nat.le_of_ble_eq_true rfl) rfl) ?_
    refine EVq_done ?_
    refine EV_ret ?_
    refine ⟨_, ⟨rfl, _, _, _, rfl, rfl, rfl, .inl ⟨_, gOk rfl, zOk rfl, Nat.le_of_ble_eq_true rfl, rfl⟩⟩, fit_agg rfl nofun ?_⟩
    ·refine congrArg encQ ?_
     rw [div_mk hq0]
     first | rw [if_pos hbn, Int.mul_neg] | rw [if_neg hbn]
   ·try simp only [z1, z2, z3, z4, z5, z6, z7, z8, z9, y1, y2, y3] at hb2
    have hbn : ¬ q.num < 0 := by omega
    refine EV_skip ?_
    refine EV_seq ?_
    refine EV_draw (inX [1, 2, 5]) (.st 0 (.st 1 (.st 2 (.st 3 (.st 4 (.st 5 (.one 6 (.one 7 (.one 8 .done))))))))) Tryz.mixed (by kernel_rfl) ?_
    refine EVq_t rfl rfl (T_loadRA (gOk rfl) (zOk rfl) rfl rfl (Nat.le_of_ble_eq_true rfl) rfl rfl) ?_
    refine EVq_t rfl rfl (T_faR (fOk rfl) (zOk rfl) rfl) ?_
    refine EVq_t rfl rfl (T_loadR (gOk rfl) rfl rfl rfl rfl) ?_
    refine EVq_t rfl rfl (T_faR (fOk rfl) (zOk rfl) rfl) ?_
    refine EVq_t rfl rfl (T_faR (fOk rfl) (zOk rfl) rfl) ?_
    refine EVq_t rfl rfl (T_loadR (gOk rfl) rfl rfl rfl rfl) ?_
    refine EVq_e rfl rfl (D_call false (ref_TimesN p.den q.num.natAbs (by omega) (by omega)) rfl (fit_cons (fit_d rfl nofun) (fit_cons (fit_d rfl nofun) (fit_nil)))) ?_
    refine EVq_e rfl rfl (D_call false (ref3_Make _ _ (Nat.mul_ne_zero hpd hqn) (by (try rw [Int.natAbs_neg]); omega) (by omega)) rfl (fit_cons (fit_ag rfl nofun) (fit_cons (fit_d rfl nofun) (fit_nil)))) ?_
    refine EVq_e rfl rfl (D_store rfl (Free_in rfl) rfl rfl (zOk rfl) rfl (Nat.le_of_ble_eq_true rfl) rfl) ?_
    refine EVq_done ?_
    refine EV_ret ?_
    refine ⟨_, ⟨rfl, _, _, _, rfl, rfl, rfl, .inl ⟨_, gOk rfl, zOk rfl, Nat.le_of_ble_eq_true rfl, rfl⟩⟩, fit_agg rfl nofun ?_⟩
    ·refine congrArg encQ ?_
     rw [div_mk hq0]
     first | rw [if_pos hbn, Int.mul_neg] | rw [if_neg hbn]
 ·
  refine EVq_e rfl rfl (D_call false (ref3_den q (by omega)) rfl (fit_cons (fit_ag rfl nofun) (fit_nil))) ?_
  refine EVq_e rfl rfl (D_call false (ref2_Times p.num (q.den : Int) (by rw [Int.natAbs_natCast]; omega)) rfl (fit_cons (fit_ag rfl nofun) (fit_cons (fit_ag rfl nofun) (fit_nil)))) ?_
  refine EVq_e rfl rfl (D_store rfl (Free_in rfl) rfl rfl (zOk rfl) rfl (Nat.le_of_ble_eq_true rfl) rfl) ?_
  refine EVq_done ?_
  refine EV_seq ?_
  refine EV_seq (EV_region ?_)
  refine EVo_t rfl (T_faR (fOk rfl) (zOk rfl) rfl) ?_
  refine EVo_t rfl (T_faR (fOk rfl) (zOk rfl) rfl) ?_
  refine EVo_t rfl (T_loadR (gOk rfl) rfl rfl rfl rfl) ?_
  refine EVo_nil ?_
  refine EV_cond rfl rfl rfl (fun hb3 => ?_) (fun hb3 => ?_)
  ·try simp only [z1, z2, z3, z4, z5, z6, z7, z8, z9, y1, y2, y3] at hb3
   have hbn := hb3
   refine EV_region ?_
   refine EVo_t rfl (T_loadRA (gOk rfl) (zOk rfl) rfl rfl (Nat.le_of_ble_eq_true rfl) rfl rfl) ?_
   refine EVo_e rfl (D_call false (ref2_Neg (p.num * (q.den : Int)) (by omega)) rfl (fit_cons (fit_ag rfl nofun) (fit_nil))) ?_
   refine EVo_e rfl (D_store rfl Free_no rfl rfl (zOk rfl) rfl (Nat.le_of_ble_eq_true rfl) rfl) ?_
   refine EVo_nil ?_
   refine EV_seq ?_
   refine EV_draw (inX [1, 2, 4]) (.st 0 (.st 1 (.st 2 (.st 3 (.st 4 (.st 5 (.one 6 (.one 7 (.one 8 .done))))))))) Tryz.mixed (by kernel_rfl) ?_
   refine EVq_t rfl rfl (T_loadRA (gOk rfl) (zOk rfl) rfl rfl (Nat.le_of_ble_eq_true rfl) rfl rfl) ?_
   refine EVq_t rfl rfl (T_faR (fOk rfl) (zOk rfl) rfl) ?_
   refine EVq_t rfl rfl (T_loadR (gOk rfl) rfl rfl rfl rfl) ?_
   refine EVq_t rfl rfl (T_faR (fOk rfl) (zOk rfl) rfl) ?_
   refine EVq_t rfl rfl (T_faR (fOk rfl) (zOk rfl) rfl) ?_
   refine EVq_t rfl rfl (T_loadR (gOk rfl) rfl rfl rfl rfl) ?_
   refine EVq_e rfl rfl (D_call false (ref_TimesN p.den q.num.natAbs (by omega) (by omega)) rfl (fit_cons (fit_d rfl nofun) (fit_cons (fit_d rfl nofun) (fit_nil)))) ?_
   refine EVq_e rfl rfl (D_call false (ref3_Make _ _ (Nat.mul_ne_zero hpd hqn) (by (try rw [Int.natAbs_neg]); omega) (by omega)) rfl (fit_cons (fit_ag rfl nofun) (fit_cons (fit_d rfl nofun) (fit_nil)))) ?_
   refine EVq_e rfl rfl (D_store rfl (Free_in rfl) rfl rfl (zOk rfl) rfl (Nat.le_of_ble_eq_true rfl) rfl) ?_
   refine EVq_done ?_
   refine EV_ret ?_
   refine ⟨_, ⟨rfl, _, _, _, rfl, rfl, rfl, .inl ⟨_, gOk rfl, zOk rfl, Nat.le_of_ble_eq_true rfl, rfl⟩⟩, fit_agg rfl nofun ?_⟩
   ·refine congrArg encQ ?_
    rw [div_mk hq0]
    first | rw [if_pos hbn, Int.mul_neg] | rw [if_neg hbn]
  ·try simp only [z1, z2, z3, z4, z5, z6, z7, z8, z9, y1, y2, y3] at hb3
   have hbn : ¬ q.num < 0 := by omega
   refine EV_skip ?_
   refine EV_seq ?_
   refine EV_draw (inX [1, 2, 4]) (.st 0 (.st 1 (.st 2 (.st 3 (.st 4 (.st 5 (.one 6 (.one 7 (.one 8 .done))))))))) Tryz.mixed (by kernel_rfl) ?_
   refine EVq_t rfl rfl (T_loadRA (gOk rfl) (zOk rfl) rfl rfl (Nat.le_of_ble_eq_true rfl) rfl rfl) ?_
   refine EVq_t rfl rfl (T_faR (fOk rfl) (zOk rfl) rfl) ?_
   refine EVq_t rfl rfl (T_loadR (gOk rfl) rfl rfl rfl rfl) ?_
   refine EVq_t rfl rfl (T_faR (fOk rfl) (zOk rfl) rfl) ?_
   refine EVq_t rfl rfl (T_faR (fOk rfl) (zOk rfl) rfl) ?_
   refine EVq_t rfl rfl (T_loadR (gOk rfl) rfl rfl rfl rfl) ?_
   refine EVq_e rfl rfl (D_call false (ref_TimesN p.den q.num.natAbs (by omega) (by omega)) rfl (fit_cons (fit_d rfl nofun) (fit_cons (fit_d rfl nofun) (fit_nil)))) ?_
   refine EVq_e rfl rfl (D_call false (ref3_Make _ _ (Nat.mul_ne_zero hpd hqn) (by (try rw [Int.natAbs_neg]); omega) (by omega)) rfl (fit_cons (fit_ag rfl nofun) (fit_cons (fit_d rfl nofun) (fit_nil)))) ?_
   refine EVq_e rfl rfl (D_store rfl (Free_in rfl) rfl rfl (zOk rfl) rfl (Nat.le_of_ble_eq_true rfl) rfl) ?_
   refine EVq_done ?_
   refine EV_ret ?_
   refine ⟨_, ⟨rfl, _, _, _, rfl, rfl, rfl, .inl ⟨_, gOk rfl, zOk rfl, Nat.le_of_ble_eq_true rfl, rfl⟩⟩, fit_agg rfl nofun ?_⟩
   ·refine congrArg encQ ?_
    rw [div_mk hq0]
    first | rw [if_pos hbn, Int.mul_neg] | rw [if_neg hbn]

theorem ref3_Sign (q : Rat) (h : szQ q ≤ 1099511627776) : Fn Tryz.prog 24 [.agg (encQ q)] false (.one (.d (ii (if q.num < 0 then -1 else if 0 < q.num then 1 else 0)))) := by
 have hzq : szQ q = (limbs q.num.natAbs).length + (limbs q.den).length := rfl
 refine Fn_of_EV Tryz.func24 rfl (by kernel_rfl) rfl rfl (fun E hE => ?_)
 refine EV_seq (EV_region ?_)
 refine EVo_e rfl (D_box 1 (hE 1 rfl) Free_no rfl) ?_
 refine EVo_t rfl (T_assign rfl) ?_
 refine EVo_nil (EV_seq (EV_region ?_))
 refine EVo_t rfl (T_faR (fOk rfl) (zOk rfl) rfl) ?_
 refine EVo_t rfl (T_loadRA (gOk rfl) (zOk rfl) rfl rfl (Nat.le_of_ble_eq_true rfl) rfl rfl) ?_
 refine EVo_e rfl (D_call false (ref2_Sign q.num (by omega)) rfl (fit_cons (fit_ag rfl nofun) (fit_nil))) ?_
 refine EVo_t rfl (T_assign rfl) ?_
 refine EVo_nil ?_
 refine EV_ret ?_
 refine ⟨_, ⟨rfl, rfl⟩, fit_eq rfl nofun rfl⟩

theorem ref3_May (neg : Bool) (l m : List Int) (hl : l.length ≤ 1099511627776) (hm : m.length ≤ 1099511627776) (hk : okL l) (hkm : okL m) : Fn Tryz.prog 23 [.agg [ib neg, encN l, encN m]] false (.one (.d (ib (ratB neg l m)))) := by
 refine Fn_of_EV Tryz.func23 rfl (by kernel_rfl) rfl rfl (fun E hE => ?_)
 refine EV_seq (EV_region ?_)
 refine EVo_e rfl (D_box 1 (hE 1 rfl) Free_no rfl) ?_
 refine EVo_t rfl (T_assign rfl) ?_
 refine EVo_nil ?_
 refine EV_seq ?_
 refine EV_seq (EV_region ?_)
 refine EVo_t rfl (T_faR (fOk rfl) (zOk rfl) rfl) ?_
 refine EVo_t rfl (T_loadRA (gOk rfl) (zOk rfl) rfl rfl (Nat.le_of_ble_eq_true rfl) rfl rfl) ?_
 refine EVo_e rfl (D_call false (ref2_May _ _ (by omega)) rfl (fit_cons (fit_ag rfl nofun) (fit_nil))) ?_
 refine EVo_t rfl (T_un rfl rfl) ?_
 refine EVo_t rfl (T_move rfl) ?_
 refine EVo_case 8 rfl (fun hb1 => ?_) (fun hb1 => ?_)
 ·try simp only [z1, z2, z3, z4, z5, z6, z7, z8, z9, y1, y2, y3] at hb1
  refine EVo_off rfl rfl ?_
  refine EVo_off rfl rfl ?_
  refine EVo_off rfl rfl ?_
  refine EVo_off rfl rfl ?_
  refine EVo_t rfl (T_pick rfl rfl) ?_
  refine EVo_t rfl (T_move rfl) ?_
  refine EVo_off rfl rfl ?_
  refine EVo_off rfl rfl ?_
  refine EVo_off rfl rfl ?_
  refine EVo_off rfl rfl ?_
  refine EVo_t rfl (T_pick rfl rfl) ?_
  refine EVo_nil ?_
  refine EV_cond rfl rfl rfl (fun _ => ?_) (fun h => by cases h)
  refine EV_seq (EV_region ?_)
  refine EVo_t rfl (T_assign rfl) ?_
  refine EVo_nil ?_
  refine EV_ret ?_
  unfold ratB
  refine ⟨_, ⟨rfl, rfl⟩, fit_eq rfl nofun ?_⟩
  ·refine congrArg ib ?_
   rcases hz : goodZ neg l <;> rcases hz2 : goodL m <;> by_cases hz3 : 0 < m.length <;> simp_all <;> omega
 ·try simp only [z1, z2, z3, z4, z5, z6, z7, z8, z9, y1, y2, y3] at hb1
  refine EVo_t rfl (T_faR (fOk rfl) (zOk rfl) rfl) ?_
  refine EVo_t rfl (T_loadR (gOk rfl) rfl rfl rfl rfl) ?_
  refine EVo_e rfl (D_call false (ref_May _ (by omega)) rfl (fit_cons (fit_d rfl nofun) (fit_nil))) ?_
  refine EVo_t rfl (T_un rfl rfl) ?_
  refine EVo_t rfl (T_pick rfl rfl) ?_
  refine EVo_t rfl (T_move rfl) ?_
  refine EVo_case 14 rfl (fun hb2 => ?_) (fun hb2 => ?_)
  ·try simp only [z1, z2, z3, z4, z5, z6, z7, z8, z9, y1, y2, y3] at hb2
   refine EVo_off rfl rfl ?_
   refine EVo_off rfl rfl ?_
   refine EVo_off rfl rfl ?_
   refine EVo_off rfl rfl ?_
   refine EVo_t rfl (T_pick rfl rfl) ?_
   refine EVo_nil ?_
   refine EV_cond rfl rfl rfl (fun _ => ?_) (fun h => by cases h)
   refine EV_seq (EV_region ?_)
   refine EVo_t rfl (T_assign rfl) ?_
   refine EVo_nil ?_
   refine EV_ret ?_
   unfold ratB
   refine ⟨_, ⟨rfl, rfl⟩, fit_eq rfl nofun ?_⟩
   ·refine congrArg ib ?_
    rcases hz : goodZ neg l <;> rcases hz2 : goodL m <;> by_cases hz3 : 0 < m.length <;> simp_all <;> omega
  ·try simp only [z1, z2, z3, z4, z5, z6, z7, z8, z9, y1, y2, y3] at hb2
   refine EVo_t rfl (T_faR (fOk rfl) (zOk rfl) rfl) ?_
   refine EVo_t rfl (T_loadR (gOk rfl) rfl rfl rfl rfl) ?_
   refine EVo_t rfl (T_lenL (uOk rfl) rfl) ?_
   refine EVo_t rfl (T_bin rfl rfl rfl) ?_
   refine EVo_t rfl (T_pick rfl rfl) ?_
   refine EVo_nil ?_
   refine EV_cond rfl rfl rfl (fun hb3 => ?_) (fun hb3 => ?_)
   ·try simp only [z1, z2, z3, z4, z5, z6, z7, z8, z9, y1, y2, y3] at hb3
    refine EV_seq (EV_region ?_)
    refine EVo_t rfl (T_assign rfl) ?_
    refine EVo_nil ?_
    refine EV_ret ?_
    unfold ratB
    refine ⟨_, ⟨rfl, rfl⟩, fit_eq rfl nofun ?_⟩
    ·refine congrArg ib ?_
     rcases hz : goodZ neg l <;> rcases hz2 : goodL m <;> by_cases hz3 : 0 < m.length <;> simp_all <;> omega
   ·try simp only [z1, z2, z3, z4, z5, z6, z7, z8, z9, y1, y2, y3] at hb3
    refine EV_skip ?_
    refine EV_seq (EV_region ?_)
    refine EVo_t rfl (T_faR (fOk rfl) (zOk rfl) rfl) ?_
    refine EVo_t rfl (T_faR (fOk rfl) (zOk rfl) rfl) ?_
    refine EVo_t rfl (T_loadR (gOk rfl) rfl rfl rfl rfl) ?_
    refine EVo_t rfl (T_faR (fOk rfl) (zOk rfl) rfl) ?_
    refine EVo_t rfl (T_loadR (gOk rfl) rfl rfl rfl rfl) ?_
    have hgz : goodZ neg l = true := by simp_all
    have hgl : goodL l = true := by simp_all [goodZ]
    have hgm : goodL m = true := by simp_all
    refine EVo_e rfl (D_call false (ref_GcdG _ _ (by omega) (by omega) (by assumption) (by assumption) hgl hgm) rfl (fit_cons (fit_d rfl nofun) (fit_cons (fit_d rfl nofun) (fit_nil)))) ?_
    refine EVo_t rfl (T_assign rfl) ?_
    refine EVo_nil (EV_seq (EV_region ?_))
    refine EVo_t rfl (T_move rfl) ?_
    refine EVo_t rfl (T_lenL (uOk rfl) rfl) ?_
    refine EVo_t rfl (T_bin rfl rfl rfl) ?_
    refine EVo_t rfl (T_move rfl) ?_
    refine EVo_case 29 rfl (fun hb4 => ?_) (fun hb4 => ?_)
    ·try simp only [z1, z2, z3, z4, z5, z6, z7, z8, z9, y1, y2, y3] at hb4
     have ho := hb4
     refine EVo_t rfl (T_move rfl) ?_
     refine EVo_t rfl (T_ixL (uOk rfl) (zOk rfl) rfl rfl (by omega) (by omega) rfl) ?_
     refine EVo_t rfl (T_load (gOk rfl) rfl) ?_
     refine EVo_t rfl (T_bin rfl rfl rfl) ?_
     refine EVo_t rfl (T_pick rfl rfl) ?_
     refine EVo_t rfl (T_assign rfl) ?_
     refine EVo_nil ?_
     refine EV_ret ?_
     unfold ratB
     refine ⟨_, ⟨rfl, rfl⟩, fit_eq rfl nofun ?_⟩
     ·refine congrArg ib ?_
      have hi := is_one (g := Nat.gcd (val l) (val m))
      have hz3 : 0 < m.length := by omega
      simp only [hgz, hgm, hz3, decide_true, Bool.true_and]
      refine decide_eq_decide.2 ?_
      rw [← hi]
      exact ⟨fun h => ⟨ho, h⟩, fun h => h.2⟩
    ·try simp only [z1, z2, z3, z4, z5, z6, z7, z8, z9, y1, y2, y3] at hb4
     have ho := hb4
     refine EVo_off rfl rfl ?_
     refine EVo_off rfl rfl ?_
     refine EVo_off rfl rfl ?_
     refine EVo_off rfl rfl ?_
     refine EVo_t rfl (T_pick rfl rfl) ?_
     refine EVo_t rfl (T_assign rfl) ?_
     refine EVo_nil ?_
     refine EV_ret ?_
     unfold ratB
     refine ⟨_, ⟨rfl, rfl⟩, fit_eq rfl nofun ?_⟩
     ·refine congrArg ib ?_
      have hi := is_one (g := Nat.gcd (val l) (val m))
      have hz3 : 0 < m.length := by omega
      simp only [hgz, hgm, hz3, decide_true, Bool.true_and]
      symm
      refine decide_eq_false ?_
      rw [← hi]
      exact fun h => ho h.1

theorem law_of (n d : Int) (h0 : -9223372036854775808 ≤ n) (h1 : n ≤ 9223372036854775807) (hd0 : 0 < d) (hd1 : d < 18446744073709551616) : Fn Tryz.prog 21 [.d (ii n), .d (iu d)] false (.one (.agg (encQ (mkRat n d.toNat)))) := by
 have hl1 : (limbs n.natAbs).length ≤ 1 := limbs_len_le (by omega)
 have hl2 : (limbs d.toNat).length ≤ 1 := limbs_len_le (by omega)
 refine Fn_of_EV Tryz.func21 rfl (by kernel_rfl) rfl rfl (fun E hE => ?_)
 refine EV_seq (EV_region ?_)
 refine EVo_e rfl (D_alloc 1 (hE 1 rfl) Free_no zr40 rfl) ?_
 refine EVo_nil (EV_seq (EV_region ?_))
 refine EVo_t rfl (T_move rfl) ?_
 refine EVo_e rfl (D_call false (ref2_From _ (by omega) (by omega)) rfl (fit_cons (fit_d rfl nofun) (fit_nil))) ?_
 refine EVo_t rfl (T_move rfl) ?_
 refine EVo_e rfl (D_call false (ref_Of _ (by omega) (by omega)) rfl (fit_cons (fit_d rfl nofun) (fit_nil))) ?_
 refine EVo_e rfl (D_call false (ref3_Make _ _ (by omega) (by omega) (by omega)) rfl (fit_cons (fit_ag rfl nofun) (fit_cons (fit_d rfl nofun) (fit_nil)))) ?_
 refine EVo_e rfl (D_store rfl Free_no rfl rfl (zOk rfl) rfl (Nat.le_of_ble_eq_true rfl) rfl) ?_
 refine EVo_nil ?_
 refine EV_ret ?_
 refine ⟨_, ⟨rfl, _, _, _, rfl, rfl, rfl, .inl ⟨_, gOk rfl, zOk rfl, Nat.le_of_ble_eq_true rfl, rfl⟩⟩, fit_agg rfl nofun rfl⟩

end Go.Proofs.YthaiegnohkiegaaGreat.Ab
/-
  Units and types: forms, what may be one.
-/
namespace Go.Proofs.YthaiegnohkiegaaGreat.Ab
set_option linter.unusedVariables false
set_option linter.unusedSimpArgs false

abbrev sd (s : ByteArray) : D := .val (.string s)
abbrev encI (l : List Int) : D := .sl (l.map fun x => [ii x])
/-- A power, as it is read: kind, number, name, sign, limbs. -/
structure Pw where
  k : Int
  n : Int
  s : ByteArray
  neg : Bool
  mag : List Int
instance : Inhabited Pw := ⟨⟨0, 0, ⟨#[]⟩, false, []⟩⟩
def encPw (p : Pw) : List D := [ii p.k, ii p.n, sd p.s, ib p.neg, encN p.mag]
abbrev encU (u : List Pw) : D := .sl (u.map encPw)
abbrev byS (s : ByteArray) (i : Nat) : Int := if h : i < s.size then ((s[i]'h).toNat : Int) else 0
def letterB (c : Int) : Bool := (decide (97 ≤ c) && decide (c ≤ 122)) || decide (c = 95)
def innerB (c : Int) : Bool := letterB c || (decide (65 ≤ c) && decide (c ≤ 90)) || (decide (48 ≤ c) && decide (c ≤ 57))
def wordB (s : ByteArray) : Bool := !(s.toList == []) && decide (s.size ≤ 32) && !(s.toList == [95]) && letterB (byS s 0) && (List.range s.size).all fun i => innerB (byS s i)
def numB (n : Int) : Bool := decide (0 ≤ n) && decide (n ≤ 2147483647)
def atomB (k n : Int) (s : ByteArray) : Bool :=
  if k = 1 ∨ k = 2 then numB n && (s.toList == []) else if k = 3 then decide (n = 0) && wordB s else if k = 4 then decide (n = 0) && (s.toList == []) else false
def orL : List Int → Int
  | [] => 0
  | x :: l => if x = 0 then orL l else x
def ordA (k n : Int) (s : ByteArray) (k' n' : Int) (s' : ByteArray) : Int := orL [Lib.compareInt k k', Lib.compareInt n n', Lib.compareBytes s.data.toList s'.data.toList]
def okAt (u : List Pw) (i : Nat) : Bool :=
  let p := rd u (i : Int)
  atomB p.k p.n p.s && goodZ p.neg p.mag && decide (0 < p.mag.length) && (decide (i = 0) || decide (ordA (rd u ((i : Int) - 1)).k (rd u ((i : Int) - 1)).n (rd u ((i : Int) - 1)).s p.k p.n p.s < 0))
def goodU (u : List Pw) : Bool := (List.range u.length).all (okAt u)
theorem goodU_false {u : List Pw} {i : Nat} (h : i < u.length) (hf : okAt u i = false) : goodU u = false := by
  unfold goodU
  rw [List.all_eq_false]
  exact ⟨i, List.mem_range.2 h, by simp [hf]⟩
theorem goodU_true {u : List Pw} (h : ∀ i, i < u.length → okAt u i = true) : goodU u = true := by
  unfold goodU
  rw [List.all_eq_true]
  exact fun i hi => h i (List.mem_range.1 hi)
theorem goodU_at {u : List Pw} (h : goodU u = true) {i : Nat} (hi : i < u.length) : okAt u i = true := by
  unfold goodU at h
  exact List.all_eq_true.1 h i (List.mem_range.2 hi)
theorem orL_drop {l : List Int} {i : Nat} (h : i < l.length) (hz : rd l (i : Int) = 0) : orL (l.drop i) = orL (l.drop (i + 1)) := by
  rw [drop_rd h, orL, if_pos hz]
theorem orL_at {l : List Int} {i : Nat} (h : i < l.length) (hz : rd l (i : Int) ≠ 0) : orL (l.drop i) = rd l (i : Int) := by
  rw [drop_rd h, orL, if_neg hz]
/-- What the program may be asked of: lengths that fit. -/
def szP (p : Pw) : Prop := p.mag.length ≤ 549755813888 ∧ okL p.mag ∧ p.s.size ≤ 4611686018427387904
def szU (u : List Pw) : Prop := u.length ≤ 549755813888 ∧ ∀ p ∈ u, szP p
theorem mem_rd {α : Type} [Inhabited α] {l : List α} {i : Int} (h0 : 0 ≤ i) (h1 : i < l.length) : rd l i ∈ l := by
  unfold rd
  rw [List.getD_eq_getElem?_getD, List.getElem?_eq_getElem (by omega)]
  exact List.getElem_mem _
theorem szU_rd {u : List Pw} (h : szU u) {i : Int} (h0 : 0 ≤ i) (h1 : i < u.length) : szP (rd u i) := h.2 _ (mem_rd h0 h1)
/-- Where the first one is that a test takes. -/
def idxF {α : Type} [Inhabited α] (p : α → Bool) (u : List α) : Int := match u.findIdx? p with | some i => (i : Int) | none => -1
theorem idxF_found {α : Type} [Inhabited α] {p : α → Bool} {u : List α} {i : Nat} (h : i < u.length) (hp : p (rd u (i : Int)) = true) (hn : ∀ j, j < i → p (rd u (j : Int)) = false) : idxF p u = (i : Int) := by
  unfold idxF
  have e : ∀ j (hj : j < u.length), rd u (j : Int) = u[j] := fun j hj => by
    unfold rd
    rw [Int.toNat_natCast, List.getD_eq_getElem?_getD, List.getElem?_eq_getElem hj]; rfl
  have : u.findIdx? p = some i := by
    rw [List.findIdx?_eq_some_iff_getElem]
    refine ⟨h, by rw [← e i h]; exact hp, fun j hj => ?_⟩
    rw [← e j (by omega), hn j hj]; simp
  rw [this]
theorem idxF_none {α : Type} [Inhabited α] {p : α → Bool} {u : List α} (hn : ∀ j, j < u.length → p (rd u (j : Int)) = false) : idxF p u = -1 := by
  unfold idxF
  have : u.findIdx? p = none := by
    rw [List.findIdx?_eq_none_iff]
    intro x hx
    obtain ⟨j, hj, rfl⟩ := List.getElem_of_mem hx
    have := hn j hj
    unfold rd at this
    rw [Int.toNat_natCast, List.getD_eq_getElem?_getD, List.getElem?_eq_getElem hj] at this
    exact this
  rw [this]
theorem idxF_any {α : Type} [Inhabited α] (p : α → Bool) (u : List α) : decide (0 ≤ idxF p u) = u.any p := by
  unfold idxF
  cases h : u.findIdx? p with
  | none =>
    rw [List.findIdx?_eq_none_iff] at h
    have : u.any p = false := by rw [List.any_eq_false]; intro x hx; simp [h x hx]
    rw [this]; rfl
  | some i =>
    rw [List.findIdx?_eq_some_iff_getElem] at h
    obtain ⟨h1, h2, _⟩ := h
    have : u.any p = true := List.any_eq_true.2 ⟨_, List.getElem_mem h1, h2⟩
    rw [this]
    simp
/-- A type, as it is read. -/
inductive Ty where
  | mk (k n : Int) (s : ByteArray) (ar : List Ty) (us : List (List Pw))
instance : Inhabited Ty := ⟨.mk 0 0 ⟨#[]⟩ [] []⟩
def Ty.k : Ty → Int | .mk k _ _ _ _ => k
def Ty.n : Ty → Int | .mk _ n _ _ _ => n
def Ty.s : Ty → ByteArray | .mk _ _ s _ _ => s
def Ty.ar : Ty → List Ty | .mk _ _ _ ar _ => ar
def Ty.us : Ty → List (List Pw) | .mk _ _ _ _ us => us
abbrev encUs (us : List (List Pw)) : D := .sl (us.map fun u => [encU u])
mutual
def encTy : Ty → List D
  | .mk k n s ar us => [ii k, ii n, sd s, .sl (encTys ar), encUs us]
def encTys : List Ty → List (List D)
  | [] => []
  | a :: l => encTy a :: encTys l
end
theorem encTys_map : ∀ l : List Ty, encTys l = l.map encTy
  | [] => by simp [encTys]
  | a :: l => by simp [encTys, encTys_map l]
abbrev tyD (t : Ty) : List D := [ii t.k, ii t.n, sd t.s, .sl (t.ar.map encTy), encUs t.us]
theorem encTy_eq (t : Ty) : encTy t = tyD t := by
  cases t
  simp [encTy, encTys_map, tyD, Ty.k, Ty.n, Ty.s, Ty.ar, Ty.us]
theorem encTy_len (t : Ty) : (encTy t).length = 5 := by rw [encTy_eq]; rfl
mutual
def szT : Ty → Prop
  | .mk k n s ar us => s.size ≤ 4611686018427387904 ∧ ar.length ≤ 549755813888 ∧ us.length ≤ 549755813888 ∧ (∀ u ∈ us, szU u) ∧ szTs ar
def szTs : List Ty → Prop
  | [] => True
  | a :: l => szT a ∧ szTs l
end
theorem szTs_mem : ∀ {l : List Ty}, szTs l → ∀ t ∈ l, szT t
  | [], _, t, h => by cases h
  | a :: l, hl, t, h => by
    simp only [szTs] at hl
    rcases List.mem_cons.1 h with rfl | h
    · exact hl.1
    · exact szTs_mem hl.2 t h
theorem szT_eq {t : Ty} (h : szT t) : t.s.size ≤ 4611686018427387904 ∧ t.ar.length ≤ 549755813888 ∧ t.us.length ≤ 549755813888 ∧ (∀ u ∈ t.us, szU u) ∧ ∀ a ∈ t.ar, szT a := by
  cases t
  simp only [szT] at h
  exact ⟨h.1, h.2.1, h.2.2.1, h.2.2.2.1, szTs_mem h.2.2.2.2⟩
def wildB (p : Pw) : Bool := decide (p.k = 4)
def fineU (u : List Pw) : Bool := goodU u && !u.any wildB
def kws : List (List UInt8) := [[108, 101, 116], [114, 101, 99], [105, 110], [102, 117, 110], [109, 97, 116, 99, 104], [119, 105, 116, 104], [101, 110, 100], [105, 102], [116, 104, 101, 110], [101, 108, 115, 101], [117, 110, 105, 116], [100, 97, 116, 97], [111, 102], [101, 118, 97, 108], [102, 111, 114, 97, 108, 108], [105, 110, 116], [114, 97, 116]]
def keyB (s : ByteArray) : Bool := kws.any fun k => s.toList == k
def twordB (s : ByteArray) : Bool := !keyB s && goodU [⟨3, 0, s, false, [1]⟩]
/-- May a node's own fields be? -/
def shapedB (t : Ty) : Bool :=
  if t.k = 1 ∨ t.k = 2 then numB t.n && (t.s.toList == []) && decide (t.ar.length = 0) && decide (t.us.length = 0)
  else if t.k = 3 ∨ t.k = 4 then decide (t.n = 0) && (t.s.toList == []) && decide (t.ar.length = 0) && decide (t.us.length = 1)
  else if t.k = 5 then decide (t.n = 0) && (t.s.toList == []) && decide (t.ar.length = 2) && decide (t.us.length = 0)
  else if t.k = 6 then decide (t.n = 0) && (t.s.toList == []) && decide (2 ≤ t.ar.length) && decide (t.us.length = 0)
  else if t.k = 7 then decide (t.n = 0) && twordB t.s else false
theorem drop_rdT {α : Type} [Inhabited α] {l : List α} {n : Nat} (h : n < l.length) : l.drop n = rd l (n : Int) :: l.drop (n + 1) := by
  rw [List.drop_eq_getElem_cons h]
  congr 1
  unfold rd
  simp [h]
def unCs : List V → Option (List C)
  | [] => some []
  | .c c :: l => match unCs l with | some m => some (c :: m) | none => none
  | _ :: _ => none
theorem unCs_eq : ∀ {l : List V} {m : List C}, unCs l = some m → l = m.map V.c
  | [], m, h => by cases h; rfl
  | .c c :: l, m, h => by
    simp only [unCs] at h
    split at h
    · rename_i e
      cases h
      rw [unCs_eq e]
      rfl
    · cases h
  | .agg _ :: _, _, h => by cases h
  | .tup _ :: _, _, h => by cases h
theorem T_mf {P : Program} {X : Nat → Bool} {E : Ent} {S : St} {d : Option Tmp} {ty : TypeId} {ps : String} {af : Array Edge} {gd : Option (Nat × Bool)} {f : FuncId} {first cap : Array Operand} {fs cs : List C} (hf : unCs (first.toList.map S.ev) = some fs) (hc : unCs (cap.toList.map S.ev) = some cs) (hk : (fs ++ cs).all C.known = true)
    : Tells X P E S ⟨d, .makeFunc (.func f) first cap, ty, ps, af, gd⟩ (.c (.fn (.func f) fs cs)) := T_makeFunc (unCs_eq hf) (unCs_eq hc) hk
end Go.Proofs.YthaiegnohkiegaaGreat.Ab
/-
 Contracts of the functions of package unit: atoms.
-/
namespace Go.Proofs.YthaiegnohkiegaaGreat.Ab
set_option linter.unusedVariables false
set_option linter.unusedSimpArgs false
set_option maxRecDepth 20000


theorem unit_letter (c : Int) (h0 : 0 ≤ c) (h1 : c ≤ 255) : Fn Tryz.prog 250 [.d (.val (.int .u8 c))] false (.one (.d (ib (letterB c)))) := by
 refine Fn_of_EV Tryz.func250 rfl (by kernel_rfl) rfl rfl (fun E hE => ?_)
 refine EV_seq (EV_region ?_)
 refine EVo_t rfl (T_assign rfl) ?_
 refine EVo_nil (EV_seq (EV_region ?_))
 refine EVo_t rfl (T_move rfl) ?_
 refine EVo_t rfl (T_bin rfl rfl rfl) ?_
 refine EVo_t rfl (T_move rfl) ?_
 refine EVo_case 5 rfl (fun hb1 => ?_) (fun hb1 => ?_)
 ·try simp only [z1, z2, z3, z4, z5, z6, z7, z8, z9, y1, y2, y3] at hb1
  refine EVo_t rfl (T_move rfl) ?_
  refine EVo_t rfl (T_bin rfl rfl rfl) ?_
  refine EVo_t rfl (T_pick rfl rfl) ?_
  refine EVo_t rfl (T_move rfl) ?_
  refine EVo_case 9 rfl (fun hb2 => ?_) (fun hb2 => ?_)
  ·try simp only [z1, z2, z3, z4, z5, z6, z7, z8, z9, y1, y2, y3] at hb2
   refine EVo_off rfl rfl ?_
   refine EVo_off rfl rfl ?_
   refine EVo_t rfl (T_pick rfl rfl) ?_
   refine EVo_t rfl (T_assign rfl) ?_
   refine EVo_nil ?_
   refine EV_ret ?_
   refine ⟨_, ⟨rfl, rfl⟩, fit_eq rfl nofun ?_⟩
   ·refine congrArg ib (Bool.eq_iff_iff.2 ?_)
    simp [letterB] <;> omega
  ·try simp only [z1, z2, z3, z4, z5, z6, z7, z8, z9, y1, y2, y3] at hb2
   refine EVo_t rfl (T_move rfl) ?_
   refine EVo_t rfl (T_bin rfl rfl rfl) ?_
   refine EVo_t rfl (T_pick rfl rfl) ?_
   refine EVo_t rfl (T_assign rfl) ?_
   refine EVo_nil ?_
   refine EV_ret ?_
   refine ⟨_, ⟨rfl, rfl⟩, fit_eq rfl nofun ?_⟩
   ·refine congrArg ib (Bool.eq_iff_iff.2 ?_)
    simp [letterB] <;> omega
 ·try simp only [z1, z2, z3, z4, z5, z6, z7, z8, z9, y1, y2, y3] at hb1
  refine EVo_off rfl rfl ?_
  refine EVo_off rfl rfl ?_
  refine EVo_t rfl (T_pick rfl rfl) ?_
  refine EVo_t rfl (T_move rfl) ?_
  refine EVo_t rfl (T_move rfl) ?_
  refine EVo_t rfl (T_bin rfl rfl rfl) ?_
  refine EVo_t rfl (T_pick rfl rfl) ?_
  refine EVo_t rfl (T_assign rfl) ?_
  refine EVo_nil ?_
  refine EV_ret ?_
  refine ⟨_, ⟨rfl, rfl⟩, fit_eq rfl nofun ?_⟩
  ·refine congrArg ib (Bool.eq_iff_iff.2 ?_)
   simp [letterB] <;> omega

theorem unit_inner (c : Int) (h0 : 0 ≤ c) (h1 : c ≤ 255) : Fn Tryz.prog 251 [.d (.val (.int .u8 c))] false (.one (.d (ib (innerB c)))) := by
 refine Fn_of_EV Tryz.func251 rfl (by kernel_rfl) rfl rfl (fun E hE => ?_)
 refine EV_seq (EV_region ?_)
 refine EVo_t rfl (T_assign rfl) ?_
 refine EVo_nil (EV_seq (EV_region ?_))
 refine EVo_t rfl (T_move rfl) ?_
 refine EVo_e rfl (D_call false (unit_letter _ (by omega) (by omega)) rfl (fit_cons (fit_d rfl nofun) (fit_nil))) ?_
 refine EVo_t rfl (T_move rfl) ?_
 refine EVo_case 5 rfl (fun hb1 => ?_) (fun hb1 => ?_)
 ·try simp only [z1, z2, z3, z4, z5, z6, z7, z8, z9, y1, y2, y3] at hb1
  refine EVo_off rfl rfl ?_
  refine EVo_off rfl rfl ?_
  refine EVo_off rfl rfl ?_
  refine EVo_off rfl rfl ?_
  refine EVo_off rfl rfl ?_
  refine EVo_off rfl rfl ?_
  refine EVo_t rfl (T_pick rfl rfl) ?_
  refine EVo_t rfl (T_move rfl) ?_
  refine EVo_off rfl rfl ?_
  refine EVo_off rfl rfl ?_
  refine EVo_off rfl rfl ?_
  refine EVo_off rfl rfl ?_
  refine EVo_off rfl rfl ?_
  refine EVo_off rfl rfl ?_
  refine EVo_t rfl (T_pick rfl rfl) ?_
  refine EVo_t rfl (T_assign rfl) ?_
  refine EVo_nil ?_
  refine EV_ret ?_
  refine ⟨_, ⟨rfl, rfl⟩, fit_eq rfl nofun ?_⟩
  ·refine congrArg ib (Bool.eq_iff_iff.2 ?_)
   simp_all [innerB] <;> omega
 ·try simp only [z1, z2, z3, z4, z5, z6, z7, z8, z9, y1, y2, y3] at hb1
  refine EVo_t rfl (T_move rfl) ?_
  refine EVo_t rfl (T_bin rfl rfl rfl) ?_
  refine EVo_t rfl (T_move rfl) ?_
  refine EVo_case 8 rfl (fun hb2 => ?_) (fun hb2 => ?_)
  ·try simp only [z1, z2, z3, z4, z5, z6, z7, z8, z9, y1, y2, y3] at hb2
   refine EVo_t rfl (T_move rfl) ?_
   refine EVo_t rfl (T_bin rfl rfl rfl) ?_
   refine EVo_t rfl (T_pick rfl rfl) ?_
   refine EVo_t rfl (T_pick rfl rfl) ?_
   refine EVo_t rfl (T_move rfl) ?_
   refine EVo_case 13 rfl (fun hb3 => ?_) (fun hb3 => ?_)
   ·try simp only [z1, z2, z3, z4, z5, z6, z7, z8, z9, y1, y2, y3] at hb3
    refine EVo_off rfl rfl ?_
    refine EVo_off rfl rfl ?_
    refine EVo_off rfl rfl ?_
    refine EVo_off rfl rfl ?_
    refine EVo_off rfl rfl ?_
    refine EVo_off rfl rfl ?_
    refine EVo_t rfl (T_pick rfl rfl) ?_
    refine EVo_t rfl (T_assign rfl) ?_
    refine EVo_nil ?_
    refine EV_ret ?_
    refine ⟨_, ⟨rfl, rfl⟩, fit_eq rfl nofun ?_⟩
    ·refine congrArg ib (Bool.eq_iff_iff.2 ?_)
     simp_all [innerB] <;> omega
   ·try simp only [z1, z2, z3, z4, z5, z6, z7, z8, z9, y1, y2, y3] at hb3
    refine EVo_t rfl (T_move rfl) ?_
    refine EVo_t rfl (T_bin rfl rfl rfl) ?_
    refine EVo_t rfl (T_move rfl) ?_
    refine EVo_case 16 rfl (fun hb4 => ?_) (fun hb4 => ?_)
    ·try simp only [z1, z2, z3, z4, z5, z6, z7, z8, z9, y1, y2, y3] at hb4
     refine EVo_t rfl (T_move rfl) ?_
     refine EVo_t rfl (T_bin rfl rfl rfl) ?_
     refine EVo_t rfl (T_pick rfl rfl) ?_
     refine EVo_t rfl (T_pick rfl rfl) ?_
     refine EVo_t rfl (T_assign rfl) ?_
     refine EVo_nil ?_
     refine EV_ret ?_
     refine ⟨_, ⟨rfl, rfl⟩, fit_eq rfl nofun ?_⟩
     ·refine congrArg ib (Bool.eq_iff_iff.2 ?_)
      simp_all [innerB] <;> omega
    ·try simp only [z1, z2, z3, z4, z5, z6, z7, z8, z9, y1, y2, y3] at hb4
     refine EVo_off rfl rfl ?_
     refine EVo_off rfl rfl ?_
     refine EVo_t rfl (T_pick rfl rfl) ?_
     refine EVo_t rfl (T_pick rfl rfl) ?_
     refine EVo_t rfl (T_assign rfl) ?_
     refine EVo_nil ?_
     refine EV_ret ?_
     refine ⟨_, ⟨rfl, rfl⟩, fit_eq rfl nofun ?_⟩
     ·refine congrArg ib (Bool.eq_iff_iff.2 ?_)
      simp_all [innerB] <;> omega
  ·try simp only [z1, z2, z3, z4, z5, z6, z7, z8, z9, y1, y2, y3] at hb2
   refine EVo_off rfl rfl ?_
   refine EVo_off rfl rfl ?_
   refine EVo_t rfl (T_pick rfl rfl) ?_
   refine EVo_t rfl (T_pick rfl rfl) ?_
   refine EVo_t rfl (T_move rfl) ?_
   refine EVo_t rfl (T_move rfl) ?_
   refine EVo_t rfl (T_bin rfl rfl rfl) ?_
   refine EVo_t rfl (T_move rfl) ?_
   refine EVo_case 16 rfl (fun hb5 => ?_) (fun hb5 => ?_)
   ·try simp only [z1, z2, z3, z4, z5, z6, z7, z8, z9, y1, y2, y3] at hb5
    refine EVo_t rfl (T_move rfl) ?_
    refine EVo_t rfl (T_bin rfl rfl rfl) ?_
    refine EVo_t rfl (T_pick rfl rfl) ?_
    refine EVo_t rfl (T_pick rfl rfl) ?_
    refine EVo_t rfl (T_assign rfl) ?_
    refine EVo_nil ?_
    refine EV_ret ?_
    refine ⟨_, ⟨rfl, rfl⟩, fit_eq rfl nofun ?_⟩
    ·refine congrArg ib (Bool.eq_iff_iff.2 ?_)
     simp_all [innerB] <;> omega
   ·try simp only [z1, z2, z3, z4, z5, z6, z7, z8, z9, y1, y2, y3] at hb5
    refine EVo_off rfl rfl ?_
    refine EVo_off rfl rfl ?_
    refine EVo_t rfl (T_pick rfl rfl) ?_
    refine EVo_t rfl (T_pick rfl rfl) ?_
    refine EVo_t rfl (T_assign rfl) ?_
    refine EVo_nil ?_
    refine EV_ret ?_
    refine ⟨_, ⟨rfl, rfl⟩, fit_eq rfl nofun ?_⟩
    ·refine congrArg ib (Bool.eq_iff_iff.2 ?_)
     simp_all [innerB] <;> omega

theorem unit_number (n : Int) : Fn Tryz.prog 240 [.d (ii n)] false (.one (.d (ib (numB n)))) := by
 refine Fn_of_EV Tryz.func240 rfl (by kernel_rfl) rfl rfl (fun E hE => ?_)
 refine EV_seq (EV_region ?_)
 refine EVo_t rfl (T_assign rfl) ?_
 refine EVo_nil (EV_seq (EV_region ?_))
 refine EVo_t rfl (T_move rfl) ?_
 refine EVo_t rfl (T_bin rfl rfl rfl) ?_
 refine EVo_t rfl (T_move rfl) ?_
 refine EVo_case 5 rfl (fun hb1 => ?_) (fun hb1 => ?_)
 ·try simp only [z1, z2, z3, z4, z5, z6, z7, z8, z9, y1, y2, y3] at hb1
  refine EVo_t rfl (T_move rfl) ?_
  refine EVo_t rfl (T_bin rfl rfl rfl) ?_
  refine EVo_t rfl (T_pick rfl rfl) ?_
  refine EVo_t rfl (T_assign rfl) ?_
  refine EVo_nil ?_
  refine EV_ret ?_
  refine ⟨_, ⟨rfl, rfl⟩, fit_eq rfl nofun ?_⟩
  ·refine congrArg ib ?_
   unfold numB
   simp_all <;> omega
 ·try simp only [z1, z2, z3, z4, z5, z6, z7, z8, z9, y1, y2, y3] at hb1
  refine EVo_off rfl rfl ?_
  refine EVo_off rfl rfl ?_
  refine EVo_t rfl (T_pick rfl rfl) ?_
  refine EVo_t rfl (T_assign rfl) ?_
  refine EVo_nil ?_
  refine EV_ret ?_
  refine ⟨_, ⟨rfl, rfl⟩, fit_eq rfl nofun ?_⟩
  ·refine congrArg ib ?_
   unfold numB
   simp_all <;> omega

theorem cmp_Or (l : List Int) (hl : l.length ≤ 17592186044416) : Fn Tryz.prog 242 [.d (encI l)] false (.one (.d (ii (orL l)))) := by
 refine Fn_of_EV Tryz.func242 rfl (by kernel_rfl) rfl rfl (fun E hE => ?_)
 refine EV_seq (EV_region ?_)
 refine EVo_t rfl (T_assign rfl) ?_
 refine EVo_nil (EV_seq (EV_region ?_))
 refine EVo_t rfl (T_assign rfl) ?_
 refine EVo_nil ?_
 refine EV_seq ?_
 refine EV_seq (EV_region ?_)
 refine EVo_t rfl (T_move rfl) ?_
 refine EVo_t rfl (T_lenL (uOk rfl) rfl) ?_
 refine EVo_t rfl (T_move rfl) ?_
 refine EVo_nil ?_
 refine EV_block ?_
 refine EV_weak (W_keep2 [(3, vi .i64 0), (6, V.c (.d false (encI l))), (7, vi .i64 l.length), (8, vi .i64 (0))] [] ⟨rfl, rfl, rfl, rfl, trivial⟩ trivial rfl) ?_
 refine EV_loop (fun mm S => ∃ i : Int, mm = ((l.length : Int) - i).toNat ∧ S = St.of [(3, vi .i64 0), (6, V.c (.d false (encI l))), (7, vi .i64 l.length), (8, vi .i64 i)] (tabO []) 18 ∧ 0 ≤ i ∧ i ≤ l.length ∧ orL (l.drop i.toNat) = orL l) _ ⟨0, rfl, rfl, ⟨by omega, by omega, rfl⟩⟩ ?_
 rintro mm S ⟨i, rfl, rfl, ⟨h0, h1, h2⟩⟩
 have ei : (i.toNat : Int) = i := by omega
 refine EV_seq (EV_region ?_)
 refine EVo_t rfl (T_bin rfl rfl rfl) ?_
 refine EVo_nil ?_
 refine EV_seq ?_
 refine EV_cond rfl rfl rfl (fun hb1 => ?_) (fun hb1 => ?_)
 ·try simp only [z1, z2, z3, z4, z5, z6, z7, z8, z9, y1, y2, y3] at hb1
  refine EV_skip ?_
  refine EV_seq ?_
  refine EV_block ?_
  refine EV_seq (EV_region ?_)
  refine EVo_t rfl (T_ixL (uOk rfl) (zOk rfl) rfl rfl (by omega) (by omega) rfl) ?_
  refine EVo_t rfl (T_load (gOk rfl) rfl) ?_
  refine EVo_t rfl (T_assign rfl) ?_
  refine EVo_nil (EV_seq (EV_region ?_))
  refine EVo_t rfl (T_move rfl) ?_
  refine EVo_t rfl (T_move rfl) ?_
  refine EVo_t rfl (T_bin rfl rfl rfl) ?_
  refine EVo_nil ?_
  refine EV_cond rfl rfl rfl (fun hb2 => ?_) (fun hb2 => ?_)
  ·try simp only [z1, z2, z3, z4, z5, z6, z7, z8, z9, y1, y2, y3] at hb2
   have hz := hb2
   refine EV_seq (EV_region ?_)
   refine EVo_t rfl (T_move rfl) ?_
   refine EVo_t rfl (T_assign rfl) ?_
   refine EVo_nil ?_
   refine EV_ret ?_
   refine ⟨_, ⟨rfl, rfl⟩, fit_eq rfl nofun ?_⟩
   ·have := orL_at (l := l) (i := i.toNat) (by omega) (by rw [ei]; exact hz)
    rw [← h2, this, ei]
  ·try simp only [z1, z2, z3, z4, z5, z6, z7, z8, z9, y1, y2, y3] at hb2
   have hz := hb2
   refine EV_skip ?_
   refine EV_region ?_
   refine EVo_t rfl (T_binI rfl rfl rfl (by omega) (by omega)) ?_
   refine EVo_t rfl (T_move rfl) ?_
   refine EVo_nil ?_
   refine ⟨_, ?_, _, W_keep2 [(3, vi .i64 0), (6, V.c (.d false (encI l))), (7, vi .i64 l.length), (8, vi .i64 (i + 1))] [] ⟨rfl, rfl, rfl, rfl, trivial⟩ trivial rfl, i + 1, rfl, rfl, ?_⟩
   ·omega
   ·exact ⟨by omega, by omega, by rw [show (i + 1).toNat = i.toNat + 1 by omega, ← orL_drop (by omega) (by rw [ei]; exact hz)]; exact h2⟩
 ·try simp only [z1, z2, z3, z4, z5, z6, z7, z8, z9, y1, y2, y3] at hb1
  refine EV_exit ?_
  refine EV_seq (EV_region ?_)
  refine EVo_t rfl (T_move rfl) ?_
  refine EVo_t rfl (T_assign rfl) ?_
  refine EVo_nil ?_
  refine EV_ret ?_
  refine ⟨_, ⟨rfl, rfl⟩, fit_eq rfl nofun ?_⟩
  ·rw [List.drop_of_length_le (by omega)] at h2
   rw [← h2]; rfl

theorem size_pos {s : ByteArray} (h : ¬ s.toList = []) : 0 < s.size := by
 rcases Nat.eq_zero_or_pos s.size with q | q
 ·exfalso
  apply h
  have : s = ⟨#[]⟩ := by
   cases s with
   | mk d =>
    have : d.size = 0 := q
    have := Array.eq_empty_of_size_eq_zero this
    subst this; rfl
  subst this; decide +kernel
 ·exact q
theorem byte_le (s : ByteArray) (i : Nat) (h : i < s.size) : (0 : Int) ≤ (s[i]'h).toNat ∧ (((s[i]'h).toNat : Nat) : Int) ≤ 255 := by
 have := (s[i]'h).toNat_lt
 omega
theorem by_at (s : ByteArray) (i : Nat) (h : i < s.size) : byS s i = ((s[i]'h).toNat : Int) := by unfold byS; rw [dif_pos h]

theorem unit_order (k n : Int) (s : ByteArray) (k' n' : Int) (s' : ByteArray) : Fn Tryz.prog 227 [.agg [ii k, ii n, sd s], .agg [ii k', ii n', sd s']] false (.one (.d (ii (ordA k n s k' n' s')))) := by
 refine Fn_of_EV Tryz.func227 rfl (by kernel_rfl) rfl rfl (fun E hE => ?_)
 refine EV_seq (EV_region ?_)
 refine EVo_e rfl (D_box 1 (hE 1 rfl) Free_no rfl) ?_
 refine EVo_e rfl (D_box 2 (hE 2 rfl) Free_no rfl) ?_
 refine EVo_t rfl (T_assign rfl) ?_
 refine EVo_nil ?_
 refine EV_seq ?_
 refine EV_draw (inX [1, 2]) (.st 0 (.st 1 (.st 2 (.st 3 (.st 5 (.st 6 (.st 7 (.st 8 (.st 10 (.st 11 (.st 12 (.st 13 (.one 4 (.one 9 (.one 14 (.one 15 (.one 16 (.st 17 .done)))))))))))))))))) Tryz.mixed (by kernel_rfl) ?_
 refine EVq_t rfl rfl (T_faR (fOk rfl) (zOk rfl) rfl) ?_
 refine EVq_t rfl rfl (T_loadR (gOk rfl) rfl rfl rfl rfl) ?_
 refine EVq_t rfl rfl (T_faR (fOk rfl) (zOk rfl) rfl) ?_
 refine EVq_t rfl rfl (T_loadR (gOk rfl) rfl rfl rfl rfl) ?_
 refine EVq_t rfl rfl (T_faR (fOk rfl) (zOk rfl) rfl) ?_
 refine EVq_t rfl rfl (T_loadR (gOk rfl) rfl rfl rfl rfl) ?_
 refine EVq_t rfl rfl (T_faR (fOk rfl) (zOk rfl) rfl) ?_
 refine EVq_t rfl rfl (T_loadR (gOk rfl) rfl rfl rfl rfl) ?_
 refine EVq_t rfl rfl (T_faR (fOk rfl) (zOk rfl) rfl) ?_
 refine EVq_t rfl rfl (T_loadR (gOk rfl) rfl rfl rfl rfl) ?_
 refine EVq_t rfl rfl (T_faR (fOk rfl) (zOk rfl) rfl) ?_
 refine EVq_t rfl rfl (T_loadR (gOk rfl) rfl rfl rfl rfl) ?_
 refine EVq_e rfl rfl (D_call false (cmp_Compare _ _) rfl (fit_cons (fit_d rfl nofun) (fit_cons (fit_d rfl nofun) (fit_nil)))) ?_
 refine EVq_e rfl rfl (D_call false (cmp_Compare _ _) rfl (fit_cons (fit_d rfl nofun) (fit_cons (fit_d rfl nofun) (fit_nil)))) ?_
 refine EVq_e rfl rfl (D_call false (strings_Compare _ _) rfl (fit_cons (fit_d rfl nofun) (fit_cons (fit_d rfl nofun) (fit_nil)))) ?_
 refine EVq_e rfl rfl (D_buildSlice (uOk rfl) bz3 rfl rfl rfl (by simp)) ?_
 refine EVq_e rfl rfl (D_call false (cmp_Or [_, _, _] (by simp)) rfl (fit_cons (fit_d rfl nofun) (fit_nil))) ?_
 refine EVq_t rfl rfl (T_assign rfl) ?_
 refine EVq_done ?_
 refine EV_ret ?_
 refine ⟨_, ⟨rfl, rfl⟩, fit_eq rfl nofun rfl⟩

theorem unit_word (s : ByteArray) (hs : s.size ≤ 4611686018427387904) : Fn Tryz.prog 241 [.d (sd s)] false (.one (.d (ib (wordB s)))) := by
 refine Fn_of_EV Tryz.func241 rfl (by kernel_rfl) rfl rfl (fun E hE => ?_)
 refine EV_seq (EV_region ?_)
 refine EVo_t rfl (T_assign rfl) ?_
 refine EVo_nil ?_
 refine EV_seq ?_
 refine EV_seq (EV_region ?_)
 refine EVo_t rfl (T_move rfl) ?_
 refine EVo_t rfl (T_bin rfl rfl rfl) ?_
 refine EVo_t rfl (T_move rfl) ?_
 refine EVo_case 6 rfl (fun hb1 => ?_) (fun hb1 => ?_)
 ·try simp only [z1, z2, z3, z4, z5, z6, z7, z8, z9, y1, y2, y3] at hb1
  refine EVo_off rfl rfl ?_
  refine EVo_off rfl rfl ?_
  refine EVo_off rfl rfl ?_
  refine EVo_t rfl (T_pick rfl rfl) ?_
  refine EVo_t rfl (T_move rfl) ?_
  refine EVo_off rfl rfl ?_
  refine EVo_off rfl rfl ?_
  refine EVo_t rfl (T_pick rfl rfl) ?_
  refine EVo_t rfl (T_move rfl) ?_
  refine EVo_off rfl rfl ?_
  refine EVo_off rfl rfl ?_
  refine EVo_off rfl rfl ?_
  refine EVo_off rfl rfl ?_
  refine EVo_t rfl (T_pick rfl rfl) ?_
  refine EVo_nil ?_
  refine EV_cond rfl rfl rfl (fun _ => ?_) (fun h => by first | cases h | (exfalso; simp_all; done))
  refine EV_seq (EV_region ?_)
  refine EVo_t rfl (T_assign rfl) ?_
  refine EVo_nil ?_
  refine EV_ret ?_
  refine ⟨_, ⟨rfl, rfl⟩, fit_eq rfl nofun ?_⟩
  ·refine congrArg ib ?_
   unfold wordB
   simp_all [byS] <;> omega
 ·try simp only [z1, z2, z3, z4, z5, z6, z7, z8, z9, y1, y2, y3] at hb1
  refine EVo_t rfl (T_move rfl) ?_
  refine EVo_t rfl (T_lenS (uOk rfl) rfl) ?_
  refine EVo_t rfl (T_bin rfl rfl rfl) ?_
  refine EVo_t rfl (T_pick rfl rfl) ?_
  refine EVo_t rfl (T_move rfl) ?_
  refine EVo_case 11 rfl (fun hb2 => ?_) (fun hb2 => ?_)
  ·try simp only [z1, z2, z3, z4, z5, z6, z7, z8, z9, y1, y2, y3] at hb2
   refine EVo_off rfl rfl ?_
   refine EVo_off rfl rfl ?_
   refine EVo_t rfl (T_pick rfl rfl) ?_
   refine EVo_t rfl (T_move rfl) ?_
   refine EVo_off rfl rfl ?_
   refine EVo_off rfl rfl ?_
   refine EVo_off rfl rfl ?_
   refine EVo_off rfl rfl ?_
   refine EVo_t rfl (T_pick rfl rfl) ?_
   refine EVo_nil ?_
   refine EV_cond rfl rfl rfl (fun _ => ?_) (fun h => by first | cases h | (exfalso; simp_all; done))
   refine EV_seq (EV_region ?_)
   refine EVo_t rfl (T_assign rfl) ?_
   refine EVo_nil ?_
   refine EV_ret ?_
   refine ⟨_, ⟨rfl, rfl⟩, fit_eq rfl nofun ?_⟩
   ·refine congrArg ib ?_
    unfold wordB
    simp_all [byS] <;> omega
  ·try simp only [z1, z2, z3, z4, z5, z6, z7, z8, z9, y1, y2, y3] at hb2
   refine EVo_t rfl (T_move rfl) ?_
   refine EVo_t rfl (T_bin rfl rfl rfl) ?_
   refine EVo_t rfl (T_pick rfl rfl) ?_
   refine EVo_t rfl (T_move rfl) ?_
   refine EVo_case 15 rfl (fun hb3 => ?_) (fun hb3 => ?_)
   ·try simp only [z1, z2, z3, z4, z5, z6, z7, z8, z9, y1, y2, y3] at hb3
    refine EVo_off rfl rfl ?_
    refine EVo_off rfl rfl ?_
    refine EVo_off rfl rfl ?_
    refine EVo_off rfl rfl ?_
    refine EVo_t rfl (T_pick rfl rfl) ?_
    refine EVo_nil ?_
    refine EV_cond rfl rfl rfl (fun _ => ?_) (fun h => by first | cases h | (exfalso; simp_all; done))
    refine EV_seq (EV_region ?_)
    refine EVo_t rfl (T_assign rfl) ?_
    refine EVo_nil ?_
    refine EV_ret ?_
    refine ⟨_, ⟨rfl, rfl⟩, fit_eq rfl nofun ?_⟩
    ·refine congrArg ib ?_
     unfold wordB
     simp_all [byS] <;> omega
   ·try simp only [z1, z2, z3, z4, z5, z6, z7, z8, z9, y1, y2, y3] at hb3
    refine EVo_t rfl (T_move rfl) ?_
    have hs0 : 0 < s.size := size_pos (by simp_all)
    refine EVo_t rfl (T_indexS (uOk rfl) rfl rfl (by omega) (by omega)) ?_
    have hb0 := byte_le s (Int.toNat 0) hs0
    refine EVo_e rfl (D_call false (unit_letter _ (by omega) (by omega)) rfl (fit_cons (fit_d rfl nofun) (fit_nil))) ?_
    refine EVo_t rfl (T_un rfl rfl) ?_
    refine EVo_t rfl (T_pick rfl rfl) ?_
    refine EVo_nil ?_
    refine EV_cond rfl rfl rfl (fun hb4 => ?_) (fun hb4 => ?_)
    ·try simp only [z1, z2, z3, z4, z5, z6, z7, z8, z9, y1, y2, y3] at hb4
     refine EV_seq (EV_region ?_)
     refine EVo_t rfl (T_assign rfl) ?_
     refine EVo_nil ?_
     refine EV_ret ?_
     refine ⟨_, ⟨rfl, rfl⟩, fit_eq rfl nofun ?_⟩
     ·refine congrArg ib ?_
      unfold wordB
      simp_all [byS] <;> omega
    ·try simp only [z1, z2, z3, z4, z5, z6, z7, z8, z9, y1, y2, y3] at hb4
     refine EV_skip ?_
     refine EV_seq ?_
     refine EV_seq (EV_region ?_)
     refine EVo_t rfl (T_move rfl) ?_
     refine EVo_t rfl (T_lenS (uOk rfl) rfl) ?_
     refine EVo_t rfl (T_move rfl) ?_
     refine EVo_nil ?_
     refine EV_block ?_
     have hw : wordB s = (List.range s.size).all fun i => innerB (byS s i) := by
      have e0 : letterB (byS s 0) = true := by simp_all [byS]
      have hb32 : s.size ≤ 32 := by omega
      unfold wordB
      simp_all
     refine EV_weak (W_keep2 [(0, vs s), (22, vi .i64 s.size), (23, vi .i64 (0))] [] ⟨rfl, rfl, rfl, trivial⟩ trivial rfl) ?_
     refine EV_loop (fun mm S => ∃ i : Int, mm = ((s.size : Int) - i).toNat ∧ S = St.of [(0, vs s), (22, vi .i64 s.size), (23, vi .i64 i)] (tabO []) 32 ∧ 0 ≤ i ∧ i ≤ s.size ∧ ∀ j, j < i.toNat → innerB (byS s j) = true) _ ⟨0, rfl, rfl, ⟨by omega, by omega, fun j hj => absurd hj (Nat.not_lt_zero _)⟩⟩ ?_
     rintro mm S ⟨i, rfl, rfl, ⟨h0, h1, h2⟩⟩
     refine EV_seq (EV_region ?_)
     refine EVo_t rfl (T_bin rfl rfl rfl) ?_
     refine EVo_nil ?_
     refine EV_seq ?_
     refine EV_cond rfl rfl rfl (fun hb5 => ?_) (fun hb5 => ?_)
     ·try simp only [z1, z2, z3, z4, z5, z6, z7, z8, z9, y1, y2, y3] at hb5
      refine EV_skip ?_
      refine EV_seq ?_
      refine EV_block ?_
      refine EV_seq (EV_region ?_)
      refine EVo_t rfl (T_move rfl) ?_
      refine EVo_t rfl (T_assign rfl) ?_
      refine EVo_nil (EV_seq (EV_region ?_))
      refine EVo_t rfl (T_move rfl) ?_
      refine EVo_t rfl (T_move rfl) ?_
      refine EVo_t rfl (T_indexS (uOk rfl) rfl rfl (by omega) (by omega)) ?_
      have hbi := byte_le s i.toNat (by omega)
      refine EVo_e rfl (D_call false (unit_inner _ (by omega) (by omega)) rfl (fit_cons (fit_d rfl nofun) (fit_nil))) ?_
      refine EVo_t rfl (T_un rfl rfl) ?_
      refine EVo_nil ?_
      refine EV_cond rfl rfl rfl (fun hb6 => ?_) (fun hb6 => ?_)
      ·try simp only [z1, z2, z3, z4, z5, z6, z7, z8, z9, y1, y2, y3] at hb6
       have hz := hb6
       refine EV_seq (EV_region ?_)
       refine EVo_t rfl (T_assign rfl) ?_
       refine EVo_nil ?_
       refine EV_ret ?_
       refine ⟨_, ⟨rfl, rfl⟩, fit_eq rfl nofun ?_⟩
       ·refine congrArg ib ?_
        rw [hw]; symm; rw [List.all_eq_false]; exact ⟨i.toNat, List.mem_range.2 (by omega), by rw [by_at s _ (by omega)]; simpa using hz⟩
      ·try simp only [z1, z2, z3, z4, z5, z6, z7, z8, z9, y1, y2, y3] at hb6
       have hz := hb6
       refine EV_skip ?_
       refine EV_region ?_
       refine EVo_t rfl (T_binI rfl rfl rfl (by omega) (by omega)) ?_
       refine EVo_t rfl (T_move rfl) ?_
       refine EVo_nil ?_
       refine ⟨_, ?_, _, W_keep2 [(0, vs s), (22, vi .i64 s.size), (23, vi .i64 (i + 1))] [] ⟨rfl, rfl, rfl, trivial⟩ trivial rfl, i + 1, rfl, rfl, ?_⟩
       ·omega
       ·refine ⟨by omega, by omega, fun j hj => ?_⟩
        by_cases e : j = i.toNat
        ·subst e; rw [by_at s _ (by omega)]; simpa using hz
        ·exact h2 j (by omega)
     ·try simp only [z1, z2, z3, z4, z5, z6, z7, z8, z9, y1, y2, y3] at hb5
      refine EV_exit ?_
      refine EV_seq (EV_region ?_)
      refine EVo_t rfl (T_assign rfl) ?_
      refine EVo_nil ?_
      refine EV_ret ?_
      refine ⟨_, ⟨rfl, rfl⟩, fit_eq rfl nofun ?_⟩
      ·refine congrArg ib ?_
       rw [hw]; symm; rw [List.all_eq_true]; exact fun j hj => h2 j (by have := List.mem_range.1 hj; omega)

theorem unit_atom (k n : Int) (s : ByteArray) (hs : s.size ≤ 4611686018427387904) : Fn Tryz.prog 226 [.agg [ii k, ii n, sd s]] false (.one (.d (ib (atomB k n s)))) := by
 refine Fn_of_EV Tryz.func226 rfl (by kernel_rfl) rfl rfl (fun E hE => ?_)
 refine EV_seq (EV_region ?_)
 refine EVo_e rfl (D_box 1 (hE 1 rfl) Free_no rfl) ?_
 refine EVo_t rfl (T_assign rfl) ?_
 refine EVo_nil ?_
 refine EV_seq ?_
 refine EV_seq (EV_region ?_)
 refine EVo_t rfl (T_faR (fOk rfl) (zOk rfl) rfl) ?_
 refine EVo_t rfl (T_loadR (gOk rfl) rfl rfl rfl rfl) ?_
 refine EVo_nil ?_
 refine EV_block ?_
 refine EV_seq ?_
 refine EV_seq (EV_region ?_)
 refine EVo_t rfl (T_bin rfl rfl rfl) ?_
 refine EVo_t rfl (T_assign rfl) ?_
 refine EVo_nil ?_
 refine EV_cond rfl rfl rfl (fun hb1 => ?_) (fun hb1 => ?_)
 ·try simp only [z1, z2, z3, z4, z5, z6, z7, z8, z9, y1, y2, y3] at hb1
  refine EV_skip ?_
  refine EV_cond rfl rfl rfl (fun _ => ?_) (fun h => by first | cases h | (exfalso; simp_all; done))
  refine EV_seq (EV_region ?_)
  refine EVo_t rfl (T_faR (fOk rfl) (zOk rfl) rfl) ?_
  refine EVo_t rfl (T_loadR (gOk rfl) rfl rfl rfl rfl) ?_
  refine EVo_e rfl (D_call false (unit_number _) rfl (fit_cons (fit_d rfl nofun) (fit_nil))) ?_
  refine EVo_t rfl (T_move rfl) ?_
  refine EVo_case 11 rfl (fun hb2 => ?_) (fun hb2 => ?_)
  ·try simp only [z1, z2, z3, z4, z5, z6, z7, z8, z9, y1, y2, y3] at hb2
   refine EVo_t rfl (T_faR (fOk rfl) (zOk rfl) rfl) ?_
   refine EVo_t rfl (T_loadR (gOk rfl) rfl rfl rfl rfl) ?_
   refine EVo_t rfl (T_bin rfl rfl rfl) ?_
   refine EVo_t rfl (T_pick rfl rfl) ?_
   refine EVo_t rfl (T_assign rfl) ?_
   refine EVo_nil ?_
   refine EV_ret ?_
   refine ⟨_, ⟨rfl, rfl⟩, fit_eq rfl nofun ?_⟩
   ·refine congrArg ib ?_
    unfold atomB
    simp_all
  ·try simp only [z1, z2, z3, z4, z5, z6, z7, z8, z9, y1, y2, y3] at hb2
   refine EVo_off rfl rfl ?_
   refine EVo_off rfl rfl ?_
   refine EVo_off rfl rfl ?_
   refine EVo_t rfl (T_pick rfl rfl) ?_
   refine EVo_t rfl (T_assign rfl) ?_
   refine EVo_nil ?_
   refine EV_ret ?_
   refine ⟨_, ⟨rfl, rfl⟩, fit_eq rfl nofun ?_⟩
   ·refine congrArg ib ?_
    unfold atomB
    simp_all
 ·try simp only [z1, z2, z3, z4, z5, z6, z7, z8, z9, y1, y2, y3] at hb1
  refine EV_region ?_
  refine EVo_t rfl (T_bin rfl rfl rfl) ?_
  refine EVo_t rfl (T_assign rfl) ?_
  refine EVo_nil ?_
  refine EV_cond rfl rfl rfl (fun hb3 => ?_) (fun hb3 => ?_)
  ·try simp only [z1, z2, z3, z4, z5, z6, z7, z8, z9, y1, y2, y3] at hb3
   refine EV_seq (EV_region ?_)
   refine EVo_t rfl (T_faR (fOk rfl) (zOk rfl) rfl) ?_
   refine EVo_t rfl (T_loadR (gOk rfl) rfl rfl rfl rfl) ?_
   refine EVo_e rfl (D_call false (unit_number _) rfl (fit_cons (fit_d rfl nofun) (fit_nil))) ?_
   refine EVo_t rfl (T_move rfl) ?_
   refine EVo_case 11 rfl (fun hb4 => ?_) (fun hb4 => ?_)
   ·try simp only [z1, z2, z3, z4, z5, z6, z7, z8, z9, y1, y2, y3] at hb4
    refine EVo_t rfl (T_faR (fOk rfl) (zOk rfl) rfl) ?_
    refine EVo_t rfl (T_loadR (gOk rfl) rfl rfl rfl rfl) ?_
    refine EVo_t rfl (T_bin rfl rfl rfl) ?_
    refine EVo_t rfl (T_pick rfl rfl) ?_
    refine EVo_t rfl (T_assign rfl) ?_
    refine EVo_nil ?_
    refine EV_ret ?_
    refine ⟨_, ⟨rfl, rfl⟩, fit_eq rfl nofun ?_⟩
    ·refine congrArg ib ?_
     unfold atomB
     simp_all
   ·try simp only [z1, z2, z3, z4, z5, z6, z7, z8, z9, y1, y2, y3] at hb4
    refine EVo_off rfl rfl ?_
    refine EVo_off rfl rfl ?_
    refine EVo_off rfl rfl ?_
    refine EVo_t rfl (T_pick rfl rfl) ?_
    refine EVo_t rfl (T_assign rfl) ?_
    refine EVo_nil ?_
    refine EV_ret ?_
    refine ⟨_, ⟨rfl, rfl⟩, fit_eq rfl nofun ?_⟩
    ·refine congrArg ib ?_
     unfold atomB
     simp_all
  ·try simp only [z1, z2, z3, z4, z5, z6, z7, z8, z9, y1, y2, y3] at hb3
   refine EV_seq (EV_region ?_)
   refine EVo_t rfl (T_bin rfl rfl rfl) ?_
   refine EVo_t rfl (T_assign rfl) ?_
   refine EVo_nil ?_
   refine EV_cond rfl rfl rfl (fun hb5 => ?_) (fun hb5 => ?_)
   ·try simp only [z1, z2, z3, z4, z5, z6, z7, z8, z9, y1, y2, y3] at hb5
    refine EV_seq (EV_region ?_)
    refine EVo_t rfl (T_faR (fOk rfl) (zOk rfl) rfl) ?_
    refine EVo_t rfl (T_loadR (gOk rfl) rfl rfl rfl rfl) ?_
    refine EVo_t rfl (T_bin rfl rfl rfl) ?_
    refine EVo_t rfl (T_move rfl) ?_
    refine EVo_case 21 rfl (fun hb6 => ?_) (fun hb6 => ?_)
    ·try simp only [z1, z2, z3, z4, z5, z6, z7, z8, z9, y1, y2, y3] at hb6
     refine EVo_t rfl (T_faR (fOk rfl) (zOk rfl) rfl) ?_
     refine EVo_t rfl (T_loadR (gOk rfl) rfl rfl rfl rfl) ?_
     refine EVo_e rfl (D_call false (unit_word _ (by omega)) rfl (fit_cons (fit_d rfl nofun) (fit_nil))) ?_
     refine EVo_t rfl (T_pick rfl rfl) ?_
     refine EVo_t rfl (T_assign rfl) ?_
     refine EVo_nil ?_
     refine EV_ret ?_
     refine ⟨_, ⟨rfl, rfl⟩, fit_eq rfl nofun ?_⟩
     ·refine congrArg ib ?_
      unfold atomB
      simp_all
    ·try simp only [z1, z2, z3, z4, z5, z6, z7, z8, z9, y1, y2, y3] at hb6
     refine EVo_off rfl rfl ?_
     refine EVo_off rfl rfl ?_
     refine EVo_off rfl rfl ?_
     refine EVo_t rfl (T_pick rfl rfl) ?_
     refine EVo_t rfl (T_assign rfl) ?_
     refine EVo_nil ?_
     refine EV_ret ?_
     refine ⟨_, ⟨rfl, rfl⟩, fit_eq rfl nofun ?_⟩
     ·refine congrArg ib ?_
      unfold atomB
      simp_all
   ·try simp only [z1, z2, z3, z4, z5, z6, z7, z8, z9, y1, y2, y3] at hb5
    refine EV_seq (EV_region ?_)
    refine EVo_t rfl (T_bin rfl rfl rfl) ?_
    refine EVo_t rfl (T_assign rfl) ?_
    refine EVo_nil ?_
    refine EV_cond rfl rfl rfl (fun hb7 => ?_) (fun hb7 => ?_)
    ·try simp only [z1, z2, z3, z4, z5, z6, z7, z8, z9, y1, y2, y3] at hb7
     refine EV_seq (EV_region ?_)
     refine EVo_t rfl (T_faR (fOk rfl) (zOk rfl) rfl) ?_
     refine EVo_t rfl (T_loadR (gOk rfl) rfl rfl rfl rfl) ?_
     refine EVo_t rfl (T_bin rfl rfl rfl) ?_
     refine EVo_t rfl (T_move rfl) ?_
     refine EVo_case 31 rfl (fun hb8 => ?_) (fun hb8 => ?_)
     ·try simp only [z1, z2, z3, z4, z5, z6, z7, z8, z9, y1, y2, y3] at hb8
      refine EVo_t rfl (T_faR (fOk rfl) (zOk rfl) rfl) ?_
      refine EVo_t rfl (T_loadR (gOk rfl) rfl rfl rfl rfl) ?_
      refine EVo_t rfl (T_bin rfl rfl rfl) ?_
      refine EVo_t rfl (T_pick rfl rfl) ?_
      refine EVo_t rfl (T_assign rfl) ?_
      refine EVo_nil ?_
      refine EV_ret ?_
      refine ⟨_, ⟨rfl, rfl⟩, fit_eq rfl nofun ?_⟩
      ·refine congrArg ib ?_
       unfold atomB
       simp_all
     ·try simp only [z1, z2, z3, z4, z5, z6, z7, z8, z9, y1, y2, y3] at hb8
      refine EVo_off rfl rfl ?_
      refine EVo_off rfl rfl ?_
      refine EVo_off rfl rfl ?_
      refine EVo_t rfl (T_pick rfl rfl) ?_
      refine EVo_t rfl (T_assign rfl) ?_
      refine EVo_nil ?_
      refine EV_ret ?_
      refine ⟨_, ⟨rfl, rfl⟩, fit_eq rfl nofun ?_⟩
      ·refine congrArg ib ?_
       unfold atomB
       simp_all
    ·try simp only [z1, z2, z3, z4, z5, z6, z7, z8, z9, y1, y2, y3] at hb7
     refine EV_skip ?_
     refine EV_seq (EV_region ?_)
     refine EVo_t rfl (T_assign rfl) ?_
     refine EVo_nil ?_
     refine EV_ret ?_
     refine ⟨_, ⟨rfl, rfl⟩, fit_eq rfl nofun ?_⟩
     ·refine congrArg ib ?_
      unfold atomB
      simp_all

end Go.Proofs.YthaiegnohkiegaaGreat.Ab
