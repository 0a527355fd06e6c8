/-
  Part 4 of the walks of the program and of the laws of its arithmetic: what each function of the program tells at every input that its premise takes.
-/
import Derived.Test.YthaiegnohkiegaaGreatP3
import Derived.Laws.BitsAllLaws
/-
 Contracts of the functions of package whole.
-/
namespace Go.Proofs.YthaiegnohkiegaaGreat.Ab
set_option linter.unusedVariables false
set_option linter.unusedSimpArgs false
set_option maxRecDepth 20000


theorem whole_good (neg : Bool) (l : List Int) (hl : l.length ≤ 17592186044416) : Fn Tryz.prog 96 [.agg [ib neg, encN l]] false (.one (.d (ib (goodZ neg l)))) := by
 refine Fn_of_EV Tryz.func96 rfl (by kernel_rfl) rfl rfl (fun E hE => ?_)
 refine EV_seq (EV_region ?_)
 refine EVo_e rfl (D_box 1 (hE 1 rfl) Free_no rfl) ?_
 refine EVo_t rfl (T_assign rfl) ?_
 refine EVo_nil (EV_seq (EV_region ?_))
 refine EVo_t rfl (T_faR (fOk rfl) (zOk rfl) rfl) ?_
 refine EVo_t rfl (T_loadR (gOk rfl) rfl rfl rfl rfl) ?_
 refine EVo_e rfl (D_call false (nat_check _ (by omega)) rfl (fit_cons (fit_d rfl nofun) (fit_nil))) ?_
 refine EVo_t rfl (T_bin rfl rfl rfl) ?_
 refine EVo_t rfl (T_move rfl) ?_
 refine EVo_case 7 rfl (fun hb1 => ?_) (fun hb1 => ?_)
 ·try simp only [z1, z2, z3, z4, z5, z6, z7, z8, z9, y1, y2, y3] at hb1
  refine EVo_t rfl (T_faR (fOk rfl) (zOk rfl) rfl) ?_
  refine EVo_t rfl (T_loadR (gOk rfl) rfl rfl rfl rfl) ?_
  refine EVo_t rfl (T_un rfl rfl) ?_
  refine EVo_t rfl (T_move rfl) ?_
  refine EVo_case 11 rfl (fun hb2 => ?_) (fun hb2 => ?_)
  ·try simp only [z1, z2, z3, z4, z5, z6, z7, z8, z9, y1, y2, y3] at hb2
   refine EVo_off rfl rfl ?_
   refine EVo_off rfl rfl ?_
   refine EVo_off rfl rfl ?_
   refine EVo_off rfl rfl ?_
   refine EVo_t rfl (T_pick rfl rfl) ?_
   refine EVo_t rfl (T_pick rfl rfl) ?_
   refine EVo_t rfl (T_assign rfl) ?_
   refine EVo_nil ?_
   refine EV_ret ?_
   refine ⟨_, ⟨rfl, rfl⟩, fit_eq rfl nofun ?_⟩
   ·rcases hg : goodL l <;> cases neg <;> simp_all [goodZ]
  ·try simp only [z1, z2, z3, z4, z5, z6, z7, z8, z9, y1, y2, y3] at hb2
   refine EVo_t rfl (T_faR (fOk rfl) (zOk rfl) rfl) ?_
   refine EVo_t rfl (T_loadR (gOk rfl) rfl rfl rfl rfl) ?_
   refine EVo_t rfl (T_lenL (uOk rfl) rfl) ?_
   refine EVo_t rfl (T_bin rfl rfl rfl) ?_
   refine EVo_t rfl (T_pick rfl rfl) ?_
   refine EVo_t rfl (T_pick rfl rfl) ?_
   refine EVo_t rfl (T_assign rfl) ?_
   refine EVo_nil ?_
   refine EV_ret ?_
   refine ⟨_, ⟨rfl, rfl⟩, fit_eq rfl nofun ?_⟩
   ·rcases hg : goodL l <;> cases neg <;> simp_all [goodZ]
 ·try simp only [z1, z2, z3, z4, z5, z6, z7, z8, z9, y1, y2, y3] at hb1
  refine EVo_off rfl rfl ?_
  refine EVo_off rfl rfl ?_
  refine EVo_off rfl rfl ?_
  refine EVo_off rfl rfl ?_
  refine EVo_off rfl rfl ?_
  refine EVo_off rfl rfl ?_
  refine EVo_off rfl rfl ?_
  refine EVo_off rfl rfl ?_
  refine EVo_off rfl rfl ?_
  refine EVo_t rfl (T_pick rfl rfl) ?_
  refine EVo_t rfl (T_assign rfl) ?_
  refine EVo_nil ?_
  refine EV_ret ?_
  refine ⟨_, ⟨rfl, rfl⟩, fit_eq rfl nofun ?_⟩
  ·rcases hg : goodL l <;> cases neg <;> simp_all [goodZ]

theorem whole_of (neg : Bool) (l : List Int) (hl : l.length ≤ 17592186044416) : Fn Tryz.prog 217 [.d (ib neg), .d (encN l)] false (.one (.agg [ib (neg && decide (0 < l.length)), encN l])) := by
 refine Fn_of_EV Tryz.func217 rfl (by kernel_rfl) rfl rfl (fun E hE => ?_)
 refine EV_seq (EV_region ?_)
 refine EVo_e rfl (D_alloc 1 (hE 1 rfl) Free_no zr196 rfl) ?_
 refine EVo_nil (EV_seq (EV_region ?_))
 refine EVo_t rfl (T_move rfl) ?_
 refine EVo_t rfl (T_move rfl) ?_
 refine EVo_case 6 rfl (fun hb1 => ?_) (fun hb1 => ?_)
 ·try simp only [z1, z2, z3, z4, z5, z6, z7, z8, z9, y1, y2, y3] at hb1
  refine EVo_t rfl (T_move rfl) ?_
  refine EVo_t rfl (T_lenL (uOk rfl) rfl) ?_
  refine EVo_t rfl (T_bin rfl rfl rfl) ?_
  refine EVo_t rfl (T_pick rfl rfl) ?_
  refine EVo_t rfl (T_move rfl) ?_
  refine EVo_t rfl (T_build ly196 rfl rfl) ?_
  refine EVo_e rfl (D_store rfl Free_no rfl rfl (zOk rfl) rfl (Nat.le_of_ble_eq_true rfl) rfl) ?_
  refine EVo_nil ?_
  refine EV_ret ?_
  refine ⟨_, ⟨rfl, _, _, _, rfl, rfl, rfl, .inl ⟨_, gOk rfl, zOk rfl, Nat.le_of_ble_eq_true rfl, rfl⟩⟩, fit_agg rfl nofun ?_⟩
  ·simp_all
 ·try simp only [z1, z2, z3, z4, z5, z6, z7, z8, z9, y1, y2, y3] at hb1
  refine EVo_off rfl rfl ?_
  refine EVo_off rfl rfl ?_
  refine EVo_off rfl rfl ?_
  refine EVo_t rfl (T_pick rfl rfl) ?_
  refine EVo_t rfl (T_move rfl) ?_
  refine EVo_t rfl (T_build ly196 rfl rfl) ?_
  refine EVo_e rfl (D_store rfl Free_no rfl rfl (zOk rfl) rfl (Nat.le_of_ble_eq_true rfl) rfl) ?_
  refine EVo_nil ?_
  refine EV_ret ?_
  refine ⟨_, ⟨rfl, _, _, _, rfl, rfl, rfl, .inl ⟨_, gOk rfl, zOk rfl, Nat.le_of_ble_eq_true rfl, rfl⟩⟩, fit_agg rfl nofun ?_⟩
  ·simp_all

theorem whole_Sign (neg : Bool) (l : List Int) (hl : l.length ≤ 17592186044416) : Fn Tryz.prog 95 [.agg [ib neg, encN l]] false (.one (.d (ii (if goodZ neg l && decide (0 < l.length) then (if neg then -1 else 1) else 0)))) := by
 refine Fn_of_EV Tryz.func95 rfl (by kernel_rfl) rfl rfl (fun E hE => ?_)
 refine EV_seq (EV_region ?_)
 refine EVo_e rfl (D_box 1 (hE 1 rfl) Free_no rfl) ?_
 refine EVo_t rfl (T_assign rfl) ?_
 refine EVo_nil ?_
 refine EV_seq ?_
 refine EV_block ?_
 refine EV_seq (EV_region ?_)
 refine EVo_t rfl (T_loadRA (gOk rfl) (zOk rfl) rfl rfl (Nat.le_of_ble_eq_true rfl) rfl rfl) ?_
 refine EVo_e rfl (D_call false (whole_good _ _ (by omega)) rfl (fit_cons (fit_ag rfl nofun) (fit_nil))) ?_
 refine EVo_t rfl (T_un rfl rfl) ?_
 refine EVo_t rfl (T_move rfl) ?_
 refine EVo_case 7 rfl (fun hb1 => ?_) (fun hb1 => ?_)
 ·try simp only [z1, z2, z3, z4, z5, z6, z7, z8, z9, y1, y2, y3] at hb1
  refine EVo_off rfl rfl ?_
  refine EVo_off rfl rfl ?_
  refine EVo_off rfl rfl ?_
  refine EVo_off rfl rfl ?_
  refine EVo_t rfl (T_pick rfl rfl) ?_
  refine EVo_t rfl (T_assign rfl) ?_
  refine EVo_nil ?_
  refine EV_cond rfl rfl rfl (fun _ => ?_) (fun h => by cases h)
  refine EV_seq (EV_region ?_)
  refine EVo_t rfl (T_assign rfl) ?_
  refine EVo_nil ?_
  refine EV_ret ?_
  refine ⟨_, ⟨rfl, rfl⟩, fit_eq rfl nofun ?_⟩
  ·simp_all
 ·try simp only [z1, z2, z3, z4, z5, z6, z7, z8, z9, y1, y2, y3] at hb1
  refine EVo_t rfl (T_faR (fOk rfl) (zOk rfl) rfl) ?_
  refine EVo_t rfl (T_loadR (gOk rfl) rfl rfl rfl rfl) ?_
  refine EVo_t rfl (T_lenL (uOk rfl) rfl) ?_
  refine EVo_t rfl (T_bin rfl rfl rfl) ?_
  refine EVo_t rfl (T_pick rfl rfl) ?_
  refine EVo_t rfl (T_assign rfl) ?_
  refine EVo_nil ?_
  refine EV_cond rfl rfl rfl (fun hb2 => ?_) (fun hb2 => ?_)
  ·try simp only [z1, z2, z3, z4, z5, z6, z7, z8, z9, y1, y2, y3] at hb2
   refine EV_seq (EV_region ?_)
   refine EVo_t rfl (T_assign rfl) ?_
   refine EVo_nil ?_
   refine EV_ret ?_
   refine ⟨_, ⟨rfl, rfl⟩, fit_eq rfl nofun ?_⟩
   ·simp_all
  ·try simp only [z1, z2, z3, z4, z5, z6, z7, z8, z9, y1, y2, y3] at hb2
   refine EV_seq (EV_region ?_)
   refine EVo_t rfl (T_faR (fOk rfl) (zOk rfl) rfl) ?_
   refine EVo_t rfl (T_loadR (gOk rfl) rfl rfl rfl rfl) ?_
   refine EVo_t rfl (T_assign rfl) ?_
   refine EVo_nil ?_
   refine EV_cond rfl rfl rfl (fun hb3 => ?_) (fun hb3 => ?_)
   ·try simp only [z1, z2, z3, z4, z5, z6, z7, z8, z9, y1, y2, y3] at hb3
    refine EV_seq (EV_region ?_)
    refine EVo_t rfl (T_assign rfl) ?_
    refine EVo_nil ?_
    refine EV_ret ?_
    refine ⟨_, ⟨rfl, rfl⟩, fit_eq rfl nofun ?_⟩
    ·simp_all
   ·try simp only [z1, z2, z3, z4, z5, z6, z7, z8, z9, y1, y2, y3] at hb3
    refine EV_skip ?_
    refine EV_seq (EV_region ?_)
    refine EVo_t rfl (T_assign rfl) ?_
    refine EVo_nil ?_
    refine EV_ret ?_
    refine ⟨_, ⟨rfl, rfl⟩, fit_eq rfl nofun ?_⟩
    ·simp_all

end Go.Proofs.YthaiegnohkiegaaGreat.Ab
/-
  Whole numbers and their form; contracts of package nat at numbers.
-/
namespace Go.Proofs.YthaiegnohkiegaaGreat.Ab
set_option linter.unusedVariables false
set_option linter.unusedSimpArgs false

/-- A whole number's form. -/
def encZ (z : Int) : List D := [ib (decide (z < 0)), encN (limbs z.natAbs)]
def zval (neg : Bool) (l : List Int) : Int := if neg then -(val l : Int) else val l
theorem limbs_len_pos (n : Nat) : 0 < (limbs n).length ↔ n ≠ 0 := by
  constructor
  · intro h e; subst e; simp [limbs_zero] at h
  · intro h; rw [limbs_pos h]; simp
theorem enc_of (neg : Bool) (n : Nat) : [ib (neg && decide (0 < (limbs n).length)), encN (limbs n)] = encZ (if neg then -(n : Int) else n) := by
  unfold encZ
  have e1 : (if neg = true then -(n : Int) else (n : Int)).natAbs = n := by cases neg <;> simp
  rw [e1]
  congr 2
  have : decide (0 < (limbs n).length) = decide (n ≠ 0) := by rw [decide_eq_decide]; exact limbs_len_pos n
  rw [this]
  cases neg
  · simp
  · by_cases h : n = 0
    · subst h; simp
    · simp [h]; omega
theorem enc_good {neg : Bool} {l : List Int} (hk : okL l) (hg : goodZ neg l = true) : [ib neg, encN l] = encZ (zval neg l) := by
  simp only [goodZ, Bool.and_eq_true, Bool.or_eq_true, Bool.not_eq_true', decide_eq_true_eq] at hg
  have h := enc_of neg (val l)
  rw [limbs_val hk hg.1] at h
  rw [← show encZ (zval neg l) = encZ (if neg = true then -(val l : Int) else (val l : Int)) from rfl] at h
  rw [← h]
  rcases hg.2 with h1 | h1
  · subst h1; simp
  · simp [h1]
theorem whole_ofN (neg : Bool) (n : Nat) (hl : (limbs n).length ≤ 17592186044416) : Fn Tryz.prog 217 [.d (ib neg), .d (encN (limbs n))] false (.one (.agg (encZ (if neg then -(n : Int) else n)))) := by
  rw [← enc_of]; exact whole_of neg (limbs n) hl
theorem nat_AddN (a b : Nat) (ha : (limbs a).length ≤ 17592186044416) (hb : (limbs b).length ≤ 17592186044416) : Fn Tryz.prog 234 [.d (encN (limbs a)), .d (encN (limbs b))] false (.tup [.d (encN (limbs (a + b))), .d (ii 0)]) := by
  have := nat_Add (limbs a) (limbs b) ha hb (okL_limbs a) (okL_limbs b)
  simpa [good_limbs, val_limbs] using this
theorem nat_MulN (a b : Nat) (ha : (limbs a).length ≤ 17592186044416) (hb : (limbs b).length ≤ 17592186044416) : Fn Tryz.prog 137 [.d (encN (limbs a)), .d (encN (limbs b))] false (.tup [.d (encN (limbs (a * b))), .d (ii 0)]) := by
  have := nat_Mul (limbs a) (limbs b) ha hb (okL_limbs a) (okL_limbs b)
  simpa [good_limbs, val_limbs] using this
theorem nat_CmpN (a b : Nat) (ha : (limbs a).length ≤ 17592186044416) (hb : (limbs b).length ≤ 17592186044416) : Fn Tryz.prog 235 [.d (encN (limbs a)), .d (encN (limbs b))] false (.one (.d (ii (cmpN a b)))) := by
  have := nat_Cmp (limbs a) (limbs b) (by omega) (by omega) (okL_limbs a) (okL_limbs b)
  simpa [good_limbs, val_limbs] using this
theorem nat_SubN (a b : Nat) (ha : (limbs a).length ≤ 17592186044416) (hb : (limbs b).length ≤ 17592186044416) (hle : b ≤ a) : Fn Tryz.prog 236 [.d (encN (limbs a)), .d (encN (limbs b))] false (.tup [.d (encN (limbs (a - b))), .d (ii 0)]) := by
  have := nat_Sub (limbs a) (limbs b) ha hb (okL_limbs a) (okL_limbs b)
  simpa [good_limbs, val_limbs, hle] using this
theorem limbs_len_le {n k : Nat} (h : n < 18446744073709551616 ^ k) : (limbs n).length ≤ k := by
  rcases Nat.lt_or_ge k (limbs n).length with h1 | h1
  · have h2 := good_ge (okL_limbs n) (good_limbs n) (by intro e; rw [e] at h1; simp at h1)
    rw [val_limbs] at h2
    have h3 : 18446744073709551616 ^ k ≤ 18446744073709551616 ^ ((limbs n).length - 1) := Nat.pow_le_pow_right (by decide) (by omega)
    omega
  · exact h1
theorem limbs_lt (n : Nat) : n < 18446744073709551616 ^ (limbs n).length := by
  have := val_lt (okL_limbs n)
  rwa [val_limbs] at this
theorem limbs_add_len (a b : Nat) : (limbs (a + b)).length ≤ max (limbs a).length (limbs b).length + 1 := by
  apply limbs_len_le
  have h1 := limbs_lt a
  have h2 := limbs_lt b
  have h3 : 18446744073709551616 ^ (limbs a).length ≤ 18446744073709551616 ^ max (limbs a).length (limbs b).length := Nat.pow_le_pow_right (by decide) (Nat.le_max_left _ _)
  have h4 : 18446744073709551616 ^ (limbs b).length ≤ 18446744073709551616 ^ max (limbs a).length (limbs b).length := Nat.pow_le_pow_right (by decide) (Nat.le_max_right _ _)
  rw [Nat.pow_succ]
  omega
theorem limbs_mul_len (a b : Nat) : (limbs (a * b)).length ≤ (limbs a).length + (limbs b).length := by
  apply limbs_len_le
  rw [Nat.pow_add]
  exact Nat.mul_lt_mul'' (limbs_lt a) (limbs_lt b)
theorem limbs_sub_len (a b : Nat) : (limbs (a - b)).length ≤ (limbs a).length := limbs_len_le (Nat.lt_of_le_of_lt (Nat.sub_le _ _) (limbs_lt a))
theorem mul_sign (a b : Int) : (if (decide (a < 0) != decide (b < 0)) = true then -((a.natAbs * b.natAbs : Nat) : Int) else ((a.natAbs * b.natAbs : Nat) : Int)) = a * b := by
  rw [Int.natCast_mul]
  by_cases ha : a < 0 <;> by_cases hb : b < 0
  · rw [show (a.natAbs : Int) = -a by omega, show (b.natAbs : Int) = -b by omega]; simp [ha, hb, Int.neg_mul, Int.mul_neg]
  · rw [show (a.natAbs : Int) = -a by omega, show (b.natAbs : Int) = b by omega]; simp [ha, hb, Int.neg_mul, Int.mul_neg]
  · rw [show (a.natAbs : Int) = a by omega, show (b.natAbs : Int) = -b by omega]; simp [ha, hb, Int.neg_mul, Int.mul_neg]
  · rw [show (a.natAbs : Int) = a by omega, show (b.natAbs : Int) = b by omega]; simp [ha, hb]
theorem neg_sign (a : Int) : (if (!decide (a < 0)) = true then -((a.natAbs : Nat) : Int) else ((a.natAbs : Nat) : Int)) = -a := by
  by_cases ha : a < 0 <;> simp [ha] <;> omega
theorem add_sign1 {a b : Int} (h : decide (a < 0) = decide (b < 0)) : (if decide (a < 0) = true then -((a.natAbs + b.natAbs : Nat) : Int) else ((a.natAbs + b.natAbs : Nat) : Int)) = a + b := by
  rw [decide_eq_decide] at h
  by_cases ha : a < 0 <;> simp only [ha] <;> simp <;> omega
theorem add_sign2 {a b : Int} (h : ¬ decide (a < 0) = decide (b < 0)) (hc : a.natAbs < b.natAbs) : (if decide (b < 0) = true then -((b.natAbs - a.natAbs : Nat) : Int) else ((b.natAbs - a.natAbs : Nat) : Int)) = a + b := by
  rw [decide_eq_decide] at h
  by_cases hb : b < 0
  · rw [if_pos (by simpa using hb)]; omega
  · rw [if_neg (by simpa using hb)]; omega
theorem add_sign3 {a b : Int} (h : ¬ decide (a < 0) = decide (b < 0)) (hc : b.natAbs ≤ a.natAbs) : (if decide (a < 0) = true then -((a.natAbs - b.natAbs : Nat) : Int) else ((a.natAbs - b.natAbs : Nat) : Int)) = a + b := by
  rw [decide_eq_decide] at h
  by_cases ha : a < 0
  · rw [if_pos (by simpa using ha)]; omega
  · rw [if_neg (by simpa using ha)]; omega
theorem goodZ_enc (a : Int) : goodZ (decide (a < 0)) (limbs a.natAbs) = true := by
  simp only [goodZ, good_limbs, Bool.true_and, Bool.or_eq_true, Bool.not_eq_true', decide_eq_true_eq, decide_eq_false_iff_not]
  by_cases h : a < 0
  · right; rw [limbs_len_pos]; omega
  · left; exact h
theorem whole_goodZ (a : Int) (hl : (limbs a.natAbs).length ≤ 17592186044416) : Fn Tryz.prog 96 [.agg (encZ a)] false (.one (.d (ib true))) := by
  have := whole_good (decide (a < 0)) (limbs a.natAbs) hl
  rwa [goodZ_enc] at this
abbrev fnD (f : FuncId) : D := .fn (.func f) [] []
theorem enc_neg {n : Int} {x : Int} (h : n < 0) (hx : x.toNat = n.natAbs) : [ib true, encN (limbs x.toNat)] = encZ n := by
  unfold encZ; rw [hx]; simp [h]
theorem enc_pos {n : Int} {x : Int} (h : ¬ n < 0) (hx : x.toNat = n.natAbs) : [ib false, encN (limbs x.toNat)] = encZ n := by
  unfold encZ; rw [hx]; simp [h]
theorem i64_wrap (a : Int) : IntKind.i64.wrap a = (a + 9223372036854775808) % 18446744073709551616 - 9223372036854775808 := by
  simp only [IntKind.wrap, IntKind.signed, IntKind.bits]
  simp
  omega
def inI64 (z : Int) : Prop := -9223372036854775808 ≤ z ∧ z ≤ 9223372036854775807
instance (z : Int) : Decidable (inI64 z) := by unfold inI64; infer_instance
theorem smallB_limbs (n : Nat) : smallB (limbs n) = decide (n < 18446744073709551616) := by
  unfold smallB
  rw [good_limbs, Bool.true_and, decide_eq_decide]
  constructor
  · intro h
    have := limbs_lt n
    have h2 : 18446744073709551616 ^ (limbs n).length ≤ 18446744073709551616 ^ 1 := Nat.pow_le_pow_right (by decide) h
    omega
  · intro h; exact limbs_len_le (by omega)
theorem nat_smallN (n : Nat) (hl : (limbs n).length ≤ 17592186044416) : Fn Tryz.prog 89 [.d (encN (limbs n))] false (.tup [.d (iu (if n < 18446744073709551616 then (n : Int) else 0)), .d (ib (decide (n < 18446744073709551616)))]) := by
  have := nat_small (limbs n) (by omega) (okL_limbs n)
  simpa [smallV, smallB_limbs, val_limbs] using this
end Go.Proofs.YthaiegnohkiegaaGreat.Ab
/-
 Contracts of the functions of package whole: sums, products.
-/
namespace Go.Proofs.YthaiegnohkiegaaGreat.Ab
set_option linter.unusedVariables false
set_option linter.unusedSimpArgs false
set_option maxRecDepth 20000


theorem whole_times (a b : Int) (hl : (limbs a.natAbs).length + (limbs b.natAbs).length ≤ 17592186044416) : Fn Tryz.prog 220 [.agg (encZ a), .agg (encZ b)] false (.one (.agg (encZ (a * b)))) := by
 refine Fn_of_EV Tryz.func220 rfl (by kernel_rfl) rfl rfl (fun E hE => ?_)
 refine EV_seq (EV_region ?_)
 refine EVo_e rfl (D_box 1 (hE 1 rfl) Free_no rfl) ?_
 refine EVo_e rfl (D_box 2 (hE 2 rfl) Free_no rfl) ?_
 refine EVo_e rfl (D_alloc 3 (hE 3 rfl) Free_no zr196 rfl) ?_
 refine EVo_nil (EV_seq (EV_region ?_))
 refine EVo_t rfl (T_faR (fOk rfl) (zOk rfl) rfl) ?_
 refine EVo_t rfl (T_loadR (gOk rfl) rfl rfl rfl rfl) ?_
 refine EVo_t rfl (T_faR (fOk rfl) (zOk rfl) rfl) ?_
 refine EVo_t rfl (T_loadR (gOk rfl) rfl rfl rfl rfl) ?_
 refine EVo_e rfl (D_call false (nat_MulN _ _ (by omega) (by omega)) rfl (fit_cons (fit_d rfl nofun) (fit_cons (fit_d rfl nofun) (fit_nil)))) ?_
 refine EVo_t rfl (T_move rfl) ?_
 refine EVo_t rfl (T_extract rfl rfl) ?_
 refine EVo_t rfl (T_extract rfl rfl) ?_
 refine EVo_t rfl (T_assign rfl) ?_
 refine EVo_t rfl (T_assign rfl) ?_
 refine EVo_nil (EV_seq (EV_region ?_))
 refine EVo_t rfl (T_faR (fOk rfl) (zOk rfl) rfl) ?_
 refine EVo_t rfl (T_loadR (gOk rfl) rfl rfl rfl rfl) ?_
 refine EVo_t rfl (T_faR (fOk rfl) (zOk rfl) rfl) ?_
 refine EVo_t rfl (T_loadR (gOk rfl) rfl rfl rfl rfl) ?_
 refine EVo_t rfl (T_eqb (uOk rfl) rfl rfl (.inr ⟨rfl, rfl⟩)) ?_
 refine EVo_t rfl (T_move rfl) ?_
 have hml := limbs_mul_len a.natAbs b.natAbs
 refine EVo_e rfl (D_call false (whole_ofN _ _ (by omega)) rfl (fit_cons (fit_d rfl nofun) (fit_cons (fit_d rfl nofun) (fit_nil)))) ?_
 refine EVo_e rfl (D_store rfl Free_no rfl rfl (zOk rfl) rfl (Nat.le_of_ble_eq_true rfl) rfl) ?_
 refine EVo_nil ?_
 refine EV_ret ?_
 refine ⟨_, ⟨rfl, _, _, _, rfl, rfl, rfl, .inl ⟨_, gOk rfl, zOk rfl, Nat.le_of_ble_eq_true rfl, rfl⟩⟩, fit_agg rfl nofun ?_⟩
 ·exact congrArg encZ (mul_sign a b)

theorem whole_neg (a : Int) (hl : (limbs a.natAbs).length ≤ 17592186044416) : Fn Tryz.prog 190 [.agg (encZ a)] false (.one (.agg (encZ (-a)))) := by
 refine Fn_of_EV Tryz.func190 rfl (by kernel_rfl) rfl rfl (fun E hE => ?_)
 refine EV_seq (EV_region ?_)
 refine EVo_e rfl (D_box 1 (hE 1 rfl) Free_no rfl) ?_
 refine EVo_e rfl (D_alloc 2 (hE 2 rfl) Free_no zr196 rfl) ?_
 refine EVo_nil ?_
 refine EV_seq ?_
 refine EV_draw (inX [1]) (.st 0 (.st 1 (.st 2 (.st 3 (.st 4 (.one 5 (.one 6 (.one 7 .done)))))))) Tryz.mixed (by kernel_rfl) ?_
 refine EVq_t rfl rfl (T_faR (fOk rfl) (zOk rfl) rfl) ?_
 refine EVq_t rfl rfl (T_loadR (gOk rfl) rfl rfl rfl rfl) ?_
 refine EVq_t rfl rfl (T_un rfl rfl) ?_
 refine EVq_t rfl rfl (T_faR (fOk rfl) (zOk rfl) rfl) ?_
 refine EVq_t rfl rfl (T_loadR (gOk rfl) rfl rfl rfl rfl) ?_
 refine EVq_e rfl rfl (D_call false ((nat_cloneM _ (by omega)).toFn.loose) rfl (fit_cons (fit_d rfl nofun) (fit_nil))) ?_
 refine EVq_e rfl rfl (D_call false (whole_ofN _ _ (by omega)) rfl (fit_cons (fit_d rfl nofun) (fit_cons (fit_d rfl nofun) (fit_nil)))) ?_
 refine EVq_e rfl rfl (D_store rfl (Free_in rfl) rfl rfl (zOk rfl) rfl (Nat.le_of_ble_eq_true rfl) rfl) ?_
 refine EVq_done ?_
 refine EV_ret ?_
 refine ⟨_, ⟨rfl, _, _, _, rfl, rfl, rfl, .inl ⟨_, gOk rfl, zOk rfl, Nat.le_of_ble_eq_true rfl, rfl⟩⟩, fit_agg rfl nofun ?_⟩
 ·exact congrArg encZ (neg_sign a)

theorem whole_plus (a b : Int) (ha : (limbs a.natAbs).length < 17592186044416) (hb : (limbs b.natAbs).length < 17592186044416) : Fn Tryz.prog 218 [.agg (encZ a), .agg (encZ b)] false (.one (.agg (encZ (a + b)))) := by
 refine Fn_of_EV Tryz.func218 rfl (by kernel_rfl) rfl rfl (fun E hE => ?_)
 refine EV_seq (EV_region ?_)
 refine EVo_e rfl (D_box 1 (hE 1 rfl) Free_no rfl) ?_
 refine EVo_e rfl (D_box 2 (hE 2 rfl) Free_no rfl) ?_
 refine EVo_e rfl (D_alloc 3 (hE 3 rfl) Free_no zr196 rfl) ?_
 refine EVo_nil ?_
 refine EV_seq ?_
 refine EV_seq (EV_region ?_)
 refine EVo_t rfl (T_faR (fOk rfl) (zOk rfl) rfl) ?_
 refine EVo_t rfl (T_loadR (gOk rfl) rfl rfl rfl rfl) ?_
 refine EVo_t rfl (T_faR (fOk rfl) (zOk rfl) rfl) ?_
 refine EVo_t rfl (T_loadR (gOk rfl) rfl rfl rfl rfl) ?_
 refine EVo_t rfl (T_eqb (uOk rfl) rfl rfl (.inl ⟨rfl, rfl⟩)) ?_
 refine EVo_nil ?_
 refine EV_cond rfl rfl rfl (fun hb1 => ?_) (fun hb1 => ?_)
 ·try simp only [z1, z2, z3, z4, z5, z6, z7, z8, z9, y1, y2, y3] at hb1
  refine EV_seq (EV_region ?_)
  refine EVo_t rfl (T_faR (fOk rfl) (zOk rfl) rfl) ?_
  refine EVo_t rfl (T_loadR (gOk rfl) rfl rfl rfl rfl) ?_
  refine EVo_t rfl (T_faR (fOk rfl) (zOk rfl) rfl) ?_
  refine EVo_t rfl (T_loadR (gOk rfl) rfl rfl rfl rfl) ?_
  refine EVo_e rfl (D_call false (nat_AddN _ _ (by omega) (by omega)) rfl (fit_cons (fit_d rfl nofun) (fit_cons (fit_d rfl nofun) (fit_nil)))) ?_
  refine EVo_t rfl (T_move rfl) ?_
  refine EVo_t rfl (T_extract rfl rfl) ?_
  refine EVo_t rfl (T_extract rfl rfl) ?_
  refine EVo_t rfl (T_assign rfl) ?_
  refine EVo_t rfl (T_assign rfl) ?_
  refine EVo_nil (EV_seq (EV_region ?_))
  refine EVo_t rfl (T_faR (fOk rfl) (zOk rfl) rfl) ?_
  refine EVo_t rfl (T_loadR (gOk rfl) rfl rfl rfl rfl) ?_
  refine EVo_t rfl (T_move rfl) ?_
  have hal := limbs_add_len a.natAbs b.natAbs
  refine EVo_e rfl (D_call false (whole_ofN _ _ (by omega)) rfl (fit_cons (fit_d rfl nofun) (fit_cons (fit_d rfl nofun) (fit_nil)))) ?_
  refine EVo_e rfl (D_store rfl Free_no rfl rfl (zOk rfl) rfl (Nat.le_of_ble_eq_true rfl) rfl) ?_
  refine EVo_nil ?_
  refine EV_ret ?_
  refine ⟨_, ⟨rfl, _, _, _, rfl, rfl, rfl, .inl ⟨_, gOk rfl, zOk rfl, Nat.le_of_ble_eq_true rfl, rfl⟩⟩, fit_agg rfl nofun ?_⟩
  ·exact congrArg encZ (add_sign1 hb1)
 ·try simp only [z1, z2, z3, z4, z5, z6, z7, z8, z9, y1, y2, y3] at hb1
  refine EV_skip ?_
  refine EV_seq ?_
  refine EV_seq (EV_region ?_)
  refine EVo_t rfl (T_faR (fOk rfl) (zOk rfl) rfl) ?_
  refine EVo_t rfl (T_loadR (gOk rfl) rfl rfl rfl rfl) ?_
  refine EVo_t rfl (T_faR (fOk rfl) (zOk rfl) rfl) ?_
  refine EVo_t rfl (T_loadR (gOk rfl) rfl rfl rfl rfl) ?_
  refine EVo_e rfl (D_call false (nat_CmpN _ _ (by omega) (by omega)) rfl (fit_cons (fit_d rfl nofun) (fit_cons (fit_d rfl nofun) (fit_nil)))) ?_
  refine EVo_t rfl (T_bin rfl rfl rfl) ?_
  refine EVo_nil ?_
  refine EV_cond rfl rfl rfl (fun hb2 => ?_) (fun hb2 => ?_)
  ·try simp only [z1, z2, z3, z4, z5, z6, z7, z8, z9, y1, y2, y3] at hb2
   have hc := (cmpN_neg _ _).1 hb2
   refine EV_region ?_
   refine EVo_t rfl (T_loadRA (gOk rfl) (zOk rfl) rfl rfl (Nat.le_of_ble_eq_true rfl) rfl rfl) ?_
   refine EVo_t rfl (T_loadRA (gOk rfl) (zOk rfl) rfl rfl (Nat.le_of_ble_eq_true rfl) rfl rfl) ?_
   refine EVo_e rfl (D_store rfl Free_no rfl rfl (zOk rfl) rfl (Nat.le_of_ble_eq_true rfl) rfl) ?_
   refine EVo_e rfl (D_store rfl Free_no rfl rfl (zOk rfl) rfl (Nat.le_of_ble_eq_true rfl) rfl) ?_
   refine EVo_nil (EV_seq (EV_region ?_))
   refine EVo_t rfl (T_faR (fOk rfl) (zOk rfl) rfl) ?_
   refine EVo_t rfl (T_loadR (gOk rfl) rfl rfl rfl rfl) ?_
   refine EVo_t rfl (T_faR (fOk rfl) (zOk rfl) rfl) ?_
   refine EVo_t rfl (T_loadR (gOk rfl) rfl rfl rfl rfl) ?_
   refine EVo_e rfl (D_call false (nat_SubN _ _ (by omega) (by omega) (by omega)) rfl (fit_cons (fit_d rfl nofun) (fit_cons (fit_d rfl nofun) (fit_nil)))) ?_
   refine EVo_t rfl (T_move rfl) ?_
   refine EVo_t rfl (T_extract rfl rfl) ?_
   refine EVo_t rfl (T_extract rfl rfl) ?_
   refine EVo_t rfl (T_assign rfl) ?_
   refine EVo_t rfl (T_assign rfl) ?_
   refine EVo_nil (EV_seq (EV_region ?_))
   refine EVo_t rfl (T_faR (fOk rfl) (zOk rfl) rfl) ?_
   refine EVo_t rfl (T_loadR (gOk rfl) rfl rfl rfl rfl) ?_
   refine EVo_t rfl (T_move rfl) ?_
   have hs1 := limbs_sub_len a.natAbs b.natAbs
   have hs2 := limbs_sub_len b.natAbs a.natAbs
   refine EVo_e rfl (D_call false (whole_ofN _ _ (by omega)) rfl (fit_cons (fit_d rfl nofun) (fit_cons (fit_d rfl nofun) (fit_nil)))) ?_
   refine EVo_e rfl (D_store rfl Free_no rfl rfl (zOk rfl) rfl (Nat.le_of_ble_eq_true rfl) rfl) ?_
   refine EVo_nil ?_
   refine EV_ret ?_
   refine ⟨_, ⟨rfl, _, _, _, rfl, rfl, rfl, .inl ⟨_, gOk rfl, zOk rfl, Nat.le_of_ble_eq_true rfl, rfl⟩⟩, fit_agg rfl nofun ?_⟩
   ·exact congrArg encZ (add_sign2 hb1 (by omega))
  ·try simp only [z1, z2, z3, z4, z5, z6, z7, z8, z9, y1, y2, y3] at hb2
   have hc := mt (cmpN_neg a.natAbs b.natAbs).2 (by omega)
   refine EV_skip ?_
   refine EV_seq (EV_region ?_)
   refine EVo_t rfl (T_faR (fOk rfl) (zOk rfl) rfl) ?_
   refine EVo_t rfl (T_loadR (gOk rfl) rfl rfl rfl rfl) ?_
   refine EVo_t rfl (T_faR (fOk rfl) (zOk rfl) rfl) ?_
   refine EVo_t rfl (T_loadR (gOk rfl) rfl rfl rfl rfl) ?_
   refine EVo_e rfl (D_call false (nat_SubN _ _ (by omega) (by omega) (by omega)) rfl (fit_cons (fit_d rfl nofun) (fit_cons (fit_d rfl nofun) (fit_nil)))) ?_
   refine EVo_t rfl (T_move rfl) ?_
   refine EVo_t rfl (T_extract rfl rfl) ?_
   refine EVo_t rfl (T_extract rfl rfl) ?_
   refine EVo_t rfl (T_assign rfl) ?_
   refine EVo_t rfl (T_assign rfl) ?_
   refine EVo_nil (EV_seq (EV_region ?_))
   refine EVo_t rfl (T_faR (fOk rfl) (zOk rfl) rfl) ?_
   refine EVo_t rfl (T_loadR (gOk rfl) rfl rfl rfl rfl) ?_
   refine EVo_t rfl (T_move rfl) ?_
   have hs1 := limbs_sub_len a.natAbs b.natAbs
   have hs2 := limbs_sub_len b.natAbs a.natAbs
   refine EVo_e rfl (D_call false (whole_ofN _ _ (by omega)) rfl (fit_cons (fit_d rfl nofun) (fit_cons (fit_d rfl nofun) (fit_nil)))) ?_
   refine EVo_e rfl (D_store rfl Free_no rfl rfl (zOk rfl) rfl (Nat.le_of_ble_eq_true rfl) rfl) ?_
   refine EVo_nil ?_
   refine EV_ret ?_
   refine ⟨_, ⟨rfl, _, _, _, rfl, rfl, rfl, .inl ⟨_, gOk rfl, zOk rfl, Nat.le_of_ble_eq_true rfl, rfl⟩⟩, fit_agg rfl nofun ?_⟩
   ·exact congrArg encZ (add_sign3 hb1 (by omega))

theorem whole_less (a b : Int) (ha : (limbs a.natAbs).length < 17592186044416) (hb : (limbs b.natAbs).length < 17592186044416) : Fn Tryz.prog 219 [.agg (encZ a), .agg (encZ b)] false (.one (.agg (encZ (a - b)))) := by
 refine Fn_of_EV Tryz.func219 rfl (by kernel_rfl) rfl rfl (fun E hE => ?_)
 refine EV_seq (EV_region ?_)
 refine EVo_e rfl (D_box 1 (hE 1 rfl) Free_no rfl) ?_
 refine EVo_e rfl (D_box 2 (hE 2 rfl) Free_no rfl) ?_
 refine EVo_e rfl (D_alloc 3 (hE 3 rfl) Free_no zr196 rfl) ?_
 refine EVo_nil ?_
 refine EV_seq ?_
 refine EV_draw (inX [1, 2]) (.st 0 (.st 1 (.one 2 (.one 3 (.one 4 .done))))) Tryz.mixed (by kernel_rfl) ?_
 refine EVq_t rfl rfl (T_loadRA (gOk rfl) (zOk rfl) rfl rfl (Nat.le_of_ble_eq_true rfl) rfl rfl) ?_
 refine EVq_t rfl rfl (T_loadRA (gOk rfl) (zOk rfl) rfl rfl (Nat.le_of_ble_eq_true rfl) rfl rfl) ?_
 refine EVq_e rfl rfl (D_call false (whole_neg _ (by omega)) rfl (fit_cons (fit_ag rfl nofun) (fit_nil))) ?_
 refine EVq_e rfl rfl (D_call false (whole_plus _ _ (by omega) (by rw [Int.natAbs_neg]; omega)) rfl (fit_cons (fit_ag rfl nofun) (fit_cons (fit_ag rfl nofun) (fit_nil)))) ?_
 refine EVq_e rfl rfl (D_store rfl (Free_in rfl) rfl rfl (zOk rfl) rfl (Nat.le_of_ble_eq_true rfl) rfl) ?_
 refine EVq_done ?_
 refine EV_ret ?_
 refine ⟨_, ⟨rfl, _, _, _, rfl, rfl, rfl, .inl ⟨_, gOk rfl, zOk rfl, Nat.le_of_ble_eq_true rfl, rfl⟩⟩, fit_agg rfl nofun ?_⟩
 ·exact congrArg encZ (by omega)

end Go.Proofs.YthaiegnohkiegaaGreat.Ab
/-
 Contracts of the functions of package whole: the exported ones.
-/
namespace Go.Proofs.YthaiegnohkiegaaGreat.Ab
set_option linter.unusedVariables false
set_option linter.unusedSimpArgs false
set_option maxRecDepth 20000


theorem whole_From (n : Int) (h0 : -9223372036854775808 ≤ n) (h1 : n ≤ 9223372036854775807) : Fn Tryz.prog 50 [.d (ii n)] false (.one (.agg (encZ n))) := by
 refine Fn_of_EV Tryz.func50 rfl (by kernel_rfl) rfl rfl (fun E hE => ?_)
 refine EV_seq (EV_region ?_)
 refine EVo_e rfl (D_alloc 1 (hE 1 rfl) Free_no zr38 rfl) ?_
 refine EVo_nil ?_
 refine EV_seq ?_
 refine EV_seq (EV_region ?_)
 refine EVo_t rfl (T_move rfl) ?_
 refine EVo_t rfl (T_bin rfl rfl rfl) ?_
 refine EVo_nil ?_
 refine EV_cond rfl rfl rfl (fun hb1 => ?_) (fun hb1 => ?_)
 ·try simp only [z1, z2, z3, z4, z5, z6, z7, z8, z9, y1, y2, y3] at hb1
  refine EV_seq (EV_region ?_)
  refine EVo_t rfl (T_move rfl) ?_
  refine EVo_t rfl (T_conv (uOk rfl) (uOk rfl) rfl) ?_
  refine EVo_t rfl (T_un rfl rfl) ?_
  refine EVo_e rfl (D_call false (nat_from _ (by rw [u64_wrap]; omega) (by rw [u64_wrap]; omega)) rfl (fit_cons (fit_d rfl nofun) (fit_nil))) ?_
  refine EVo_t rfl (T_build ly38 rfl rfl) ?_
  refine EVo_e rfl (D_store rfl Free_no rfl rfl (zOk rfl) rfl (Nat.le_of_ble_eq_true rfl) rfl) ?_
  refine EVo_nil ?_
  refine EV_ret ?_
  refine ⟨_, ⟨rfl, _, _, _, rfl, rfl, rfl, .inl ⟨_, gOk rfl, zOk rfl, Nat.le_of_ble_eq_true rfl, rfl⟩⟩, fit_agg rfl nofun ?_⟩
  ·exact enc_neg hb1 (by simp only [u64_wrap]; omega)
 ·try simp only [z1, z2, z3, z4, z5, z6, z7, z8, z9, y1, y2, y3] at hb1
  refine EV_skip ?_
  refine EV_seq (EV_region ?_)
  refine EVo_t rfl (T_move rfl) ?_
  refine EVo_t rfl (T_conv (uOk rfl) (uOk rfl) rfl) ?_
  refine EVo_e rfl (D_call false (nat_from _ (by rw [u64_wrap]; omega) (by rw [u64_wrap]; omega)) rfl (fit_cons (fit_d rfl nofun) (fit_nil))) ?_
  refine EVo_t rfl (T_build ly38 rfl rfl) ?_
  refine EVo_e rfl (D_store rfl Free_no rfl rfl (zOk rfl) rfl (Nat.le_of_ble_eq_true rfl) rfl) ?_
  refine EVo_nil ?_
  refine EV_ret ?_
  refine ⟨_, ⟨rfl, _, _, _, rfl, rfl, rfl, .inl ⟨_, gOk rfl, zOk rfl, Nat.le_of_ble_eq_true rfl, rfl⟩⟩, fit_agg rfl nofun ?_⟩
  ·exact enc_pos (by omega) (by simp only [u64_wrap]; omega)

theorem whole_calls : Fn Tryz.prog 191 [] false (.one (.d (.sl [[fnD 218], [fnD 219], [fnD 220]]))) := by
 refine Fn_of_EV Tryz.func191 rfl (by kernel_rfl) rfl rfl (fun E hE => ?_)
 refine EV_seq (EV_region ?_)
 refine EVo_t rfl (T_assign rfl) ?_
 refine EVo_nil (EV_seq (EV_region ?_))
 refine EVo_e rfl (D_buildSlice (uOk rfl) bz198 rfl rfl rfl (by simp)) ?_
 refine EVo_t rfl (T_assign rfl) ?_
 refine EVo_nil ?_
 refine EV_ret ?_
 refine ⟨_, ⟨rfl, rfl⟩, fit_eq rfl nofun rfl⟩

theorem whole_Neg (a : Int) (hl : (limbs a.natAbs).length ≤ 17592186044416) : Fn Tryz.prog 162 [.agg (encZ a)] false (.one (.agg (encZ (-a)))) := by
 refine Fn_of_EV Tryz.func162 rfl (by kernel_rfl) rfl rfl (fun E hE => ?_)
 refine EV_seq (EV_region ?_)
 refine EVo_e rfl (D_box 1 (hE 1 rfl) Free_no rfl) ?_
 refine EVo_e rfl (D_alloc 2 (hE 2 rfl) Free_no zr38 rfl) ?_
 refine EVo_nil ?_
 refine EV_seq ?_
 refine EV_seq (EV_region ?_)
 refine EVo_t rfl (T_loadRA (gOk rfl) (zOk rfl) rfl rfl (Nat.le_of_ble_eq_true rfl) rfl rfl) ?_
 refine EVo_e rfl (D_call false (whole_goodZ _ (by omega)) rfl (fit_cons (fit_ag rfl nofun) (fit_nil))) ?_
 refine EVo_t rfl (T_un rfl rfl) ?_
 refine EVo_nil ?_
 refine EV_cond rfl rfl rfl (fun h => by cases h) (fun _ => ?_)
 refine EV_skip ?_
 refine EV_seq (EV_region ?_)
 refine EVo_t rfl (T_loadRA (gOk rfl) (zOk rfl) rfl rfl (Nat.le_of_ble_eq_true rfl) rfl rfl) ?_
 refine EVo_e rfl (D_call false (whole_neg _ (by omega)) rfl (fit_cons (fit_ag rfl nofun) (fit_nil))) ?_
 refine EVo_e rfl (D_store rfl Free_no rfl rfl (zOk rfl) rfl (Nat.le_of_ble_eq_true rfl) rfl) ?_
 refine EVo_nil ?_
 refine EV_ret ?_
 refine ⟨_, ⟨rfl, _, _, _, rfl, rfl, rfl, .inl ⟨_, gOk rfl, zOk rfl, Nat.le_of_ble_eq_true rfl, rfl⟩⟩, fit_agg rfl nofun rfl⟩

theorem whole_reckon_plus (a b : Int) (ha : (limbs a.natAbs).length < 17592186044416) (hb : (limbs b.natAbs).length < 17592186044416) : Fn Tryz.prog 163 [.d (ii 0), .agg (encZ a), .agg (encZ b)] false (.tup [.agg (encZ (a + b)), .d (ii 0)]) := by
 refine Fn_of_EV Tryz.func163 rfl (by kernel_rfl) rfl rfl (fun E hE => ?_)
 refine EV_seq (EV_region ?_)
 refine EVo_e rfl (D_box 1 (hE 1 rfl) Free_no rfl) ?_
 refine EVo_e rfl (D_box 2 (hE 2 rfl) Free_no rfl) ?_
 refine EVo_e rfl (D_alloc 3 (hE 3 rfl) Free_no zr38 rfl) ?_
 refine EVo_t rfl (T_assign rfl) ?_
 refine EVo_nil ?_
 refine EV_seq ?_
 refine EV_seq (EV_region ?_)
 refine EVo_t rfl (T_loadRA (gOk rfl) (zOk rfl) rfl rfl (Nat.le_of_ble_eq_true rfl) rfl rfl) ?_
 refine EVo_e rfl (D_call false (whole_goodZ _ (by omega)) rfl (fit_cons (fit_ag rfl nofun) (fit_nil))) ?_
 refine EVo_t rfl (T_un rfl rfl) ?_
 refine EVo_t rfl (T_move rfl) ?_
 refine EVo_t rfl (T_loadRA (gOk rfl) (zOk rfl) rfl rfl (Nat.le_of_ble_eq_true rfl) rfl rfl) ?_
 refine EVo_e rfl (D_call false (whole_goodZ _ (by omega)) rfl (fit_cons (fit_ag rfl nofun) (fit_nil))) ?_
 refine EVo_t rfl (T_un rfl rfl) ?_
 refine EVo_t rfl (T_pick rfl rfl) ?_
 refine EVo_nil ?_
 refine EV_cond rfl rfl rfl (fun h => by cases h) (fun _ => ?_)
 refine EV_skip ?_
 refine EV_seq ?_
 refine EV_draw (inX [1, 2]) (.st 1 (.st 4 (.st 5 (.one 0 (.st 2 (.st 3 (.one 6 (.one 7 (.st 8 .done))))))))) Tryz.mixed (by kernel_rfl) ?_
 refine EVq_t rfl rfl (T_move rfl) ?_
 refine EVq_t rfl rfl (T_loadRA (gOk rfl) (zOk rfl) rfl rfl (Nat.le_of_ble_eq_true rfl) rfl rfl) ?_
 refine EVq_t rfl rfl (T_loadRA (gOk rfl) (zOk rfl) rfl rfl (Nat.le_of_ble_eq_true rfl) rfl rfl) ?_
 refine EVq_e rfl rfl (D_call false (whole_calls) rfl (fit_nil)) ?_
 refine EVq_t rfl rfl (T_indexAddr (uOk rfl) (zOk rfl) rfl rfl (by decide) rfl rfl) ?_
 refine EVq_t rfl rfl (T_load (gOk rfl) rfl) ?_
 refine EVq_e rfl rfl (D_call false (whole_plus _ _ (by omega) (by omega)) rfl (fit_cons (fit_ag rfl nofun) (fit_cons (fit_ag rfl nofun) (fit_nil)))) ?_
 refine EVq_e rfl rfl (D_store rfl (Free_in rfl) rfl rfl (zOk rfl) rfl (Nat.le_of_ble_eq_true rfl) rfl) ?_
 refine EVq_t rfl rfl (T_assign rfl) ?_
 refine EVq_done ?_
 refine EV_ret ?_
 refine ⟨_, _, ⟨rfl, _, _, _, rfl, rfl, rfl, .inl ⟨_, gOk rfl, zOk rfl, Nat.le_of_ble_eq_true rfl, rfl⟩⟩, ⟨rfl, rfl⟩, fit_agg rfl nofun rfl, fit_eq rfl nofun rfl⟩

theorem whole_reckon_times (a b : Int) (hl : (limbs a.natAbs).length + (limbs b.natAbs).length ≤ 17592186044416) : Fn Tryz.prog 163 [.d (ii 2), .agg (encZ a), .agg (encZ b)] false (.tup [.agg (encZ (a * b)), .d (ii 0)]) := by
 refine Fn_of_EV Tryz.func163 rfl (by kernel_rfl) rfl rfl (fun E hE => ?_)
 refine EV_seq (EV_region ?_)
 refine EVo_e rfl (D_box 1 (hE 1 rfl) Free_no rfl) ?_
 refine EVo_e rfl (D_box 2 (hE 2 rfl) Free_no rfl) ?_
 refine EVo_e rfl (D_alloc 3 (hE 3 rfl) Free_no zr38 rfl) ?_
 refine EVo_t rfl (T_assign rfl) ?_
 refine EVo_nil ?_
 refine EV_seq ?_
 refine EV_seq (EV_region ?_)
 refine EVo_t rfl (T_loadRA (gOk rfl) (zOk rfl) rfl rfl (Nat.le_of_ble_eq_true rfl) rfl rfl) ?_
 refine EVo_e rfl (D_call false (whole_goodZ _ (by omega)) rfl (fit_cons (fit_ag rfl nofun) (fit_nil))) ?_
 refine EVo_t rfl (T_un rfl rfl) ?_
 refine EVo_t rfl (T_move rfl) ?_
 refine EVo_t rfl (T_loadRA (gOk rfl) (zOk rfl) rfl rfl (Nat.le_of_ble_eq_true rfl) rfl rfl) ?_
 refine EVo_e rfl (D_call false (whole_goodZ _ (by omega)) rfl (fit_cons (fit_ag rfl nofun) (fit_nil))) ?_
 refine EVo_t rfl (T_un rfl rfl) ?_
 refine EVo_t rfl (T_pick rfl rfl) ?_
 refine EVo_nil ?_
 refine EV_cond rfl rfl rfl (fun h => by cases h) (fun _ => ?_)
 refine EV_skip ?_
 refine EV_seq ?_
 refine EV_draw (inX [1, 2]) (.st 1 (.st 4 (.st 5 (.one 0 (.st 2 (.st 3 (.one 6 (.one 7 (.st 8 .done))))))))) Tryz.mixed (by kernel_rfl) ?_
 refine EVq_t rfl rfl (T_move rfl) ?_
 refine EVq_t rfl rfl (T_loadRA (gOk rfl) (zOk rfl) rfl rfl (Nat.le_of_ble_eq_true rfl) rfl rfl) ?_
 refine EVq_t rfl rfl (T_loadRA (gOk rfl) (zOk rfl) rfl rfl (Nat.le_of_ble_eq_true rfl) rfl rfl) ?_
 refine EVq_e rfl rfl (D_call false (whole_calls) rfl (fit_nil)) ?_
 refine EVq_t rfl rfl (T_indexAddr (uOk rfl) (zOk rfl) rfl rfl (by decide) rfl rfl) ?_
 refine EVq_t rfl rfl (T_load (gOk rfl) rfl) ?_
 refine EVq_e rfl rfl (D_call false (whole_times _ _ (by omega)) rfl (fit_cons (fit_ag rfl nofun) (fit_cons (fit_ag rfl nofun) (fit_nil)))) ?_
 refine EVq_e rfl rfl (D_store rfl (Free_in rfl) rfl rfl (zOk rfl) rfl (Nat.le_of_ble_eq_true rfl) rfl) ?_
 refine EVq_t rfl rfl (T_assign rfl) ?_
 refine EVq_done ?_
 refine EV_ret ?_
 refine ⟨_, _, ⟨rfl, _, _, _, rfl, rfl, rfl, .inl ⟨_, gOk rfl, zOk rfl, Nat.le_of_ble_eq_true rfl, rfl⟩⟩, ⟨rfl, rfl⟩, fit_agg rfl nofun rfl, fit_eq rfl nofun rfl⟩

theorem whole_Check (a : Int) (hl : (limbs a.natAbs).length ≤ 17592186044416) : Fn Tryz.prog 102 [.agg (encZ a)] false (.one (.d (ii 0))) := by
 refine Fn_of_EV Tryz.func102 rfl (by kernel_rfl) rfl rfl (fun E hE => ?_)
 refine EV_seq (EV_region ?_)
 refine EVo_e rfl (D_box 1 (hE 1 rfl) Free_no rfl) ?_
 refine EVo_t rfl (T_assign rfl) ?_
 refine EVo_nil ?_
 refine EV_seq ?_
 refine EV_seq (EV_region ?_)
 refine EVo_t rfl (T_loadRA (gOk rfl) (zOk rfl) rfl rfl (Nat.le_of_ble_eq_true rfl) rfl rfl) ?_
 refine EVo_e rfl (D_call false (whole_goodZ _ (by omega)) rfl (fit_cons (fit_ag rfl nofun) (fit_nil))) ?_
 refine EVo_nil ?_
 refine EV_cond rfl rfl rfl (fun _ => ?_) (fun h => by cases h)
 refine EV_seq (EV_region ?_)
 refine EVo_t rfl (T_assign rfl) ?_
 refine EVo_nil ?_
 refine EV_ret ?_
 refine ⟨_, ⟨rfl, rfl⟩, fit_eq rfl nofun rfl⟩

theorem whole_Small (a : Int) (hl : (limbs a.natAbs).length ≤ 17592186044416) : Fn Tryz.prog 44 [.agg (encZ a)] false (.tup [.d (ii (if inI64 a then a else 0)), .d (ib (decide (inI64 a)))]) := by
 refine Fn_of_EV Tryz.func44 rfl (by kernel_rfl) rfl rfl (fun E hE => ?_)
 refine EV_seq (EV_region ?_)
 refine EVo_e rfl (D_box 1 (hE 1 rfl) Free_no rfl) ?_
 refine EVo_t rfl (T_assign rfl) ?_
 refine EVo_t rfl (T_assign rfl) ?_
 refine EVo_nil (EV_seq (EV_region ?_))
 refine EVo_t rfl (T_faR (fOk rfl) (zOk rfl) rfl) ?_
 refine EVo_t rfl (T_loadR (gOk rfl) rfl rfl rfl rfl) ?_
 refine EVo_e rfl (D_call false (nat_smallN _ (by omega)) rfl (fit_cons (fit_d rfl nofun) (fit_nil))) ?_
 refine EVo_t rfl (T_move rfl) ?_
 refine EVo_t rfl (T_extract rfl rfl) ?_
 refine EVo_t rfl (T_extract rfl rfl) ?_
 refine EVo_t rfl (T_assign rfl) ?_
 refine EVo_t rfl (T_assign rfl) ?_
 refine EVo_nil ?_
 refine EV_seq ?_
 refine EV_block ?_
 refine EV_seq (EV_region ?_)
 refine EVo_t rfl (T_loadRA (gOk rfl) (zOk rfl) rfl rfl (Nat.le_of_ble_eq_true rfl) rfl rfl) ?_
 refine EVo_e rfl (D_call false (whole_goodZ _ (by omega)) rfl (fit_cons (fit_ag rfl nofun) (fit_nil))) ?_
 refine EVo_t rfl (T_un rfl rfl) ?_
 refine EVo_t rfl (T_move rfl) ?_
 refine EVo_t rfl (T_move rfl) ?_
 refine EVo_t rfl (T_un rfl rfl) ?_
 refine EVo_t rfl (T_pick rfl rfl) ?_
 refine EVo_t rfl (T_assign rfl) ?_
 refine EVo_nil ?_
 refine EV_cond rfl rfl rfl (fun hb1 => ?_) (fun hb1 => ?_)
 ·try simp only [z1, z2, z3, z4, z5, z6, z7, z8, z9, y1, y2, y3] at hb1
  refine EV_seq (EV_region ?_)
  refine EVo_t rfl (T_assign rfl) ?_
  refine EVo_t rfl (T_assign rfl) ?_
  refine EVo_nil ?_
  refine EV_ret ?_
  refine ⟨_, _, ⟨rfl, rfl⟩, ⟨rfl, rfl⟩, fit_eq rfl nofun ?_, fit_eq rfl nofun ?_⟩
  ·refine congrArg ii ?_
   rcases Decidable.em (inI64 a) with h | h
   all_goals simp only [h, if_true, if_false]
   all_goals (unfold inI64 at h; (try simp only [u64_wrap, i64_wrap, decide_eq_true_eq, Bool.not_eq_true', decide_eq_false_iff_not, Bool.not_eq_false', decide_true, decide_false, if_true, if_false] at *); (repeat' split at *) <;> omega)
  ·refine congrArg ib ?_
   rcases Decidable.em (inI64 a) with h | h
   all_goals simp only [h, decide_true, decide_false]
   all_goals (first | done | (exfalso; unfold inI64 at h; (try simp only [u64_wrap, i64_wrap, decide_eq_true_eq, Bool.not_eq_true', decide_eq_false_iff_not, Bool.not_eq_false', decide_true, decide_false, if_true, if_false] at *); (repeat' split at *) <;> omega))
 ·try simp only [z1, z2, z3, z4, z5, z6, z7, z8, z9, y1, y2, y3] at hb1
  refine EV_seq (EV_region ?_)
  refine EVo_t rfl (T_faR (fOk rfl) (zOk rfl) rfl) ?_
  refine EVo_t rfl (T_loadR (gOk rfl) rfl rfl rfl rfl) ?_
  refine EVo_t rfl (T_move rfl) ?_
  refine EVo_case 23 rfl (fun hb2 => ?_) (fun hb2 => ?_)
  ·try simp only [z1, z2, z3, z4, z5, z6, z7, z8, z9, y1, y2, y3] at hb2
   refine EVo_t rfl (T_move rfl) ?_
   refine EVo_t rfl (T_bin rfl rfl rfl) ?_
   refine EVo_t rfl (T_pick rfl rfl) ?_
   refine EVo_t rfl (T_assign rfl) ?_
   refine EVo_nil ?_
   refine EV_cond rfl rfl rfl (fun hb3 => ?_) (fun hb3 => ?_)
   ·try simp only [z1, z2, z3, z4, z5, z6, z7, z8, z9, y1, y2, y3] at hb3
    refine EV_seq (EV_region ?_)
    refine EVo_t rfl (T_move rfl) ?_
    refine EVo_t rfl (T_un rfl rfl) ?_
    refine EVo_t rfl (T_conv (uOk rfl) (uOk rfl) rfl) ?_
    refine EVo_t rfl (T_assign rfl) ?_
    refine EVo_t rfl (T_assign rfl) ?_
    refine EVo_nil ?_
    refine EV_ret ?_
    refine ⟨_, _, ⟨rfl, rfl⟩, ⟨rfl, rfl⟩, fit_eq rfl nofun ?_, fit_eq rfl nofun ?_⟩
    ·refine congrArg ii ?_
     rcases Decidable.em (inI64 a) with h | h
     all_goals simp only [h, if_true, if_false]
     all_goals (unfold inI64 at h; (try simp only [u64_wrap, i64_wrap, decide_eq_true_eq, Bool.not_eq_true', decide_eq_false_iff_not, Bool.not_eq_false', decide_true, decide_false, if_true, if_false] at *); (repeat' split at *) <;> omega)
    ·refine congrArg ib ?_
     rcases Decidable.em (inI64 a) with h | h
     all_goals simp only [h, decide_true, decide_false]
     all_goals (first | done | (exfalso; unfold inI64 at h; (try simp only [u64_wrap, i64_wrap, decide_eq_true_eq, Bool.not_eq_true', decide_eq_false_iff_not, Bool.not_eq_false', decide_true, decide_false, if_true, if_false] at *); (repeat' split at *) <;> omega))
   ·try simp only [z1, z2, z3, z4, z5, z6, z7, z8, z9, y1, y2, y3] at hb3
    refine EV_seq (EV_region ?_)
    refine EVo_t rfl (T_faR (fOk rfl) (zOk rfl) rfl) ?_
    refine EVo_t rfl (T_loadR (gOk rfl) rfl rfl rfl rfl) ?_
    refine EVo_t rfl (T_un rfl rfl) ?_
    refine EVo_t rfl (T_move rfl) ?_
    refine EVo_case 34 rfl (fun hb4 => ?_) (fun hb4 => ?_)
    ·try simp only [z1, z2, z3, z4, z5, z6, z7, z8, z9, y1, y2, y3] at hb4
     refine EVo_t rfl (T_move rfl) ?_
     refine EVo_t rfl (T_bin rfl rfl rfl) ?_
     refine EVo_t rfl (T_pick rfl rfl) ?_
     refine EVo_t rfl (T_assign rfl) ?_
     refine EVo_nil ?_
     refine EV_cond rfl rfl rfl (fun hb5 => ?_) (fun hb5 => ?_)
     ·try simp only [z1, z2, z3, z4, z5, z6, z7, z8, z9, y1, y2, y3] at hb5
      refine EV_seq (EV_region ?_)
      refine EVo_t rfl (T_move rfl) ?_
      refine EVo_t rfl (T_conv (uOk rfl) (uOk rfl) rfl) ?_
      refine EVo_t rfl (T_assign rfl) ?_
      refine EVo_t rfl (T_assign rfl) ?_
      refine EVo_nil ?_
      refine EV_ret ?_
      refine ⟨_, _, ⟨rfl, rfl⟩, ⟨rfl, rfl⟩, fit_eq rfl nofun ?_, fit_eq rfl nofun ?_⟩
      ·refine congrArg ii ?_
       rcases Decidable.em (inI64 a) with h | h
       all_goals simp only [h, if_true, if_false]
       all_goals (unfold inI64 at h; (try simp only [u64_wrap, i64_wrap, decide_eq_true_eq, Bool.not_eq_true', decide_eq_false_iff_not, Bool.not_eq_false', decide_true, decide_false, if_true, if_false] at *); (repeat' split at *) <;> omega)
      ·refine congrArg ib ?_
       rcases Decidable.em (inI64 a) with h | h
       all_goals simp only [h, decide_true, decide_false]
       all_goals (first | done | (exfalso; unfold inI64 at h; (try simp only [u64_wrap, i64_wrap, decide_eq_true_eq, Bool.not_eq_true', decide_eq_false_iff_not, Bool.not_eq_false', decide_true, decide_false, if_true, if_false] at *); (repeat' split at *) <;> omega))
     ·try simp only [z1, z2, z3, z4, z5, z6, z7, z8, z9, y1, y2, y3] at hb5
      refine EV_skip ?_
      refine EV_seq (EV_region ?_)
      refine EVo_t rfl (T_assign rfl) ?_
      refine EVo_t rfl (T_assign rfl) ?_
      refine EVo_nil ?_
      refine EV_ret ?_
      refine ⟨_, _, ⟨rfl, rfl⟩, ⟨rfl, rfl⟩, fit_eq rfl nofun ?_, fit_eq rfl nofun ?_⟩
      ·refine congrArg ii ?_
       rcases Decidable.em (inI64 a) with h | h
       all_goals simp only [h, if_true, if_false]
       all_goals (unfold inI64 at h; (try simp only [u64_wrap, i64_wrap, decide_eq_true_eq, Bool.not_eq_true', decide_eq_false_iff_not, Bool.not_eq_false', decide_true, decide_false, if_true, if_false] at *); (repeat' split at *) <;> omega)
      ·refine congrArg ib ?_
       rcases Decidable.em (inI64 a) with h | h
       all_goals simp only [h, decide_true, decide_false]
       all_goals (first | done | (exfalso; unfold inI64 at h; (try simp only [u64_wrap, i64_wrap, decide_eq_true_eq, Bool.not_eq_true', decide_eq_false_iff_not, Bool.not_eq_false', decide_true, decide_false, if_true, if_false] at *); (repeat' split at *) <;> omega))
    ·try simp only [z1, z2, z3, z4, z5, z6, z7, z8, z9, y1, y2, y3] at hb4
     refine EVo_off rfl rfl ?_
     refine EVo_off rfl rfl ?_
     refine EVo_t rfl (T_pick rfl rfl) ?_
     refine EVo_t rfl (T_assign rfl) ?_
     refine EVo_nil ?_
     refine EV_cond rfl rfl rfl (fun h => by cases h) (fun _ => ?_)
     refine EV_skip ?_
     refine EV_seq (EV_region ?_)
     refine EVo_t rfl (T_assign rfl) ?_
     refine EVo_t rfl (T_assign rfl) ?_
     refine EVo_nil ?_
     refine EV_ret ?_
     refine ⟨_, _, ⟨rfl, rfl⟩, ⟨rfl, rfl⟩, fit_eq rfl nofun ?_, fit_eq rfl nofun ?_⟩
     ·refine congrArg ii ?_
      rcases Decidable.em (inI64 a) with h | h
      all_goals simp only [h, if_true, if_false]
      all_goals (unfold inI64 at h; (try simp only [u64_wrap, i64_wrap, decide_eq_true_eq, Bool.not_eq_true', decide_eq_false_iff_not, Bool.not_eq_false', decide_true, decide_false, if_true, if_false] at *); (repeat' split at *) <;> omega)
     ·refine congrArg ib ?_
      rcases Decidable.em (inI64 a) with h | h
      all_goals simp only [h, decide_true, decide_false]
      all_goals (first | done | (exfalso; unfold inI64 at h; (try simp only [u64_wrap, i64_wrap, decide_eq_true_eq, Bool.not_eq_true', decide_eq_false_iff_not, Bool.not_eq_false', decide_true, decide_false, if_true, if_false] at *); (repeat' split at *) <;> omega))
  ·try simp only [z1, z2, z3, z4, z5, z6, z7, z8, z9, y1, y2, y3] at hb2
   refine EVo_off rfl rfl ?_
   refine EVo_off rfl rfl ?_
   refine EVo_t rfl (T_pick rfl rfl) ?_
   refine EVo_t rfl (T_assign rfl) ?_
   refine EVo_nil ?_
   refine EV_cond rfl rfl rfl (fun h => by cases h) (fun _ => ?_)
   refine EV_seq (EV_region ?_)
   refine EVo_t rfl (T_faR (fOk rfl) (zOk rfl) rfl) ?_
   refine EVo_t rfl (T_loadR (gOk rfl) rfl rfl rfl rfl) ?_
   refine EVo_t rfl (T_un rfl rfl) ?_
   refine EVo_t rfl (T_move rfl) ?_
   refine EVo_case 34 rfl (fun hb6 => ?_) (fun hb6 => ?_)
   ·try simp only [z1, z2, z3, z4, z5, z6, z7, z8, z9, y1, y2, y3] at hb6
    refine EVo_t rfl (T_move rfl) ?_
    refine EVo_t rfl (T_bin rfl rfl rfl) ?_
    refine EVo_t rfl (T_pick rfl rfl) ?_
    refine EVo_t rfl (T_assign rfl) ?_
    refine EVo_nil ?_
    refine EV_cond rfl rfl rfl (fun hb7 => ?_) (fun hb7 => ?_)
    ·try simp only [z1, z2, z3, z4, z5, z6, z7, z8, z9, y1, y2, y3] at hb7
     refine EV_seq (EV_region ?_)
     refine EVo_t rfl (T_move rfl) ?_
     refine EVo_t rfl (T_conv (uOk rfl) (uOk rfl) rfl) ?_
     refine EVo_t rfl (T_assign rfl) ?_
     refine EVo_t rfl (T_assign rfl) ?_
     refine EVo_nil ?_
     refine EV_ret ?_
     refine ⟨_, _, ⟨rfl, rfl⟩, ⟨rfl, rfl⟩, fit_eq rfl nofun ?_, fit_eq rfl nofun ?_⟩
     ·refine congrArg ii ?_
      rcases Decidable.em (inI64 a) with h | h
      all_goals simp only [h, if_true, if_false]
      all_goals (unfold inI64 at h; (try simp only [u64_wrap, i64_wrap, decide_eq_true_eq, Bool.not_eq_true', decide_eq_false_iff_not, Bool.not_eq_false', decide_true, decide_false, if_true, if_false] at *); (repeat' split at *) <;> omega)
     ·refine congrArg ib ?_
      rcases Decidable.em (inI64 a) with h | h
      all_goals simp only [h, decide_true, decide_false]
      all_goals (first | done | (exfalso; unfold inI64 at h; (try simp only [u64_wrap, i64_wrap, decide_eq_true_eq, Bool.not_eq_true', decide_eq_false_iff_not, Bool.not_eq_false', decide_true, decide_false, if_true, if_false] at *); (repeat' split at *) <;> omega))
    ·try simp only [z1, z2, z3, z4, z5, z6, z7, z8, z9, y1, y2, y3] at hb7
     refine EV_skip ?_
     refine EV_seq (EV_region ?_)
     refine EVo_t rfl (T_assign rfl) ?_
     refine EVo_t rfl (T_assign rfl) ?_
     refine EVo_nil ?_
     refine EV_ret ?_
     refine ⟨_, _, ⟨rfl, rfl⟩, ⟨rfl, rfl⟩, fit_eq rfl nofun ?_, fit_eq rfl nofun ?_⟩
     ·refine congrArg ii ?_
      rcases Decidable.em (inI64 a) with h | h
      all_goals simp only [h, if_true, if_false]
      all_goals (unfold inI64 at h; (try simp only [u64_wrap, i64_wrap, decide_eq_true_eq, Bool.not_eq_true', decide_eq_false_iff_not, Bool.not_eq_false', decide_true, decide_false, if_true, if_false] at *); (repeat' split at *) <;> omega)
     ·refine congrArg ib ?_
      rcases Decidable.em (inI64 a) with h | h
      all_goals simp only [h, decide_true, decide_false]
      all_goals (first | done | (exfalso; unfold inI64 at h; (try simp only [u64_wrap, i64_wrap, decide_eq_true_eq, Bool.not_eq_true', decide_eq_false_iff_not, Bool.not_eq_false', decide_true, decide_false, if_true, if_false] at *); (repeat' split at *) <;> omega))
   ·try simp only [z1, z2, z3, z4, z5, z6, z7, z8, z9, y1, y2, y3] at hb6
    refine EVo_off rfl rfl ?_
    refine EVo_off rfl rfl ?_
    refine EVo_t rfl (T_pick rfl rfl) ?_
    refine EVo_t rfl (T_assign rfl) ?_
    refine EVo_nil ?_
    refine EV_cond rfl rfl rfl (fun h => by cases h) (fun _ => ?_)
    refine EV_skip ?_
    refine EV_seq (EV_region ?_)
    refine EVo_t rfl (T_assign rfl) ?_
    refine EVo_t rfl (T_assign rfl) ?_
    refine EVo_nil ?_
    refine EV_ret ?_
    refine ⟨_, _, ⟨rfl, rfl⟩, ⟨rfl, rfl⟩, fit_eq rfl nofun ?_, fit_eq rfl nofun ?_⟩
    ·refine congrArg ii ?_
     rcases Decidable.em (inI64 a) with h | h
     all_goals simp only [h, if_true, if_false]
     all_goals (unfold inI64 at h; (try simp only [u64_wrap, i64_wrap, decide_eq_true_eq, Bool.not_eq_true', decide_eq_false_iff_not, Bool.not_eq_false', decide_true, decide_false, if_true, if_false] at *); (repeat' split at *) <;> omega)
    ·refine congrArg ib ?_
     rcases Decidable.em (inI64 a) with h | h
     all_goals simp only [h, decide_true, decide_false]
     all_goals (first | done | (exfalso; unfold inI64 at h; (try simp only [u64_wrap, i64_wrap, decide_eq_true_eq, Bool.not_eq_true', decide_eq_false_iff_not, Bool.not_eq_false', decide_true, decide_false, if_true, if_false] at *); (repeat' split at *) <;> omega))

theorem whole_Add (a b : Int) (ha : (limbs a.natAbs).length < 17592186044416) (hb : (limbs b.natAbs).length < 17592186044416) : Fn Tryz.prog 134 [.agg (encZ a), .agg (encZ b)] false (.tup [.agg (encZ (a + b)), .d (ii 0)]) := by
 refine Fn_of_EV Tryz.func134 rfl (by kernel_rfl) rfl rfl (fun E hE => ?_)
 refine EV_seq (EV_region ?_)
 refine EVo_e rfl (D_box 1 (hE 1 rfl) Free_no rfl) ?_
 refine EVo_e rfl (D_box 2 (hE 2 rfl) Free_no rfl) ?_
 refine EVo_e rfl (D_alloc 3 (hE 3 rfl) Free_no zr38 rfl) ?_
 refine EVo_t rfl (T_assign rfl) ?_
 refine EVo_nil (EV_seq (EV_region ?_))
 refine EVo_t rfl (T_loadRA (gOk rfl) (zOk rfl) rfl rfl (Nat.le_of_ble_eq_true rfl) rfl rfl) ?_
 refine EVo_t rfl (T_loadRA (gOk rfl) (zOk rfl) rfl rfl (Nat.le_of_ble_eq_true rfl) rfl rfl) ?_
 refine EVo_e rfl (D_call false (whole_reckon_plus _ _ (by omega) (by omega)) rfl (fit_cons (fit_d rfl nofun) (fit_cons (fit_ag rfl nofun) (fit_cons (fit_ag rfl nofun) (fit_nil))))) ?_
 refine EVo_t rfl (T_extract rfl rfl) ?_
 refine EVo_t rfl (T_extract rfl rfl) ?_
 refine EVo_e rfl (D_store rfl Free_no rfl rfl (zOk rfl) rfl (Nat.le_of_ble_eq_true rfl) rfl) ?_
 refine EVo_t rfl (T_assign rfl) ?_
 refine EVo_nil ?_
 refine EV_ret ?_
 refine ⟨_, _, ⟨rfl, _, _, _, rfl, rfl, rfl, .inl ⟨_, gOk rfl, zOk rfl, Nat.le_of_ble_eq_true rfl, rfl⟩⟩, ⟨rfl, rfl⟩, fit_agg rfl nofun rfl, fit_eq rfl nofun rfl⟩

theorem whole_Mul (a b : Int) (hl : (limbs a.natAbs).length + (limbs b.natAbs).length ≤ 17592186044416) : Fn Tryz.prog 136 [.agg (encZ a), .agg (encZ b)] false (.tup [.agg (encZ (a * b)), .d (ii 0)]) := by
 refine Fn_of_EV Tryz.func136 rfl (by kernel_rfl) rfl rfl (fun E hE => ?_)
 refine EV_seq (EV_region ?_)
 refine EVo_e rfl (D_box 1 (hE 1 rfl) Free_no rfl) ?_
 refine EVo_e rfl (D_box 2 (hE 2 rfl) Free_no rfl) ?_
 refine EVo_e rfl (D_alloc 3 (hE 3 rfl) Free_no zr38 rfl) ?_
 refine EVo_t rfl (T_assign rfl) ?_
 refine EVo_nil (EV_seq (EV_region ?_))
 refine EVo_t rfl (T_loadRA (gOk rfl) (zOk rfl) rfl rfl (Nat.le_of_ble_eq_true rfl) rfl rfl) ?_
 refine EVo_t rfl (T_loadRA (gOk rfl) (zOk rfl) rfl rfl (Nat.le_of_ble_eq_true rfl) rfl rfl) ?_
 refine EVo_e rfl (D_call false (whole_reckon_times _ _ (by omega)) rfl (fit_cons (fit_d rfl nofun) (fit_cons (fit_ag rfl nofun) (fit_cons (fit_ag rfl nofun) (fit_nil))))) ?_
 refine EVo_t rfl (T_extract rfl rfl) ?_
 refine EVo_t rfl (T_extract rfl rfl) ?_
 refine EVo_e rfl (D_store rfl Free_no rfl rfl (zOk rfl) rfl (Nat.le_of_ble_eq_true rfl) rfl) ?_
 refine EVo_t rfl (T_assign rfl) ?_
 refine EVo_nil ?_
 refine EV_ret ?_
 refine ⟨_, _, ⟨rfl, _, _, _, rfl, rfl, rfl, .inl ⟨_, gOk rfl, zOk rfl, Nat.le_of_ble_eq_true rfl, rfl⟩⟩, ⟨rfl, rfl⟩, fit_agg rfl nofun rfl, fit_eq rfl nofun rfl⟩

end Go.Proofs.YthaiegnohkiegaaGreat.Ab
/-
  Rationals and their form: plain arithmetic.
-/
namespace Go.Proofs.YthaiegnohkiegaaGreat.Ab
set_option linter.unusedVariables false
set_option linter.unusedSimpArgs false

/-- A rational's form. -/
def encQ (q : Rat) : List D := [ib (decide (q.num < 0)), encN (limbs q.num.natAbs), encN (limbs q.den)]
/-- How long it is. -/
def szQ (q : Rat) : Nat := (limbs q.num.natAbs).length + (limbs q.den).length
theorem limbs_mono {n m : Nat} (h : n ≤ m) : (limbs n).length ≤ (limbs m).length := limbs_len_le (Nat.lt_of_le_of_lt h (limbs_lt m))
theorem sgn_ediv {n : Int} {g : Nat} (hg : 0 < g) (hd : (g : Int) ∣ n) : decide (n / (g : Int) < 0) = decide (n < 0) := by
  obtain ⟨k, rfl⟩ := hd
  have hg' : (0 : Int) < g := by omega
  rw [Int.mul_ediv_cancel_left _ (by omega)]
  congr 1
  apply propext
  constructor
  · intro h; exact Int.mul_neg_of_pos_of_neg hg' h
  · intro h
    rcases (show k < 0 ∨ 0 ≤ k by omega) with q | q
    · exact q
    · have := Int.mul_nonneg (Int.le_of_lt hg') q; omega
theorem encQ_mk (n : Int) {d : Nat} (hd : d ≠ 0) : encQ (mkRat n d) = [ib (decide (n < 0)), encN (limbs (n.natAbs / Nat.gcd n.natAbs d)), encN (limbs (d / Nat.gcd n.natAbs d))] := by
  unfold encQ
  rw [Rat.num_mkRat, Rat.den_mkRat, if_neg hd, if_neg hd, Nat.gcd_comm d]
  have hg : 0 < Nat.gcd n.natAbs d := Nat.gcd_pos_of_pos_right _ (by omega)
  have hdv : ((Nat.gcd n.natAbs d : Nat) : Int) ∣ n := Int.ofNat_dvd_left.2 (Nat.gcd_dvd_left _ _)
  rw [sgn_ediv hg hdv, Int.natAbs_ediv_of_dvd hdv, Int.natAbs_natCast]
theorem szQ_mk (n : Int) {d : Nat} (hd : d ≠ 0) : szQ (mkRat n d) ≤ (limbs n.natAbs).length + (limbs d).length := by
  unfold szQ
  rw [Rat.num_mkRat, Rat.den_mkRat, if_neg hd, if_neg hd, Nat.gcd_comm d]
  have hdv : ((Nat.gcd n.natAbs d : Nat) : Int) ∣ n := Int.ofNat_dvd_left.2 (Nat.gcd_dvd_left _ _)
  rw [Int.natAbs_ediv_of_dvd hdv, Int.natAbs_natCast]
  have h1 := limbs_mono (Nat.div_le_self n.natAbs (Nat.gcd n.natAbs d))
  have h2 := limbs_mono (Nat.div_le_self d (Nat.gcd n.natAbs d))
  omega
theorem szQ_mul (p q : Rat) : szQ (p * q) ≤ szQ p + szQ q := by
  rw [Rat.mul_def']
  refine Nat.le_trans (szQ_mk _ (Nat.mul_ne_zero p.den_nz q.den_nz)) ?_
  have h1 := limbs_mul_len p.num.natAbs q.num.natAbs
  have h2 := limbs_mul_len p.den q.den
  rw [Int.natAbs_mul]
  unfold szQ
  omega
theorem inv_parts {q : Rat} (h : q ≠ 0) : (q⁻¹).num = (if q.num < 0 then -(q.den : Int) else (q.den : Int)) ∧ (q⁻¹).den = q.num.natAbs ∧ q.num.natAbs ≠ 0 := by
  have hn : q.num ≠ 0 := fun e => h (Rat.num_eq_zero.1 e)
  rw [Rat.num_inv, Rat.den_inv, if_neg hn]
  refine ⟨?_, rfl, by omega⟩
  split
  · rw [Int.sign_eq_neg_one_of_neg (by assumption)]; omega
  · rw [Int.sign_eq_one_of_pos (by omega)]; omega
theorem szQ_inv {q : Rat} (h : q ≠ 0) : szQ q⁻¹ = szQ q := by
  obtain ⟨h1, h2, _⟩ := inv_parts h
  unfold szQ
  rw [h2, h1]
  split <;> simp <;> omega
theorem szQ_div {p q : Rat} (h : q ≠ 0) : szQ (p / q) ≤ szQ p + szQ q := by
  rw [Rat.div_def]; exact Nat.le_trans (szQ_mul _ _) (by rw [szQ_inv h]; exact Nat.le_refl _)
theorem div_mk {p q : Rat} (h : q ≠ 0) : p / q = mkRat (p.num * (if q.num < 0 then -(q.den : Int) else (q.den : Int))) (p.den * q.num.natAbs) := by
  obtain ⟨h1, h2, _⟩ := inv_parts h
  rw [Rat.div_def, Rat.mul_def', h1, h2]
theorem szQ_one : szQ 1 = 2 := by decide
/-- What may be a rational's form. -/
def ratB (neg : Bool) (l m : List Int) : Bool := goodZ neg l && goodL m && decide (0 < m.length) && decide (Nat.gcd (val l) (val m) = 1)
def ratV (neg : Bool) (l m : List Int) : Rat := mkRat (zval neg l) (val m)
theorem zval_natAbs (neg : Bool) (l : List Int) : (zval neg l).natAbs = val l := by unfold zval; split <;> simp
theorem ratV_parts {neg : Bool} {l m : List Int} (hm : okL m) (h : ratB neg l m = true) : (ratV neg l m).num = zval neg l ∧ (ratV neg l m).den = val m := by
  simp only [ratB, Bool.and_eq_true, decide_eq_true_eq] at h
  obtain ⟨⟨⟨h1, h2⟩, h3⟩, h4⟩ := h
  have hp : val m ≠ 0 := good_pos hm h2 (by intro e; subst e; simp at h3)
  have e := Rat.mk_eq_mkRat (zval neg l) (val m) hp (by unfold Nat.Coprime; rw [zval_natAbs]; exact h4)
  unfold ratV
  rw [← e]
  exact ⟨rfl, rfl⟩
theorem ratV_enc {neg : Bool} {l m : List Int} (hl : okL l) (hm : okL m) (h : ratB neg l m = true) : [ib neg, encN l, encN m] = encQ (ratV neg l m) := by
  obtain ⟨e1, e2⟩ := ratV_parts hm h
  simp only [ratB, Bool.and_eq_true, decide_eq_true_eq] at h
  obtain ⟨⟨⟨h1, h2⟩, h3⟩, h4⟩ := h
  have hz := enc_good hl h1
  unfold encZ at hz
  unfold encQ
  rw [e1, e2, limbs_val hm h2]
  simp only [List.cons.injEq, and_true] at hz
  rw [hz.1, hz.2]
theorem ratB_enc (q : Rat) : ratB (decide (q.num < 0)) (limbs q.num.natAbs) (limbs q.den) = true := by
  simp only [ratB, Bool.and_eq_true, decide_eq_true_eq, goodZ_enc, good_limbs, val_limbs, limbs_len_pos]
  exact ⟨⟨⟨trivial, trivial⟩, q.den_nz⟩, q.reduced⟩
theorem encQ_inj {p q : Rat} (h : encQ p = encQ q) : p = q := by
  unfold encQ at h
  simp only [List.cons.injEq, D.val.injEq, Value.bool.injEq, D.sl.injEq, and_true] at h
  obtain ⟨h1, h2, h3⟩ := h
  have inj : ∀ {a b : List Int}, (a.map fun x => [iu x]) = (b.map fun x => [iu x]) → a = b := by
    intro a b h
    exact (List.map_inj_right (fun x y e => by simp at e; exact e)).1 h
  have e2 := congrArg val (inj h2)
  have e3 := congrArg val (inj h3)
  rw [val_limbs, val_limbs] at e2 e3
  apply Rat.ext
  · have := decide_eq_decide.1 h1; omega
  · exact e3
end Go.Proofs.YthaiegnohkiegaaGreat.Ab
/-
  Long division, limb by limb: plain arithmetic.
-/
namespace Go.Proofs.YthaiegnohkiegaaGreat.Ab
set_option linter.unusedVariables false
set_option linter.unusedSimpArgs false

theorem rd_nat (l : List Int) (k : Nat) : rd l (k : Int) = l.getD k default := by unfold rd; rw [Int.toNat_natCast]
/-- The value of k limbs from o on. -/
def win (X : List Int) (o k : Nat) : Nat := val ((X.drop o).take k)
theorem rd_dropN (l : List Int) (o k : Nat) : rd (l.drop o) (k : Int) = rd l ((o + k : Nat) : Int) := by
  unfold rd
  rw [Int.toNat_natCast, Int.toNat_natCast]
  simp [List.getD_eq_getElem?_getD, List.getElem?_drop]
theorem win_zero (X : List Int) (o : Nat) : win X o 0 = 0 := by simp [win, val]
theorem win_succ (X : List Int) (o k : Nat) : win X o (k + 1) = win X o k + 18446744073709551616 ^ k * (rd X ((o + k : Nat) : Int)).toNat := by
  unfold win; rw [val_take_succ', rd_dropN]
theorem win_set {X : List Int} {o k j : Nat} {s : Int} (h : o + k ≤ j) : win (X.set j s) o k = win X o k := by
  unfold win
  congr 1
  apply List.ext_getElem?
  intro i
  simp only [List.getElem?_take, List.getElem?_drop, List.getElem?_set]
  by_cases q : i < k
  · rw [if_pos q, if_pos q, if_neg (by omega)]
  · rw [if_neg q, if_neg q]
theorem win_set_succ {X : List Int} {o k : Nat} {s : Int} (h : o + k < X.length) : win (X.set (o + k) s) o (k + 1) = win X o k + 18446744073709551616 ^ k * s.toNat := by
  rw [win_succ, win_set (Nat.le_refl _), rd_set_self h]
theorem win_lt {X : List Int} (hk : okL X) (o k : Nat) : win X o k < 18446744073709551616 ^ k := by
  unfold win
  have h := val_lt (okL_take (okL_drop hk o) k)
  refine Nat.lt_of_lt_of_le h (Nat.pow_le_pow_right (by decide) ?_)
  simp; omega

/-- One limb of: take g times y away. -/
theorem mulsub_step {X X' y : List Int} {o i : Nat} {g c b s c' b' : Int} (hlen : o + i < X'.length) (hkX : okL X) (hky : okL y) (hs : 0 ≤ s)
    (inv : (win X' o i : Int) + g * (val (y.take i) : Int) = (win X o i : Int) + 18446744073709551616 ^ i * (c + b))
    (hF : rd X ((o + i : Nat) : Int) + 18446744073709551616 * (c' + b') = s + g * rd y (i : Int) + c + b) :
    (win (X'.set (o + i) s) o (i + 1) : Int) + g * (val (y.take (i + 1)) : Int) = (win X o (i + 1) : Int) + 18446744073709551616 ^ (i + 1) * (c' + b') := by
  rw [win_set_succ hlen, win_succ, val_take_succ']
  have hx := (okL_rd hkX ((o + i : Nat) : Int)).1
  have hy := (okL_rd hky (i : Int)).1
  have e1 : ((rd X ((o + i : Nat) : Int)).toNat : Int) = rd X ((o + i : Nat) : Int) := by omega
  have e2 : ((rd y (i : Int)).toNat : Int) = rd y (i : Int) := by omega
  have e3 : (s.toNat : Int) = s := by omega
  simp only [Int.natCast_add, Int.natCast_mul, Int.natCast_pow, e1, e2, e3, Int.pow_succ]
  rw [show ((18446744073709551616 : Nat) : Int) = 18446744073709551616 from rfl]
  generalize (18446744073709551616 : Int) ^ i = p at *
  grind
theorem add_win_step {X X' y : List Int} {o i : Nat} {c s c' : Int} (hlen : o + i < X'.length) (hkX : okL X) (hky : okL y) (hs : 0 ≤ s)
    (inv : (win X' o i : Int) + 18446744073709551616 ^ i * c = (win X o i : Int) + (val (y.take i) : Int))
    (hF : rd X ((o + i : Nat) : Int) + rd y (i : Int) + c = s + 18446744073709551616 * c') :
    (win (X'.set (o + i) s) o (i + 1) : Int) + 18446744073709551616 ^ (i + 1) * c' = (win X o (i + 1) : Int) + (val (y.take (i + 1)) : Int) := by
  rw [win_set_succ hlen, win_succ, val_take_succ']
  have hx := (okL_rd hkX ((o + i : Nat) : Int)).1
  have hy := (okL_rd hky (i : Int)).1
  have e1 : ((rd X ((o + i : Nat) : Int)).toNat : Int) = rd X ((o + i : Nat) : Int) := by omega
  have e2 : ((rd y (i : Int)).toNat : Int) = rd y (i : Int) := by omega
  have e3 : (s.toNat : Int) = s := by omega
  simp only [Int.natCast_add, Int.natCast_mul, Int.natCast_pow, e1, e2, e3, Int.pow_succ]
  rw [show ((18446744073709551616 : Nat) : Int) = 18446744073709551616 from rfl]
  generalize (18446744073709551616 : Int) ^ i = p at *
  grind

/-- The guess is not too small. -/
theorem guess_top {W V g : Nat} {n : Nat} {xn xm yt wl yl : Nat} (hW : W = wl + 18446744073709551616 ^ n * (xm + 18446744073709551616 * xn)) (hwl : wl < 18446744073709551616 ^ n)
    (hV : V = yl + 18446744073709551616 ^ n * yt) (hg : xn * 18446744073709551616 + xm < (g + 1) * yt) : W < (g + 1) * V := by
  have h1 : xm + 18446744073709551616 * xn + 1 ≤ (g + 1) * yt := by omega
  have h2 := Nat.mul_le_mul_left (18446744073709551616 ^ n) h1
  have h3 : (g + 1) * (18446744073709551616 ^ n * yt) ≤ (g + 1) * V := Nat.mul_le_mul_left _ (by omega)
  rw [Nat.mul_left_comm] at h3
  rw [Nat.mul_add, Nat.mul_one] at h2
  omega

/-- k limbs of a number. -/
def padL : Nat → Nat → List Int
  | 0, _ => []
  | k + 1, n => ((n % 18446744073709551616 : Nat) : Int) :: padL k (n / 18446744073709551616)
theorem padL_length : ∀ k n, (padL k n).length = k
  | 0, _ => rfl
  | k + 1, n => by simp [padL, padL_length k]
theorem padL_val : ∀ {l : List Int}, okL l → padL l.length (val l) = l
  | [], _ => rfl
  | x :: l, h => by
    obtain ⟨h1, h2⟩ := okL_cons.1 h
    have e1 : (val (x :: l)) % 18446744073709551616 = x.toNat := by simp only [val]; omega
    have e2 : (val (x :: l)) / 18446744073709551616 = val l := by simp only [val]; omega
    simp only [List.length_cons, padL]
    rw [e1, e2, padL_val h2]
    congr 1
    omega
theorem okL_pad : ∀ k n, okL (padL k n)
  | 0, _ => okL_nil
  | k + 1, n => okL_cons.2 ⟨by omega, okL_pad k _⟩
theorem val_pad : ∀ (k n : Nat), n < 18446744073709551616 ^ k → val (padL k n) = n
  | 0, n, h => by simp [padL, val]; simp at h; omega
  | k + 1, n, h => by
    rw [Nat.pow_succ] at h
    simp only [padL, val]
    rw [val_pad k _ (Nat.div_lt_of_lt_mul (by rw [Nat.mul_comm]; exact h))]
    omega
/-- A window, set. -/
def setWin (X : List Int) (o k n : Nat) : List Int := X.take o ++ padL k n ++ X.drop (o + k)
theorem setWin_length {X : List Int} {o k n : Nat} (h : o + k ≤ X.length) : (setWin X o k n).length = X.length := by
  simp [setWin, padL_length]; omega
theorem setWin_eq {X X' : List Int} {o k n : Nat} (hlen : X'.length = X.length) (hk : okL X') (h : o + k ≤ X.length) (h1 : X'.take o = X.take o) (h2 : X'.drop (o + k) = X.drop (o + k)) (hv : win X' o k = n) : X' = setWin X o k n := by
  unfold setWin
  rw [← h1, ← h2, ← hv]
  have hp := padL_val (okL_take (okL_drop hk o) k)
  have hl : ((X'.drop o).take k).length = k := by simp; omega
  rw [hl] at hp
  unfold win
  rw [hp, ← List.drop_drop, List.append_assoc, List.take_append_drop, List.take_append_drop]
theorem setWin_ok {X : List Int} {o k n : Nat} (hk : okL X) : okL (setWin X o k n) := okL_append.2 ⟨okL_append.2 ⟨okL_take hk _, okL_pad _ _⟩, okL_drop hk _⟩
theorem setWin_take {X : List Int} {o k n : Nat} (h : o + k ≤ X.length) : (setWin X o k n).take o = X.take o := by
  unfold setWin
  rw [List.append_assoc, List.take_append_of_le_length (by simp; omega), List.take_take, Nat.min_self]
theorem setWin_val {X : List Int} {o k n : Nat} (h : o + k ≤ X.length) (hn : n < 18446744073709551616 ^ k) (hz : val (X.drop (o + k)) = 0) : val ((setWin X o k n).drop o) = n := by
  unfold setWin
  have hl : (X.take o).length = o := by simp; omega
  rw [List.append_assoc, List.drop_append_of_le_length (by omega), List.drop_of_length_le (by omega), List.nil_append, val_append, val_pad _ _ hn, hz]
  simp
/-- The end of a step. -/
theorem step_end {W V g : Nat} {w : Nat} (h : w + g * V = W) (hg : W < (g + 1) * V) : g = W / V ∧ w = W % V := by
  rw [Nat.add_mul, Nat.one_mul] at hg
  have hw : w < V := by omega
  have h1 : W / V = g := by
    rw [← h, Nat.add_mul_div_right _ _ (by omega), Nat.div_eq_of_lt hw]; omega
  have h2 : W % V = w := by
    rw [← h, Nat.add_mul_mod_self_right, Nat.mod_eq_of_lt hw]
  exact ⟨h1.symm, h2.symm⟩

/-- One round of long division. -/
theorem long_round {X x0 q : List Int} {V i m : Nat} (hkX : okL X) (hV : 0 < V) (hVm : V < 18446744073709551616 ^ m) (hi : i + (m + 1) ≤ X.length) (hlen : X.length = x0.length) (hq : i < q.length)
    (ht : X.take (i + 1) = x0.take (i + 1)) (inv : val (x0.drop (i + 1)) = V * val (q.drop (i + 1)) + val (X.drop (i + 1))) (hlt : val (X.drop (i + 1)) < V) :
    win X i (m + 1) < 18446744073709551616 * V ∧ val (X.drop (i + (m + 1))) = 0 ∧
    val (x0.drop i) = V * val ((q.set i ((win X i (m + 1) / V : Nat) : Int)).drop i) + win X i (m + 1) % V ∧ win X i (m + 1) = val (X.drop i) := by
  have hr : rd X (i : Int) = rd x0 (i : Int) := by
    have h1 := take_succ_rd (l := X) (n := i) (by omega)
    have h2 := take_succ_rd (l := x0) (n := i) (by omega)
    rw [h1, h2] at ht
    have := List.append_inj_right' ht rfl
    simpa using this
  have hx0 := okL_rd hkX (i : Int)
  have hd : X.drop i = rd X i :: X.drop (i + 1) := drop_rd (by omega)
  have hd0 : x0.drop i = rd x0 i :: x0.drop (i + 1) := drop_rd (by omega)
  -- what is above the window is nought
  have hsp : val (X.drop (i + 1)) = val ((X.drop (i + 1)).take m) + 18446744073709551616 ^ m * val (X.drop (i + (m + 1))) := by
    conv => lhs; rw [← List.take_append_drop m (X.drop (i + 1)), val_append]
    rw [List.length_take, List.length_drop, Nat.min_eq_left (by omega), List.drop_drop, show i + 1 + m = i + (m + 1) by omega]
  have hz : val (X.drop (i + (m + 1))) = 0 := by
    rcases Nat.eq_zero_or_pos (val (X.drop (i + (m + 1)))) with h | h
    · exact h
    · have := Nat.mul_le_mul_left (18446744073709551616 ^ m) h
      omega
  have hw : win X i (m + 1) = val (X.drop i) := by
    have : val (X.drop i) = val ((X.drop i).take (m + 1)) + 18446744073709551616 ^ (m + 1) * val (X.drop (i + (m + 1))) := by
      conv => lhs; rw [← List.take_append_drop (m + 1) (X.drop i), val_append]
      rw [List.length_take, List.length_drop, Nat.min_eq_left (by omega), List.drop_drop]
    rw [hz] at this
    unfold win
    omega
  have hvd : val (X.drop i) = (rd X i).toNat + 18446744073709551616 * val (X.drop (i + 1)) := by rw [hd, val]
  have hvd0 : val (x0.drop i) = (rd X i).toNat + 18446744073709551616 * val (x0.drop (i + 1)) := by rw [hd0, val, hr]
  refine ⟨by rw [hw, hvd]; omega, hz, ?_, hw⟩
  rw [set_drop_self hq, val, hvd0, inv, hw, hvd]
  have hdm := Nat.div_add_mod ((rd X i).toNat + 18446744073709551616 * val (X.drop (i + 1))) V
  have e : (((((rd X i).toNat + 18446744073709551616 * val (X.drop (i + 1))) / V : Nat) : Int)).toNat = ((rd X i).toNat + 18446744073709551616 * val (X.drop (i + 1))) / V := Int.toNat_natCast _
  rw [e]
  generalize ((rd X i).toNat + 18446744073709551616 * val (X.drop (i + 1))) / V = qq at *
  generalize ((rd X i).toNat + 18446744073709551616 * val (X.drop (i + 1))) % V = rr at *
  generalize val (q.drop (i + 1)) = Q at *
  rw [Nat.mul_add, Nat.mul_add, Nat.mul_left_comm V]
  omega
/-- The whole of it, scaled back. -/
theorem long_end {a b p Q R : Nat} (hp : 0 < p) (hb : 0 < b) (h : a * p = b * p * Q + R) (hr : R < b * p) : Q = a / b ∧ R / p = a % b := by
  have h1 : a * p / (b * p) = Q := by
    rw [h, Nat.mul_add_div (Nat.mul_pos hb hp), Nat.div_eq_of_lt hr]; rfl
  have h2 : a * p % (b * p) = R := by
    rw [h, Nat.mul_add_mod, Nat.mod_eq_of_lt hr]
  rw [Nat.mul_div_mul_right _ _ hp] at h1
  rw [Nat.mul_mod_mul_right] at h2
  refine ⟨h1.symm, ?_⟩
  rw [← h2, Nat.mul_div_cancel _ hp]

theorem okL_at {l : List Int} (h : okL l) (k : Nat) : 0 ≤ l.getD k default ∧ l.getD k default < 18446744073709551616 := by
  have := okL_rd h (k : Int)
  simpa [rd] using this
/-- A round of taking away. -/
theorem ms_next {X X1 y : List Int} {o i : Nat} {g b c : Int} (hX : okL X) (h1 : okL X1) (hy : okL y) (hl : X1.length = X.length) (hw : o + (y.length + 1) ≤ X.length) (hi : i < y.length)
    (g0 : 0 ≤ g) (g1 : g < 18446744073709551616) (b0 : 0 ≤ b) (b1 : b ≤ 1) (c0 : 0 ≤ c) (c1 : c < 18446744073709551616) (ht : X1.take o = X.take o) (hd : X1.drop (o + i) = X.drop (o + i))
    (inv : (win X1 o i : Int) + g * (val (y.take i) : Int) = (win X o i : Int) + 18446744073709551616 ^ i * (c + b))
    (x p low ov c' b' s : Int) (hx : x = X1.getD (o + i) default) (hp : p = g * rd y (i : Int)) (hlow : low = (p % 18446744073709551616 + c + 0) % 18446744073709551616) (hov : ov = (p % 18446744073709551616 + c + 0) / 18446744073709551616)
    (hc' : c' = IntKind.u64.wrap (p / 18446744073709551616 + ov)) (hb' : b' = if x < low + b then 1 else 0) (hs : s = (x - low - b) % 18446744073709551616) :
    (0 ≤ b' ∧ b' ≤ 1) ∧ (0 ≤ c' ∧ c' < 18446744073709551616) ∧ (X1.set (o + i) s).length = X.length ∧ okL (X1.set (o + i) s) ∧ (X1.set (o + i) s).take o = X.take o ∧ (X1.set (o + i) s).drop (o + (i + 1)) = X.drop (o + (i + 1)) ∧
      (win (X1.set (o + i) s) o (i + 1) : Int) + g * (val (y.take (i + 1)) : Int) = (win X o (i + 1) : Int) + 18446744073709551616 ^ (i + 1) * (c' + b') := by
  have hxx := okL_at h1 (o + i)
  have hyy := okL_rd hy (i : Int)
  have hxX : x = rd X ((o + i : Nat) : Int) := hx.trans (getD_drop hd)
  have hpb := mul_bd (a := g) (b := rd y (i : Int)) (n := 18446744073709551615) (m := 18446744073709551615) g0 hyy.1 (by omega) (by omega)
  rw [← hp] at hpb
  have hw' := u64_wrap (p / 18446744073709551616 + ov)
  rw [hw'] at hc'
  have hc2 : c' = p / 18446744073709551616 + ov := by omega
  refine ⟨by rw [hb']; split <;> omega, by omega, by simpa using hl, okL_set h1 _ (by omega), by rw [take_set_le (by omega)]; exact ht, ?_, ?_⟩
  · rw [List.drop_set_of_lt (by omega), ← Nat.add_assoc]
    rw [← List.drop_drop, hd, List.drop_drop]
  · refine mulsub_step (X := X) (by omega) hX hy (by omega) inv ?_
    rw [← hxX, ← hp, hb']
    split <;> omega
/-- A round of adding. -/
theorem ad_next {X X1 y : List Int} {o i : Nat} {c : Int} (hX : okL X) (h1 : okL X1) (hy : okL y) (hl : X1.length = X.length) (hw : o + (y.length + 1) ≤ X.length) (hi : i ≤ y.length)
    (c0 : 0 ≤ c) (c1 : c ≤ 1) (ht : X1.take o = X.take o) (hd : X1.drop (o + i) = X.drop (o + i))
    (inv : (win X1 o i : Int) + 18446744073709551616 ^ i * c = (win X o i : Int) + (val (y.take i) : Int))
    (x z s c' : Int) (hx : x = X1.getD (o + i) default) (hz : z = rd y (i : Int)) (hs : s = (x + z + c) % 18446744073709551616) (hc' : c' = (x + z + c) / 18446744073709551616) :
    (0 ≤ c' ∧ c' ≤ 1) ∧ (X1.set (o + i) s).length = X.length ∧ okL (X1.set (o + i) s) ∧ (X1.set (o + i) s).take o = X.take o ∧ (X1.set (o + i) s).drop (o + (i + 1)) = X.drop (o + (i + 1)) ∧
      (win (X1.set (o + i) s) o (i + 1) : Int) + 18446744073709551616 ^ (i + 1) * c' = (win X o (i + 1) : Int) + (val (y.take (i + 1)) : Int) := by
  have hxx := okL_at h1 (o + i)
  have hyy := okL_rd hy (i : Int)
  have hxX : x = rd X ((o + i : Nat) : Int) := hx.trans (getD_drop hd)
  refine ⟨by omega, by simpa using hl, okL_set h1 _ (by omega), by rw [take_set_le (by omega)]; exact ht, ?_, ?_⟩
  · rw [List.drop_set_of_lt (by omega), ← Nat.add_assoc]
    rw [← List.drop_drop, hd, List.drop_drop]
  · refine add_win_step (X := X) (by omega) hX hy (by omega) inv ?_
    rw [← hxX, ← hz]
    omega
/-- The highest limb of a window. -/
theorem ms_top {X X1 y : List Int} {o : Nat} {g b c : Int} (hX : okL X) (h1 : okL X1) (hl : X1.length = X.length) (hw : o + (y.length + 1) ≤ X.length)
    (b0 : 0 ≤ b) (b1 : b ≤ 1) (c0 : 0 ≤ c) (c1 : c < 18446744073709551616) (ht : X1.take o = X.take o) (hd : X1.drop (o + y.length) = X.drop (o + y.length))
    (inv : (win X1 o y.length : Int) + g * (val (y.take y.length) : Int) = (win X o y.length : Int) + 18446744073709551616 ^ y.length * (c + b))
    (x s b' : Int) (hx : x = X1.getD (o + y.length) default) (hb' : b' = if x < c + b then 1 else 0) (hs : s = (x - c - b) % 18446744073709551616) :
    (0 ≤ b' ∧ b' ≤ 1) ∧ (X1.set (o + y.length) s).length = X.length ∧ okL (X1.set (o + y.length) s) ∧ (X1.set (o + y.length) s).take o = X.take o ∧ (X1.set (o + y.length) s).drop (o + (y.length + 1)) = X.drop (o + (y.length + 1)) ∧
      (win (X1.set (o + y.length) s) o (y.length + 1) : Int) + g * (val y : Int) = (win X o (y.length + 1) : Int) + 18446744073709551616 ^ (y.length + 1) * b' := by
  have hxx := okL_at h1 (o + y.length)
  have hxX : x = rd X ((o + y.length : Nat) : Int) := hx.trans (getD_drop hd)
  refine ⟨by rw [hb']; split <;> omega, by simpa using hl, okL_set h1 _ (by omega), by rw [take_set_le (by omega)]; exact ht, ?_, ?_⟩
  · rw [List.drop_set_of_lt (by omega), ← Nat.add_assoc]
    rw [← List.drop_drop, hd, List.drop_drop]
  · rw [List.take_length] at inv
    rw [win_set_succ (by omega), win_succ, ← hxX]
    have e1 : (x.toNat : Int) = x := by omega
    have e3 : (s.toNat : Int) = s := by omega
    have hF : x + 18446744073709551616 * b' = s + c + b := by rw [hb']; split <;> omega
    have eB : ((18446744073709551616 : Nat) : Int) = 18446744073709551616 := rfl
    simp only [Int.natCast_add, Int.natCast_mul, Int.natCast_pow, e1, e3, Int.pow_succ, eB]
    generalize (18446744073709551616 : Int) ^ y.length = q at *
    grind
/-- Once too often: y is added again. -/
theorem back_next {W V B g b ov X1 X2 : Int} (hB : 0 < B) (h1 : X1 + g * V = W + B * b) (h2 : X2 + B * ov = X1 + V) : X2 + (g - 1) * V = W + B * (b - ov) := by grind

theorem cast_pow64 (k : Nat) : ((18446744073709551616 ^ k : Nat) : Int) = (18446744073709551616 : Int) ^ k := by rw [Int.natCast_pow]; rfl
theorem step_neg {w W V k : Nat} {g b : Int} (hg : 0 ≤ g) (hb : b = 1) (hlt : w < 18446744073709551616 ^ k) (h : (w : Int) + g * (V : Int) = (W : Int) + 18446744073709551616 ^ k * b) : W < g.toNat * V := by
  obtain ⟨G, rfl⟩ := Int.eq_ofNat_of_zero_le hg
  subst hb
  rw [← cast_pow64] at h
  have e : (G : Int) * (V : Int) = ((G * V : Nat) : Int) := by simp
  rw [e] at h
  rw [Int.toNat_natCast]
  omega
theorem step_pos {w W V k : Nat} {g b : Int} (hg : 0 ≤ g) (hb : b = 1) (hlt : w < 18446744073709551616 ^ k) (h : (w : Int) + g * (V : Int) = (W : Int) + 18446744073709551616 ^ k * b) : 1 ≤ g := by
  have := step_neg hg hb hlt h
  rcases (show 0 < g ∨ g ≤ 0 by omega) with q | q
  · omega
  · have : g = 0 := by omega
    subst this
    simp at *
theorem step_fin {w W V k : Nat} {g : Int} (hg : 0 ≤ g) (h : (w : Int) + g * (V : Int) = (W : Int) + 18446744073709551616 ^ k * 0) (hgV : W < (g.toNat + 1) * V) : g = ((W / V : Nat) : Int) ∧ w = W % V := by
  obtain ⟨G, rfl⟩ := Int.eq_ofNat_of_zero_le hg
  have e : (G : Int) * (V : Int) = ((G * V : Nat) : Int) := by simp
  rw [e, Int.mul_zero] at h
  rw [Int.toNat_natCast] at hgV
  obtain ⟨h1, h2⟩ := step_end (w := w) (W := W) (V := V) (g := G) (by omega) hgV
  exact ⟨by rw [h1], h2⟩
theorem step_guess {X y : List Int} {o : Nat} (hk : okL X) (hky : okL y) (hn1 : 1 ≤ y.length) (hw : o + (y.length + 1) ≤ X.length)
    (hb : X.getD (o + (y.length : Int).toNat * 1) default < rd y ((y.length : Int) - 1)) :
    (0 ≤ (X.getD (o + (y.length : Int).toNat * 1) default * 18446744073709551616 + X.getD (o + ((y.length : Int) - 1).toNat * 1) default) / rd y ((y.length : Int) - 1) ∧
      (X.getD (o + (y.length : Int).toNat * 1) default * 18446744073709551616 + X.getD (o + ((y.length : Int) - 1).toNat * 1) default) / rd y ((y.length : Int) - 1) < 18446744073709551616) ∧
    win X o (y.length + 1) < (((X.getD (o + (y.length : Int).toNat * 1) default * 18446744073709551616 + X.getD (o + ((y.length : Int) - 1).toNat * 1) default) / rd y ((y.length : Int) - 1)).toNat + 1) * val y := by
  obtain ⟨n, hn⟩ : ∃ n, y.length = n + 1 := ⟨y.length - 1, by omega⟩
  have e0 : o + (y.length : Int).toNat * 1 = o + (n + 1) := by omega
  have e1 : o + ((y.length : Int) - 1).toNat * 1 = o + n := by omega
  have e2 : (y.length : Int) - 1 = (n : Int) := by omega
  rw [e0, e2] at hb
  rw [e0, e1, e2]
  have q1 := okL_at hk (o + (n + 1))
  have q2 := okL_at hk (o + n)
  have q3 := okL_rd hky (n : Int)
  have d := div_bd (hi := X.getD (o + (n + 1)) default) (lo := X.getD (o + n) default) (b := rd y (n : Int)) q1.1 hb q2.1 q2.2
  refine ⟨⟨d.1, d.2.1⟩, ?_⟩
  have w1 := win_succ X o (n + 1)
  have w2 := win_succ X o n
  have r1 : rd X ((o + (n + 1) : Nat) : Int) = X.getD (o + (n + 1)) default := rd_nat _ _
  have r2 : rd X ((o + n : Nat) : Int) = X.getD (o + n) default := rd_nat _ _
  rw [r1] at w1
  rw [r2] at w2
  have hv := val_take_succ' y n
  rw [← hn, List.take_length] at hv
  generalize X.getD (o + (n + 1)) default = xn at *
  generalize X.getD (o + n) default = xm at *
  generalize rd y (n : Int) = yt at *
  generalize hg : (xn * 18446744073709551616 + xm) / yt = g at *
  refine guess_top (n := n) (xn := xn.toNat) (xm := xm.toNat) (yt := yt.toNat) (wl := win X o n) (yl := val (y.take n)) ?_ (win_lt hk o n) hv ?_
  · rw [hn, w1, w2, Nat.pow_succ, Nat.mul_add, Nat.mul_assoc, Nat.add_assoc]
  · have hp := d.2.2.2.1
    have hq := d.2.2.2.2
    obtain ⟨G, rfl⟩ := Int.eq_ofNat_of_zero_le d.1
    obtain ⟨Yt, rfl⟩ := Int.eq_ofNat_of_zero_le q3.1
    simp only [Int.toNat_natCast]
    have e : (G : Int) * (Yt : Int) = ((G * Yt : Nat) : Int) := by simp
    rw [e] at hq
    rw [Nat.add_mul, Nat.one_mul]
    omega
/-- One round, as the walk leaves it. -/
theorem long_next {X x0 q : List Int} {V i m : Nat} (hkX : okL X) (hV : 0 < V) (hVm : V < 18446744073709551616 ^ m) (hi : i + (m + 1) ≤ X.length) (hlen : X.length = x0.length) (hq : i < q.length)
    (ht : X.take (i + 1) = x0.take (i + 1)) (inv : val (x0.drop (i + 1)) = V * val (q.drop (i + 1)) + val (X.drop (i + 1))) (hlt : val (X.drop (i + 1)) < V) :
    win X i (m + 1) < 18446744073709551616 * V ∧ (setWin X i (m + 1) (win X i (m + 1) % V)).length = X.length ∧ okL (setWin X i (m + 1) (win X i (m + 1) % V)) ∧ (setWin X i (m + 1) (win X i (m + 1) % V)).take i = x0.take i ∧
    val (x0.drop i) = V * val ((q.set i ((win X i (m + 1) / V : Nat) : Int)).drop i) + val ((setWin X i (m + 1) (win X i (m + 1) % V)).drop i) ∧
    val ((setWin X i (m + 1) (win X i (m + 1) % V)).drop i) < V ∧ (0 ≤ ((win X i (m + 1) / V : Nat) : Int) ∧ ((win X i (m + 1) / V : Nat) : Int) < 18446744073709551616) := by
  obtain ⟨h1, h2, h3, h4⟩ := long_round hkX hV hVm hi hlen hq ht inv hlt
  have hm := Nat.mod_lt (win X i (m + 1)) hV
  have hsv := setWin_val (X := X) (o := i) (k := m + 1) (n := win X i (m + 1) % V) hi (Nat.lt_of_lt_of_le (Nat.lt_trans hm hVm) (Nat.pow_le_pow_right (by decide) (Nat.le_succ m))) h2
  have hq64 : win X i (m + 1) / V < 18446744073709551616 := Nat.div_lt_of_lt_mul (by rw [Nat.mul_comm]; exact h1)
  refine ⟨h1, setWin_length hi, setWin_ok hkX, ?_, ?_, ?_, Int.natCast_nonneg _, Int.ofNat_lt.2 hq64⟩
  · rw [setWin_take hi]
    have := congrArg (List.take i) ht
    rwa [List.take_take, List.take_take, Nat.min_eq_left (Nat.le_succ i)] at this
  · rw [hsv]; exact h3
  · rw [hsv]; exact hm
theorem val_app0 (l : List Int) : val (l ++ [0]) = val l := by rw [val_append]; simp [val]
theorem val_take_lt {l : List Int} {m : Nat} (h : val l < 18446744073709551616 ^ m) : val (l.take m) = val l := by
  rcases Nat.lt_or_ge m l.length with hm | hm
  · have hs : val l = val (l.take m) + 18446744073709551616 ^ m * val (l.drop m) := by
      conv => lhs; rw [← List.take_append_drop m l, val_append]
      rw [List.length_take, Nat.min_eq_left (by omega)]
    rcases Nat.eq_zero_or_pos (val (l.drop m)) with q | q
    · rw [q] at hs; omega
    · have := Nat.mul_le_mul_left (18446744073709551616 ^ m) q
      omega
  · rw [List.take_of_length_le hm]
end Go.Proofs.YthaiegnohkiegaaGreat.Ab
/-
  The reference's division, bit by bit: plain arithmetic.
-/
namespace Go.Proofs.YthaiegnohkiegaaGreat.Ab
set_option linter.unusedVariables false
set_option linter.unusedSimpArgs false

theorem bl_bounds : ∀ (k x : Nat), k ≤ 64 → x < 2 ^ k → x ≠ 0 → 2 ^ (Lib.bitLen x) ≤ 2 * x ∧ x < 2 ^ (Lib.bitLen x)
  | 0, x, _, h, h0 => by simp at h; exact absurd h h0
  | k + 1, x, hk, h, h0 => by
    have h64 : x < 2 ^ 64 := Nat.lt_of_lt_of_le h (Nat.pow_le_pow_right (by decide) hk)
    rw [Lib.bitLen_half x h0 h64]
    by_cases h1 : x = 1
    · subst h1; decide
    · rw [Nat.pow_succ] at h
      obtain ⟨q1, q2⟩ := bl_bounds k (x / 2) (by omega) (by omega) (by omega)
      rw [Nat.pow_add]
      generalize 2 ^ Lib.bitLen (x / 2) = p at *
      omega
/-- How many bits a number has. -/
def blen (n : Nat) : Nat := if n = 0 then 0 else n.log2 + 1
theorem blen_bounds {n : Nat} (h : n ≠ 0) : 2 ^ blen n ≤ 2 * n ∧ n < 2 ^ blen n := by
  unfold blen
  rw [if_neg h]
  have h1 := Nat.log2_self_le h
  have h2 := Nat.lt_log2_self (n := n)
  rw [Nat.pow_succ] at *
  omega
theorem blen_unique {n k : Nat} (h1 : 2 ^ k ≤ 2 * n) (h2 : n < 2 ^ k) : k = blen n := by
  have h0 : n ≠ 0 := by
    intro e; subst e
    have := Nat.pow_pos (a := 2) (n := k) (by decide)
    omega
  obtain ⟨q1, q2⟩ := blen_bounds h0
  rcases Nat.lt_trichotomy k (blen n) with h | h | h
  · have := Nat.pow_le_pow_right (n := 2) (by decide) (show k + 1 ≤ blen n from h)
    rw [Nat.pow_succ] at this; omega
  · exact h
  · have := Nat.pow_le_pow_right (n := 2) (by decide) (show blen n + 1 ≤ k from h)
    rw [Nat.pow_succ] at this; omega
theorem pow64 (k : Nat) : (18446744073709551616 : Nat) ^ k = 2 ^ (64 * k) := by rw [Nat.pow_mul]
theorem top_split {l : List Int} (h : l ≠ []) : val l = val (l.take (l.length - 1)) + 18446744073709551616 ^ (l.length - 1) * (rd l ((l.length : Int) - 1)).toNat := by
  have hp : 0 < l.length := List.length_pos_iff.2 h
  have := val_take_succ' l (l.length - 1)
  rw [show l.length - 1 + 1 = l.length by omega, List.take_length] at this
  rw [this, show ((l.length : Int) - 1) = ((l.length - 1 : Nat) : Int) by omega]
theorem top_bounds {l : List Int} (hk : okL l) (hg : goodL l = true) (h : l ≠ []) : 64 * (l.length - 1) + Lib.bitLen (rd l ((l.length : Int) - 1)).toNat = blen (val l) := by
  have ht := okL_rd hk ((l.length : Int) - 1)
  have hn : rd l ((l.length : Int) - 1) ≠ 0 := by
    simp only [goodL, decide_eq_true_eq] at hg
    rcases hg with q | q
    · exact absurd q h
    · exact q
  have hs := top_split h
  have hl := val_lt (okL_take hk (l.length - 1))
  rw [List.length_take, Nat.min_eq_left (by omega)] at hl
  obtain ⟨b1, b2⟩ := bl_bounds 64 (rd l ((l.length : Int) - 1)).toNat (by omega) (by omega) (by omega)
  generalize (rd l ((l.length : Int) - 1)).toNat = t at *
  apply blen_unique
  · rw [Nat.pow_add, ← pow64, hs]
    have := Nat.mul_le_mul_left (18446744073709551616 ^ (l.length - 1)) b1
    rw [Nat.mul_left_comm] at this
    omega
  · rw [Nat.pow_add, ← pow64, hs]
    have := Nat.mul_le_mul_left (18446744073709551616 ^ (l.length - 1)) (show t + 1 ≤ _ from b2)
    rw [Nat.mul_add, Nat.mul_one] at this
    omega
theorem lenN_limbs (n : Nat) : lenN (limbs n) = blen n := by
  by_cases h : n = 0
  · subst h; simp [limbs_zero, lenN, blen]
  · have hne : limbs n ≠ [] := by
      intro e
      have := (limbs_len_pos n).2 h
      rw [e] at this; simp at this
    have := top_bounds (okL_limbs n) (good_limbs n) hne
    rw [val_limbs] at this
    unfold lenN
    rw [if_pos ⟨good_limbs n, hne⟩, ← this]
    have := List.length_pos_iff.2 hne
    omega
theorem blen_le {n k : Nat} (h : n < 2 ^ k) : blen n ≤ k := by
  by_cases h0 : n = 0
  · subst h0; simp [blen]
  · obtain ⟨q1, q2⟩ := blen_bounds h0
    rcases Nat.lt_or_ge k (blen n) with h | h
    · have := Nat.pow_le_pow_right (n := 2) (by decide) (show k + 1 ≤ blen n from h)
      rw [Nat.pow_succ] at this; omega
    · exact h
theorem blen_limbs (n : Nat) : blen n ≤ 64 * (limbs n).length := blen_le (by rw [← pow64]; exact limbs_lt n)
theorem blen_mono {n m : Nat} (h : n ≤ m) : blen n ≤ blen m := by
  by_cases h0 : m = 0
  · have : n = 0 := by omega
    subst this; subst h0; exact Nat.le_refl _
  · exact blen_le (Nat.lt_of_le_of_lt h (blen_bounds h0).2)
/-- One bit of the quotient. -/
theorem bit_round {a b q r i : Nat} (inv : a = q * b + r) (hr : r < b * 2 ^ (i + 1)) (hq : q % 2 ^ (i + 1) = 0) :
    (b * 2 ^ i ≤ r → a = (q + 2 ^ i) * b + (r - b * 2 ^ i) ∧ r - b * 2 ^ i < b * 2 ^ i ∧ (q + 2 ^ i) % 2 ^ i = 0) ∧ q % 2 ^ i = 0 := by
  have h2 : q % 2 ^ i = 0 := by
    rw [Nat.pow_succ] at hq
    have : 2 ^ i ∣ q := Nat.dvd_trans ⟨2, rfl⟩ (Nat.dvd_of_mod_eq_zero hq)
    exact Nat.mod_eq_zero_of_dvd this
  refine ⟨fun h => ⟨?_, ?_, ?_⟩, h2⟩
  · rw [inv, Nat.add_mul, Nat.mul_comm (2 ^ i) b]; omega
  · rw [Nat.pow_succ, ← Nat.mul_assoc] at hr; omega
  · rw [Nat.add_mod_right, h2]
theorem set_bit {Q : List Int} {i : Nat} (hk : okL Q) (hi : i / 64 < Q.length) (hq : val Q % 2 ^ (i + 1) = 0) :
    ∃ x : Nat, rd Q ((i / 64 : Nat) : Int) = (x : Int) ∧ x + 2 ^ (i % 64) < 18446744073709551616 ∧ bits .or .u64 (x : Int) ((2 ^ (i % 64) : Nat) : Int) = ((x + 2 ^ (i % 64) : Nat) : Int) ∧
      val (Q.set (i / 64) ((x + 2 ^ (i % 64) : Nat) : Int)) = val Q + 2 ^ i := by
  have hx := okL_rd hk ((i / 64 : Nat) : Int)
  obtain ⟨x, hx'⟩ := Int.eq_ofNat_of_zero_le hx.1
  have hs := val_split hi
  have hlow := val_lt (okL_take hk (i / 64))
  rw [List.length_take, Nat.min_eq_left (by omega), pow64] at hlow
  rw [hx', Int.toNat_natCast, pow64] at hs
  have hj : i % 64 < 64 := Nat.mod_lt _ (by decide)
  have ei : i = 64 * (i / 64) + i % 64 := by omega
  have e1 : 2 ^ (i + 1) = 2 ^ (64 * (i / 64)) * 2 ^ (i % 64 + 1) := by rw [← Nat.pow_add]; congr 1; omega
  have e2 : (18446744073709551616 : Nat) = 2 ^ (i % 64 + 1) * 2 ^ (63 - i % 64) := by
    rw [← Nat.pow_add, show i % 64 + 1 + (63 - i % 64) = 64 by omega]
  have hpp : 0 < 2 ^ (64 * (i / 64)) := Nat.pow_pos (by decide)
  have hjp : 0 < 2 ^ (i % 64) := Nat.pow_pos (by decide)
  have hd : 2 ^ (64 * (i / 64)) * 2 ^ (i % 64 + 1) ∣ val Q := by rw [← e1]; exact Nat.dvd_of_mod_eq_zero hq
  have hd1 : 2 ^ (64 * (i / 64)) ∣ val Q := Nat.dvd_trans ⟨_, rfl⟩ hd
  have hz : val (Q.take (i / 64)) = 0 := by
    have : 2 ^ (64 * (i / 64)) ∣ val (Q.take (i / 64)) := by
      rw [hs] at hd1
      exact (Nat.dvd_add_left ⟨_, rfl⟩).1 hd1
    exact Nat.eq_zero_of_dvd_of_lt this hlow
  rw [hz, Nat.zero_add] at hs
  rw [hs] at hd
  have hd2 := Nat.dvd_of_mul_dvd_mul_left hpp hd
  have hd3 : 2 ^ (i % 64 + 1) ∣ x := by
    have hB : 2 ^ (i % 64 + 1) ∣ 18446744073709551616 * val (Q.drop (i / 64 + 1)) := by
      conv => rhs; rw [e2]
      exact Nat.dvd_mul_right_of_dvd ⟨_, rfl⟩ _
    exact (Nat.dvd_add_left hB).1 hd2
  obtain ⟨c, hc⟩ := hd3
  have hxB : x < 18446744073709551616 := by omega
  have hcl : c + 1 ≤ 2 ^ (63 - i % 64) := by
    rw [hc] at hxB
    conv at hxB => rhs; rw [e2]
    exact Nat.lt_of_mul_lt_mul_left hxB
  have hlt : x + 2 ^ (i % 64) < 18446744073709551616 := by
    have h3 := Nat.mul_le_mul_left (2 ^ (i % 64 + 1)) hcl
    rw [← e2, Nat.mul_add, ← hc, Nat.mul_one, Nat.pow_succ] at h3
    omega
  refine ⟨x, hx', hlt, ?_, ?_⟩
  · rw [u64_or_nat _ _ hxB (by omega)]
    congr 1
    refine nat_join (i % 64 + 1) _ _ (by rw [hc]; exact Nat.mul_mod_right _ _) ?_
    rw [Nat.pow_succ]; omega
  · have hs2 := val_split (l := Q.set (i / 64) ((x + 2 ^ (i % 64) : Nat) : Int)) (n := i / 64) (by simpa using hi)
    rw [rd_set_self hi, take_set_le (Nat.le_refl _), hz, List.drop_set_of_lt (by omega), pow64, Int.toNat_natCast] at hs2
    rw [hs2, hs]
    have e4 : 2 ^ i = 2 ^ (64 * (i / 64)) * 2 ^ (i % 64) := by rw [← Nat.pow_add]; congr 1
    rw [e4]
    simp only [Nat.mul_add]
    omega
theorem or_shl {a b : Int} (h0 : 0 ≤ a) (h1 : a < 4294967296) (h2 : 0 ≤ b) (h3 : b < 4294967296) : bits .or .u64 (IntKind.u64.wrap (a * ((2 ^ 32 : Nat) : Int))) (IntKind.u64.wrap b) = a * 4294967296 + b := by
  obtain ⟨A, rfl⟩ := Int.eq_ofNat_of_zero_le h0
  obtain ⟨B, rfl⟩ := Int.eq_ofNat_of_zero_le h2
  have e1 : IntKind.u64.wrap ((A : Int) * ((2 ^ 32 : Nat) : Int)) = ((A * 4294967296 : Nat) : Int) := by rw [u64_wrap]; omega
  have e2 : IntKind.u64.wrap (B : Int) = (B : Int) := u64_in h2 (by omega)
  rw [e1, e2, u64_or_nat _ _ (by omega) (by omega), nat_join 32 _ _ (by omega) (by omega)]
  omega
theorem blen_lt {A B : Nat} (h : blen A < blen B) : A < B := by
  rcases Nat.lt_or_ge A B with q | q
  · exact q
  · have := blen_mono q; omega
/-- How far the divisor is shifted up at first. -/
theorem div_first {A B n : Nat} (hB : B ≠ 0) (h : blen A = blen B + n) : A < B * 2 ^ (n + 1) ∧ B * 2 ^ n ≤ 2 * A := by
  have hA : A ≠ 0 := by
    intro e; subst e
    unfold blen at h
    rw [if_pos rfl, if_neg hB] at h; omega
  obtain ⟨a1, a2⟩ := blen_bounds hA
  obtain ⟨b1, b2⟩ := blen_bounds hB
  rw [h, Nat.pow_add] at a1 a2
  have hp : 0 < 2 ^ n := Nat.pow_pos (by decide)
  constructor
  · have := Nat.mul_le_mul_right (2 ^ n) b1
    rw [Nat.pow_succ, ← Nat.mul_assoc]
    rw [Nat.mul_assoc, Nat.mul_comm 2] at this
    omega
  · have := Nat.mul_le_mul_right (2 ^ n) (Nat.le_of_lt b2)
    omega
theorem shl_one {i : Int} (h0 : 0 ≤ i) : IntKind.u64.wrap (1 * 2 ^ min (IntKind.u64.wrap (i % 64)).toNat 64) = ((2 ^ (i.toNat % 64) : Nat) : Int) := by
  have e1 : IntKind.u64.wrap (i % 64) = i % 64 := u64_in (by omega) (by omega)
  have e2 : (i % 64).toNat = i.toNat % 64 := by omega
  have e3 : min (i.toNat % 64) 64 = i.toNat % 64 := by omega
  have e4 : 2 ^ (i.toNat % 64) < 2 ^ 64 := Nat.pow_lt_pow_right (by decide) (by omega)
  rw [e1, e2, e3, Int.one_mul]
  have e5 : (2 : Int) ^ (i.toNat % 64) = ((2 ^ (i.toNat % 64) : Nat) : Int) := by simp
  rw [e5]
  generalize 2 ^ (i.toNat % 64) = p at *
  exact u64_in (by omega) (by omega)
/-- A limb shifted up is appended. -/
theorem up_step {l L : List Int} {k i n lo hi c : Nat} (hL : L.length = k + i) (hi1 : i < l.length) (inv : val L + 18446744073709551616 ^ (k + i) * c = 18446744073709551616 ^ k * (val (l.take i) * 2 ^ n))
    (hF : (rd l (i : Int)).toNat * 2 ^ n = lo + 18446744073709551616 * hi) : val (L ++ [((c + lo : Nat) : Int)]) + 18446744073709551616 ^ (k + (i + 1)) * hi = 18446744073709551616 ^ k * (val (l.take (i + 1)) * 2 ^ n) := by
  rw [val_append, hL, val_take_succ']
  simp only [val, Int.toNat_natCast, Nat.mul_zero, Nat.add_zero, Nat.pow_add, Nat.pow_one] at inv ⊢
  generalize 18446744073709551616 ^ k = p at *
  generalize 18446744073709551616 ^ i = q at *
  generalize val (l.take i) = v at *
  generalize (rd l (i : Int)).toNat = x at *
  generalize 2 ^ n = N at *
  grind
theorem right_app {l L : List Int} {i n s : Nat} (hL : L.length = i) (inv : val L = val l / 2 ^ n % 18446744073709551616 ^ i) (hl : i ≤ l.length) (hk : okL l) (hs : val (l.drop i) / 2 ^ n % 18446744073709551616 = s) :
    val (L ++ [(s : Int)]) = val l / 2 ^ n % 18446744073709551616 ^ (i + 1) := by
  have h := right_step (l := l) (c := L ++ [0]) (i := i) (n := n) (s := s) (by simp [hL]) hl hk (by rw [List.take_append_of_le_length (by omega), List.take_of_length_le (by omega)]; exact inv) hs
  rw [← h]
  congr 1
  rw [List.set_append_right _ _ (by omega), hL, Nat.sub_self]
  simp [List.take_of_length_le, hL]
end Go.Proofs.YthaiegnohkiegaaGreat.Ab
/-
  Contracts of package nat at numbers, for long division.
-/
namespace Go.Proofs.YthaiegnohkiegaaGreat.Ab
set_option linter.unusedVariables false
set_option linter.unusedSimpArgs false

theorem nat_cmp0 (a b : Nat) (ha : (limbs a).length ≤ 17592186044416) (hb : (limbs b).length ≤ 17592186044416) : Fn Tryz.prog 183 [.d (encN (limbs a)), .d (encN (limbs b))] false (.one (.d (ii (cmpN a b)))) := by
  have := nat_cmp (limbs a) (limbs b) (by omega) (by omega) (okL_limbs a) (okL_limbs b) (good_limbs a) (good_limbs b)
  rw [val_limbs, val_limbs] at this
  exact this
theorem nat_leftN (a : Nat) (n : Int) (ha : (limbs a).length ≤ 17592186044416) (hn0 : 0 ≤ n) (hn1 : n ≤ 63) : Fn Tryz.prog 186 [.d (encN (limbs a)), .d (ii n)] false (.one (.d (encN (limbs (a * 2 ^ n.toNat))))) := by
  have := nat_left63 (limbs a) n ha (okL_limbs a) hn0 hn1
  rw [val_limbs] at this
  exact this
theorem nat_leftNX (a : Nat) (n : Int) (ha : (limbs a).length ≤ 17592186044416) (hn0 : 0 ≤ n) (hn1 : n ≤ 63) : Fn Tryz.prog 186 [.d (encN (limbs a)), .d (ii n)] false (.one (.dx ((limbs (a * 2 ^ n.toNat)).map fun x => [iu x]))) := by
  have := nat_left63X (limbs a) n ha (okL_limbs a) hn0 hn1
  rw [val_limbs] at this
  exact this
theorem one_limb {B : Nat} (h : ((limbs B).length : Int) = 1) : limbs B = [(B : Int)] ∧ rd (limbs B) 0 = (B : Int) ∧ B < 18446744073709551616 := by
  have hlt := limbs_lt B
  have h1 : (limbs B).length = 1 := by omega
  rw [h1] at hlt
  have h0 : B ≠ 0 := fun e => by subst e; simp [limbs_zero] at h1
  have := limbs_one h0 (by simpa using hlt)
  rw [this]
  exact ⟨rfl, rfl, by simpa using hlt⟩
theorem top_limb {B : Nat} (h : B ≠ 0) : 0 < rd (limbs B) (((limbs B).length : Int) - 1) ∧ rd (limbs B) (((limbs B).length : Int) - 1) < 18446744073709551616 := by
  have ht := okL_rd (okL_limbs B) (((limbs B).length : Int) - 1)
  have hg := good_limbs B
  have hp := (limbs_len_pos B).2 h
  simp only [goodL, decide_eq_true_eq] at hg
  rcases hg with q | q
  · rw [q] at hp; simp at hp
  · omega
theorem limbs_shl_len (A n : Nat) (h : n ≤ 63) : (limbs (A * 2 ^ n)).length ≤ (limbs A).length + 1 := by
  refine limbs_len_le ?_
  rw [Nat.pow_succ]
  have h1 := limbs_lt A
  have h2 : 2 ^ n ≤ 2 ^ 64 := Nat.pow_le_pow_right (by decide) (by omega)
  calc A * 2 ^ n ≤ A * 2 ^ 64 := Nat.mul_le_mul_left _ h2
    _ < 18446744073709551616 ^ (limbs A).length * 18446744073709551616 := Nat.mul_lt_mul_of_pos_right h1 (by decide)
theorem limbs_val_len {l : List Int} (h : okL l) : (limbs (val l)).length ≤ l.length := limbs_len_le (val_lt h)
theorem long_start {N Y Q : Nat} (hY : Y ≠ 0) (h : Q + (limbs Y).length = (limbs N).length + 1) :
    val ((limbs N ++ [0]).drop Q) = Y * val ((List.replicate Q (0 : Int)).drop Q) + val ((limbs N ++ [0]).drop Q) ∧ val ((limbs N ++ [0]).drop Q) < Y := by
  have hp := (limbs_len_pos Y).2 hY
  refine ⟨?_, ?_⟩
  · rw [List.drop_of_length_le (by simp : (List.replicate Q (0 : Int)).length ≤ Q)]; simp [val]
  · rw [List.drop_append_of_le_length (by omega), val_app0]
    have h1 := val_lt (okL_drop (okL_limbs N) Q)
    have hne : limbs Y ≠ [] := fun e => by rw [e] at hp; simp at hp
    have h2 := good_ge (okL_limbs Y) (good_limbs Y) hne
    rw [val_limbs] at h2
    refine Nat.lt_of_lt_of_le h1 (Nat.le_trans (Nat.pow_le_pow_right (by decide) ?_) h2)
    rw [List.length_drop]; omega
end Go.Proofs.YthaiegnohkiegaaGreat.Ab
/-
 Contracts: long division.
-/
namespace Go.Proofs.YthaiegnohkiegaaGreat.Ab
set_option linter.unusedVariables false
set_option linter.unusedSimpArgs false
set_option maxRecDepth 20000


theorem nat_step (X y : List Int) (o n1 c1 : Nat) (hn : n1 = y.length + 1) (hl : X.length ≤ 17592186044416) (hn1 : 1 ≤ y.length) (hw : o + (y.length + 1) ≤ X.length) (hk : okL X) (hky : okL y) (hW : win X o (y.length + 1) < 18446744073709551616 * val y) : FnS Tryz.prog 187 [.c (.msl 900 o n1 c1), .c (.d false (encN y))] [(900, X.map (ci .u64))] (vi .u64 ((win X o (y.length + 1) / val y : Nat) : Int)) [(900, (setWin X o (y.length + 1) (win X o (y.length + 1) % val y)).map (ci .u64))] := by
 refine FnS_of_EV Tryz.func187 rfl (by kernel_rfl) rfl rfl rfl (fun E hE => ?_)
 refine EV_seq (EV_region ?_)
 refine EVo_t rfl (T_assign rfl) ?_
 refine EVo_nil (EV_seq (EV_region ?_))
 refine EVo_t rfl (T_move rfl) ?_
 refine EVo_t rfl (T_lenL (uOk rfl) rfl) ?_
 refine EVo_t rfl (T_assign rfl) ?_
 refine EVo_nil (EV_seq (EV_region ?_))
 refine EVo_t rfl (T_assign rfl) ?_
 refine EVo_nil ?_
 refine EV_join (fun S => ∃ g : Int, S = St.of [(0, V.c (.msl 900 o n1 c1)), (1, V.c (.d false (encN y))), (5, vi .i64 y.length), (6, vi .u64 g)] (tabO [(900, .box (List.map (ci .u64) X))]) 135 ∧ (0 ≤ g ∧ g < 18446744073709551616) ∧ win X o (y.length + 1) < (g.toNat + 1) * val y) ?_ ?_
 ·
  refine EV_seq ?_
  refine EV_draw (inX [900]) (.st 0 (.st 1 (.st 2 (.st 3 (.st 4 (.st 5 (.st 6 (.st 7 (.st 8 (.st 9 .done)))))))))) Tryz.mixed (by kernel_rfl) ?_
  refine EVq_t rfl rfl (T_move rfl) ?_
  refine EVq_t rfl rfl (T_move rfl) ?_
  refine EVq_t rfl rfl (T_indexAddrM (uOk rfl) (zOk rfl) rfl rfl (by omega) (by omega)) ?_
  refine EVq_t rfl rfl (T_loadL (gOk rfl) rfl rfl (by omega) rfl rfl) ?_
  refine EVq_t rfl rfl (T_move rfl) ?_
  refine EVq_t rfl rfl (T_move rfl) ?_
  refine EVq_t rfl rfl (T_binI rfl rfl rfl (by omega) (by omega)) ?_
  refine EVq_t rfl rfl (T_ixL (uOk rfl) (zOk rfl) rfl rfl (by omega) (by omega) rfl) ?_
  refine EVq_t rfl rfl (T_load (gOk rfl) rfl) ?_
  refine EVq_t rfl rfl (T_bin rfl rfl rfl) ?_
  refine EVq_done ?_
  refine EV_cond rfl rfl rfl (fun hb1 => ?_) (fun hb1 => ?_)
  ·try simp only [z1, z2, z3, z4, z5, z6, z7, z8, z9, y1, y2, y3] at hb1
   have hhb := hb1
   have e0 : ((y.length : Int)).toNat = y.length := by omega
   have e1 : ((y.length : Int) - 1).toNat = y.length - 1 := by omega
   have q1 := okL_at hk (o + (y.length : Int).toNat * 1)
   have q2 := okL_at hk (o + ((y.length : Int) - 1).toNat * 1)
   have q3 := okL_rd hky ((y.length : Int) - 1)
   refine EV_draw (inX [900]) (.st 0 (.st 1 (.st 2 (.st 3 (.st 4 (.st 5 (.st 6 (.st 7 (.st 8 (.st 9 (.st 10 (.st 11 (.st 12 (.st 13 (.one 14 (.st 15 (.st 16 (.st 17 (.st 18 .done))))))))))))))))))) Tryz.mixed (by kernel_rfl) ?_
   refine EVq_t rfl rfl (T_move rfl) ?_
   refine EVq_t rfl rfl (T_move rfl) ?_
   refine EVq_t rfl rfl (T_indexAddrM (uOk rfl) (zOk rfl) rfl rfl (by omega) (by omega)) ?_
   refine EVq_t rfl rfl (T_loadL (gOk rfl) rfl rfl (by omega) rfl rfl) ?_
   refine EVq_t rfl rfl (T_move rfl) ?_
   refine EVq_t rfl rfl (T_move rfl) ?_
   refine EVq_t rfl rfl (T_binI rfl rfl rfl (by omega) (by omega)) ?_
   refine EVq_t rfl rfl (T_indexAddrM (uOk rfl) (zOk rfl) rfl rfl (by omega) (by omega)) ?_
   refine EVq_t rfl rfl (T_loadL (gOk rfl) rfl rfl (by omega) rfl rfl) ?_
   refine EVq_t rfl rfl (T_move rfl) ?_
   refine EVq_t rfl rfl (T_move rfl) ?_
   refine EVq_t rfl rfl (T_binI rfl rfl rfl (by omega) (by omega)) ?_
   refine EVq_t rfl rfl (T_ixL (uOk rfl) (zOk rfl) rfl rfl (by omega) (by omega) rfl) ?_
   refine EVq_t rfl rfl (T_load (gOk rfl) rfl) ?_
   refine EVq_e rfl rfl (D_call false (bits_Div64 _ _ _ (by omega) (by omega) (by omega) (by omega) (by omega)) rfl (fit_cons (fit_d rfl nofun) (fit_cons (fit_d rfl nofun) (fit_cons (fit_d rfl nofun) (fit_nil))))) ?_
   refine EVq_t rfl rfl (T_move rfl) ?_
   refine EVq_t rfl rfl (T_extract rfl rfl) ?_
   refine EVq_t rfl rfl (T_extract rfl rfl) ?_
   refine EVq_t rfl rfl (T_assign rfl) ?_
   refine EVq_done ?_
   refine ⟨_, W_keep2 [(0, V.c (.msl 900 o n1 c1)), (1, V.c (.d false (encN y))), (5, vi .i64 y.length), (6, vi .u64 (_))] [(900, .box (List.map (ci .u64) X))] ⟨rfl, rfl, rfl, rfl, trivial⟩ ⟨rfl, trivial⟩ rfl, _, rfl, ?_⟩
   exact step_guess hk hky hn1 hw hhb
  ·try simp only [z1, z2, z3, z4, z5, z6, z7, z8, z9, y1, y2, y3] at hb1
   refine EV_skip ?_
   refine ⟨_, W_keep2 [(0, V.c (.msl 900 o n1 c1)), (1, V.c (.d false (encN y))), (5, vi .i64 y.length), (6, vi .u64 (_))] [(900, .box (List.map (ci .u64) X))] ⟨rfl, rfl, rfl, rfl, trivial⟩ ⟨rfl, trivial⟩ rfl, _, rfl, ?_⟩
   exact ⟨by omega, by show win X o (y.length + 1) < ((18446744073709551615 : Int).toNat + 1) * val y; exact hW⟩
 ·rintro S ⟨g, rfl, ⟨hg, hgV⟩⟩
  refine EV_seq (EV_region ?_)
  refine EVo_t rfl (T_assign rfl) ?_
  refine EVo_t rfl (T_assign rfl) ?_
  refine EVo_nil ?_
  refine EV_seq ?_
  refine EV_seq (EV_region ?_)
  refine EVo_t rfl (T_move rfl) ?_
  refine EVo_t rfl (T_move rfl) ?_
  refine EVo_nil ?_
  refine EV_block ?_
  refine EV_weak (W_keep2 [(0, V.c (.msl 900 o n1 c1)), (1, V.c (.d false (encN y))), (5, vi .i64 y.length), (6, vi .u64 g), (7, vi .u64 (0)), (8, vi .u64 (0)), (45, vi .i64 y.length), (46, vi .i64 (0))] [(900, .box (List.map (ci .u64) (X)))] ⟨rfl, rfl, rfl, rfl, rfl, rfl, rfl, rfl, trivial⟩ ⟨rfl, trivial⟩ rfl) ?_
  refine EV_loop (fun mm S => ∃ i : Int, ∃ b : Int, ∃ c : Int, ∃ X1 : List Int, mm = ((y.length : Int) - i).toNat ∧ S = St.of [(0, V.c (.msl 900 o n1 c1)), (1, V.c (.d false (encN y))), (5, vi .i64 y.length), (6, vi .u64 g), (7, vi .u64 b), (8, vi .u64 c), (45, vi .i64 y.length), (46, vi .i64 i)] (tabO [(900, .box (List.map (ci .u64) X1))]) 135 ∧ (0 ≤ i ∧ i ≤ y.length) ∧ (0 ≤ b ∧ b ≤ 1) ∧ (0 ≤ c ∧ c < 18446744073709551616) ∧ X1.length = X.length ∧ okL X1 ∧ X1.take o = X.take o ∧ X1.drop (o + i.toNat) = X.drop (o + i.toNat) ∧ (win X1 o i.toNat : Int) + g * (val (y.take i.toNat) : Int) = (win X o i.toNat : Int) + 18446744073709551616 ^ i.toNat * (c + b)) _ ⟨0, 0, 0, X, rfl, rfl, ⟨by omega, by omega, by omega, rfl, hk, rfl, rfl, by simp [win_zero, val]⟩⟩ ?_
  rintro mm S ⟨i, b, c, X1, rfl, rfl, ⟨h0, hb, hc, h1, h2, h3, h4, h5⟩⟩
  refine EV_seq (EV_region ?_)
  refine EVo_t rfl (T_bin rfl rfl rfl) ?_
  refine EVo_nil ?_
  refine EV_seq ?_
  refine EV_cond rfl rfl rfl (fun hb2 => ?_) (fun hb2 => ?_)
  ·try simp only [z1, z2, z3, z4, z5, z6, z7, z8, z9, y1, y2, y3] at hb2
   have r1 := okL_rd hky i
   have r2 := okL_at h2 (o + i.toNat * 1)
   have r3 := mul_bd (a := g) (b := rd y i) (n := 18446744073709551615) (m := 18446744073709551615) hg.1 r1.1 (by omega) (by omega)
   refine EV_skip ?_
   refine EV_seq ?_
   refine EV_block ?_
   refine EV_seq (EV_region ?_)
   refine EVo_t rfl (T_move rfl) ?_
   refine EVo_t rfl (T_assign rfl) ?_
   refine EVo_nil (EV_seq (EV_region ?_))
   refine EVo_t rfl (T_move rfl) ?_
   refine EVo_t rfl (T_move rfl) ?_
   refine EVo_t rfl (T_move rfl) ?_
   refine EVo_t rfl (T_ixL (uOk rfl) (zOk rfl) rfl rfl (by omega) (by omega) rfl) ?_
   refine EVo_t rfl (T_load (gOk rfl) rfl) ?_
   refine EVo_e rfl (D_call false (bits_Mul64 _ _ (by omega) (by omega) (by omega) (by omega)) rfl (fit_cons (fit_d rfl nofun) (fit_cons (fit_d rfl nofun) (fit_nil)))) ?_
   refine EVo_t rfl (T_move rfl) ?_
   refine EVo_t rfl (T_extract rfl rfl) ?_
   refine EVo_t rfl (T_extract rfl rfl) ?_
   refine EVo_t rfl (T_assign rfl) ?_
   refine EVo_t rfl (T_assign rfl) ?_
   refine EVo_nil (EV_seq (EV_region ?_))
   refine EVo_t rfl (T_move rfl) ?_
   refine EVo_t rfl (T_move rfl) ?_
   refine EVo_e rfl ((T_add64 Tryz.add64 rfl rfl rfl rfl (by omega) (by omega) (by omega)).does) ?_
   refine EVo_t rfl (T_move rfl) ?_
   refine EVo_t rfl (T_extract rfl rfl) ?_
   refine EVo_t rfl (T_extract rfl rfl) ?_
   refine EVo_t rfl (T_assign rfl) ?_
   refine EVo_t rfl (T_assign rfl) ?_
   refine EVo_nil (EV_seq (EV_region ?_))
   refine EVo_t rfl (T_move rfl) ?_
   refine EVo_t rfl (T_move rfl) ?_
   refine EVo_t rfl (T_bin rfl rfl rfl) ?_
   refine EVo_t rfl (T_assign rfl) ?_
   refine EVo_nil ?_
   refine EV_region ?_
   refine EVo_t rfl (T_move rfl) ?_
   refine EVo_t rfl (T_move rfl) ?_
   refine EVo_t rfl (T_move rfl) ?_
   refine EVo_t rfl (T_move rfl) ?_
   refine EVo_t rfl (T_indexAddrM (uOk rfl) (zOk rfl) rfl rfl (by omega) (by omega)) ?_
   refine EVo_t rfl (T_loadL (gOk rfl) rfl rfl (by omega) rfl rfl) ?_
   refine EVo_t rfl (T_move rfl) ?_
   refine EVo_t rfl (T_move rfl) ?_
   refine EVo_e rfl ((T_sub64 Tryz.sub64 rfl rfl rfl rfl (by omega) (by omega) (by omega)).does) ?_
   refine EVo_t rfl (T_move rfl) ?_
   refine EVo_t rfl (T_extract rfl rfl) ?_
   refine EVo_t rfl (T_extract rfl rfl) ?_
   refine EVo_t rfl (T_indexAddrM (uOk rfl) (zOk rfl) rfl rfl (by omega) (by omega)) ?_
   refine EVo_e rfl (D_storeL rfl Free_no rfl rfl (zOk rfl) (by omega)) ?_
   refine EVo_t rfl (T_assign rfl) ?_
   refine EVo_nil ?_
   refine EV_region ?_
   refine EVo_t rfl (T_binI rfl rfl rfl (by omega) (by omega)) ?_
   refine EVo_t rfl (T_move rfl) ?_
   refine EVo_nil ?_
   refine ⟨_, ?_, _, W_keep2 [(0, V.c (.msl 900 o n1 c1)), (1, V.c (.d false (encN y))), (5, vi .i64 y.length), (6, vi .u64 g), (7, vi .u64 (_)), (8, vi .u64 (_)), (45, vi .i64 y.length), (46, vi .i64 (_))] [(900, .box (List.map (ci .u64) (_)))] ⟨rfl, rfl, rfl, rfl, rfl, rfl, rfl, rfl, trivial⟩ ⟨rfl, trivial⟩ rfl, _, _, _, _, rfl, rfl, ?_⟩
   ·omega
   ·have e2 : (i + 1).toNat = i.toNat + 1 := by omega
    have ei : (i.toNat : Int) = i := by omega
    simp only [Nat.mul_one]
    rw [e2]
    refine ⟨by omega, ?_⟩
    exact ms_next hk h2 hky h1 hw (by omega) hg.1 hg.2 hb.1 hb.2 hc.1 hc.2 h3 h4 h5 _ _ _ _ _ _ _ rfl (by rw [ei]) rfl rfl rfl rfl rfl
  ·try simp only [z1, z2, z3, z4, z5, z6, z7, z8, z9, y1, y2, y3] at hb2
   have e9 : i.toNat = y.length := by omega
   rw [e9] at h4 h5
   have e0 : ((y.length : Int)).toNat = y.length := by omega
   have r2 := okL_at h2 (o + (y.length : Int).toNat * 1)
   have hT := ms_top hk h2 h1 hw hb.1 hb.2 hc.1 hc.2 h3 h4 h5 _ _ _ rfl rfl rfl
   refine EV_exit ?_
   refine EV_seq (EV_region ?_)
   refine EVo_t rfl (T_move rfl) ?_
   refine EVo_t rfl (T_move rfl) ?_
   refine EVo_t rfl (T_move rfl) ?_
   refine EVo_t rfl (T_move rfl) ?_
   refine EVo_t rfl (T_indexAddrM (uOk rfl) (zOk rfl) rfl rfl (by omega) (by omega)) ?_
   refine EVo_t rfl (T_loadL (gOk rfl) rfl rfl (by omega) rfl rfl) ?_
   refine EVo_t rfl (T_move rfl) ?_
   refine EVo_t rfl (T_move rfl) ?_
   refine EVo_e rfl ((T_sub64 Tryz.sub64 rfl rfl rfl rfl (by omega) (by omega) (by omega)).does) ?_
   refine EVo_t rfl (T_move rfl) ?_
   refine EVo_t rfl (T_extract rfl rfl) ?_
   refine EVo_t rfl (T_extract rfl rfl) ?_
   refine EVo_t rfl (T_indexAddrM (uOk rfl) (zOk rfl) rfl rfl (by omega) (by omega)) ?_
   refine EVo_e rfl (D_storeL rfl Free_no rfl rfl (zOk rfl) (by omega)) ?_
   refine EVo_t rfl (T_assign rfl) ?_
   refine EVo_nil ?_
   refine EV_seq ?_
   refine EV_block ?_
   simp only [Nat.mul_one, e0]
   refine EV_weak (W_keep2 [(0, V.c (.msl 900 o n1 c1)), (1, V.c (.d false (encN y))), (5, vi .i64 y.length), (6, vi .u64 (g)), (7, vi .u64 (_))] [(900, .box (List.map (ci .u64) (_)))] ⟨rfl, rfl, rfl, rfl, rfl, trivial⟩ ⟨rfl, trivial⟩ rfl) ?_
   refine EV_loop (fun mm S => ∃ g : Int, ∃ b : Int, ∃ X1 : List Int, mm = g.toNat ∧ S = St.of [(0, V.c (.msl 900 o n1 c1)), (1, V.c (.d false (encN y))), (5, vi .i64 y.length), (6, vi .u64 g), (7, vi .u64 b)] (tabO [(900, .box (List.map (ci .u64) X1))]) 135 ∧ (0 ≤ g ∧ g < 18446744073709551616) ∧ (win X o (y.length + 1) < (g.toNat + 1) * val y) ∧ (0 ≤ b ∧ b ≤ 1) ∧ X1.length = X.length ∧ okL X1 ∧ X1.take o = X.take o ∧ X1.drop (o + (y.length + 1)) = X.drop (o + (y.length + 1)) ∧ (win X1 o (y.length + 1) : Int) + g * (val y : Int) = (win X o (y.length + 1) : Int) + 18446744073709551616 ^ (y.length + 1) * b) _ ⟨g, _, _, rfl, rfl, ⟨hg, hgV, hT⟩⟩ ?_
   rintro mm S ⟨g, b, X1, rfl, rfl, ⟨hg, hgV, hb, h1, h2, h3, h4, h5⟩⟩
   refine EV_seq ?_
   refine EV_seq (EV_region ?_)
   refine EVo_t rfl (T_move rfl) ?_
   refine EVo_t rfl (T_bin rfl rfl rfl) ?_
   refine EVo_nil ?_
   refine EV_cond rfl rfl rfl (fun hb3 => ?_) (fun hb3 => ?_)
   ·try simp only [z1, z2, z3, z4, z5, z6, z7, z8, z9, y1, y2, y3] at hb3
    have hb1 : b = 1 := by omega
    have hgp : 1 ≤ g := step_pos hg.1 hb1 (win_lt h2 o (y.length + 1)) h5
    have eg : IntKind.u64.wrap (g - 1) = g - 1 := u64_in (by omega) (by omega)
    refine EV_skip ?_
    refine EV_block ?_
    refine EV_seq (EV_region ?_)
    refine EVo_t rfl (T_move rfl) ?_
    refine EVo_t rfl (T_bin rfl rfl rfl) ?_
    refine EVo_t rfl (T_assign rfl) ?_
    refine EVo_nil (EV_seq (EV_region ?_))
    refine EVo_t rfl (T_assign rfl) ?_
    refine EVo_nil ?_
    refine EV_seq ?_
    refine EV_seq (EV_region ?_)
    refine EVo_t rfl (T_move rfl) ?_
    refine EVo_t rfl (T_move rfl) ?_
    refine EVo_nil ?_
    refine EV_block ?_
    refine EV_weak (W_keep2 [(0, V.c (.msl 900 o n1 c1)), (1, V.c (.d false (encN y))), (5, vi .i64 y.length), (6, vi .u64 (IntKind.u64.wrap (g - 1))), (7, vi .u64 b), (13, vi .u64 (0)), (98, vi .i64 y.length), (99, vi .i64 (0))] [(900, .box (List.map (ci .u64) (X1)))] ⟨rfl, rfl, rfl, rfl, rfl, rfl, rfl, rfl, trivial⟩ ⟨rfl, trivial⟩ rfl) ?_
    refine EV_loop (fun mm S => ∃ i : Int, ∃ c : Int, ∃ X2 : List Int, mm = ((y.length : Int) - i).toNat ∧ S = St.of [(0, V.c (.msl 900 o n1 c1)), (1, V.c (.d false (encN y))), (5, vi .i64 y.length), (6, vi .u64 (IntKind.u64.wrap (g - 1))), (7, vi .u64 b), (13, vi .u64 c), (98, vi .i64 y.length), (99, vi .i64 i)] (tabO [(900, .box (List.map (ci .u64) X2))]) 135 ∧ (0 ≤ i ∧ i ≤ y.length) ∧ (0 ≤ c ∧ c ≤ 1) ∧ X2.length = X1.length ∧ okL X2 ∧ X2.take o = X1.take o ∧ X2.drop (o + i.toNat) = X1.drop (o + i.toNat) ∧ (win X2 o i.toNat : Int) + 18446744073709551616 ^ i.toNat * c = (win X1 o i.toNat : Int) + (val (y.take i.toNat) : Int)) _ ⟨0, 0, X1, rfl, rfl, ⟨by omega, by omega, rfl, h2, rfl, rfl, by simp [win_zero, val]⟩⟩ ?_
    rintro mm S ⟨i, c, X2, rfl, rfl, ⟨k0, kc, k1, k2, k3, k4, k5⟩⟩
    refine EV_seq (EV_region ?_)
    refine EVo_t rfl (T_bin rfl rfl rfl) ?_
    refine EVo_nil ?_
    refine EV_seq ?_
    refine EV_cond rfl rfl rfl (fun hb4 => ?_) (fun hb4 => ?_)
    ·try simp only [z1, z2, z3, z4, z5, z6, z7, z8, z9, y1, y2, y3] at hb4
     have r1 := okL_rd hky i
     have r2 := okL_at k2 (o + i.toNat * 1)
     refine EV_skip ?_
     refine EV_seq ?_
     refine EV_block ?_
     refine EV_seq (EV_region ?_)
     refine EVo_t rfl (T_move rfl) ?_
     refine EVo_t rfl (T_assign rfl) ?_
     refine EVo_nil ?_
     refine EV_draw (inX []) (.st 0 (.st 1 (.st 2 (.st 3 (.st 4 (.st 6 (.st 7 (.st 8 (.st 9 (.st 10 (.one 5 (.one 11 (.st 12 (.st 13 (.st 14 (.st 15 (.one 16 (.st 17 .done)))))))))))))))))) Tryz.mixed (by kernel_rfl) ?_
     refine EVq_t rfl rfl (T_move rfl) ?_
     refine EVq_t rfl rfl (T_move rfl) ?_
     refine EVq_t rfl rfl (T_move rfl) ?_
     refine EVq_t rfl rfl (T_move rfl) ?_
     refine EVq_t rfl rfl (T_indexAddrM (uOk rfl) (zOk rfl) rfl rfl (by omega) (by omega)) ?_
     refine EVq_t rfl rfl (T_move rfl) ?_
     refine EVq_t rfl rfl (T_move rfl) ?_
     refine EVq_t rfl rfl (T_ixL (uOk rfl) (zOk rfl) rfl rfl (by omega) (by omega) rfl) ?_
     refine EVq_t rfl rfl (T_load (gOk rfl) rfl) ?_
     refine EVq_t rfl rfl (T_move rfl) ?_
     refine EVq_e rfl rfl ((T_loadL (gOk rfl) rfl rfl (by omega) rfl rfl).now) ?_
     refine EVq_e rfl rfl ((T_add64 Tryz.add64 rfl rfl rfl rfl (by omega) (by omega) (by omega)).does) ?_
     refine EVq_t rfl rfl (T_move rfl) ?_
     refine EVq_t rfl rfl (T_extract rfl rfl) ?_
     refine EVq_t rfl rfl (T_extract rfl rfl) ?_
     refine EVq_t rfl rfl (T_indexAddrM (uOk rfl) (zOk rfl) rfl rfl (by omega) (by omega)) ?_
     refine EVq_e rfl rfl (D_storeL rfl (Free_in rfl) rfl rfl (zOk rfl) (by omega)) ?_
     refine EVq_t rfl rfl (T_assign rfl) ?_
     refine EVq_done ?_
     refine EV_region ?_
     refine EVo_t rfl (T_binI rfl rfl rfl (by omega) (by omega)) ?_
     refine EVo_t rfl (T_move rfl) ?_
     refine EVo_nil ?_
     refine ⟨_, ?_, _, W_keep2 [(0, V.c (.msl 900 o n1 c1)), (1, V.c (.d false (encN y))), (5, vi .i64 y.length), (6, vi .u64 (IntKind.u64.wrap (g - 1))), (7, vi .u64 b), (13, vi .u64 (_)), (98, vi .i64 y.length), (99, vi .i64 (_))] [(900, .box (List.map (ci .u64) (_)))] ⟨rfl, rfl, rfl, rfl, rfl, rfl, rfl, rfl, trivial⟩ ⟨rfl, trivial⟩ rfl, _, _, _, rfl, rfl, ?_⟩
     ·omega
     ·have e2 : (i + 1).toNat = i.toNat + 1 := by omega
      have ei : (i.toNat : Int) = i := by omega
      simp only [Nat.mul_one]
      rw [e2]
      refine ⟨by omega, ?_⟩
      exact ad_next h2 k2 hky k1 (by omega) (by omega) kc.1 kc.2 k3 k4 k5 _ _ _ _ rfl (by rw [ei]) rfl rfl
    ·try simp only [z1, z2, z3, z4, z5, z6, z7, z8, z9, y1, y2, y3] at hb4
     have e9 : i.toNat = y.length := by omega
     rw [e9] at k4 k5
     have e0 : ((y.length : Int)).toNat = y.length := by omega
     have r2 := okL_at k2 (o + (y.length : Int).toNat * 1)
     have hA := ad_next h2 k2 hky k1 (by omega) (Nat.le_refl _) kc.1 kc.2 k3 k4 (by rw [k5]) _ _ _ _ rfl (show (0 : Int) = rd y (y.length : Int) from (rd_ge (Nat.le_refl _)).symm) rfl rfl
     rw [List.take_of_length_le (Nat.le_succ y.length)] at hA
     refine EV_exit ?_
     refine EV_seq (EV_region ?_)
     refine EVo_t rfl (T_move rfl) ?_
     refine EVo_t rfl (T_move rfl) ?_
     refine EVo_t rfl (T_move rfl) ?_
     refine EVo_t rfl (T_move rfl) ?_
     refine EVo_t rfl (T_indexAddrM (uOk rfl) (zOk rfl) rfl rfl (by omega) (by omega)) ?_
     refine EVo_t rfl (T_loadL (gOk rfl) rfl rfl (by omega) rfl rfl) ?_
     refine EVo_t rfl (T_move rfl) ?_
     refine EVo_e rfl ((T_add64 Tryz.add64 rfl rfl rfl rfl (by omega) (by omega) (by omega)).does) ?_
     refine EVo_t rfl (T_move rfl) ?_
     refine EVo_t rfl (T_extract rfl rfl) ?_
     refine EVo_t rfl (T_extract rfl rfl) ?_
     refine EVo_t rfl (T_indexAddrM (uOk rfl) (zOk rfl) rfl rfl (by omega) (by omega)) ?_
     refine EVo_e rfl (D_storeL rfl Free_no rfl rfl (zOk rfl) (by omega)) ?_
     refine EVo_t rfl (T_assign rfl) ?_
     refine EVo_nil ?_
     refine EV_region ?_
     simp only [Nat.mul_one, e0]
     have eb : IntKind.u64.wrap (b - (X2.getD (o + y.length) default + 0 + c) / 18446744073709551616) = b - (X2.getD (o + y.length) default + 0 + c) / 18446744073709551616 := u64_in (by omega) (by omega)
     refine EVo_t rfl (T_move rfl) ?_
     refine EVo_t rfl (T_move rfl) ?_
     refine EVo_t rfl (T_bin rfl rfl rfl) ?_
     refine EVo_t rfl (T_assign rfl) ?_
     refine EVo_nil ?_
     refine ⟨_, ?_, _, W_keep2 [(0, V.c (.msl 900 o n1 c1)), (1, V.c (.d false (encN y))), (5, vi .i64 y.length), (6, vi .u64 (_)), (7, vi .u64 (_))] [(900, .box (List.map (ci .u64) (_)))] ⟨rfl, rfl, rfl, rfl, rfl, trivial⟩ ⟨rfl, trivial⟩ rfl, _, _, _, rfl, rfl, ?_⟩
     ·rw [eg]; omega
     ·rw [eg, eb]
      refine ⟨by omega, ?_, by omega, hA.2.1.trans h1, hA.2.2.1, hA.2.2.2.1.trans h3, hA.2.2.2.2.1.trans h4, back_next (Int.pow_pos (by decide)) h5 hA.2.2.2.2.2⟩
      have e8 : (g - 1).toNat + 1 = g.toNat := by omega
      rw [e8]
      exact step_neg hg.1 hb1 (win_lt h2 o (y.length + 1)) h5
   ·try simp only [z1, z2, z3, z4, z5, z6, z7, z8, z9, y1, y2, y3] at hb3
    have hb0 : b = 0 := by omega
    subst hb0
    refine EV_exit ?_
    refine EV_seq (EV_region ?_)
    refine EVo_t rfl (T_move rfl) ?_
    refine EVo_t rfl (T_assign rfl) ?_
    refine EVo_nil ?_
    refine EV_ret ?_
    have hend := step_fin hg.1 h5 hgV
    have hX1 := setWin_eq h1 h2 hw h3 h4 hend.2
    refine ⟨⟨_, ⟨rfl, rfl⟩, .inl (congrArg (vi .u64) hend.1)⟩, ⟨(congrArg (fun l => some (O.box (List.map (ci .u64) l))) hX1), trivial⟩⟩

end Go.Proofs.YthaiegnohkiegaaGreat.Ab
/-
 Contracts: division, the greatest common divisor.
-/
namespace Go.Proofs.YthaiegnohkiegaaGreat.Ab
set_option linter.unusedVariables false
set_option linter.unusedSimpArgs false
set_option maxRecDepth 20000


theorem nat_stepN (X : List Int) (Y o n1 c1 : Nat) (hn : n1 = (limbs Y).length + 1) (hl : X.length ≤ 17592186044416) (hn1 : 1 ≤ (limbs Y).length) (hw : o + ((limbs Y).length + 1) ≤ X.length) (hk : okL X) (hW : win X o ((limbs Y).length + 1) < 18446744073709551616 * Y) :
  FnS Tryz.prog 187 [.c (.msl 900 o n1 c1), .c (.d false (encN (limbs Y)))] [(900, X.map (ci .u64))] (vi .u64 ((win X o ((limbs Y).length + 1) / Y : Nat) : Int)) [(900, (setWin X o ((limbs Y).length + 1) (win X o ((limbs Y).length + 1) % Y)).map (ci .u64))] := by
 have := nat_step X (limbs Y) o n1 c1 hn hl hn1 hw hk (okL_limbs Y) (by rw [val_limbs]; exact hW)
 rw [val_limbs] at this
 exact this

theorem nat_div (A B : Nat) (hB : B ≠ 0) (hA : (limbs A).length ≤ 8796093022208) (hBl : (limbs B).length ≤ 8796093022208) : Fn Tryz.prog 161 [.d (encN (limbs A)), .d (encN (limbs B))] false (.tup [.d (encN (limbs (A / B))), .d (encN (limbs (A % B)))]) := by
 have hBp := (limbs_len_pos B).2 hB
 refine Fn_of_EV Tryz.func161 rfl (by kernel_rfl) rfl rfl (fun E hE => ?_)
 refine EV_seq (EV_region ?_)
 refine EVo_t rfl (T_assign rfl) ?_
 refine EVo_t rfl (T_assign rfl) ?_
 refine EVo_nil ?_
 refine EV_seq ?_
 refine EV_seq (EV_region ?_)
 refine EVo_t rfl (T_move rfl) ?_
 refine EVo_t rfl (T_move rfl) ?_
 refine EVo_e rfl (D_call false (nat_cmp0 _ _ (by omega) (by omega)) rfl (fit_cons (fit_d rfl nofun) (fit_cons (fit_d rfl nofun) (fit_nil)))) ?_
 refine EVo_t rfl (T_bin rfl rfl rfl) ?_
 refine EVo_nil ?_
 refine EV_cond rfl rfl rfl (fun hb1 => ?_) (fun hb1 => ?_)
 ·try simp only [z1, z2, z3, z4, z5, z6, z7, z8, z9, y1, y2, y3] at hb1
  have hlt := (cmpN_neg A B).1 hb1
  refine EV_seq (EV_region ?_)
  refine EVo_t rfl (T_move rfl) ?_
  refine EVo_e rfl (D_call false ((nat_cloneM _ (by omega)).toFn.loose) rfl (fit_cons (fit_d rfl nofun) (fit_nil))) ?_
  refine EVo_t rfl (T_assign rfl) ?_
  refine EVo_t rfl (T_assign rfl) ?_
  refine EVo_nil ?_
  refine EV_ret ?_
  refine ⟨_, _, ⟨rfl, rfl⟩, ⟨rfl, rfl⟩, fit_eq rfl nofun ?_, fit_eq rfl nofun ?_⟩
  ·rw [Nat.div_eq_of_lt hlt]; rfl
  ·rw [Nat.mod_eq_of_lt hlt]
 ·try simp only [z1, z2, z3, z4, z5, z6, z7, z8, z9, y1, y2, y3] at hb1
  have hge : B ≤ A := by have := mt (cmpN_neg A B).2 (by omega); omega
  refine EV_skip ?_
  refine EV_seq ?_
  refine EV_seq (EV_region ?_)
  refine EVo_t rfl (T_move rfl) ?_
  refine EVo_t rfl (T_lenL (uOk rfl) rfl) ?_
  refine EVo_t rfl (T_bin rfl rfl rfl) ?_
  refine EVo_nil ?_
  refine EV_cond rfl rfl rfl (fun hb2 => ?_) (fun hb2 => ?_)
  ·try simp only [z1, z2, z3, z4, z5, z6, z7, z8, z9, y1, y2, y3] at hb2
   have hone := one_limb hb2
   refine EV_seq (EV_region ?_)
   refine EVo_t rfl (T_move rfl) ?_
   refine EVo_t rfl (T_move rfl) ?_
   refine EVo_t rfl (T_ixL (uOk rfl) (zOk rfl) rfl rfl (by omega) (by omega) rfl) ?_
   refine EVo_t rfl (T_load (gOk rfl) rfl) ?_
   refine EVo_e rfl (D_call false (nat_divWord _ _ (by omega) (okL_limbs _) (by omega) (by omega)) rfl (fit_cons (fit_d rfl nofun) (fit_cons (fit_d rfl nofun) (fit_nil)))) ?_
   refine EVo_t rfl (T_move rfl) ?_
   refine EVo_t rfl (T_extract rfl rfl) ?_
   refine EVo_t rfl (T_extract rfl rfl) ?_
   refine EVo_t rfl (T_assign rfl) ?_
   refine EVo_t rfl (T_assign rfl) ?_
   refine EVo_nil (EV_seq (EV_region ?_))
   refine EVo_t rfl (T_move rfl) ?_
   refine EVo_t rfl (T_move rfl) ?_
   have hm := Nat.mod_lt (val (limbs A)) (show 0 < (rd (limbs B) 0).toNat by omega)
   refine EVo_e rfl (D_call false (nat_from _ (by omega) (by omega)) rfl (fit_cons (fit_d rfl nofun) (fit_nil))) ?_
   refine EVo_t rfl (T_assign rfl) ?_
   refine EVo_t rfl (T_assign rfl) ?_
   refine EVo_nil ?_
   refine EV_ret ?_
   refine ⟨_, _, ⟨rfl, rfl⟩, ⟨rfl, rfl⟩, fit_eq rfl nofun ?_, fit_eq rfl nofun ?_⟩
   ·rw [hone.2.1, val_limbs, Int.toNat_natCast]
   ·rw [Int.toNat_natCast, hone.2.1, val_limbs, Int.toNat_natCast]
  ·try simp only [z1, z2, z3, z4, z5, z6, z7, z8, z9, y1, y2, y3] at hb2
   refine EV_skip ?_
   refine EV_seq (EV_region ?_)
   refine EVo_t rfl (T_move rfl) ?_
   refine EVo_t rfl (T_move rfl) ?_
   refine EVo_t rfl (T_lenL (uOk rfl) rfl) ?_
   refine EVo_t rfl (T_binI rfl rfl rfl (by omega) (by omega)) ?_
   refine EVo_t rfl (T_ixL (uOk rfl) (zOk rfl) rfl rfl (by omega) (by omega) rfl) ?_
   refine EVo_t rfl (T_load (gOk rfl) rfl) ?_
   have ht := top_limb hB
   have hz := lz_bounds ht.1 ht.2
   refine EVo_e rfl (D_call false (bits_LeadingZeros64 _ (by omega) (by omega)) rfl (fit_cons (fit_d rfl nofun) (fit_nil))) ?_
   refine EVo_t rfl (T_assign rfl) ?_
   refine EVo_nil ?_
   refine EV_seq ?_
   refine EV_cut (fun S => ∃ s : Int, S = St.of [(0, V.c (.d false (encN (limbs A)))), (1, V.c (.d false (encN (limbs B)))), (8, vi .i64 s)] (tabO []) 97 ∧ 0 ≤ s ∧ s ≤ 63) ⟨_, W_keep2 [(0, V.c (.d false (encN (limbs A)))), (1, V.c (.d false (encN (limbs B)))), (8, vi .i64 (_))] [] ⟨rfl, rfl, rfl, trivial⟩ trivial rfl, _, rfl, ?_⟩ ?_
   ·exact ⟨hz.1, hz.2.1⟩
   rintro S ⟨s, rfl, ⟨hs0, hs1⟩⟩
   have hLA := limbs_shl_len A s.toNat (by omega)
   have hLB := limbs_shl_len B s.toNat (by omega)
   have hpp : 0 < 2 ^ s.toNat := Nat.pow_pos (by decide)
   have hLm := limbs_mono (show A ≤ A * 2 ^ s.toNat from Nat.le_mul_of_pos_right _ hpp)
   have hYA : (limbs (B * 2 ^ s.toNat)).length ≤ (limbs (A * 2 ^ s.toNat)).length := limbs_mono (Nat.mul_le_mul_right _ hge)
   have hY0 : B * 2 ^ s.toNat ≠ 0 := Nat.mul_ne_zero hB (by omega)
   have hYp := (limbs_len_pos _).2 hY0
   have hYpos := Nat.pos_of_ne_zero hY0
   refine EV_region ?_
   refine EVo_t rfl (T_move rfl) ?_
   refine EVo_t rfl (T_move rfl) ?_
   refine EVo_e rfl (D_call false (nat_leftN _ _ (by omega) (by omega) (by omega)) rfl (fit_cons (fit_d rfl nofun) (fit_cons (fit_d rfl nofun) (fit_nil)))) ?_
   refine EVo_t rfl (T_assign rfl) ?_
   refine EVo_nil (EV_seq (EV_region ?_))
   refine EVo_t rfl (T_move rfl) ?_
   refine EVo_t rfl (T_move rfl) ?_
   refine EVo_e rfl (D_call false (nat_leftNX _ _ (by omega) (by omega) (by omega)) rfl (fit_cons (fit_d rfl nofun) (fit_cons (fit_d rfl nofun) (fit_nil)))) ?_
   refine EVo_e rfl (D_buildSlice (uOk rfl) bz58 rfl rfl rfl (by simp)) ?_
   refine EVo_e rfl (D_appendX 1 (hE 1 rfl) Free_no (uOk rfl) ap58 rfl rfl (by omega) (by omega)) ?_
   refine EVo_t rfl (T_assign rfl) ?_
   refine EVo_nil ?_
   refine EV_seq ?_
   refine EV_block ?_
   refine EV_weak (W_keep2 [(0, V.c (.d false (encN (limbs A)))), (8, vi .i64 s), (9, V.c (.d false (encN (limbs (B * 2 ^ s.toNat))))), (10, V.c (.msl 1 0 ((limbs (A * 2 ^ s.toNat)).length + 1) ((limbs (A * 2 ^ s.toNat)).length + 1)))] [(1, .box (List.map (ci .u64) (limbs (A * 2 ^ s.toNat) ++ [0])))] ⟨rfl, rfl, rfl, rfl, trivial⟩ ⟨rfl, trivial⟩ rfl) ?_
   refine EV_loop (fun mm S => mm = 0 ∧ S = St.of [(0, V.c (.d false (encN (limbs A)))), (8, vi .i64 s), (9, V.c (.d false (encN (limbs (B * 2 ^ s.toNat))))), (10, V.c (.msl 1 0 ((limbs (A * 2 ^ s.toNat)).length + 1) ((limbs (A * 2 ^ s.toNat)).length + 1)))] (tabO [(1, .box (List.map (ci .u64) (limbs (A * 2 ^ s.toNat) ++ [0])))]) 97 ∧ True) _ ⟨rfl, rfl, trivial⟩ ?_
   rintro mm S ⟨rfl, rfl, _⟩
   refine EV_seq ?_
   refine EV_seq (EV_region ?_)
   refine EVo_t rfl (T_move rfl) ?_
   refine EVo_t rfl (T_lenM (uOk rfl) rfl) ?_
   refine EVo_t rfl (T_move rfl) ?_
   refine EVo_t rfl (T_lenL (uOk rfl) rfl) ?_
   refine EVo_t rfl (T_bin rfl rfl rfl) ?_
   refine EVo_nil ?_
   refine EV_cond rfl rfl rfl (fun hb3 => ?_) (fun hb3 => ?_)
   ·try simp only [z1, z2, z3, z4, z5, z6, z7, z8, z9, y1, y2, y3] at hb3
    exfalso; omega
   ·try simp only [z1, z2, z3, z4, z5, z6, z7, z8, z9, y1, y2, y3] at hb3
    refine EV_exit ?_
    refine EV_seq (EV_region ?_)
    refine EVo_t rfl (T_move rfl) ?_
    refine EVo_t rfl (T_lenM (uOk rfl) rfl) ?_
    refine EVo_t rfl (T_move rfl) ?_
    refine EVo_t rfl (T_lenL (uOk rfl) rfl) ?_
    refine EVo_t rfl (T_binI rfl rfl rfl (by omega) (by omega)) ?_
    refine EVo_e rfl (D_makeL 2 (hE 2 rfl) Free_no (uOk rfl) ap58 rfl (by omega) (by omega) (by omega)) ?_
    refine EVo_t rfl (T_assign rfl) ?_
    refine EVo_nil ?_
    refine EV_seq ?_
    refine EV_seq (EV_region ?_)
    refine EVo_t rfl (T_move rfl) ?_
    refine EVo_t rfl (T_lenM (uOk rfl) rfl) ?_
    refine EVo_t rfl (T_binI rfl rfl rfl (by omega) (by omega)) ?_
    refine EVo_t rfl (T_assign rfl) ?_
    refine EVo_nil ?_
    refine EV_block ?_
    have eQ : ∀ k : Nat, (((k : Int) - 1) + 1).toNat = k := fun k => by omega
    have hx0 : okL (limbs (A * 2 ^ s.toNat) ++ [0]) := okL_append.2 ⟨okL_limbs _, by intro y hy; simp at hy; subst hy; omega⟩
    refine EV_weak (W_keep2 [(4, V.c (.msl 2 0 (_) (_))), (8, vi .i64 s), (9, V.c (.d false (encN (limbs (B * 2 ^ s.toNat))))), (10, V.c (.msl 1 0 ((limbs (A * 2 ^ s.toNat)).length + 1) ((limbs (A * 2 ^ s.toNat)).length + 1))), (11, vi .i64 (_))] [(1, .box (List.map (ci .u64) (_))), (2, .box (List.map (ci .u64) (_)))] ⟨rfl, rfl, rfl, rfl, rfl, trivial⟩ ⟨(congrArg (fun l => some (O.box l)) (killL_map (ci .u64) 2 (ci_kill 2 .u64) _)), rfl, trivial⟩ rfl) ?_
    refine EV_loop (fun mm S => ∃ Q : Nat, ∃ i : Int, ∃ X : List Int, ∃ q : List Int, mm = (i + 1).toNat ∧ S = St.of [(4, V.c (.msl 2 0 Q Q)), (8, vi .i64 s), (9, V.c (.d false (encN (limbs (B * 2 ^ s.toNat))))), (10, V.c (.msl 1 0 ((limbs (A * 2 ^ s.toNat)).length + 1) ((limbs (A * 2 ^ s.toNat)).length + 1))), (11, vi .i64 i)] (tabO [(1, .box (List.map (ci .u64) X)), (2, .box (List.map (ci .u64) q))]) 97 ∧ Q + (limbs (B * 2 ^ s.toNat)).length = (limbs (A * 2 ^ s.toNat)).length + 1 ∧ (-1 ≤ i ∧ i < Q) ∧ X.length = (limbs (A * 2 ^ s.toNat)).length + 1 ∧ q.length = Q ∧ okL X ∧ okL q ∧ X.take (i + 1).toNat = (limbs (A * 2 ^ s.toNat) ++ [0]).take (i + 1).toNat ∧ val ((limbs (A * 2 ^ s.toNat) ++ [0]).drop (i + 1).toNat) = (B * 2 ^ s.toNat) * val (q.drop (i + 1).toNat) + val (X.drop (i + 1).toNat) ∧ val (X.drop (i + 1).toNat) < (B * 2 ^ s.toNat)) _ ⟨_, _, _, _, rfl, rfl, ⟨by omega, by omega, by simp, by simp, hx0, okL_rep _, rfl, by rw [eQ]; exact (long_start hY0 (by omega)).1, by rw [eQ]; exact (long_start hY0 (by omega)).2⟩⟩ ?_
    rintro mm S ⟨Q, i, X, q, rfl, rfl, ⟨k1, k2, k3, k4, k5, k6, k7, k8, k9⟩⟩
    refine EV_seq ?_
    refine EV_seq (EV_region ?_)
    refine EVo_t rfl (T_move rfl) ?_
    refine EVo_t rfl (T_bin rfl rfl rfl) ?_
    refine EVo_nil ?_
    refine EV_cond rfl rfl rfl (fun hb4 => ?_) (fun hb4 => ?_)
    ·try simp only [z1, z2, z3, z4, z5, z6, z7, z8, z9, y1, y2, y3] at hb4
     have e2 : (i + 1).toNat = i.toNat + 1 := by omega
     have e0 : 0 + i.toNat * 1 = i.toNat := by omega
     rw [e2] at k7 k8 k9
     have hR := long_next (m := (limbs (B * 2 ^ s.toNat)).length) k5 hYpos (limbs_lt _) (by omega) (by simp; omega) (by omega) k7 k8 k9
     refine EV_skip ?_
     refine EV_seq ?_
     refine EV_block ?_
     refine EV_region ?_
     refine EVo_t rfl (T_move rfl) ?_
     refine EVo_t rfl (T_move rfl) ?_
     refine EVo_t rfl (T_move rfl) ?_
     refine EVo_t rfl (T_move rfl) ?_
     refine EVo_t rfl (T_move rfl) ?_
     refine EVo_t rfl (T_move rfl) ?_
     refine EVo_t rfl (T_lenL (uOk rfl) rfl) ?_
     refine EVo_t rfl (T_binI rfl rfl rfl (by omega) (by omega)) ?_
     refine EVo_t rfl (T_binI rfl rfl rfl (by omega) (by omega)) ?_
     refine EVo_t rfl (T_move rfl) ?_
     refine EVo_t rfl (T_move rfl) ?_
     refine EVo_t rfl (T_lenL (uOk rfl) rfl) ?_
     refine EVo_t rfl (T_binI rfl rfl rfl (by omega) (by omega)) ?_
     refine EVo_t rfl (T_binI rfl rfl rfl (by omega) (by omega)) ?_
     refine EVo_t rfl (T_sliceM (uOk rfl) (zOk rfl) rfl rfl rfl (.inr ⟨rfl, rfl, rfl⟩) (by omega) (by omega) (by omega) (by omega) (by omega) (by omega)) ?_
     refine EVo_t rfl (T_move rfl) ?_
     refine EVo_e rfl (D_callS1 1 Free_no (nat_stepN _ _ _ _ _ (by omega) (by omega) (by omega) (by omega) (by assumption) (by rw [e0]; exact hR.1)) rfl rfl rfl (by intro e; subst e; simp at k3) (by intro e; have := congrArg List.length e; rw [e0, hR.2.1, k3] at this; simp at this)) ?_
     refine EVo_t rfl (T_indexAddrM (uOk rfl) (zOk rfl) rfl rfl (by omega) (by omega)) ?_
     refine EVo_e rfl (D_storeL rfl Free_no rfl rfl (zOk rfl) (by omega)) ?_
     refine EVo_nil ?_
     refine EV_region ?_
     refine EVo_t rfl (T_move rfl) ?_
     refine EVo_t rfl (T_binI rfl rfl rfl (by omega) (by omega)) ?_
     refine EVo_t rfl (T_assign rfl) ?_
     refine EVo_nil ?_
     refine ⟨_, ?_, _, W_keep2 [(4, V.c (.msl 2 0 (_) (_))), (8, vi .i64 s), (9, V.c (.d false (encN (limbs (B * 2 ^ s.toNat))))), (10, V.c (.msl 1 0 ((limbs (A * 2 ^ s.toNat)).length + 1) ((limbs (A * 2 ^ s.toNat)).length + 1))), (11, vi .i64 (_))] [(1, .box (List.map (ci .u64) (_))), (2, .box (List.map (ci .u64) (_)))] ⟨rfl, rfl, rfl, rfl, rfl, trivial⟩ ⟨rfl, rfl, trivial⟩ rfl, _, _, _, _, rfl, rfl, ?_⟩
     ·omega
     ·simp only [e0]
      have e1 : (i - 1 + 1).toNat = i.toNat := by omega
      rw [e1]
      exact ⟨k1, by omega, hR.2.1.trans k3, by simpa using k4, hR.2.2.1, okL_set k6 _ hR.2.2.2.2.2.2, hR.2.2.2.1, hR.2.2.2.2.1, hR.2.2.2.2.2.1⟩
    ·try simp only [z1, z2, z3, z4, z5, z6, z7, z8, z9, y1, y2, y3] at hb4
     have e9 : (i + 1).toNat = 0 := by omega
     rw [e9] at k8 k9
     simp only [List.drop_zero] at k8 k9
     rw [val_app0, val_limbs] at k8
     have hend := long_end hpp (by omega) k8 k9
     refine EV_exit ?_
     refine EV_seq ?_
     refine EV_weak (W_freezeL 4 2 _ _ _ (hE 2 rfl) rfl rfl rfl (by omega) (Nat.le_refl _)) ?_
     refine EV_weak (W_freezeL 10 1 _ _ _ (hE 1 rfl) rfl rfl (congrArg (fun l => some (O.box l)) (killL_map (ci .u64) 2 (ci_kill 2 .u64) X)) (by omega) (Nat.le_refl _)) ?_
     refine EV_cut (fun S => S = St.of [(4, V.c (.d true (encN ((q.drop 0).take Q)))), (8, vi .i64 s), (9, V.c (.d false (encN (limbs (B * 2 ^ s.toNat))))), (10, V.c (.d true (encN ((X.drop 0).take ((limbs (A * 2 ^ s.toNat)).length + 1)))))] (tabO []) 97 ∧ True) ⟨_, W_keep2 [(4, V.c (.d true (encN ((q.drop 0).take Q)))), (8, vi .i64 s), (9, V.c (.d false (encN (limbs (B * 2 ^ s.toNat))))), (10, V.c (.d true (encN ((X.drop 0).take ((limbs (A * 2 ^ s.toNat)).length + 1)))))] [] ⟨rfl, rfl, rfl, rfl, trivial⟩ trivial rfl, rfl, ?_⟩ ?_
     ·trivial
     rintro S ⟨rfl, _⟩
     have hz1 := okL_take (okL_drop k6 0) Q
     have hz2 := okL_take (okL_drop k5 0) ((limbs (A * 2 ^ s.toNat)).length + 1)
     refine EV_draw (inX []) (.st 0 (.st 2 (.st 3 (.st 4 (.st 5 (.st 6 (.st 7 (.st 9 (.one 1 (.one 8 (.one 10 (.st 11 (.st 12 .done))))))))))))) Tryz.mixed (by kernel_rfl) ?_
     refine EVq_t rfl rfl (T_move rfl) ?_
     refine EVq_t rfl rfl (T_move rfl) ?_
     refine EVq_t rfl rfl (T_move rfl) ?_
     refine EVq_t rfl rfl (T_lenL (uOk rfl) rfl) ?_
     refine EVq_t rfl rfl (T_move rfl) ?_
     refine EVq_t rfl rfl (T_lenL (uOk rfl) rfl) ?_
     refine EVq_t rfl rfl (T_slL (uOk rfl) (zOk rfl) rfl (fun _ => rfl) rfl rfl (.inr ⟨rfl, rfl, rfl, (by omega), (by simp; omega)⟩) (by omega) (by omega) (by simp; omega)) ?_
     refine EVq_t rfl rfl (T_move rfl) ?_
     refine EVq_e rfl rfl (D_call false (nat_trim _ (by simp; omega) hz1) rfl (fit_cons (fit_d rfl nofun) (fit_nil))) ?_
     refine EVq_e rfl rfl (D_call false (nat_trim _ (by simp; omega) (okL_take (okL_drop hz2 _) _)) rfl (fit_cons (fit_d rfl nofun) (fit_nil))) ?_
     refine EVq_e rfl rfl (D_call false (nat_right63 _ _ (Nat.le_trans (limbs_val_len (okL_take (okL_drop hz2 _) _)) (by simp; omega)) (okL_limbs _) (by omega) (by omega)) rfl (fit_cons (fit_d rfl nofun) (fit_cons (fit_d rfl nofun) (fit_nil)))) ?_
     refine EVq_t rfl rfl (T_assign rfl) ?_
     refine EVq_t rfl rfl (T_assign rfl) ?_
     refine EVq_done ?_
     refine EV_ret ?_
     refine ⟨_, _, ⟨rfl, rfl⟩, ⟨rfl, rfl⟩, fit_eq rfl nofun ?_, fit_eq rfl nofun ?_⟩
     ·rw [List.drop_zero, List.take_of_length_le (by omega), hend.1]
     ·rw [val_limbs, ← hend.2]
      simp only [List.drop_zero, Int.toNat_zero, Int.toNat_natCast, Nat.sub_zero]
      rw [List.take_of_length_le (show X.length ≤ (limbs (A * 2 ^ s.toNat)).length + 1 by omega), val_take_lt (Nat.lt_trans k9 (limbs_lt _))]

theorem nat_DivModN (A B : Nat) (hB : B ≠ 0) (hA : (limbs A).length ≤ 8796093022208) (hBl : (limbs B).length ≤ 8796093022208) : Fn Tryz.prog 138 [.d (encN (limbs A)), .d (encN (limbs B))] false (.tup [.d (encN (limbs (A / B))), .d (encN (limbs (A % B))), .d (ii 0)]) := by
 have hBp := (limbs_len_pos B).2 hB
 have hg1 := good_limbs A
 have hg2 := good_limbs B
 refine Fn_of_EV Tryz.func138 rfl (by kernel_rfl) rfl rfl (fun E hE => ?_)
 refine EV_seq (EV_region ?_)
 refine EVo_t rfl (T_assign rfl) ?_
 refine EVo_t rfl (T_assign rfl) ?_
 refine EVo_t rfl (T_assign rfl) ?_
 refine EVo_nil ?_
 refine EV_seq ?_
 refine EV_block ?_
 refine EV_seq (EV_region ?_)
 refine EVo_t rfl (T_move rfl) ?_
 refine EVo_e rfl (D_call false (nat_good _ (by omega)) rfl (fit_cons (fit_d rfl nofun) (fit_nil))) ?_
 refine EVo_t rfl (T_un rfl rfl) ?_
 refine EVo_t rfl (T_move rfl) ?_
 refine EVo_case 11 rfl (fun hb1 => ?_) (fun hb1 => ?_)
 ·try simp only [z1, z2, z3, z4, z5, z6, z7, z8, z9, y1, y2, y3] at hb1
  exfalso; simp_all
 ·try simp only [z1, z2, z3, z4, z5, z6, z7, z8, z9, y1, y2, y3] at hb1
  refine EVo_t rfl (T_move rfl) ?_
  refine EVo_e rfl (D_call false (nat_good _ (by omega)) rfl (fit_cons (fit_d rfl nofun) (fit_nil))) ?_
  refine EVo_t rfl (T_un rfl rfl) ?_
  refine EVo_t rfl (T_pick rfl rfl) ?_
  refine EVo_t rfl (T_assign rfl) ?_
  refine EVo_nil ?_
  refine EV_cond rfl rfl rfl (fun hb2 => ?_) (fun hb2 => ?_)
  ·try simp only [z1, z2, z3, z4, z5, z6, z7, z8, z9, y1, y2, y3] at hb2
   exfalso; simp_all
  ·try simp only [z1, z2, z3, z4, z5, z6, z7, z8, z9, y1, y2, y3] at hb2
   refine EV_seq (EV_region ?_)
   refine EVo_t rfl (T_move rfl) ?_
   refine EVo_t rfl (T_lenL (uOk rfl) rfl) ?_
   refine EVo_t rfl (T_bin rfl rfl rfl) ?_
   refine EVo_t rfl (T_assign rfl) ?_
   refine EVo_nil ?_
   refine EV_cond rfl rfl rfl (fun hb3 => ?_) (fun hb3 => ?_)
   ·try simp only [z1, z2, z3, z4, z5, z6, z7, z8, z9, y1, y2, y3] at hb3
    exfalso; omega
   ·try simp only [z1, z2, z3, z4, z5, z6, z7, z8, z9, y1, y2, y3] at hb3
    refine EV_skip ?_
    refine EV_seq (EV_region ?_)
    refine EVo_t rfl (T_move rfl) ?_
    refine EVo_t rfl (T_move rfl) ?_
    refine EVo_e rfl (D_call false (nat_div _ _ (by omega) (by omega) (by omega)) rfl (fit_cons (fit_d rfl nofun) (fit_cons (fit_d rfl nofun) (fit_nil)))) ?_
    refine EVo_t rfl (T_move rfl) ?_
    refine EVo_t rfl (T_extract rfl rfl) ?_
    refine EVo_t rfl (T_extract rfl rfl) ?_
    refine EVo_t rfl (T_assign rfl) ?_
    refine EVo_t rfl (T_assign rfl) ?_
    refine EVo_nil (EV_seq (EV_region ?_))
    refine EVo_t rfl (T_move rfl) ?_
    refine EVo_t rfl (T_move rfl) ?_
    refine EVo_t rfl (T_assign rfl) ?_
    refine EVo_t rfl (T_assign rfl) ?_
    refine EVo_t rfl (T_assign rfl) ?_
    refine EVo_nil ?_
    refine EV_ret ?_
    refine ⟨_, _, _, ⟨rfl, rfl⟩, ⟨rfl, rfl⟩, ⟨rfl, rfl⟩, fit_eq rfl nofun rfl, fit_eq rfl nofun rfl, fit_eq rfl nofun rfl⟩

theorem nat_Gcd (l m : List Int) (hl : l.length ≤ 8796093022208) (hm : m.length ≤ 8796093022208) (hk : okL l) (hkm : okL m) : Fn Tryz.prog 130 [.d (encN l), .d (encN m)] false (.tup [.d (encN (if goodL l && goodL m then limbs (Nat.gcd (val l) (val m)) else [])), .d (ii (if goodL l && goodL m then 0 else 10))]) := by
 refine Fn_of_EV Tryz.func130 rfl (by kernel_rfl) rfl rfl (fun E hE => ?_)
 refine EV_seq (EV_region ?_)
 refine EVo_t rfl (T_assign rfl) ?_
 refine EVo_t rfl (T_assign rfl) ?_
 refine EVo_nil ?_
 refine EV_seq ?_
 refine EV_seq (EV_region ?_)
 refine EVo_t rfl (T_move rfl) ?_
 refine EVo_e rfl (D_call false (nat_good _ (by omega)) rfl (fit_cons (fit_d rfl nofun) (fit_nil))) ?_
 refine EVo_t rfl (T_un rfl rfl) ?_
 refine EVo_t rfl (T_move rfl) ?_
 refine EVo_case 11 rfl (fun hb1 => ?_) (fun hb1 => ?_)
 ·try simp only [z1, z2, z3, z4, z5, z6, z7, z8, z9, y1, y2, y3] at hb1
  refine EVo_off rfl rfl ?_
  refine EVo_off rfl rfl ?_
  refine EVo_off rfl rfl ?_
  refine EVo_t rfl (T_pick rfl rfl) ?_
  refine EVo_nil ?_
  refine EV_cond rfl rfl rfl (fun _ => ?_) (fun h => by cases h)
  refine EV_seq (EV_region ?_)
  refine EVo_t rfl (T_assign rfl) ?_
  refine EVo_t rfl (T_assign rfl) ?_
  refine EVo_nil ?_
  refine EV_ret ?_
  refine ⟨_, _, ⟨rfl, rfl⟩, ⟨rfl, rfl⟩, fit_eq rfl nofun ?_, fit_eq rfl nofun ?_⟩
  ·simp [hb1]
  ·simp [hb1]
 ·try simp only [z1, z2, z3, z4, z5, z6, z7, z8, z9, y1, y2, y3] at hb1
  refine EVo_t rfl (T_move rfl) ?_
  refine EVo_e rfl (D_call false (nat_good _ (by omega)) rfl (fit_cons (fit_d rfl nofun) (fit_nil))) ?_
  refine EVo_t rfl (T_un rfl rfl) ?_
  refine EVo_t rfl (T_pick rfl rfl) ?_
  refine EVo_nil ?_
  refine EV_cond rfl rfl rfl (fun hb2 => ?_) (fun hb2 => ?_)
  ·try simp only [z1, z2, z3, z4, z5, z6, z7, z8, z9, y1, y2, y3] at hb2
   refine EV_seq (EV_region ?_)
   refine EVo_t rfl (T_assign rfl) ?_
   refine EVo_t rfl (T_assign rfl) ?_
   refine EVo_nil ?_
   refine EV_ret ?_
   refine ⟨_, _, ⟨rfl, rfl⟩, ⟨rfl, rfl⟩, fit_eq rfl nofun ?_, fit_eq rfl nofun ?_⟩
   ·simp [hb1, hb2]
   ·simp [hb1, hb2]
  ·try simp only [z1, z2, z3, z4, z5, z6, z7, z8, z9, y1, y2, y3] at hb2
   refine EV_skip ?_
   refine EV_seq (EV_region ?_)
   refine EVo_t rfl (T_move rfl) ?_
   refine EVo_e rfl (D_call false ((nat_cloneM _ (by omega)).toFn.loose) rfl (fit_cons (fit_d rfl nofun) (fit_nil))) ?_
   refine EVo_t rfl (T_move rfl) ?_
   refine EVo_e rfl (D_call false ((nat_cloneM _ (by omega)).toFn.loose) rfl (fit_cons (fit_d rfl nofun) (fit_nil))) ?_
   refine EVo_t rfl (T_assign rfl) ?_
   refine EVo_t rfl (T_assign rfl) ?_
   refine EVo_nil ?_
   refine EV_seq ?_
   refine EV_block ?_
   have gl : goodL l = true := by simp_all
   have gm : goodL m = true := by simp_all
   refine EV_weak (W_keep2 [(0, V.c (.d false (encN (limbs (val l))))), (1, V.c (.d false (encN (limbs (val m)))))] [] ⟨(by show V.c (.d false (encN l)) = _; rw [limbs_val hk gl]), (by show V.c (.d false (encN m)) = _; rw [limbs_val hkm gm]), trivial⟩ trivial rfl) ?_
   refine EV_loop (fun mm S => ∃ a : Nat, ∃ b : Nat, mm = 0 + b ∧ S = St.of [(0, V.c (.d false (encN (limbs a)))), (1, V.c (.d false (encN (limbs b))))] (tabO []) 32 ∧ Nat.gcd a b = Nat.gcd (val l) (val m) ∧ (limbs a).length ≤ 8796093022208 ∧ (limbs b).length ≤ 8796093022208) _ ⟨val l, val m, rfl, rfl, ⟨rfl, by rw [limbs_val hk gl]; omega, by rw [limbs_val hkm gm]; omega⟩⟩ ?_
   rintro mm S ⟨a, b, rfl, rfl, ⟨k1, k2, k3⟩⟩
   refine EV_seq ?_
   refine EV_seq (EV_region ?_)
   refine EVo_t rfl (T_move rfl) ?_
   refine EVo_t rfl (T_lenL (uOk rfl) rfl) ?_
   refine EVo_t rfl (T_bin rfl rfl rfl) ?_
   refine EVo_nil ?_
   refine EV_cond rfl rfl rfl (fun hb3 => ?_) (fun hb3 => ?_)
   ·try simp only [z1, z2, z3, z4, z5, z6, z7, z8, z9, y1, y2, y3] at hb3
    have hb0 : b ≠ 0 := (limbs_len_pos b).1 (by omega)
    refine EV_skip ?_
    refine EV_block ?_
    refine EV_seq (EV_region ?_)
    refine EVo_t rfl (T_move rfl) ?_
    refine EVo_t rfl (T_move rfl) ?_
    refine EVo_e rfl (D_call false (nat_div _ _ (by omega) (by omega) (by omega)) rfl (fit_cons (fit_d rfl nofun) (fit_cons (fit_d rfl nofun) (fit_nil)))) ?_
    refine EVo_t rfl (T_move rfl) ?_
    refine EVo_t rfl (T_extract rfl rfl) ?_
    refine EVo_t rfl (T_extract rfl rfl) ?_
    refine EVo_t rfl (T_assign rfl) ?_
    refine EVo_t rfl (T_assign rfl) ?_
    refine EVo_nil ?_
    refine EV_region ?_
    refine EVo_t rfl (T_move rfl) ?_
    refine EVo_t rfl (T_move rfl) ?_
    refine EVo_t rfl (T_assign rfl) ?_
    refine EVo_t rfl (T_assign rfl) ?_
    refine EVo_nil ?_
    refine ⟨_, ?_, _, W_keep2 [(0, V.c (.d false (encN (limbs (_))))), (1, V.c (.d false (encN (limbs (_)))))] [] ⟨rfl, rfl, trivial⟩ trivial rfl, _, _, rfl, rfl, ?_⟩
    ·have := Nat.mod_lt a (Nat.pos_of_ne_zero hb0); omega
    ·exact ⟨by rw [← k1, Nat.gcd_comm a b, Nat.gcd_rec b a, Nat.gcd_comm], by omega, Nat.le_trans (limbs_mono (Nat.le_of_lt (Nat.mod_lt _ (by omega)))) k3⟩
   ·try simp only [z1, z2, z3, z4, z5, z6, z7, z8, z9, y1, y2, y3] at hb3
    have hb0 : b = 0 := by have := mt (limbs_len_pos b).2 (by omega); omega
    subst hb0
    rw [Nat.gcd_zero_right] at k1
    refine EV_exit ?_
    refine EV_seq (EV_region ?_)
    refine EVo_t rfl (T_move rfl) ?_
    refine EVo_t rfl (T_assign rfl) ?_
    refine EVo_t rfl (T_assign rfl) ?_
    refine EVo_nil ?_
    refine EV_ret ?_
    refine ⟨_, _, ⟨rfl, rfl⟩, ⟨rfl, rfl⟩, fit_eq rfl nofun ?_, fit_eq rfl nofun ?_⟩
    ·simp [gl, gm, k1]
    ·simp [gl, gm]

end Go.Proofs.YthaiegnohkiegaaGreat.Ab
/-
 Contracts of the functions of package ratio: forms.
-/
namespace Go.Proofs.YthaiegnohkiegaaGreat.Ab
set_option linter.unusedVariables false
set_option linter.unusedSimpArgs false
set_option maxRecDepth 20000


theorem nat_GcdG (l m : List Int) (hl : l.length ≤ 8796093022208) (hm : m.length ≤ 8796093022208) (hk : okL l) (hkm : okL m) (hg : goodL l = true) (hgm : goodL m = true) : Fn Tryz.prog 130 [.d (encN l), .d (encN m)] false (.tup [.d (encN (limbs (Nat.gcd (val l) (val m)))), .d (ii 0)]) := by
 have := nat_Gcd l m hl hm hk hkm
 simpa [hg, hgm] using this
theorem nat_GcdN (a b : Nat) (ha : (limbs a).length ≤ 8796093022208) (hb : (limbs b).length ≤ 8796093022208) : Fn Tryz.prog 130 [.d (encN (limbs a)), .d (encN (limbs b))] false (.tup [.d (encN (limbs (Nat.gcd a b))), .d (ii 0)]) := by
 have := nat_GcdG (limbs a) (limbs b) ha hb (okL_limbs a) (okL_limbs b) (good_limbs a) (good_limbs b)
 rw [val_limbs, val_limbs] at this
 exact this
theorem whole_MulS (a : Int) (s : Bool) (d : Nat) (hs : s = true → d ≠ 0) (hl : (limbs a.natAbs).length + (limbs d).length ≤ 17592186044416) : Fn Tryz.prog 136 [.agg (encZ a), .agg [ib s, encN (limbs d)]] false (.tup [.agg (encZ (a * (if s then -(d : Int) else (d : Int)))), .d (ii 0)]) := by
 have e : [ib s, encN (limbs d)] = encZ (if s then -(d : Int) else (d : Int)) := by
  unfold encZ
  cases s
  ·simp
  ·have := hs rfl
   have h : decide (-(d : Int) < 0) = true := by simp; omega
   simp [h]
   omega
 have := whole_Mul a (if s then -(d : Int) else (d : Int)) (by cases s <;> simpa using hl)
 rw [← e] at this
 exact this
theorem mk_one (n : Int) : mkRat n 1 = (n : Rat) := (Rat.mk_eq_mkRat n 1 (by decide) (Nat.coprime_one_right _)).symm

theorem whole_CheckG (neg : Bool) (l : List Int) (hl : l.length ≤ 17592186044416) : Fn Tryz.prog 102 [.agg [ib neg, encN l]] false (.one (.d (ii (if goodZ neg l then 0 else 20)))) := by
 refine Fn_of_EV Tryz.func102 rfl (by kernel_rfl) rfl rfl (fun E hE => ?_)
 refine EV_seq (EV_region ?_)
 refine EVo_e rfl (D_box 1 (hE 1 rfl) Free_no rfl) ?_
 refine EVo_t rfl (T_assign rfl) ?_
 refine EVo_nil ?_
 refine EV_seq ?_
 refine EV_seq (EV_region ?_)
 refine EVo_t rfl (T_loadRA (gOk rfl) (zOk rfl) rfl rfl (Nat.le_of_ble_eq_true rfl) rfl rfl) ?_
 refine EVo_e rfl (D_call false (whole_good _ _ (by omega)) rfl (fit_cons (fit_ag rfl nofun) (fit_nil))) ?_
 refine EVo_nil ?_
 refine EV_cond rfl rfl rfl (fun hb1 => ?_) (fun hb1 => ?_)
 ·try simp only [z1, z2, z3, z4, z5, z6, z7, z8, z9, y1, y2, y3] at hb1
  refine EV_seq (EV_region ?_)
  refine EVo_t rfl (T_assign rfl) ?_
  refine EVo_nil ?_
  refine EV_ret ?_
  refine ⟨_, ⟨rfl, rfl⟩, fit_eq rfl nofun ?_⟩
  ·simp [hb1]
 ·try simp only [z1, z2, z3, z4, z5, z6, z7, z8, z9, y1, y2, y3] at hb1
  refine EV_skip ?_
  refine EV_seq (EV_region ?_)
  refine EVo_t rfl (T_assign rfl) ?_
  refine EVo_nil ?_
  refine EV_ret ?_
  refine ⟨_, ⟨rfl, rfl⟩, fit_eq rfl nofun ?_⟩
  ·simp [hb1]

theorem ratio_isOneN (n : Nat) (hl : (limbs n).length ≤ 17592186044416) : Fn Tryz.prog 99 [.d (encN (limbs n))] false (.one (.d (ib (decide (n = 1))))) := by
 refine Fn_of_EV Tryz.func99 rfl (by kernel_rfl) rfl rfl (fun E hE => ?_)
 refine EV_seq (EV_region ?_)
 refine EVo_t rfl (T_assign rfl) ?_
 refine EVo_nil (EV_seq (EV_region ?_))
 refine EVo_t rfl (T_move rfl) ?_
 refine EVo_e rfl (D_call false (nat_smallN _ (by omega)) rfl (fit_cons (fit_d rfl nofun) (fit_nil))) ?_
 refine EVo_t rfl (T_move rfl) ?_
 refine EVo_t rfl (T_extract rfl rfl) ?_
 refine EVo_t rfl (T_extract rfl rfl) ?_
 refine EVo_t rfl (T_assign rfl) ?_
 refine EVo_t rfl (T_assign rfl) ?_
 refine EVo_nil (EV_seq (EV_region ?_))
 refine EVo_t rfl (T_move rfl) ?_
 refine EVo_t rfl (T_move rfl) ?_
 refine EVo_case 11 rfl (fun hb1 => ?_) (fun hb1 => ?_)
 ·try simp only [z1, z2, z3, z4, z5, z6, z7, z8, z9, y1, y2, y3] at hb1
  refine EVo_t rfl (T_move rfl) ?_
  refine EVo_t rfl (T_bin rfl rfl rfl) ?_
  refine EVo_t rfl (T_pick rfl rfl) ?_
  refine EVo_t rfl (T_assign rfl) ?_
  refine EVo_nil ?_
  refine EV_ret ?_
  refine ⟨_, ⟨rfl, rfl⟩, fit_eq rfl nofun ?_⟩
  ·refine congrArg ib ?_
   rw [if_pos hb1]
   refine decide_eq_decide.2 ?_
   omega
 ·try simp only [z1, z2, z3, z4, z5, z6, z7, z8, z9, y1, y2, y3] at hb1
  refine EVo_off rfl rfl ?_
  refine EVo_off rfl rfl ?_
  refine EVo_t rfl (T_pick rfl rfl) ?_
  refine EVo_t rfl (T_assign rfl) ?_
  refine EVo_nil ?_
  refine EV_ret ?_
  refine ⟨_, ⟨rfl, rfl⟩, fit_eq rfl nofun ?_⟩
  ·refine congrArg ib ?_
   symm
   refine decide_eq_false ?_
   omega

theorem ratio_good (neg : Bool) (l m : List Int) (hl : l.length ≤ 8796093022208) (hm : m.length ≤ 8796093022208) (hk : okL l) (hkm : okL m) : Fn Tryz.prog 92 [.agg [ib neg, encN l, encN m]] false (.one (.d (ib (ratB neg l m)))) := by
 refine Fn_of_EV Tryz.func92 rfl (by kernel_rfl) rfl rfl (fun E hE => ?_)
 refine EV_seq (EV_region ?_)
 refine EVo_e rfl (D_box 1 (hE 1 rfl) Free_no rfl) ?_
 refine EVo_t rfl (T_assign rfl) ?_
 refine EVo_nil ?_
 refine EV_seq ?_
 refine EV_seq (EV_region ?_)
 refine EVo_t rfl (T_faR (fOk rfl) (zOk rfl) rfl) ?_
 refine EVo_t rfl (T_loadRA (gOk rfl) (zOk rfl) rfl rfl (Nat.le_of_ble_eq_true rfl) rfl rfl) ?_
 refine EVo_e rfl (D_call false (whole_CheckG _ _ (by omega)) rfl (fit_cons (fit_ag rfl nofun) (fit_nil))) ?_
 refine EVo_t rfl (T_bin rfl rfl rfl) ?_
 refine EVo_t rfl (T_move rfl) ?_
 refine EVo_case 9 rfl (fun hb1 => ?_) (fun hb1 => ?_)
 ·try simp only [z1, z2, z3, z4, z5, z6, z7, z8, z9, y1, y2, y3] at hb1
  refine EVo_off rfl rfl ?_
  refine EVo_off rfl rfl ?_
  refine EVo_off rfl rfl ?_
  refine EVo_off rfl rfl ?_
  refine EVo_t rfl (T_pick rfl rfl) ?_
  refine EVo_t rfl (T_move rfl) ?_
  refine EVo_off rfl rfl ?_
  refine EVo_off rfl rfl ?_
  refine EVo_off rfl rfl ?_
  refine EVo_off rfl rfl ?_
  refine EVo_t rfl (T_pick rfl rfl) ?_
  refine EVo_nil ?_
  refine EV_cond rfl rfl rfl (fun _ => ?_) (fun h => by cases h)
  refine EV_seq (EV_region ?_)
  refine EVo_t rfl (T_assign rfl) ?_
  refine EVo_nil ?_
  refine EV_ret ?_
  unfold ratB
  refine ⟨_, ⟨rfl, rfl⟩, fit_eq rfl nofun ?_⟩
  ·refine congrArg ib ?_
   rcases hz : goodZ neg l <;> rcases hz2 : goodL m <;> by_cases hz3 : 0 < m.length <;> simp_all <;> omega
 ·try simp only [z1, z2, z3, z4, z5, z6, z7, z8, z9, y1, y2, y3] at hb1
  refine EVo_t rfl (T_faR (fOk rfl) (zOk rfl) rfl) ?_
  refine EVo_t rfl (T_loadR (gOk rfl) rfl rfl rfl rfl) ?_
  refine EVo_e rfl (D_call false (nat_check _ (by omega)) rfl (fit_cons (fit_d rfl nofun) (fit_nil))) ?_
  refine EVo_t rfl (T_bin rfl rfl rfl) ?_
  refine EVo_t rfl (T_pick rfl rfl) ?_
  refine EVo_t rfl (T_move rfl) ?_
  refine EVo_case 15 rfl (fun hb2 => ?_) (fun hb2 => ?_)
  ·try simp only [z1, z2, z3, z4, z5, z6, z7, z8, z9, y1, y2, y3] at hb2
   refine EVo_off rfl rfl ?_
   refine EVo_off rfl rfl ?_
   refine EVo_off rfl rfl ?_
   refine EVo_off rfl rfl ?_
   refine EVo_t rfl (T_pick rfl rfl) ?_
   refine EVo_nil ?_
   refine EV_cond rfl rfl rfl (fun _ => ?_) (fun h => by cases h)
   refine EV_seq (EV_region ?_)
   refine EVo_t rfl (T_assign rfl) ?_
   refine EVo_nil ?_
   refine EV_ret ?_
   unfold ratB
   refine ⟨_, ⟨rfl, rfl⟩, fit_eq rfl nofun ?_⟩
   ·refine congrArg ib ?_
    rcases hz : goodZ neg l <;> rcases hz2 : goodL m <;> by_cases hz3 : 0 < m.length <;> simp_all <;> omega
  ·try simp only [z1, z2, z3, z4, z5, z6, z7, z8, z9, y1, y2, y3] at hb2
   refine EVo_t rfl (T_faR (fOk rfl) (zOk rfl) rfl) ?_
   refine EVo_t rfl (T_loadR (gOk rfl) rfl rfl rfl rfl) ?_
   refine EVo_t rfl (T_lenL (uOk rfl) rfl) ?_
   refine EVo_t rfl (T_bin rfl rfl rfl) ?_
   refine EVo_t rfl (T_pick rfl rfl) ?_
   refine EVo_nil ?_
   refine EV_cond rfl rfl rfl (fun hb3 => ?_) (fun hb3 => ?_)
   ·try simp only [z1, z2, z3, z4, z5, z6, z7, z8, z9, y1, y2, y3] at hb3
    refine EV_seq (EV_region ?_)
    refine EVo_t rfl (T_assign rfl) ?_
    refine EVo_nil ?_
    refine EV_ret ?_
    unfold ratB
    refine ⟨_, ⟨rfl, rfl⟩, fit_eq rfl nofun ?_⟩
    ·refine congrArg ib ?_
     rcases hz : goodZ neg l <;> rcases hz2 : goodL m <;> by_cases hz3 : 0 < m.length <;> simp_all <;> omega
   ·try simp only [z1, z2, z3, z4, z5, z6, z7, z8, z9, y1, y2, y3] at hb3
    refine EV_skip ?_
    refine EV_seq (EV_region ?_)
    refine EVo_t rfl (T_faR (fOk rfl) (zOk rfl) rfl) ?_
    refine EVo_t rfl (T_faR (fOk rfl) (zOk rfl) rfl) ?_
    refine EVo_t rfl (T_loadR (gOk rfl) rfl rfl rfl rfl) ?_
    refine EVo_t rfl (T_faR (fOk rfl) (zOk rfl) rfl) ?_
    refine EVo_t rfl (T_loadR (gOk rfl) rfl rfl rfl rfl) ?_
    have hgz : goodZ neg l = true := by simp_all
    have hgl : goodL l = true := by simp_all [goodZ]
    have hgm : goodL m = true := by simp_all
    have hgp : val m ≠ 0 := good_pos hkm hgm (by intro e; subst e; simp_all)
    refine EVo_e rfl (D_call false (nat_GcdG _ _ (by omega) (by omega) (by assumption) (by assumption) hgl hgm) rfl (fit_cons (fit_d rfl nofun) (fit_cons (fit_d rfl nofun) (fit_nil)))) ?_
    refine EVo_t rfl (T_move rfl) ?_
    refine EVo_t rfl (T_extract rfl rfl) ?_
    refine EVo_t rfl (T_extract rfl rfl) ?_
    refine EVo_t rfl (T_assign rfl) ?_
    refine EVo_t rfl (T_assign rfl) ?_
    refine EVo_nil (EV_seq (EV_region ?_))
    refine EVo_t rfl (T_move rfl) ?_
    refine EVo_e rfl (D_call false (ratio_isOneN _ (Nat.le_trans (limbs_mono (Nat.gcd_le_right _ (Nat.pos_of_ne_zero hgp))) (by rw [limbs_val hkm hgm]; omega))) rfl (fit_cons (fit_d rfl nofun) (fit_nil))) ?_
    refine EVo_t rfl (T_assign rfl) ?_
    refine EVo_nil ?_
    refine EV_ret ?_
    unfold ratB
    refine ⟨_, ⟨rfl, rfl⟩, fit_eq rfl nofun ?_⟩
    ·refine congrArg ib ?_
     rcases hz : goodZ neg l <;> rcases hz2 : goodL m <;> by_cases hz3 : 0 < m.length <;> simp_all <;> omega

theorem ratio_Check (neg : Bool) (l m : List Int) (hl : l.length ≤ 8796093022208) (hm : m.length ≤ 8796093022208) (hk : okL l) (hkm : okL m) : Fn Tryz.prog 36 [.agg [ib neg, encN l, encN m]] false (.one (.d (ii (if ratB neg l m then 0 else 30)))) := by
 refine Fn_of_EV Tryz.func36 rfl (by kernel_rfl) rfl rfl (fun E hE => ?_)
 refine EV_seq (EV_region ?_)
 refine EVo_e rfl (D_box 1 (hE 1 rfl) Free_no rfl) ?_
 refine EVo_t rfl (T_assign rfl) ?_
 refine EVo_nil ?_
 refine EV_seq ?_
 refine EV_seq (EV_region ?_)
 refine EVo_t rfl (T_loadRA (gOk rfl) (zOk rfl) rfl rfl (Nat.le_of_ble_eq_true rfl) rfl rfl) ?_
 refine EVo_e rfl (D_call false (ratio_good _ _ _ (by omega) (by omega) (by assumption) (by assumption)) rfl (fit_cons (fit_ag rfl nofun) (fit_nil))) ?_
 refine EVo_nil ?_
 refine EV_cond rfl rfl rfl (fun hb1 => ?_) (fun hb1 => ?_)
 ·try simp only [z1, z2, z3, z4, z5, z6, z7, z8, z9, y1, y2, y3] at hb1
  refine EV_seq (EV_region ?_)
  refine EVo_t rfl (T_assign rfl) ?_
  refine EVo_nil ?_
  refine EV_ret ?_
  refine ⟨_, ⟨rfl, rfl⟩, fit_eq rfl nofun ?_⟩
  ·simp [hb1]
 ·try simp only [z1, z2, z3, z4, z5, z6, z7, z8, z9, y1, y2, y3] at hb1
  refine EV_skip ?_
  refine EV_seq (EV_region ?_)
  refine EVo_t rfl (T_assign rfl) ?_
  refine EVo_nil ?_
  refine EV_ret ?_
  refine ⟨_, ⟨rfl, rfl⟩, fit_eq rfl nofun ?_⟩
  ·simp [hb1]

theorem whole_SignN (a : Int) (hl : (limbs a.natAbs).length ≤ 8796093022208) : Fn Tryz.prog 95 [.agg (encZ a)] false (.one (.d (ii (if 0 < a then 1 else if a < 0 then -1 else 0)))) := by
 have := whole_Sign (decide (a < 0)) (limbs a.natAbs) (by omega)
 rw [goodZ_enc] at this
 have e : (if (true && decide (0 < (limbs a.natAbs).length)) = true then (if decide (a < 0) = true then (-1 : Int) else 1) else 0) = (if 0 < a then 1 else if a < 0 then -1 else 0) := by
  have hp := limbs_len_pos a.natAbs
  by_cases h0 : a = 0
  ·subst h0; rfl
  ·have : 0 < (limbs a.natAbs).length := hp.2 (by omega)
   simp only [this, decide_true, Bool.and_self, if_true, decide_eq_true_eq]
   split <;> split <;> omega
 rw [e] at this
 exact this
theorem ratio_goodQ (q : Rat) (h : szQ q ≤ 8796093022208) : Fn Tryz.prog 92 [.agg (encQ q)] false (.one (.d (ib true))) := by
 have hz : szQ q = (limbs q.num.natAbs).length + (limbs q.den).length := rfl
 have := ratio_good (decide (q.num < 0)) (limbs q.num.natAbs) (limbs q.den) (by omega) (by omega) (okL_limbs _) (okL_limbs _)
 rw [ratB_enc] at this
 exact this
theorem ratio_CheckQ (q : Rat) (h : szQ q ≤ 8796093022208) : Fn Tryz.prog 36 [.agg (encQ q)] false (.one (.d (ii 0))) := by
 have hz : szQ q = (limbs q.num.natAbs).length + (limbs q.den).length := rfl
 have := ratio_Check (decide (q.num < 0)) (limbs q.num.natAbs) (limbs q.den) (by omega) (by omega) (okL_limbs _) (okL_limbs _)
 rw [ratB_enc] at this
 exact this

end Go.Proofs.YthaiegnohkiegaaGreat.Ab
/-
 Contracts of the functions of package ratio.
-/
namespace Go.Proofs.YthaiegnohkiegaaGreat.Ab
set_option linter.unusedVariables false
set_option linter.unusedSimpArgs false
set_option maxRecDepth 20000


theorem ratio_quotient (n : Int) (d : Nat) (hd : d ≠ 0) (hn : (limbs n.natAbs).length ≤ 8796093022208) (hdl : (limbs d).length ≤ 8796093022208) : Fn Tryz.prog 103 [.agg (encZ n), .d (encN (limbs d))] false (.one (.agg (encQ (mkRat n d)))) := by
 have hg : Nat.gcd n.natAbs d ≠ 0 := Nat.ne_of_gt (Nat.gcd_pos_of_pos_right n.natAbs (Nat.pos_of_ne_zero hd))
 have hgl := limbs_mono (Nat.gcd_le_right n.natAbs (Nat.pos_of_ne_zero hd))
 refine Fn_of_EV Tryz.func103 rfl (by kernel_rfl) rfl rfl (fun E hE => ?_)
 refine EV_seq (EV_region ?_)
 refine EVo_e rfl (D_box 1 (hE 1 rfl) Free_no rfl) ?_
 refine EVo_e rfl (D_alloc 2 (hE 2 rfl) Free_no zr40 rfl) ?_
 refine EVo_nil (EV_seq (EV_region ?_))
 refine EVo_t rfl (T_faR (fOk rfl) (zOk rfl) rfl) ?_
 refine EVo_t rfl (T_loadR (gOk rfl) rfl rfl rfl rfl) ?_
 refine EVo_t rfl (T_move rfl) ?_
 refine EVo_e rfl (D_call false (nat_GcdN _ _ (by omega) (by omega)) rfl (fit_cons (fit_d rfl nofun) (fit_cons (fit_d rfl nofun) (fit_nil)))) ?_
 refine EVo_t rfl (T_move rfl) ?_
 refine EVo_t rfl (T_extract rfl rfl) ?_
 refine EVo_t rfl (T_extract rfl rfl) ?_
 refine EVo_t rfl (T_assign rfl) ?_
 refine EVo_t rfl (T_assign rfl) ?_
 refine EVo_nil (EV_seq (EV_region ?_))
 refine EVo_t rfl (T_faR (fOk rfl) (zOk rfl) rfl) ?_
 refine EVo_t rfl (T_loadR (gOk rfl) rfl rfl rfl rfl) ?_
 refine EVo_t rfl (T_move rfl) ?_
 refine EVo_e rfl (D_call false (nat_DivModN _ _ hg (by omega) (by omega)) rfl (fit_cons (fit_d rfl nofun) (fit_cons (fit_d rfl nofun) (fit_nil)))) ?_
 refine EVo_t rfl (T_move rfl) ?_
 refine EVo_t rfl (T_extract rfl rfl) ?_
 refine EVo_t rfl (T_extract rfl rfl) ?_
 refine EVo_t rfl (T_extract rfl rfl) ?_
 refine EVo_t rfl (T_assign rfl) ?_
 refine EVo_t rfl (T_assign rfl) ?_
 refine EVo_t rfl (T_assign rfl) ?_
 refine EVo_nil (EV_seq (EV_region ?_))
 refine EVo_t rfl (T_move rfl) ?_
 refine EVo_t rfl (T_move rfl) ?_
 refine EVo_e rfl (D_call false (nat_DivModN _ _ hg (by omega) (by omega)) rfl (fit_cons (fit_d rfl nofun) (fit_cons (fit_d rfl nofun) (fit_nil)))) ?_
 refine EVo_t rfl (T_move rfl) ?_
 refine EVo_t rfl (T_extract rfl rfl) ?_
 refine EVo_t rfl (T_extract rfl rfl) ?_
 refine EVo_t rfl (T_extract rfl rfl) ?_
 refine EVo_t rfl (T_assign rfl) ?_
 refine EVo_t rfl (T_assign rfl) ?_
 refine EVo_t rfl (T_assign rfl) ?_
 refine EVo_nil (EV_seq (EV_region ?_))
 refine EVo_t rfl (T_faR (fOk rfl) (zOk rfl) rfl) ?_
 refine EVo_t rfl (T_loadR (gOk rfl) rfl rfl rfl rfl) ?_
 refine EVo_t rfl (T_move rfl) ?_
 refine EVo_t rfl (T_build ly38 rfl rfl) ?_
 refine EVo_t rfl (T_move rfl) ?_
 refine EVo_t rfl (T_build ly40 rfl rfl) ?_
 refine EVo_e rfl (D_store rfl Free_no rfl rfl (zOk rfl) rfl (Nat.le_of_ble_eq_true rfl) rfl) ?_
 refine EVo_nil ?_
 refine EV_ret ?_
 refine ⟨_, ⟨rfl, _, _, _, rfl, rfl, rfl, .inl ⟨_, gOk rfl, zOk rfl, Nat.le_of_ble_eq_true rfl, rfl⟩⟩, fit_agg rfl nofun ?_⟩
 ·exact (encQ_mk n hd).symm

theorem ratio_From (n : Int) (hn : (limbs n.natAbs).length ≤ 8796093022208) : Fn Tryz.prog 49 [.agg (encZ n)] false (.one (.agg (encQ (n : Rat)))) := by
 refine Fn_of_EV Tryz.func49 rfl (by kernel_rfl) rfl rfl (fun E hE => ?_)
 refine EV_seq (EV_region ?_)
 refine EVo_e rfl (D_box 1 (hE 1 rfl) Free_no rfl) ?_
 refine EVo_e rfl (D_alloc 2 (hE 2 rfl) Free_no zr40 rfl) ?_
 refine EVo_nil ?_
 refine EV_seq ?_
 refine EV_seq (EV_region ?_)
 refine EVo_t rfl (T_loadRA (gOk rfl) (zOk rfl) rfl rfl (Nat.le_of_ble_eq_true rfl) rfl rfl) ?_
 refine EVo_e rfl (D_call false (whole_Check _ (by omega)) rfl (fit_cons (fit_ag rfl nofun) (fit_nil))) ?_
 refine EVo_t rfl (T_bin rfl rfl rfl) ?_
 refine EVo_nil ?_
 refine EV_cond rfl rfl rfl (fun hb1 => ?_) (fun hb1 => ?_)
 ·try simp only [z1, z2, z3, z4, z5, z6, z7, z8, z9, y1, y2, y3] at hb1
  exfalso; simp at hb1
 ·try simp only [z1, z2, z3, z4, z5, z6, z7, z8, z9, y1, y2, y3] at hb1
  refine EV_skip ?_
  refine EV_seq ?_
  refine EV_draw (inX [1]) (.st 0 (.one 1 (.one 2 (.one 3 .done)))) Tryz.mixed (by kernel_rfl) ?_
  refine EVq_t rfl rfl (T_loadRA (gOk rfl) (zOk rfl) rfl rfl (Nat.le_of_ble_eq_true rfl) rfl rfl) ?_
  refine EVq_e rfl rfl (D_call false (nat_from _ (by omega) (by omega)) rfl (fit_cons (fit_d rfl nofun) (fit_nil))) ?_
  refine EVq_e rfl rfl (D_call false (ratio_quotient n 1 (by decide) (by omega) (by decide)) rfl (fit_cons (fit_ag rfl nofun) (fit_cons (fit_d rfl nofun) (fit_nil)))) ?_
  refine EVq_e rfl rfl (D_store rfl (Free_in rfl) rfl rfl (zOk rfl) rfl (Nat.le_of_ble_eq_true rfl) rfl) ?_
  refine EVq_done ?_
  refine EV_ret ?_
  refine ⟨_, ⟨rfl, _, _, _, rfl, rfl, rfl, .inl ⟨_, gOk rfl, zOk rfl, Nat.le_of_ble_eq_true rfl, rfl⟩⟩, fit_agg rfl nofun ?_⟩
  ·exact congrArg encQ (mk_one n)

theorem ratio_copied (a : Int) (hl : (limbs a.natAbs).length ≤ 8796093022208) : Fn Tryz.prog 100 [.agg (encZ a)] false (.one (.agg (encZ a))) := by
 refine Fn_of_EV Tryz.func100 rfl (by kernel_rfl) rfl rfl (fun E hE => ?_)
 refine EV_seq (EV_region ?_)
 refine EVo_e rfl (D_box 1 (hE 1 rfl) Free_no rfl) ?_
 refine EVo_e rfl (D_alloc 2 (hE 2 rfl) Free_no zr38 rfl) ?_
 refine EVo_nil ?_
 refine EV_seq ?_
 refine EV_draw (inX [1]) (.st 0 (.st 1 (.st 2 (.st 3 (.one 4 (.st 5 (.one 6 .done))))))) Tryz.mixed (by kernel_rfl) ?_
 refine EVq_t rfl rfl (T_faR (fOk rfl) (zOk rfl) rfl) ?_
 refine EVq_t rfl rfl (T_loadR (gOk rfl) rfl rfl rfl rfl) ?_
 refine EVq_t rfl rfl (T_faR (fOk rfl) (zOk rfl) rfl) ?_
 refine EVq_t rfl rfl (T_loadR (gOk rfl) rfl rfl rfl rfl) ?_
 refine EVq_e rfl rfl (D_call false ((nat_cloneM _ (by omega)).toFn.loose) rfl (fit_cons (fit_d rfl nofun) (fit_nil))) ?_
 refine EVq_t rfl rfl (T_build ly38 rfl rfl) ?_
 refine EVq_e rfl rfl (D_store rfl (Free_in rfl) rfl rfl (zOk rfl) rfl (Nat.le_of_ble_eq_true rfl) rfl) ?_
 refine EVq_done ?_
 refine EV_ret ?_
 refine ⟨_, ⟨rfl, _, _, _, rfl, rfl, rfl, .inl ⟨_, gOk rfl, zOk rfl, Nat.le_of_ble_eq_true rfl, rfl⟩⟩, fit_agg rfl nofun rfl⟩

theorem ratio_Whole (q : Rat) (hq : szQ q ≤ 8796093022208) : Fn Tryz.prog 47 [.agg (encQ q)] false (.tup [.agg (if q.den = 1 then encZ q.num else encZ 0), .d (ib (decide (q.den = 1)))]) := by
 have hzq : szQ q = (limbs q.num.natAbs).length + (limbs q.den).length := rfl
 refine Fn_of_EV Tryz.func47 rfl (by kernel_rfl) rfl rfl (fun E hE => ?_)
 refine EV_seq (EV_region ?_)
 refine EVo_e rfl (D_box 1 (hE 1 rfl) Free_no rfl) ?_
 refine EVo_e rfl (D_alloc 2 (hE 2 rfl) Free_no zr38 rfl) ?_
 refine EVo_t rfl (T_assign rfl) ?_
 refine EVo_nil ?_
 refine EV_seq ?_
 refine EV_seq (EV_region ?_)
 refine EVo_t rfl (T_loadRA (gOk rfl) (zOk rfl) rfl rfl (Nat.le_of_ble_eq_true rfl) rfl rfl) ?_
 refine EVo_e rfl (D_call false (ratio_goodQ _ (by omega)) rfl (fit_cons (fit_ag rfl nofun) (fit_nil))) ?_
 refine EVo_t rfl (T_un rfl rfl) ?_
 refine EVo_t rfl (T_move rfl) ?_
 refine EVo_t rfl (T_faR (fOk rfl) (zOk rfl) rfl) ?_
 refine EVo_t rfl (T_loadR (gOk rfl) rfl rfl rfl rfl) ?_
 refine EVo_e rfl (D_call false (ratio_isOneN _ (by omega)) rfl (fit_cons (fit_d rfl nofun) (fit_nil))) ?_
 refine EVo_t rfl (T_un rfl rfl) ?_
 refine EVo_t rfl (T_pick rfl rfl) ?_
 refine EVo_nil ?_
 refine EV_cond rfl rfl rfl (fun hb1 => ?_) (fun hb1 => ?_)
 ·try simp only [z1, z2, z3, z4, z5, z6, z7, z8, z9, y1, y2, y3] at hb1
  refine EV_seq (EV_region ?_)
  refine EVo_t rfl (T_build ly38 rfl rfl) ?_
  refine EVo_e rfl (D_store rfl Free_no rfl rfl (zOk rfl) rfl (Nat.le_of_ble_eq_true rfl) rfl) ?_
  refine EVo_t rfl (T_assign rfl) ?_
  refine EVo_nil ?_
  refine EV_ret ?_
  refine ⟨_, _, ⟨rfl, _, _, _, rfl, rfl, rfl, .inl ⟨_, gOk rfl, zOk rfl, Nat.le_of_ble_eq_true rfl, rfl⟩⟩, ⟨rfl, rfl⟩, fit_agg rfl nofun ?_, fit_eq rfl nofun ?_⟩
  ·rw [if_neg hb1]; rfl
  ·exact congrArg ib (decide_eq_false hb1).symm
 ·try simp only [z1, z2, z3, z4, z5, z6, z7, z8, z9, y1, y2, y3] at hb1
  refine EV_skip ?_
  refine EV_seq (EV_region ?_)
  refine EVo_t rfl (T_faR (fOk rfl) (zOk rfl) rfl) ?_
  refine EVo_t rfl (T_loadRA (gOk rfl) (zOk rfl) rfl rfl (Nat.le_of_ble_eq_true rfl) rfl rfl) ?_
  refine EVo_e rfl (D_call false (ratio_copied _ (by omega)) rfl (fit_cons (fit_ag rfl nofun) (fit_nil))) ?_
  refine EVo_e rfl (D_store rfl Free_no rfl rfl (zOk rfl) rfl (Nat.le_of_ble_eq_true rfl) rfl) ?_
  refine EVo_t rfl (T_assign rfl) ?_
  refine EVo_nil ?_
  refine EV_ret ?_
  refine ⟨_, _, ⟨rfl, _, _, _, rfl, rfl, rfl, .inl ⟨_, gOk rfl, zOk rfl, Nat.le_of_ble_eq_true rfl, rfl⟩⟩, ⟨rfl, rfl⟩, fit_agg rfl nofun ?_, fit_eq rfl nofun ?_⟩
  ·rw [if_pos hb1]; rfl
  ·exact congrArg ib (decide_eq_true hb1).symm

theorem ratio_over (a : Int) (d : Nat) (hl : (limbs a.natAbs).length + (limbs d).length ≤ 8796093022208) : Fn Tryz.prog 135 [.agg (encZ a), .d (encN (limbs d))] false (.one (.agg (encZ (a * (d : Int))))) := by
 refine Fn_of_EV Tryz.func135 rfl (by kernel_rfl) rfl rfl (fun E hE => ?_)
 refine EV_seq (EV_region ?_)
 refine EVo_e rfl (D_box 1 (hE 1 rfl) Free_no rfl) ?_
 refine EVo_e rfl (D_alloc 2 (hE 2 rfl) Free_no zr38 rfl) ?_
 refine EVo_nil (EV_seq (EV_region ?_))
 refine EVo_t rfl (T_loadRA (gOk rfl) (zOk rfl) rfl rfl (Nat.le_of_ble_eq_true rfl) rfl rfl) ?_
 refine EVo_t rfl (T_move rfl) ?_
 refine EVo_t rfl (T_build ly38 rfl rfl) ?_
 refine EVo_e rfl (D_call false (whole_MulS a false d nofun (by omega)) rfl (fit_cons (fit_ag rfl nofun) (fit_cons (fit_ag rfl nofun) (fit_nil)))) ?_
 refine EVo_t rfl (T_move rfl) ?_
 refine EVo_t rfl (T_extract rfl rfl) ?_
 refine EVo_t rfl (T_extract rfl rfl) ?_
 refine EVo_e rfl (D_alloc 3 (hE 3 rfl) Free_no zr38 rfl) ?_
 refine EVo_e rfl (D_store rfl Free_no rfl rfl (zOk rfl) rfl (Nat.le_of_ble_eq_true rfl) rfl) ?_
 refine EVo_t rfl (T_assign rfl) ?_
 refine EVo_nil (EV_seq (EV_region ?_))
 refine EVo_t rfl (T_loadRA (gOk rfl) (zOk rfl) rfl rfl (Nat.le_of_ble_eq_true rfl) rfl rfl) ?_
 refine EVo_e rfl (D_store rfl Free_no rfl rfl (zOk rfl) rfl (Nat.le_of_ble_eq_true rfl) rfl) ?_
 refine EVo_nil ?_
 refine EV_ret ?_
 refine ⟨_, ⟨rfl, _, _, _, rfl, rfl, rfl, .inl ⟨_, gOk rfl, zOk rfl, Nat.le_of_ble_eq_true rfl, rfl⟩⟩, fit_agg rfl nofun rfl⟩

theorem ratio_reckon_add (p q : Rat) (h : szQ p + szQ q ≤ 4398046511104) : Fn Tryz.prog 101 [.d (ii 1), .agg (encQ p), .agg (encQ q)] false (.tup [.agg (encQ (p + q)), .d (ii 0)]) := by
 have hzp : szQ p = (limbs p.num.natAbs).length + (limbs p.den).length := rfl
 have hzq : szQ q = (limbs q.num.natAbs).length + (limbs q.den).length := rfl
 have hpd := p.den_nz
 have hqd := q.den_nz
 have hmad := limbs_mul_len p.num.natAbs q.den
 have hmcb := limbs_mul_len q.num.natAbs p.den
 have hmbd := limbs_mul_len p.den q.den
 have hsa : (limbs (p.num * q.den).natAbs).length ≤ szQ p + szQ q := by rw [Int.natAbs_mul, Int.natAbs_natCast]; omega
 have hsb : (limbs (q.num * p.den).natAbs).length ≤ szQ p + szQ q := by rw [Int.natAbs_mul, Int.natAbs_natCast]; omega
 have hss : (limbs (p.num * q.den + q.num * p.den).natAbs).length ≤ szQ p + szQ q + 1 := Nat.le_trans (limbs_mono (Int.natAbs_add_le _ _)) (Nat.le_trans (limbs_add_len _ _) (by omega))
 refine Fn_of_EV Tryz.func101 rfl (by kernel_rfl) rfl rfl (fun E hE => ?_)
 refine EV_seq (EV_region ?_)
 refine EVo_e rfl (D_box 1 (hE 1 rfl) Free_no rfl) ?_
 refine EVo_e rfl (D_box 2 (hE 2 rfl) Free_no rfl) ?_
 refine EVo_e rfl (D_alloc 3 (hE 3 rfl) Free_no zr40 rfl) ?_
 refine EVo_t rfl (T_assign rfl) ?_
 refine EVo_nil ?_
 refine EV_seq ?_
 refine EV_seq (EV_region ?_)
 refine EVo_t rfl (T_loadRA (gOk rfl) (zOk rfl) rfl rfl (Nat.le_of_ble_eq_true rfl) rfl rfl) ?_
 refine EVo_e rfl (D_call false (ratio_goodQ _ (by omega)) rfl (fit_cons (fit_ag rfl nofun) (fit_nil))) ?_
 refine EVo_t rfl (T_un rfl rfl) ?_
 refine EVo_t rfl (T_move rfl) ?_
 refine EVo_t rfl (T_loadRA (gOk rfl) (zOk rfl) rfl rfl (Nat.le_of_ble_eq_true rfl) rfl rfl) ?_
 refine EVo_e rfl (D_call false (ratio_goodQ _ (by omega)) rfl (fit_cons (fit_ag rfl nofun) (fit_nil))) ?_
 refine EVo_t rfl (T_un rfl rfl) ?_
 refine EVo_t rfl (T_pick rfl rfl) ?_
 refine EVo_nil ?_
 refine EV_cond rfl rfl rfl (fun h => by cases h) (fun _ => ?_)
 refine EV_skip ?_
 refine EV_seq (EV_region ?_)
 refine EVo_e rfl (D_alloc 4 (hE 4 rfl) Free_no zr38 rfl) ?_
 refine EVo_nil ?_
 refine EV_seq ?_
 refine EV_seq (EV_region ?_)
 refine EVo_t rfl (T_move rfl) ?_
 refine EVo_nil ?_
 refine EV_block ?_
 refine EV_seq ?_
 refine EV_block ?_
 refine EV_seq ?_
 refine EV_block ?_
 refine EV_seq ?_
 refine EV_block ?_
 refine EV_seq ?_
 refine EV_block ?_
 refine EV_seq ?_
 refine EV_seq ?_
 refine EV_seq (EV_region ?_)
 refine EVo_t rfl (T_bin rfl rfl rfl) ?_
 refine EVo_t rfl (T_assign rfl) ?_
 refine EVo_nil ?_
 refine EV_cond rfl rfl rfl (fun hb1 => ?_) (fun hb1 => ?_)
 ·try simp only [z1, z2, z3, z4, z5, z6, z7, z8, z9, y1, y2, y3] at hb1
  exfalso; omega
 ·try simp only [z1, z2, z3, z4, z5, z6, z7, z8, z9, y1, y2, y3] at hb1
  refine EV_skip ?_
  refine EV_seq ?_
  refine EV_seq (EV_region ?_)
  refine EVo_t rfl (T_bin rfl rfl rfl) ?_
  refine EVo_t rfl (T_assign rfl) ?_
  refine EVo_nil ?_
  refine EV_cond rfl rfl rfl (fun hb2 => ?_) (fun hb2 => ?_)
  ·try simp only [z1, z2, z3, z4, z5, z6, z7, z8, z9, y1, y2, y3] at hb2
   refine EV_exit ?_
   refine EV_seq ?_
   refine EV_draw (inX [1, 2]) (.st 0 (.st 1 (.st 2 (.st 3 (.st 5 (.st 6 (.st 7 (.st 8 (.one 4 (.one 9 (.one 10 (.st 11 (.st 12 (.st 13 (.one 14 .done))))))))))))))) Tryz.mixed (by kernel_rfl) ?_
   refine EVq_t rfl rfl (T_faR (fOk rfl) (zOk rfl) rfl) ?_
   refine EVq_t rfl rfl (T_loadRA (gOk rfl) (zOk rfl) rfl rfl (Nat.le_of_ble_eq_true rfl) rfl rfl) ?_
   refine EVq_t rfl rfl (T_faR (fOk rfl) (zOk rfl) rfl) ?_
   refine EVq_t rfl rfl (T_loadR (gOk rfl) rfl rfl rfl rfl) ?_
   refine EVq_t rfl rfl (T_faR (fOk rfl) (zOk rfl) rfl) ?_
   refine EVq_t rfl rfl (T_loadRA (gOk rfl) (zOk rfl) rfl rfl (Nat.le_of_ble_eq_true rfl) rfl rfl) ?_
   refine EVq_t rfl rfl (T_faR (fOk rfl) (zOk rfl) rfl) ?_
   refine EVq_t rfl rfl (T_loadR (gOk rfl) rfl rfl rfl rfl) ?_
   refine EVq_e rfl rfl (D_call false (ratio_over p.num q.den (by omega)) rfl (fit_cons (fit_ag rfl nofun) (fit_cons (fit_d rfl nofun) (fit_nil)))) ?_
   refine EVq_e rfl rfl (D_call false (ratio_over q.num p.den (by omega)) rfl (fit_cons (fit_ag rfl nofun) (fit_cons (fit_d rfl nofun) (fit_nil)))) ?_
   refine EVq_e rfl rfl (D_call false (whole_Add _ _ (by omega) (by omega)) rfl (fit_cons (fit_ag rfl nofun) (fit_cons (fit_ag rfl nofun) (fit_nil)))) ?_
   refine EVq_t rfl rfl (T_move rfl) ?_
   refine EVq_t rfl rfl (T_extract rfl rfl) ?_
   refine EVq_t rfl rfl (T_extract rfl rfl) ?_
   refine EVq_e rfl rfl (D_store rfl (Free_in rfl) rfl rfl (zOk rfl) rfl (Nat.le_of_ble_eq_true rfl) rfl) ?_
   refine EVq_done ?_
   refine EV_exit ?_
   refine EV_seq (EV_region ?_)
   refine EVo_t rfl (T_faR (fOk rfl) (zOk rfl) rfl) ?_
   refine EVo_t rfl (T_loadR (gOk rfl) rfl rfl rfl rfl) ?_
   refine EVo_t rfl (T_faR (fOk rfl) (zOk rfl) rfl) ?_
   refine EVo_t rfl (T_loadR (gOk rfl) rfl rfl rfl rfl) ?_
   refine EVo_e rfl (D_call false (nat_MulN p.den q.den (by omega) (by omega)) rfl (fit_cons (fit_d rfl nofun) (fit_cons (fit_d rfl nofun) (fit_nil)))) ?_
   refine EVo_t rfl (T_move rfl) ?_
   refine EVo_t rfl (T_extract rfl rfl) ?_
   refine EVo_t rfl (T_extract rfl rfl) ?_
   refine EVo_t rfl (T_assign rfl) ?_
   refine EVo_t rfl (T_assign rfl) ?_
   refine EVo_nil (EV_seq (EV_region ?_))
   refine EVo_t rfl (T_loadRA (gOk rfl) (zOk rfl) rfl rfl (Nat.le_of_ble_eq_true rfl) rfl rfl) ?_
   refine EVo_t rfl (T_move rfl) ?_
   refine EVo_e rfl (D_call false (ratio_quotient (p.num * q.den + q.num * p.den) _ (Nat.mul_ne_zero hpd hqd) (by omega) (by omega)) rfl (fit_cons (fit_ag rfl nofun) (fit_cons (fit_d rfl nofun) (fit_nil)))) ?_
   refine EVo_e rfl (D_store rfl Free_no rfl rfl (zOk rfl) rfl (Nat.le_of_ble_eq_true rfl) rfl) ?_
   refine EVo_t rfl (T_assign rfl) ?_
   refine EVo_nil ?_
   refine EV_ret ?_
   refine ⟨_, _, ⟨rfl, _, _, _, rfl, rfl, rfl, .inl ⟨_, gOk rfl, zOk rfl, Nat.le_of_ble_eq_true rfl, rfl⟩⟩, ⟨rfl, rfl⟩, fit_agg rfl nofun ?_, fit_eq rfl nofun rfl⟩
   ·exact congrArg encQ (Rat.add_def' p q).symm
  ·try simp only [z1, z2, z3, z4, z5, z6, z7, z8, z9, y1, y2, y3] at hb2
   simp at hb2

theorem ratio_reckon_mul (p q : Rat) (h : szQ p + szQ q ≤ 4398046511104) : Fn Tryz.prog 101 [.d (ii 3), .agg (encQ p), .agg (encQ q)] false (.tup [.agg (encQ (p * q)), .d (ii 0)]) := by
 have hzp : szQ p = (limbs p.num.natAbs).length + (limbs p.den).length := rfl
 have hzq : szQ q = (limbs q.num.natAbs).length + (limbs q.den).length := rfl
 have hpd := p.den_nz
 have hqd := q.den_nz
 have hmac := limbs_mul_len p.num.natAbs q.num.natAbs
 have hmbd := limbs_mul_len p.den q.den
 have hss : (limbs (p.num * q.num).natAbs).length ≤ szQ p + szQ q := by rw [Int.natAbs_mul]; omega
 refine Fn_of_EV Tryz.func101 rfl (by kernel_rfl) rfl rfl (fun E hE => ?_)
 refine EV_seq (EV_region ?_)
 refine EVo_e rfl (D_box 1 (hE 1 rfl) Free_no rfl) ?_
 refine EVo_e rfl (D_box 2 (hE 2 rfl) Free_no rfl) ?_
 refine EVo_e rfl (D_alloc 3 (hE 3 rfl) Free_no zr40 rfl) ?_
 refine EVo_t rfl (T_assign rfl) ?_
 refine EVo_nil ?_
 refine EV_seq ?_
 refine EV_seq (EV_region ?_)
 refine EVo_t rfl (T_loadRA (gOk rfl) (zOk rfl) rfl rfl (Nat.le_of_ble_eq_true rfl) rfl rfl) ?_
 refine EVo_e rfl (D_call false (ratio_goodQ _ (by omega)) rfl (fit_cons (fit_ag rfl nofun) (fit_nil))) ?_
 refine EVo_t rfl (T_un rfl rfl) ?_
 refine EVo_t rfl (T_move rfl) ?_
 refine EVo_t rfl (T_loadRA (gOk rfl) (zOk rfl) rfl rfl (Nat.le_of_ble_eq_true rfl) rfl rfl) ?_
 refine EVo_e rfl (D_call false (ratio_goodQ _ (by omega)) rfl (fit_cons (fit_ag rfl nofun) (fit_nil))) ?_
 refine EVo_t rfl (T_un rfl rfl) ?_
 refine EVo_t rfl (T_pick rfl rfl) ?_
 refine EVo_nil ?_
 refine EV_cond rfl rfl rfl (fun h => by cases h) (fun _ => ?_)
 refine EV_skip ?_
 refine EV_seq (EV_region ?_)
 refine EVo_e rfl (D_alloc 4 (hE 4 rfl) Free_no zr38 rfl) ?_
 refine EVo_nil ?_
 refine EV_seq ?_
 refine EV_seq (EV_region ?_)
 refine EVo_t rfl (T_move rfl) ?_
 refine EVo_nil ?_
 refine EV_block ?_
 refine EV_seq ?_
 refine EV_block ?_
 refine EV_seq ?_
 refine EV_block ?_
 refine EV_seq ?_
 refine EV_block ?_
 refine EV_seq ?_
 refine EV_block ?_
 refine EV_seq ?_
 refine EV_seq ?_
 refine EV_seq (EV_region ?_)
 refine EVo_t rfl (T_bin rfl rfl rfl) ?_
 refine EVo_t rfl (T_assign rfl) ?_
 refine EVo_nil ?_
 refine EV_cond rfl rfl rfl (fun hb1 => ?_) (fun hb1 => ?_)
 ·try simp only [z1, z2, z3, z4, z5, z6, z7, z8, z9, y1, y2, y3] at hb1
  exfalso; omega
 ·try simp only [z1, z2, z3, z4, z5, z6, z7, z8, z9, y1, y2, y3] at hb1
  refine EV_skip ?_
  refine EV_seq ?_
  refine EV_seq (EV_region ?_)
  refine EVo_t rfl (T_bin rfl rfl rfl) ?_
  refine EVo_t rfl (T_assign rfl) ?_
  refine EVo_nil ?_
  refine EV_cond rfl rfl rfl (fun hb2 => ?_) (fun hb2 => ?_)
  ·try simp only [z1, z2, z3, z4, z5, z6, z7, z8, z9, y1, y2, y3] at hb2
   exfalso; omega
  ·try simp only [z1, z2, z3, z4, z5, z6, z7, z8, z9, y1, y2, y3] at hb2
   refine EV_skip ?_
   refine EV_seq (EV_region ?_)
   refine EVo_t rfl (T_bin rfl rfl rfl) ?_
   refine EVo_t rfl (T_assign rfl) ?_
   refine EVo_nil ?_
   refine EV_cond rfl rfl rfl (fun hb3 => ?_) (fun hb3 => ?_)
   ·try simp only [z1, z2, z3, z4, z5, z6, z7, z8, z9, y1, y2, y3] at hb3
    exfalso; omega
   ·try simp only [z1, z2, z3, z4, z5, z6, z7, z8, z9, y1, y2, y3] at hb3
    refine EV_skip ?_
    refine EV_exit ?_
    refine EV_seq (EV_region ?_)
    refine EVo_t rfl (T_faR (fOk rfl) (zOk rfl) rfl) ?_
    refine EVo_t rfl (T_loadRA (gOk rfl) (zOk rfl) rfl rfl (Nat.le_of_ble_eq_true rfl) rfl rfl) ?_
    refine EVo_t rfl (T_faR (fOk rfl) (zOk rfl) rfl) ?_
    refine EVo_t rfl (T_loadRA (gOk rfl) (zOk rfl) rfl rfl (Nat.le_of_ble_eq_true rfl) rfl rfl) ?_
    refine EVo_e rfl (D_call false (whole_Mul p.num q.num (by omega)) rfl (fit_cons (fit_ag rfl nofun) (fit_cons (fit_ag rfl nofun) (fit_nil)))) ?_
    refine EVo_t rfl (T_move rfl) ?_
    refine EVo_t rfl (T_extract rfl rfl) ?_
    refine EVo_t rfl (T_extract rfl rfl) ?_
    refine EVo_e rfl (D_store rfl Free_no rfl rfl (zOk rfl) rfl (Nat.le_of_ble_eq_true rfl) rfl) ?_
    refine EVo_nil ?_
    refine EV_exit ?_
    refine EV_seq (EV_region ?_)
    refine EVo_t rfl (T_faR (fOk rfl) (zOk rfl) rfl) ?_
    refine EVo_t rfl (T_loadR (gOk rfl) rfl rfl rfl rfl) ?_
    refine EVo_t rfl (T_faR (fOk rfl) (zOk rfl) rfl) ?_
    refine EVo_t rfl (T_loadR (gOk rfl) rfl rfl rfl rfl) ?_
    refine EVo_e rfl (D_call false (nat_MulN p.den q.den (by omega) (by omega)) rfl (fit_cons (fit_d rfl nofun) (fit_cons (fit_d rfl nofun) (fit_nil)))) ?_
    refine EVo_t rfl (T_move rfl) ?_
    refine EVo_t rfl (T_extract rfl rfl) ?_
    refine EVo_t rfl (T_extract rfl rfl) ?_
    refine EVo_t rfl (T_assign rfl) ?_
    refine EVo_t rfl (T_assign rfl) ?_
    refine EVo_nil (EV_seq (EV_region ?_))
    refine EVo_t rfl (T_loadRA (gOk rfl) (zOk rfl) rfl rfl (Nat.le_of_ble_eq_true rfl) rfl rfl) ?_
    refine EVo_t rfl (T_move rfl) ?_
    refine EVo_e rfl (D_call false (ratio_quotient (p.num * q.num) _ (Nat.mul_ne_zero hpd hqd) (by omega) (by omega)) rfl (fit_cons (fit_ag rfl nofun) (fit_cons (fit_d rfl nofun) (fit_nil)))) ?_
    refine EVo_e rfl (D_store rfl Free_no rfl rfl (zOk rfl) rfl (Nat.le_of_ble_eq_true rfl) rfl) ?_
    refine EVo_t rfl (T_assign rfl) ?_
    refine EVo_nil ?_
    refine EV_ret ?_
    refine ⟨_, _, ⟨rfl, _, _, _, rfl, rfl, rfl, .inl ⟨_, gOk rfl, zOk rfl, Nat.le_of_ble_eq_true rfl, rfl⟩⟩, ⟨rfl, rfl⟩, fit_agg rfl nofun ?_, fit_eq rfl nofun rfl⟩
    ·exact congrArg encQ (Rat.mul_def' p q).symm

theorem ratio_reckon_div (p q : Rat) (h : szQ p + szQ q ≤ 4398046511104) (hq0 : q ≠ 0) : Fn Tryz.prog 101 [.d (ii 2), .agg (encQ p), .agg (encQ q)] false (.tup [.agg (encQ (p / q)), .d (ii 0)]) := by
 have hzp : szQ p = (limbs p.num.natAbs).length + (limbs p.den).length := rfl
 have hzq : szQ q = (limbs q.num.natAbs).length + (limbs q.den).length := rfl
 have hpd := p.den_nz
 have hqd := q.den_nz
 have hmad := limbs_mul_len p.num.natAbs q.den
 have hmbc := limbs_mul_len p.den q.num.natAbs
 have hqn : q.num.natAbs ≠ 0 := (inv_parts hq0).2.2
 have hqp := (limbs_len_pos q.num.natAbs).2 hqn
 have hss : (limbs (p.num * (if decide (q.num < 0) then -(q.den : Int) else (q.den : Int))).natAbs).length ≤ szQ p + szQ q := by rw [Int.natAbs_mul]; split <;> simp only [Int.natAbs_neg, Int.natAbs_natCast] <;> omega
 refine Fn_of_EV Tryz.func101 rfl (by kernel_rfl) rfl rfl (fun E hE => ?_)
 refine EV_seq (EV_region ?_)
 refine EVo_e rfl (D_box 1 (hE 1 rfl) Free_no rfl) ?_
 refine EVo_e rfl (D_box 2 (hE 2 rfl) Free_no rfl) ?_
 refine EVo_e rfl (D_alloc 3 (hE 3 rfl) Free_no zr40 rfl) ?_
 refine EVo_t rfl (T_assign rfl) ?_
 refine EVo_nil ?_
 refine EV_seq ?_
 refine EV_seq (EV_region ?_)
 refine EVo_t rfl (T_loadRA (gOk rfl) (zOk rfl) rfl rfl (Nat.le_of_ble_eq_true rfl) rfl rfl) ?_
 refine EVo_e rfl (D_call false (ratio_goodQ _ (by omega)) rfl (fit_cons (fit_ag rfl nofun) (fit_nil))) ?_
 refine EVo_t rfl (T_un rfl rfl) ?_
 refine EVo_t rfl (T_move rfl) ?_
 refine EVo_t rfl (T_loadRA (gOk rfl) (zOk rfl) rfl rfl (Nat.le_of_ble_eq_true rfl) rfl rfl) ?_
 refine EVo_e rfl (D_call false (ratio_goodQ _ (by omega)) rfl (fit_cons (fit_ag rfl nofun) (fit_nil))) ?_
 refine EVo_t rfl (T_un rfl rfl) ?_
 refine EVo_t rfl (T_pick rfl rfl) ?_
 refine EVo_nil ?_
 refine EV_cond rfl rfl rfl (fun h => by cases h) (fun _ => ?_)
 refine EV_skip ?_
 refine EV_seq (EV_region ?_)
 refine EVo_e rfl (D_alloc 4 (hE 4 rfl) Free_no zr38 rfl) ?_
 refine EVo_nil ?_
 refine EV_seq ?_
 refine EV_seq (EV_region ?_)
 refine EVo_t rfl (T_move rfl) ?_
 refine EVo_nil ?_
 refine EV_block ?_
 refine EV_seq ?_
 refine EV_block ?_
 refine EV_seq ?_
 refine EV_block ?_
 refine EV_seq ?_
 refine EV_block ?_
 refine EV_seq ?_
 refine EV_block ?_
 refine EV_seq ?_
 refine EV_seq ?_
 refine EV_seq (EV_region ?_)
 refine EVo_t rfl (T_bin rfl rfl rfl) ?_
 refine EVo_t rfl (T_assign rfl) ?_
 refine EVo_nil ?_
 refine EV_cond rfl rfl rfl (fun hb1 => ?_) (fun hb1 => ?_)
 ·try simp only [z1, z2, z3, z4, z5, z6, z7, z8, z9, y1, y2, y3] at hb1
  exfalso; omega
 ·try simp only [z1, z2, z3, z4, z5, z6, z7, z8, z9, y1, y2, y3] at hb1
  refine EV_skip ?_
  refine EV_seq ?_
  refine EV_seq (EV_region ?_)
  refine EVo_t rfl (T_bin rfl rfl rfl) ?_
  refine EVo_t rfl (T_assign rfl) ?_
  refine EVo_nil ?_
  refine EV_cond rfl rfl rfl (fun hb2 => ?_) (fun hb2 => ?_)
  ·try simp only [z1, z2, z3, z4, z5, z6, z7, z8, z9, y1, y2, y3] at hb2
   exfalso; omega
  ·try simp only [z1, z2, z3, z4, z5, z6, z7, z8, z9, y1, y2, y3] at hb2
   refine EV_skip ?_
   refine EV_seq (EV_region ?_)
   refine EVo_t rfl (T_bin rfl rfl rfl) ?_
   refine EVo_t rfl (T_assign rfl) ?_
   refine EVo_nil ?_
   refine EV_cond rfl rfl rfl (fun hb3 => ?_) (fun hb3 => ?_)
   ·try simp only [z1, z2, z3, z4, z5, z6, z7, z8, z9, y1, y2, y3] at hb3
    refine EV_exit ?_
    refine EV_seq ?_
    refine EV_seq (EV_region ?_)
    refine EVo_t rfl (T_faR (fOk rfl) (zOk rfl) rfl) ?_
    refine EVo_t rfl (T_faR (fOk rfl) (zOk rfl) rfl) ?_
    refine EVo_t rfl (T_loadR (gOk rfl) rfl rfl rfl rfl) ?_
    refine EVo_t rfl (T_lenL (uOk rfl) rfl) ?_
    refine EVo_t rfl (T_bin rfl rfl rfl) ?_
    refine EVo_nil ?_
    refine EV_cond rfl rfl rfl (fun hb4 => ?_) (fun hb4 => ?_)
    ·try simp only [z1, z2, z3, z4, z5, z6, z7, z8, z9, y1, y2, y3] at hb4
     exfalso; omega
    ·try simp only [z1, z2, z3, z4, z5, z6, z7, z8, z9, y1, y2, y3] at hb4
     refine EV_skip ?_
     refine EV_region ?_
     refine EVo_t rfl (T_faR (fOk rfl) (zOk rfl) rfl) ?_
     refine EVo_t rfl (T_faR (fOk rfl) (zOk rfl) rfl) ?_
     refine EVo_t rfl (T_loadR (gOk rfl) rfl rfl rfl rfl) ?_
     refine EVo_t rfl (T_faR (fOk rfl) (zOk rfl) rfl) ?_
     refine EVo_t rfl (T_loadR (gOk rfl) rfl rfl rfl rfl) ?_
     refine EVo_t rfl (T_build ly38 rfl rfl) ?_
     refine EVo_t rfl (T_faR (fOk rfl) (zOk rfl) rfl) ?_
     refine EVo_t rfl (T_faR (fOk rfl) (zOk rfl) rfl) ?_
     refine EVo_t rfl (T_loadR (gOk rfl) rfl rfl rfl rfl) ?_
     refine EVo_t rfl (T_build ly40 rfl rfl) ?_
     refine EVo_e rfl (D_store rfl Free_no rfl rfl (zOk rfl) rfl (Nat.le_of_ble_eq_true rfl) rfl) ?_
     refine EVo_nil (EV_seq (EV_region ?_))
     refine EVo_t rfl (T_faR (fOk rfl) (zOk rfl) rfl) ?_
     refine EVo_t rfl (T_loadRA (gOk rfl) (zOk rfl) rfl rfl (Nat.le_of_ble_eq_true rfl) rfl rfl) ?_
     refine EVo_t rfl (T_faR (fOk rfl) (zOk rfl) rfl) ?_
     refine EVo_t rfl (T_loadRA (gOk rfl) (zOk rfl) rfl rfl (Nat.le_of_ble_eq_true rfl) rfl rfl) ?_
     refine EVo_e rfl (D_call false (whole_MulS p.num (decide (q.num < 0)) q.den (fun _ => hqd) (by omega)) rfl (fit_cons (fit_ag rfl nofun) (fit_cons (fit_ag rfl nofun) (fit_nil)))) ?_
     refine EVo_t rfl (T_move rfl) ?_
     refine EVo_t rfl (T_extract rfl rfl) ?_
     refine EVo_t rfl (T_extract rfl rfl) ?_
     refine EVo_e rfl (D_store rfl Free_no rfl rfl (zOk rfl) rfl (Nat.le_of_ble_eq_true rfl) rfl) ?_
     refine EVo_nil ?_
     refine EV_exit ?_
     refine EV_seq (EV_region ?_)
     refine EVo_t rfl (T_faR (fOk rfl) (zOk rfl) rfl) ?_
     refine EVo_t rfl (T_loadR (gOk rfl) rfl rfl rfl rfl) ?_
     refine EVo_t rfl (T_faR (fOk rfl) (zOk rfl) rfl) ?_
     refine EVo_t rfl (T_loadR (gOk rfl) rfl rfl rfl rfl) ?_
     refine EVo_e rfl (D_call false (nat_MulN p.den q.num.natAbs (by omega) (by omega)) rfl (fit_cons (fit_d rfl nofun) (fit_cons (fit_d rfl nofun) (fit_nil)))) ?_
     refine EVo_t rfl (T_move rfl) ?_
     refine EVo_t rfl (T_extract rfl rfl) ?_
     refine EVo_t rfl (T_extract rfl rfl) ?_
     refine EVo_t rfl (T_assign rfl) ?_
     refine EVo_t rfl (T_assign rfl) ?_
     refine EVo_nil (EV_seq (EV_region ?_))
     refine EVo_t rfl (T_loadRA (gOk rfl) (zOk rfl) rfl rfl (Nat.le_of_ble_eq_true rfl) rfl rfl) ?_
     refine EVo_t rfl (T_move rfl) ?_
     refine EVo_e rfl (D_call false (ratio_quotient _ _ (Nat.mul_ne_zero hpd hqn) (Nat.le_trans hss (by omega)) (by omega)) rfl (fit_cons (fit_ag rfl nofun) (fit_cons (fit_d rfl nofun) (fit_nil)))) ?_
     refine EVo_e rfl (D_store rfl Free_no rfl rfl (zOk rfl) rfl (Nat.le_of_ble_eq_true rfl) rfl) ?_
     refine EVo_t rfl (T_assign rfl) ?_
     refine EVo_nil ?_
     refine EV_ret ?_
     refine ⟨_, _, ⟨rfl, _, _, _, rfl, rfl, rfl, .inl ⟨_, gOk rfl, zOk rfl, Nat.le_of_ble_eq_true rfl, rfl⟩⟩, ⟨rfl, rfl⟩, fit_agg rfl nofun ?_, fit_eq rfl nofun rfl⟩
     ·simp only [decide_eq_true_eq]
      exact congrArg encQ (div_mk hq0).symm
   ·try simp only [z1, z2, z3, z4, z5, z6, z7, z8, z9, y1, y2, y3] at hb3
    simp at hb3

theorem ratio_Add (p q : Rat) (h : szQ p + szQ q ≤ 4398046511104) : Fn Tryz.prog 48 [.agg (encQ p), .agg (encQ q)] false (.tup [.agg (encQ (p + q)), .d (ii 0)]) := by
 refine Fn_of_EV Tryz.func48 rfl (by kernel_rfl) rfl rfl (fun E hE => ?_)
 refine EV_seq (EV_region ?_)
 refine EVo_e rfl (D_box 1 (hE 1 rfl) Free_no rfl) ?_
 refine EVo_e rfl (D_box 2 (hE 2 rfl) Free_no rfl) ?_
 refine EVo_e rfl (D_alloc 3 (hE 3 rfl) Free_no zr40 rfl) ?_
 refine EVo_t rfl (T_assign rfl) ?_
 refine EVo_nil (EV_seq (EV_region ?_))
 refine EVo_t rfl (T_loadRA (gOk rfl) (zOk rfl) rfl rfl (Nat.le_of_ble_eq_true rfl) rfl rfl) ?_
 refine EVo_t rfl (T_loadRA (gOk rfl) (zOk rfl) rfl rfl (Nat.le_of_ble_eq_true rfl) rfl rfl) ?_
 refine EVo_e rfl (D_call false (ratio_reckon_add p q h) rfl (fit_cons (fit_d rfl nofun) (fit_cons (fit_ag rfl nofun) (fit_cons (fit_ag rfl nofun) (fit_nil))))) ?_
 refine EVo_t rfl (T_extract rfl rfl) ?_
 refine EVo_t rfl (T_extract rfl rfl) ?_
 refine EVo_e rfl (D_store rfl Free_no rfl rfl (zOk rfl) rfl (Nat.le_of_ble_eq_true rfl) rfl) ?_
 refine EVo_t rfl (T_assign rfl) ?_
 refine EVo_nil ?_
 refine EV_ret ?_
 refine ⟨_, _, ⟨rfl, _, _, _, rfl, rfl, rfl, .inl ⟨_, gOk rfl, zOk rfl, Nat.le_of_ble_eq_true rfl, rfl⟩⟩, ⟨rfl, rfl⟩, fit_agg rfl nofun rfl, fit_eq rfl nofun rfl⟩

theorem ratio_Mul (p q : Rat) (h : szQ p + szQ q ≤ 4398046511104) : Fn Tryz.prog 97 [.agg (encQ p), .agg (encQ q)] false (.tup [.agg (encQ (p * q)), .d (ii 0)]) := by
 refine Fn_of_EV Tryz.func97 rfl (by kernel_rfl) rfl rfl (fun E hE => ?_)
 refine EV_seq (EV_region ?_)
 refine EVo_e rfl (D_box 1 (hE 1 rfl) Free_no rfl) ?_
 refine EVo_e rfl (D_box 2 (hE 2 rfl) Free_no rfl) ?_
 refine EVo_e rfl (D_alloc 3 (hE 3 rfl) Free_no zr40 rfl) ?_
 refine EVo_t rfl (T_assign rfl) ?_
 refine EVo_nil (EV_seq (EV_region ?_))
 refine EVo_t rfl (T_loadRA (gOk rfl) (zOk rfl) rfl rfl (Nat.le_of_ble_eq_true rfl) rfl rfl) ?_
 refine EVo_t rfl (T_loadRA (gOk rfl) (zOk rfl) rfl rfl (Nat.le_of_ble_eq_true rfl) rfl rfl) ?_
 refine EVo_e rfl (D_call false (ratio_reckon_mul p q h) rfl (fit_cons (fit_d rfl nofun) (fit_cons (fit_ag rfl nofun) (fit_cons (fit_ag rfl nofun) (fit_nil))))) ?_
 refine EVo_t rfl (T_extract rfl rfl) ?_
 refine EVo_t rfl (T_extract rfl rfl) ?_
 refine EVo_e rfl (D_store rfl Free_no rfl rfl (zOk rfl) rfl (Nat.le_of_ble_eq_true rfl) rfl) ?_
 refine EVo_t rfl (T_assign rfl) ?_
 refine EVo_nil ?_
 refine EV_ret ?_
 refine ⟨_, _, ⟨rfl, _, _, _, rfl, rfl, rfl, .inl ⟨_, gOk rfl, zOk rfl, Nat.le_of_ble_eq_true rfl, rfl⟩⟩, ⟨rfl, rfl⟩, fit_agg rfl nofun rfl, fit_eq rfl nofun rfl⟩

theorem ratio_Div (p q : Rat) (h : szQ p + szQ q ≤ 4398046511104) (hq0 : q ≠ 0) : Fn Tryz.prog 98 [.agg (encQ p), .agg (encQ q)] false (.tup [.agg (encQ (p / q)), .d (ii 0)]) := by
 refine Fn_of_EV Tryz.func98 rfl (by kernel_rfl) rfl rfl (fun E hE => ?_)
 refine EV_seq (EV_region ?_)
 refine EVo_e rfl (D_box 1 (hE 1 rfl) Free_no rfl) ?_
 refine EVo_e rfl (D_box 2 (hE 2 rfl) Free_no rfl) ?_
 refine EVo_e rfl (D_alloc 3 (hE 3 rfl) Free_no zr40 rfl) ?_
 refine EVo_t rfl (T_assign rfl) ?_
 refine EVo_nil (EV_seq (EV_region ?_))
 refine EVo_t rfl (T_loadRA (gOk rfl) (zOk rfl) rfl rfl (Nat.le_of_ble_eq_true rfl) rfl rfl) ?_
 refine EVo_t rfl (T_loadRA (gOk rfl) (zOk rfl) rfl rfl (Nat.le_of_ble_eq_true rfl) rfl rfl) ?_
 refine EVo_e rfl (D_call false (ratio_reckon_div p q h hq0) rfl (fit_cons (fit_d rfl nofun) (fit_cons (fit_ag rfl nofun) (fit_cons (fit_ag rfl nofun) (fit_nil))))) ?_
 refine EVo_t rfl (T_extract rfl rfl) ?_
 refine EVo_t rfl (T_extract rfl rfl) ?_
 refine EVo_e rfl (D_store rfl Free_no rfl rfl (zOk rfl) rfl (Nat.le_of_ble_eq_true rfl) rfl) ?_
 refine EVo_t rfl (T_assign rfl) ?_
 refine EVo_nil ?_
 refine EV_ret ?_
 refine ⟨_, _, ⟨rfl, _, _, _, rfl, rfl, rfl, .inl ⟨_, gOk rfl, zOk rfl, Nat.le_of_ble_eq_true rfl, rfl⟩⟩, ⟨rfl, rfl⟩, fit_agg rfl nofun rfl, fit_eq rfl nofun rfl⟩

theorem ratio_Sign (q : Rat) (h : szQ q ≤ 8796093022208) : Fn Tryz.prog 42 [.agg (encQ q)] false (.one (.d (ii (if 0 < q.num then 1 else if q.num < 0 then -1 else 0)))) := by
 have hzq : szQ q = (limbs q.num.natAbs).length + (limbs q.den).length := rfl
 refine Fn_of_EV Tryz.func42 rfl (by kernel_rfl) rfl rfl (fun E hE => ?_)
 refine EV_seq (EV_region ?_)
 refine EVo_e rfl (D_box 1 (hE 1 rfl) Free_no rfl) ?_
 refine EVo_t rfl (T_assign rfl) ?_
 refine EVo_nil ?_
 refine EV_seq ?_
 refine EV_seq (EV_region ?_)
 refine EVo_t rfl (T_loadRA (gOk rfl) (zOk rfl) rfl rfl (Nat.le_of_ble_eq_true rfl) rfl rfl) ?_
 refine EVo_e rfl (D_call false (ratio_goodQ _ (by omega)) rfl (fit_cons (fit_ag rfl nofun) (fit_nil))) ?_
 refine EVo_t rfl (T_un rfl rfl) ?_
 refine EVo_nil ?_
 refine EV_cond rfl rfl rfl (fun h => by cases h) (fun _ => ?_)
 refine EV_skip ?_
 refine EV_seq (EV_region ?_)
 refine EVo_t rfl (T_faR (fOk rfl) (zOk rfl) rfl) ?_
 refine EVo_t rfl (T_loadRA (gOk rfl) (zOk rfl) rfl rfl (Nat.le_of_ble_eq_true rfl) rfl rfl) ?_
 refine EVo_e rfl (D_call false (whole_SignN q.num (by omega)) rfl (fit_cons (fit_ag rfl nofun) (fit_nil))) ?_
 refine EVo_t rfl (T_assign rfl) ?_
 refine EVo_nil ?_
 refine EV_ret ?_
 refine ⟨_, ⟨rfl, rfl⟩, fit_eq rfl nofun rfl⟩

end Go.Proofs.YthaiegnohkiegaaGreat.Ab
/-
  The reference: forms.
-/
namespace Go.Proofs.YthaiegnohkiegaaGreat.Ab
abbrev encNs (ls : List (List Int)) : D := .sl (ls.map fun l => [encN l])
theorem sum_take {ls : List (List Int)} {i : Nat} (h : i < ls.length) : ((ls.take (i + 1)).map List.length).sum = ((ls.take i).map List.length).sum + (rd ls (i : Int)).length ∧
    ((ls.take i).map List.length).sum + (rd ls (i : Int)).length ≤ (ls.map List.length).sum := by
  have e : rd ls (i : Int) = ls[i] := by simp [rd, h]
  have h1 : ((ls.take (i + 1)).map List.length).sum = ((ls.take i).map List.length).sum + (rd ls (i : Int)).length := by
    rw [e, ← List.take_append_getElem h, List.map_append, List.sum_append_nat]
    simp
  refine ⟨h1, ?_⟩
  rw [← h1]
  have h2 : (ls.map List.length).sum = ((ls.take (i + 1)).map List.length).sum + ((ls.drop (i + 1)).map List.length).sum := by
    rw [← List.sum_append_nat, ← List.map_append, List.take_append_drop]
  omega
end Go.Proofs.YthaiegnohkiegaaGreat.Ab
/-
 Contracts of the reference: what is the same; limbs.
-/
namespace Go.Proofs.YthaiegnohkiegaaGreat.Ab
set_option linter.unusedVariables false
set_option linter.unusedSimpArgs false
set_option maxRecDepth 20000


theorem ref_EqNat (l m : List Int) (hl : l.length ≤ 17592186044416) (hm : m.length ≤ 17592186044416) : Fn Tryz.prog 58 [.d (encN l), .d (encN m)] false (.one (.d (ib (decide (l = m))))) := by
 refine Fn_of_EV Tryz.func58 rfl (by kernel_rfl) rfl rfl (fun E hE => ?_)
 refine EV_seq (EV_region ?_)
 refine EVo_t rfl (T_assign rfl) ?_
 refine EVo_nil ?_
 refine EV_seq ?_
 refine EV_seq (EV_region ?_)
 refine EVo_t rfl (T_move rfl) ?_
 refine EVo_t rfl (T_lenL (uOk rfl) rfl) ?_
 refine EVo_t rfl (T_move rfl) ?_
 refine EVo_t rfl (T_lenL (uOk rfl) rfl) ?_
 refine EVo_t rfl (T_bin rfl rfl rfl) ?_
 refine EVo_nil ?_
 refine EV_cond rfl rfl rfl (fun hb1 => ?_) (fun hb1 => ?_)
 ·try simp only [z1, z2, z3, z4, z5, z6, z7, z8, z9, y1, y2, y3] at hb1
  refine EV_seq (EV_region ?_)
  refine EVo_t rfl (T_assign rfl) ?_
  refine EVo_nil ?_
  refine EV_ret ?_
  refine ⟨_, ⟨rfl, rfl⟩, fit_eq rfl nofun ?_⟩
  ·have : l ≠ m := fun e => by subst e; omega
   simp [this]
 ·try simp only [z1, z2, z3, z4, z5, z6, z7, z8, z9, y1, y2, y3] at hb1
  refine EV_skip ?_
  refine EV_seq ?_
  refine EV_seq (EV_region ?_)
  refine EVo_t rfl (T_assign rfl) ?_
  refine EVo_nil ?_
  refine EV_block ?_
  refine EV_weak (W_keep2 [(0, V.c (.d false (encN l))), (1, V.c (.d false (encN m))), (5, vi .i64 (_))] [] ⟨rfl, rfl, rfl, trivial⟩ trivial rfl) ?_
  refine EV_loop (fun mm S => ∃ i : Int, mm = ((l.length : Int) - i).toNat ∧ S = St.of [(0, V.c (.d false (encN l))), (1, V.c (.d false (encN m))), (5, vi .i64 i)] (tabO []) 26 ∧ 0 ≤ i ∧ i ≤ l.length ∧ l.take i.toNat = m.take i.toNat) _ ⟨_, rfl, rfl, ⟨by omega, by omega, rfl⟩⟩ ?_
  rintro mm S ⟨i, rfl, rfl, ⟨h0, h1, h2⟩⟩
  refine EV_seq ?_
  refine EV_seq (EV_region ?_)
  refine EVo_t rfl (T_move rfl) ?_
  refine EVo_t rfl (T_move rfl) ?_
  refine EVo_t rfl (T_lenL (uOk rfl) rfl) ?_
  refine EVo_t rfl (T_bin rfl rfl rfl) ?_
  refine EVo_nil ?_
  refine EV_cond rfl rfl rfl (fun hb2 => ?_) (fun hb2 => ?_)
  ·try simp only [z1, z2, z3, z4, z5, z6, z7, z8, z9, y1, y2, y3] at hb2
   refine EV_skip ?_
   refine EV_seq ?_
   refine EV_block ?_
   refine EV_seq ?_
   refine EV_draw (inX []) (.st 0 (.st 1 (.st 2 (.st 3 (.st 4 (.st 5 (.st 6 (.st 7 (.st 8 .done))))))))) Tryz.mixed (by kernel_rfl) ?_
   refine EVq_t rfl rfl (T_move rfl) ?_
   refine EVq_t rfl rfl (T_move rfl) ?_
   refine EVq_t rfl rfl (T_ixL (uOk rfl) (zOk rfl) rfl rfl (by omega) (by omega) rfl) ?_
   refine EVq_t rfl rfl (T_load (gOk rfl) rfl) ?_
   refine EVq_t rfl rfl (T_move rfl) ?_
   refine EVq_t rfl rfl (T_move rfl) ?_
   refine EVq_t rfl rfl (T_ixL (uOk rfl) (zOk rfl) rfl rfl (by omega) (by omega) rfl) ?_
   refine EVq_t rfl rfl (T_load (gOk rfl) rfl) ?_
   refine EVq_t rfl rfl (T_bin rfl rfl rfl) ?_
   refine EVq_done ?_
   refine EV_cond rfl rfl rfl (fun hb3 => ?_) (fun hb3 => ?_)
   ·try simp only [z1, z2, z3, z4, z5, z6, z7, z8, z9, y1, y2, y3] at hb3
    refine EV_seq (EV_region ?_)
    refine EVo_t rfl (T_assign rfl) ?_
    refine EVo_nil ?_
    refine EV_ret ?_
    refine ⟨_, ⟨rfl, rfl⟩, fit_eq rfl nofun ?_⟩
    ·have : l ≠ m := fun e => by subst e; simp at *
     simp [this]
   ·try simp only [z1, z2, z3, z4, z5, z6, z7, z8, z9, y1, y2, y3] at hb3
    refine EV_skip ?_
    refine EV_region ?_
    refine EVo_t rfl (T_move rfl) ?_
    refine EVo_t rfl (T_binI rfl rfl rfl (by omega) (by omega)) ?_
    refine EVo_t rfl (T_assign rfl) ?_
    refine EVo_nil ?_
    refine ⟨_, ?_, _, W_keep2 [(0, V.c (.d false (encN l))), (1, V.c (.d false (encN m))), (5, vi .i64 (_))] [] ⟨rfl, rfl, rfl, trivial⟩ trivial rfl, _, rfl, rfl, ?_⟩
    ·omega
    ·refine ⟨by omega, by omega, ?_⟩
     rw [show (i + 1).toNat = i.toNat + 1 by omega, take_succ_rd (l := l) (by omega), take_succ_rd (l := m) (by omega), h2]
     congr 2
     (try (rw [Int.toNat_of_nonneg h0]; assumption))
  ·try simp only [z1, z2, z3, z4, z5, z6, z7, z8, z9, y1, y2, y3] at hb2
   refine EV_exit ?_
   refine EV_seq (EV_region ?_)
   refine EVo_t rfl (T_assign rfl) ?_
   refine EVo_nil ?_
   refine EV_ret ?_
   refine ⟨_, ⟨rfl, rfl⟩, fit_eq rfl nofun ?_⟩
   ·have e : i.toNat = l.length := by omega
    rw [e, List.take_of_length_le (Nat.le_refl l.length), List.take_of_length_le (by omega)] at h2
    simp [h2]

theorem ref_EqInt (x y : Bool) (l m : List Int) (hl : l.length ≤ 17592186044416) (hm : m.length ≤ 17592186044416) : Fn Tryz.prog 57 [.agg [ib x, encN l], .agg [ib y, encN m]] false (.one (.d (ib (decide (x = y ∧ l = m))))) := by
 refine Fn_of_EV Tryz.func57 rfl (by kernel_rfl) rfl rfl (fun E hE => ?_)
 refine EV_seq (EV_region ?_)
 refine EVo_e rfl (D_box 1 (hE 1 rfl) Free_no rfl) ?_
 refine EVo_e rfl (D_box 2 (hE 2 rfl) Free_no rfl) ?_
 refine EVo_t rfl (T_assign rfl) ?_
 refine EVo_nil (EV_seq (EV_region ?_))
 refine EVo_t rfl (T_faR (fOk rfl) (zOk rfl) rfl) ?_
 refine EVo_t rfl (T_loadR (gOk rfl) rfl rfl rfl rfl) ?_
 refine EVo_t rfl (T_faR (fOk rfl) (zOk rfl) rfl) ?_
 refine EVo_t rfl (T_loadR (gOk rfl) rfl rfl rfl rfl) ?_
 refine EVo_t rfl (T_eqb (uOk rfl) rfl rfl (.inl ⟨rfl, rfl⟩)) ?_
 refine EVo_t rfl (T_move rfl) ?_
 refine EVo_case 10 rfl (fun hb1 => ?_) (fun hb1 => ?_)
 ·try simp only [z1, z2, z3, z4, z5, z6, z7, z8, z9, y1, y2, y3] at hb1
  refine EVo_t rfl (T_faR (fOk rfl) (zOk rfl) rfl) ?_
  refine EVo_t rfl (T_loadR (gOk rfl) rfl rfl rfl rfl) ?_
  refine EVo_t rfl (T_faR (fOk rfl) (zOk rfl) rfl) ?_
  refine EVo_t rfl (T_loadR (gOk rfl) rfl rfl rfl rfl) ?_
  refine EVo_e rfl (D_call false (ref_EqNat _ _ (by omega) (by omega)) rfl (fit_cons (fit_d rfl nofun) (fit_cons (fit_d rfl nofun) (fit_nil)))) ?_
  refine EVo_t rfl (T_pick rfl rfl) ?_
  refine EVo_t rfl (T_assign rfl) ?_
  refine EVo_nil ?_
  refine EV_ret ?_
  refine ⟨_, ⟨rfl, rfl⟩, fit_eq rfl nofun ?_⟩
  ·simp_all
 ·try simp only [z1, z2, z3, z4, z5, z6, z7, z8, z9, y1, y2, y3] at hb1
  refine EVo_off rfl rfl ?_
  refine EVo_off rfl rfl ?_
  refine EVo_off rfl rfl ?_
  refine EVo_off rfl rfl ?_
  refine EVo_off rfl rfl ?_
  refine EVo_t rfl (T_pick rfl rfl) ?_
  refine EVo_t rfl (T_assign rfl) ?_
  refine EVo_nil ?_
  refine EV_ret ?_
  refine ⟨_, ⟨rfl, rfl⟩, fit_eq rfl nofun ?_⟩
  ·simp_all

theorem ref_EqRat (x y : Bool) (l m p q : List Int) (hl : l.length ≤ 17592186044416) (hm : m.length ≤ 17592186044416) (hp : p.length ≤ 17592186044416) (hq : q.length ≤ 17592186044416) : Fn Tryz.prog 13 [.agg [ib x, encN l, encN p], .agg [ib y, encN m, encN q]] false (.one (.d (ib (decide ((x = y ∧ l = m) ∧ p = q))))) := by
 refine Fn_of_EV Tryz.func13 rfl (by kernel_rfl) rfl rfl (fun E hE => ?_)
 refine EV_seq (EV_region ?_)
 refine EVo_e rfl (D_box 1 (hE 1 rfl) Free_no rfl) ?_
 refine EVo_e rfl (D_box 2 (hE 2 rfl) Free_no rfl) ?_
 refine EVo_t rfl (T_assign rfl) ?_
 refine EVo_nil (EV_seq (EV_region ?_))
 refine EVo_t rfl (T_faR (fOk rfl) (zOk rfl) rfl) ?_
 refine EVo_t rfl (T_loadRA (gOk rfl) (zOk rfl) rfl rfl (Nat.le_of_ble_eq_true rfl) rfl rfl) ?_
 refine EVo_t rfl (T_faR (fOk rfl) (zOk rfl) rfl) ?_
 refine EVo_t rfl (T_loadRA (gOk rfl) (zOk rfl) rfl rfl (Nat.le_of_ble_eq_true rfl) rfl rfl) ?_
 refine EVo_e rfl (D_call false (ref_EqInt _ _ _ _ (by omega) (by omega)) rfl (fit_cons (fit_ag rfl nofun) (fit_cons (fit_ag rfl nofun) (fit_nil)))) ?_
 refine EVo_t rfl (T_move rfl) ?_
 refine EVo_case 10 rfl (fun hb1 => ?_) (fun hb1 => ?_)
 ·try simp only [z1, z2, z3, z4, z5, z6, z7, z8, z9, y1, y2, y3] at hb1
  refine EVo_t rfl (T_faR (fOk rfl) (zOk rfl) rfl) ?_
  refine EVo_t rfl (T_loadR (gOk rfl) rfl rfl rfl rfl) ?_
  refine EVo_t rfl (T_faR (fOk rfl) (zOk rfl) rfl) ?_
  refine EVo_t rfl (T_loadR (gOk rfl) rfl rfl rfl rfl) ?_
  refine EVo_e rfl (D_call false (ref_EqNat _ _ (by omega) (by omega)) rfl (fit_cons (fit_d rfl nofun) (fit_cons (fit_d rfl nofun) (fit_nil)))) ?_
  refine EVo_t rfl (T_pick rfl rfl) ?_
  refine EVo_t rfl (T_assign rfl) ?_
  refine EVo_nil ?_
  refine EV_ret ?_
  refine ⟨_, ⟨rfl, rfl⟩, fit_eq rfl nofun ?_⟩
  ·simp_all
 ·try simp only [z1, z2, z3, z4, z5, z6, z7, z8, z9, y1, y2, y3] at hb1
  refine EVo_off rfl rfl ?_
  refine EVo_off rfl rfl ?_
  refine EVo_off rfl rfl ?_
  refine EVo_off rfl rfl ?_
  refine EVo_off rfl rfl ?_
  refine EVo_t rfl (T_pick rfl rfl) ?_
  refine EVo_t rfl (T_assign rfl) ?_
  refine EVo_nil ?_
  refine EV_ret ?_
  refine ⟨_, ⟨rfl, rfl⟩, fit_eq rfl nofun ?_⟩
  ·simp_all

theorem law_Limbs (most : Int) (ls : List (List Int)) (hl : ls.length ≤ 17592186044416) (hs : (ls.map List.length).sum ≤ 4611686018427387904) : Fn Tryz.prog 22 [.d (ii most), .d (encNs ls)] false (.one (.d (ib (decide (most < ((ls.map List.length).sum : Int)) && decide (0 < ls.length))))) := by
 refine Fn_of_EV Tryz.func22 rfl (by kernel_rfl) rfl rfl (fun E hE => ?_)
 refine EV_seq (EV_region ?_)
 refine EVo_t rfl (T_assign rfl) ?_
 refine EVo_nil (EV_seq (EV_region ?_))
 refine EVo_t rfl (T_assign rfl) ?_
 refine EVo_nil ?_
 refine EV_seq ?_
 refine EV_seq (EV_region ?_)
 refine EVo_t rfl (T_assign rfl) ?_
 refine EVo_nil ?_
 refine EV_block ?_
 refine EV_weak (W_keep2 [(0, vi .i64 most), (1, V.c (.d false (encNs ls))), (5, vi .i64 (_)), (6, vi .i64 (_))] [] ⟨rfl, rfl, rfl, rfl, trivial⟩ trivial rfl) ?_
 refine EV_loop (fun mm S => ∃ n : Int, ∃ i : Int, mm = ((ls.length : Int) - i).toNat ∧ S = St.of [(0, vi .i64 most), (1, V.c (.d false (encNs ls))), (5, vi .i64 n), (6, vi .i64 i)] (tabO []) 23 ∧ 0 ≤ i ∧ i ≤ ls.length ∧ n = (((ls.take i.toNat).map List.length).sum : Nat) ∧ (0 < i → n ≤ most)) _ ⟨_, _, rfl, rfl, ⟨by omega, by omega, rfl, by omega⟩⟩ ?_
 rintro mm S ⟨n, i, rfl, rfl, ⟨h0, h1, h2, h3⟩⟩
 refine EV_seq ?_
 refine EV_seq (EV_region ?_)
 refine EVo_t rfl (T_move rfl) ?_
 refine EVo_t rfl (T_move rfl) ?_
 refine EVo_t rfl (T_lenL (uOk rfl) rfl) ?_
 refine EVo_t rfl (T_bin rfl rfl rfl) ?_
 refine EVo_nil ?_
 refine EV_cond rfl rfl rfl (fun hb1 => ?_) (fun hb1 => ?_)
 ·try simp only [z1, z2, z3, z4, z5, z6, z7, z8, z9, y1, y2, y3] at hb1
  have hsum := sum_take (ls := ls) (i := i.toNat) (by omega)
  rw [Int.toNat_of_nonneg h0] at hsum
  refine EV_skip ?_
  refine EV_seq ?_
  refine EV_block ?_
  refine EV_seq (EV_region ?_)
  refine EVo_t rfl (T_move rfl) ?_
  refine EVo_t rfl (T_move rfl) ?_
  refine EVo_t rfl (T_move rfl) ?_
  refine EVo_t rfl (T_ixL (uOk rfl) (zOk rfl) rfl rfl (by omega) (by omega) rfl) ?_
  refine EVo_t rfl (T_load (gOk rfl) rfl) ?_
  refine EVo_t rfl (T_lenL (uOk rfl) rfl) ?_
  refine EVo_t rfl (T_binI rfl rfl rfl (by omega) (by omega)) ?_
  refine EVo_t rfl (T_assign rfl) ?_
  refine EVo_nil (EV_seq (EV_region ?_))
  refine EVo_t rfl (T_move rfl) ?_
  refine EVo_t rfl (T_move rfl) ?_
  refine EVo_t rfl (T_bin rfl rfl rfl) ?_
  refine EVo_nil ?_
  refine EV_cond rfl rfl rfl (fun hb2 => ?_) (fun hb2 => ?_)
  ·try simp only [z1, z2, z3, z4, z5, z6, z7, z8, z9, y1, y2, y3] at hb2
   refine EV_seq (EV_region ?_)
   refine EVo_t rfl (T_assign rfl) ?_
   refine EVo_nil ?_
   refine EV_ret ?_
   refine ⟨_, ⟨rfl, rfl⟩, fit_eq rfl nofun ?_⟩
   ·have : most < ((ls.map List.length).sum : Nat) := by omega
    have h9 : 0 < ls.length := by omega
    simp [this, h9]
  ·try simp only [z1, z2, z3, z4, z5, z6, z7, z8, z9, y1, y2, y3] at hb2
   refine EV_skip ?_
   refine EV_region ?_
   refine EVo_t rfl (T_move rfl) ?_
   refine EVo_t rfl (T_binI rfl rfl rfl (by omega) (by omega)) ?_
   refine EVo_t rfl (T_assign rfl) ?_
   refine EVo_nil ?_
   refine ⟨_, ?_, _, W_keep2 [(0, vi .i64 most), (1, V.c (.d false (encNs ls))), (5, vi .i64 (_)), (6, vi .i64 (_))] [] ⟨rfl, rfl, rfl, rfl, trivial⟩ trivial rfl, _, _, rfl, rfl, ?_⟩
   ·omega
   ·refine ⟨by omega, by omega, ?_, by omega⟩
    rw [show (i + 1).toNat = i.toNat + 1 by omega, hsum.1]; omega
 ·try simp only [z1, z2, z3, z4, z5, z6, z7, z8, z9, y1, y2, y3] at hb1
  refine EV_exit ?_
  refine EV_seq (EV_region ?_)
  refine EVo_t rfl (T_assign rfl) ?_
  refine EVo_nil ?_
  refine EV_ret ?_
  refine ⟨_, ⟨rfl, rfl⟩, fit_eq rfl nofun ?_⟩
  ·have e : i.toNat = ls.length := by omega
   rw [e, List.take_of_length_le (Nat.le_refl _)] at h2
   by_cases h9 : 0 < ls.length
   ·have : ¬ most < ((ls.map List.length).sum : Nat) := by omega
    simp [this]
   ·simp [h9]

end Go.Proofs.YthaiegnohkiegaaGreat.Ab
/-
 Contracts of the reference: numbers from 0 on.
-/
namespace Go.Proofs.YthaiegnohkiegaaGreat.Ab
set_option linter.unusedVariables false
set_option linter.unusedSimpArgs false
set_option maxRecDepth 20000


theorem ref_May (l : List Int) (hl : l.length ≤ 4611686018427387904) : Fn Tryz.prog 68 [.d (encN l)] false (.one (.d (ib (goodL l)))) := by
 refine Fn_of_EV Tryz.func68 rfl (by kernel_rfl) rfl rfl (fun E hE => ?_)
 refine EV_seq (EV_region ?_)
 refine EVo_t rfl (T_assign rfl) ?_
 refine EVo_nil (EV_seq (EV_region ?_))
 refine EVo_t rfl (T_move rfl) ?_
 refine EVo_t rfl (T_lenL (uOk rfl) rfl) ?_
 refine EVo_t rfl (T_bin rfl rfl rfl) ?_
 refine EVo_t rfl (T_move rfl) ?_
 refine EVo_case 6 rfl (fun hb1 => ?_) (fun hb1 => ?_)
 ·try simp only [z1, z2, z3, z4, z5, z6, z7, z8, z9, y1, y2, y3] at hb1
  refine EVo_off rfl rfl ?_
  refine EVo_off rfl rfl ?_
  refine EVo_off rfl rfl ?_
  refine EVo_off rfl rfl ?_
  refine EVo_off rfl rfl ?_
  refine EVo_off rfl rfl ?_
  refine EVo_off rfl rfl ?_
  refine EVo_t rfl (T_pick rfl rfl) ?_
  refine EVo_t rfl (T_assign rfl) ?_
  refine EVo_nil ?_
  refine EV_ret ?_
  refine ⟨_, ⟨rfl, rfl⟩, fit_eq rfl nofun ?_⟩
  ·have e : l = [] := List.eq_nil_of_length_eq_zero (by omega)
   subst e; rfl
 ·try simp only [z1, z2, z3, z4, z5, z6, z7, z8, z9, y1, y2, y3] at hb1
  refine EVo_t rfl (T_move rfl) ?_
  refine EVo_t rfl (T_move rfl) ?_
  refine EVo_t rfl (T_lenL (uOk rfl) rfl) ?_
  refine EVo_t rfl (T_binI rfl rfl rfl (by omega) (by omega)) ?_
  refine EVo_t rfl (T_ixL (uOk rfl) (zOk rfl) rfl rfl (by omega) (by omega) rfl) ?_
  refine EVo_t rfl (T_load (gOk rfl) rfl) ?_
  refine EVo_t rfl (T_bin rfl rfl rfl) ?_
  refine EVo_t rfl (T_pick rfl rfl) ?_
  refine EVo_t rfl (T_assign rfl) ?_
  refine EVo_nil ?_
  refine EV_ret ?_
  refine ⟨_, ⟨rfl, rfl⟩, fit_eq rfl nofun ?_⟩
  ·simp [goodL]; rcases l with _ | ⟨x, l⟩
   ·simp at hb1
   ·simp; rfl

theorem ref_Trim (l : List Int) (hl : l.length ≤ 4611686018427387904) (hk : okL l) : Fn Tryz.prog 120 [.d (encN l)] false (.one (.d (encN (limbs (val l))))) := by
 refine Fn_of_EV Tryz.func120 rfl (by kernel_rfl) rfl rfl (fun E hE => ?_)
 refine EV_seq (EV_region ?_)
 refine EVo_t rfl (T_assign rfl) ?_
 refine EVo_nil (EV_seq (EV_region ?_))
 refine EVo_t rfl (T_move rfl) ?_
 refine EVo_t rfl (T_lenL (uOk rfl) rfl) ?_
 refine EVo_t rfl (T_assign rfl) ?_
 refine EVo_nil ?_
 refine EV_seq ?_
 refine EV_block ?_
 refine EV_weak (W_keep2 [(0, V.c (.d false (encN l))), (3, vi .i64 ((l.length : Int)))] [] ⟨rfl, rfl, trivial⟩ trivial rfl) ?_
 refine EV_loop (fun mm S => ∃ n : Int, mm = n.toNat ∧ S = St.of [(0, V.c (.d false (encN l))), (3, vi .i64 n)] (tabO []) 21 ∧ 0 ≤ n ∧ n ≤ l.length ∧ ∀ i : Nat, n ≤ i → i < l.length → rd l i = 0) _ ⟨(l.length : Int), rfl, rfl, ⟨by omega, by omega, fun i h1 h2 => by omega⟩⟩ ?_
 rintro mm S ⟨n, rfl, rfl, ⟨h0, h1, h2⟩⟩
 refine EV_seq ?_
 refine EV_seq (EV_region ?_)
 refine EVo_t rfl (T_move rfl) ?_
 refine EVo_t rfl (T_bin rfl rfl rfl) ?_
 refine EVo_t rfl (T_move rfl) ?_
 refine EVo_case 8 rfl (fun hb1 => ?_) (fun hb1 => ?_)
 ·try simp only [z1, z2, z3, z4, z5, z6, z7, z8, z9, y1, y2, y3] at hb1
  refine EVo_t rfl (T_move rfl) ?_
  refine EVo_t rfl (T_move rfl) ?_
  refine EVo_t rfl (T_binI rfl rfl rfl (by omega) (by omega)) ?_
  refine EVo_t rfl (T_ixL (uOk rfl) (zOk rfl) rfl rfl (by omega) (by omega) rfl) ?_
  refine EVo_t rfl (T_load (gOk rfl) rfl) ?_
  refine EVo_t rfl (T_bin rfl rfl rfl) ?_
  refine EVo_t rfl (T_pick rfl rfl) ?_
  refine EVo_nil ?_
  refine EV_cond rfl rfl rfl (fun hb2 => ?_) (fun hb2 => ?_)
  ·try simp only [z1, z2, z3, z4, z5, z6, z7, z8, z9, y1, y2, y3] at hb2
   have hz := hb2
   refine EV_skip ?_
   refine EV_block ?_
   refine EV_region ?_
   refine EVo_t rfl (T_move rfl) ?_
   refine EVo_t rfl (T_binI rfl rfl rfl (by omega) (by omega)) ?_
   refine EVo_t rfl (T_assign rfl) ?_
   refine EVo_nil ?_
   refine ⟨_, ?_, _, W_keep2 [(0, V.c (.d false (encN l))), (3, vi .i64 (n - 1))] [] ⟨rfl, rfl, trivial⟩ trivial rfl, n - 1, rfl, rfl, ?_⟩
   ·omega
   ·refine ⟨by omega, by omega, fun i q1 q2 => ?_⟩
    by_cases e : (i : Int) = n - 1
    ·rw [e]; exact hz
    ·exact h2 i (by omega) q2
  ·try simp only [z1, z2, z3, z4, z5, z6, z7, z8, z9, y1, y2, y3] at hb2
   have hz := hb2
   refine EV_exit ?_
   refine EV_seq (EV_region ?_)
   refine EVo_t rfl (T_move rfl) ?_
   refine EVo_t rfl (T_move rfl) ?_
   refine EVo_t rfl (T_slL (m := 0) (uOk rfl) (zOk rfl) rfl (fun _ => rfl) rfl rfl (.inl rfl) (by omega) (by omega) (by omega)) ?_
   refine EVo_t rfl (T_assign rfl) ?_
   refine EVo_nil ?_
   refine EV_ret ?_
   refine ⟨_, ⟨rfl, rfl⟩, fit_eq rfl nofun ?_⟩
   ·have := trim_eq hk (n := n.toNat) (by omega) (fun i q1 q2 => h2 i (by omega) q2) (.inr (by rw [Int.toNat_of_nonneg h0]; exact hz)); simp [this]
 ·try simp only [z1, z2, z3, z4, z5, z6, z7, z8, z9, y1, y2, y3] at hb1
  refine EVo_off rfl rfl ?_
  refine EVo_off rfl rfl ?_
  refine EVo_off rfl rfl ?_
  refine EVo_off rfl rfl ?_
  refine EVo_off rfl rfl ?_
  refine EVo_off rfl rfl ?_
  refine EVo_t rfl (T_pick rfl rfl) ?_
  refine EVo_nil ?_
  refine EV_cond rfl rfl rfl (fun h => by cases h) (fun _ => ?_)
  refine EV_exit ?_
  refine EV_seq (EV_region ?_)
  refine EVo_t rfl (T_move rfl) ?_
  refine EVo_t rfl (T_move rfl) ?_
  refine EVo_t rfl (T_slL (m := 0) (uOk rfl) (zOk rfl) rfl (fun _ => rfl) rfl rfl (.inl rfl) (by omega) (by omega) (by omega)) ?_
  refine EVo_t rfl (T_assign rfl) ?_
  refine EVo_nil ?_
  refine EV_ret ?_
  refine ⟨_, ⟨rfl, rfl⟩, fit_eq rfl nofun ?_⟩
  ·have := trim_eq hk (n := n.toNat) (by omega) (fun i q1 q2 => h2 i (by omega) q2) (.inl (by omega)); simp [this]

theorem ref_Cmp (l m : List Int) (hl : l.length ≤ 4611686018427387904) (hm : m.length ≤ 4611686018427387904) (hk : okL l) (hkm : okL m) (hg : goodL l = true) (hgm : goodL m = true) : Fn Tryz.prog 148 [.d (encN l), .d (encN m)] false (.one (.d (ii (cmpN (val l) (val m))))) := by
 refine Fn_of_EV Tryz.func148 rfl (by kernel_rfl) rfl rfl (fun E hE => ?_)
 refine EV_seq (EV_region ?_)
 refine EVo_t rfl (T_assign rfl) ?_
 refine EVo_nil ?_
 refine EV_seq ?_
 refine EV_seq (EV_region ?_)
 refine EVo_t rfl (T_move rfl) ?_
 refine EVo_t rfl (T_lenL (uOk rfl) rfl) ?_
 refine EVo_t rfl (T_move rfl) ?_
 refine EVo_t rfl (T_lenL (uOk rfl) rfl) ?_
 refine EVo_t rfl (T_bin rfl rfl rfl) ?_
 refine EVo_nil ?_
 refine EV_cond rfl rfl rfl (fun hb1 => ?_) (fun hb1 => ?_)
 ·try simp only [z1, z2, z3, z4, z5, z6, z7, z8, z9, y1, y2, y3] at hb1
  refine EV_seq ?_
  refine EV_seq (EV_region ?_)
  refine EVo_t rfl (T_move rfl) ?_
  refine EVo_t rfl (T_lenL (uOk rfl) rfl) ?_
  refine EVo_t rfl (T_move rfl) ?_
  refine EVo_t rfl (T_lenL (uOk rfl) rfl) ?_
  refine EVo_t rfl (T_bin rfl rfl rfl) ?_
  refine EVo_nil ?_
  refine EV_cond rfl rfl rfl (fun hb2 => ?_) (fun hb2 => ?_)
  ·try simp only [z1, z2, z3, z4, z5, z6, z7, z8, z9, y1, y2, y3] at hb2
   refine EV_seq (EV_region ?_)
   refine EVo_t rfl (T_assign rfl) ?_
   refine EVo_nil ?_
   refine EV_ret ?_
   refine ⟨_, ⟨rfl, rfl⟩, fit_eq rfl nofun ?_⟩
   ·have := val_lt_of_len hk hkm hgm (by omega); simp [cmpN, this]
  ·try simp only [z1, z2, z3, z4, z5, z6, z7, z8, z9, y1, y2, y3] at hb2
   refine EV_skip ?_
   refine EV_seq (EV_region ?_)
   refine EVo_t rfl (T_assign rfl) ?_
   refine EVo_nil ?_
   refine EV_ret ?_
   refine ⟨_, ⟨rfl, rfl⟩, fit_eq rfl nofun ?_⟩
   ·have := val_lt_of_len hkm hk hg (by omega); simp [cmpN, this]; omega
 ·try simp only [z1, z2, z3, z4, z5, z6, z7, z8, z9, y1, y2, y3] at hb1
  refine EV_skip ?_
  refine EV_seq ?_
  refine EV_seq (EV_region ?_)
  refine EVo_t rfl (T_move rfl) ?_
  refine EVo_t rfl (T_lenL (uOk rfl) rfl) ?_
  refine EVo_t rfl (T_binI rfl rfl rfl (by omega) (by omega)) ?_
  refine EVo_t rfl (T_assign rfl) ?_
  refine EVo_nil ?_
  refine EV_block ?_
  refine EV_weak (W_keep2 [(0, V.c (.d false (encN l))), (1, V.c (.d false (encN m))), (5, vi .i64 ((l.length : Int) - 1))] [] ⟨rfl, rfl, rfl, trivial⟩ trivial rfl) ?_
  refine EV_loop (fun mm S => ∃ i : Int, mm = (i + 1).toNat ∧ S = St.of [(0, V.c (.d false (encN l))), (1, V.c (.d false (encN m))), (5, vi .i64 i)] (tabO []) 41 ∧ -1 ≤ i ∧ i < l.length ∧ l.drop (i + 1).toNat = m.drop (i + 1).toNat) _ ⟨(l.length : Int) - 1, rfl, rfl, ⟨by omega, by omega, by simp [List.drop_of_length_le, hb1]; omega⟩⟩ ?_
  rintro mm S ⟨i, rfl, rfl, ⟨h0, h1, h2⟩⟩
  refine EV_seq ?_
  refine EV_seq (EV_region ?_)
  refine EVo_t rfl (T_move rfl) ?_
  refine EVo_t rfl (T_bin rfl rfl rfl) ?_
  refine EVo_nil ?_
  refine EV_cond rfl rfl rfl (fun hb3 => ?_) (fun hb3 => ?_)
  ·try simp only [z1, z2, z3, z4, z5, z6, z7, z8, z9, y1, y2, y3] at hb3
   have hi := hb3
   refine EV_skip ?_
   refine EV_seq ?_
   refine EV_block ?_
   refine EV_seq ?_
   refine EV_seq ?_
   refine EV_draw (inX []) (.st 0 (.st 1 (.st 2 (.st 3 (.st 4 (.st 5 (.st 6 (.st 7 (.st 8 .done))))))))) Tryz.mixed (by kernel_rfl) ?_
   refine EVq_t rfl rfl (T_move rfl) ?_
   refine EVq_t rfl rfl (T_move rfl) ?_
   refine EVq_t rfl rfl (T_ixL (uOk rfl) (zOk rfl) rfl rfl (by omega) (by omega) rfl) ?_
   refine EVq_t rfl rfl (T_load (gOk rfl) rfl) ?_
   refine EVq_t rfl rfl (T_move rfl) ?_
   refine EVq_t rfl rfl (T_move rfl) ?_
   refine EVq_t rfl rfl (T_ixL (uOk rfl) (zOk rfl) rfl rfl (by omega) (by omega) rfl) ?_
   refine EVq_t rfl rfl (T_load (gOk rfl) rfl) ?_
   refine EVq_t rfl rfl (T_bin rfl rfl rfl) ?_
   refine EVq_done ?_
   refine EV_cond rfl rfl rfl (fun hb4 => ?_) (fun hb4 => ?_)
   ·try simp only [z1, z2, z3, z4, z5, z6, z7, z8, z9, y1, y2, y3] at hb4
    refine EV_seq (EV_region ?_)
    refine EVo_t rfl (T_assign rfl) ?_
    refine EVo_nil ?_
    refine EV_ret ?_
    refine ⟨_, ⟨rfl, rfl⟩, fit_eq rfl nofun ?_⟩
    ·have := val_lt_at hk hkm (n := i.toNat) (by omega) (by omega) (by rw [show i.toNat + 1 = (i + 1).toNat by omega]; exact h2) (by rw [Int.toNat_of_nonneg hi]; omega); simp [cmpN, this]
   ·try simp only [z1, z2, z3, z4, z5, z6, z7, z8, z9, y1, y2, y3] at hb4
    refine EV_skip ?_
    refine EV_seq ?_
    refine EV_draw (inX []) (.st 0 (.st 1 (.st 2 (.st 3 (.st 4 (.st 5 (.st 6 (.st 7 (.st 8 .done))))))))) Tryz.mixed (by kernel_rfl) ?_
    refine EVq_t rfl rfl (T_move rfl) ?_
    refine EVq_t rfl rfl (T_move rfl) ?_
    refine EVq_t rfl rfl (T_ixL (uOk rfl) (zOk rfl) rfl rfl (by omega) (by omega) rfl) ?_
    refine EVq_t rfl rfl (T_load (gOk rfl) rfl) ?_
    refine EVq_t rfl rfl (T_move rfl) ?_
    refine EVq_t rfl rfl (T_move rfl) ?_
    refine EVq_t rfl rfl (T_ixL (uOk rfl) (zOk rfl) rfl rfl (by omega) (by omega) rfl) ?_
    refine EVq_t rfl rfl (T_load (gOk rfl) rfl) ?_
    refine EVq_t rfl rfl (T_bin rfl rfl rfl) ?_
    refine EVq_done ?_
    refine EV_cond rfl rfl rfl (fun hb5 => ?_) (fun hb5 => ?_)
    ·try simp only [z1, z2, z3, z4, z5, z6, z7, z8, z9, y1, y2, y3] at hb5
     refine EV_seq (EV_region ?_)
     refine EVo_t rfl (T_assign rfl) ?_
     refine EVo_nil ?_
     refine EV_ret ?_
     refine ⟨_, ⟨rfl, rfl⟩, fit_eq rfl nofun ?_⟩
     ·have := val_lt_at hkm hk (n := i.toNat) (by omega) (by omega) (by rw [show i.toNat + 1 = (i + 1).toNat by omega]; exact h2.symm) (by rw [Int.toNat_of_nonneg hi]; omega); simp [cmpN, this]; omega
    ·try simp only [z1, z2, z3, z4, z5, z6, z7, z8, z9, y1, y2, y3] at hb5
     refine EV_skip ?_
     refine EV_region ?_
     refine EVo_t rfl (T_move rfl) ?_
     refine EVo_t rfl (T_binI rfl rfl rfl (by omega) (by omega)) ?_
     refine EVo_t rfl (T_assign rfl) ?_
     refine EVo_nil ?_
     refine ⟨_, ?_, _, W_keep2 [(0, V.c (.d false (encN l))), (1, V.c (.d false (encN m))), (5, vi .i64 (i - 1))] [] ⟨rfl, rfl, rfl, trivial⟩ trivial rfl, i - 1, rfl, rfl, ?_⟩
     ·omega
     ·refine ⟨by omega, by omega, ?_⟩
      have e1 : ((i - 1) + 1).toNat = i.toNat := by omega
      have e2 : (i + 1).toNat = i.toNat + 1 := by omega
      rw [e1, drop_rd (l := l) (by omega), drop_rd (l := m) (by omega), ← e2, h2]
      congr 1
      rw [Int.toNat_of_nonneg hi]; omega
  ·try simp only [z1, z2, z3, z4, z5, z6, z7, z8, z9, y1, y2, y3] at hb3
   have hi := hb3
   refine EV_exit ?_
   refine EV_seq (EV_region ?_)
   refine EVo_t rfl (T_assign rfl) ?_
   refine EVo_nil ?_
   refine EV_ret ?_
   refine ⟨_, ⟨rfl, rfl⟩, fit_eq rfl nofun ?_⟩
   ·have e : l = m := by
     have e0 : (i + 1).toNat = 0 := by omega
     rw [e0] at h2; simpa using h2
    subst e; simp [cmpN]

theorem ref_Of (x : Int) (h0 : 0 ≤ x) (h1 : x < 18446744073709551616) : Fn Tryz.prog 66 [.d (iu x)] false (.one (.d (encN (limbs x.toNat)))) := by
 refine Fn_of_EV Tryz.func66 rfl (by kernel_rfl) rfl rfl (fun E hE => ?_)
 refine EV_seq (EV_region ?_)
 refine EVo_t rfl (T_assign rfl) ?_
 refine EVo_nil (EV_seq (EV_region ?_))
 refine EVo_t rfl (T_move rfl) ?_
 refine EVo_e rfl (D_buildSlice (uOk rfl) bz58 rfl rfl rfl (by simp)) ?_
 refine EVo_e rfl (D_call false (ref_Trim [x] (by simp) (by intro y hy; simp at hy; omega)) rfl (fit_cons (fit_d rfl nofun) (fit_nil))) ?_
 refine EVo_t rfl (T_assign rfl) ?_
 refine EVo_nil ?_
 refine EV_ret ?_
 refine ⟨_, ⟨rfl, rfl⟩, fit_eq rfl nofun ?_⟩
 ·simp [val]

end Go.Proofs.YthaiegnohkiegaaGreat.Ab
/-
 Halves of limbs and the numbers that they say: plain arithmetic (the laws of limbs, at half the base).
-/
namespace Go.Proofs.YthaiegnohkiegaaGreat.Ab
set_option linter.unusedVariables false
set_option linter.unusedSimpArgs false

abbrev ih (x : Int) : D := .val (.int .u32 x)
abbrev encH (l : List Int) : D := .sl (l.map fun x => [ih x])
/-- Words. -/
def okLH (l : List Int) : Prop := ∀ x ∈ l, 0 ≤ x ∧ x < 4294967296
def valH : List Int → Nat
 | [] => 0
 | x :: l => x.toNat + 4294967296 * valH l
def limbsFH : Nat → Nat → List Int
 | 0, _ => []
 | f + 1, n => if n = 0 then [] else ((n % 4294967296 : Nat) : Int) :: limbsFH f (n / 4294967296)
def limbsH (n : Nat) : List Int := limbsFH n n

theorem limbsF_fuelH : ∀ (f g n : Nat), n ≤ f → n ≤ g → limbsFH f n = limbsFH g n
 | 0, g, n, hf, hg => by
  have : n = 0 := by omega
  subst this
  cases g <;> simp [limbsFH]
 | f + 1, 0, n, hf, hg => by
  have : n = 0 := by omega
  subst this
  simp [limbsFH]
 | f + 1, g + 1, n, hf, hg => by
  simp only [limbsFH]
  split
  ·rfl
  ·rw [limbsF_fuelH f g (n / 4294967296) (by omega) (by omega)]
theorem limbs_zeroH : limbsH 0 = [] := rfl
theorem limbs_posH {n : Nat} (h : n ≠ 0) : limbsH n = ((n % 4294967296 : Nat) : Int) :: limbsH (n / 4294967296) := by
 unfold limbsH
 obtain ⟨m, rfl⟩ := Nat.exists_eq_succ_of_ne_zero h
 simp only [limbsFH]
 rw [if_neg h, limbsF_fuelH m ((m + 1) / 4294967296) ((m + 1) / 4294967296) (by omega) (by omega)]
theorem val_limbsH (n : Nat) : valH (limbsH n) = n := by
 induction n using Nat.strongRecOn with
 | _ n ih =>
  by_cases h : n = 0
  ·subst h; rfl
  ·rw [limbs_posH h, valH, ih (n / 4294967296) (by omega)]
   simp only [Int.toNat_natCast]
   have := Nat.div_add_mod n 4294967296
   omega
theorem okL_nilH : okLH [] := fun x h => by cases h
theorem okL_consH {x : Int} {l : List Int} : okLH (x :: l) ↔ (0 ≤ x ∧ x < 4294967296) ∧ okLH l := by
 simp [okLH]
theorem okL_appendH {l m : List Int} : okLH (l ++ m) ↔ okLH l ∧ okLH m := by
 constructor
 ·intro h
  exact ⟨fun x hx => h x (by simp [hx]), fun x hx => h x (by simp [hx])⟩
 ·rintro ⟨h1, h2⟩ x hx
  rcases List.mem_append.1 hx with h | h
  ·exact h1 x h
  ·exact h2 x h
theorem okL_rdH {l : List Int} (h : okLH l) (i : Int) : 0 ≤ rd l i ∧ rd l i < 4294967296 := by
 unfold rd
 by_cases hi : i.toNat < l.length
 ·have e : l.getD i.toNat default = l[i.toNat] := by simp [hi]
  rw [e]
  exact h _ (List.getElem_mem hi)
 ·have e : l.getD i.toNat default = (0 : Int) := by simp [Nat.le_of_not_lt hi]
  rw [e]
  decide
theorem okL_takeH {l : List Int} (h : okLH l) (n : Nat) : okLH (l.take n) := fun x hx => h x (List.mem_of_mem_take hx)
theorem okL_dropH {l : List Int} (h : okLH l) (n : Nat) : okLH (l.drop n) := fun x hx => h x (List.mem_of_mem_drop hx)
theorem okL_setH {l : List Int} (h : okLH l) (n : Nat) {x : Int} (hx : 0 ≤ x ∧ x < 4294967296) : okLH (l.set n x) := fun y hy => by
 rcases List.mem_or_eq_of_mem_set hy with h1 | rfl
 ·exact h y h1
 ·exact hx
theorem okL_repH (n : Nat) : okLH (List.replicate n (0 : Int)) := fun x hx => by
 have := (List.mem_replicate.1 hx).2
 subst this
 decide
theorem okL_limbsH (n : Nat) : okLH (limbsH n) := by
 induction n using Nat.strongRecOn with
 | _ n ih =>
  by_cases h : n = 0
  ·subst h; exact okL_nilH
  ·rw [limbs_posH h, okL_consH]
   have := Nat.mod_lt n (show 4294967296 > 0 by decide)
   exact ⟨by omega, ih (n / 4294967296) (by omega)⟩

/-- The highest limb is no nought. -/
def goodLH (l : List Int) : Bool := decide (l = [] ∨ rd l (l.length - 1) ≠ 0)
theorem goodL_consH {x y : Int} {l : List Int} : goodLH (x :: y :: l) = goodLH (y :: l) := by
 unfold goodLH rd
 have h1 : ((↑(x :: y :: l).length : Int) - 1).toNat = l.length + 1 := by simp only [List.length_cons]; omega
 have h2 : ((↑(y :: l).length : Int) - 1).toNat = l.length := by simp
 rw [h1, h2]
 simp
theorem goodL_oneH {x : Int} : goodLH [x] = decide (x ≠ 0) := by simp [goodLH, rd]
theorem goodL_nilH : goodLH [] = true := rfl
theorem good_limbsH (n : Nat) : goodLH (limbsH n) = true := by
 induction n using Nat.strongRecOn with
 | _ n ih =>
  by_cases h : n = 0
  ·subst h; rfl
  ·rw [limbs_posH h]
   by_cases h2 : n / 4294967296 = 0
   ·rw [h2, limbs_zeroH, goodL_oneH]
    have := Nat.div_add_mod n 4294967296
    simp
    omega
   ·have := ih (n / 4294967296) (by omega)
    rw [limbs_posH h2] at this ⊢
    rw [goodL_consH]; exact this
theorem good_posH : ∀ {l : List Int}, okLH l → goodLH l = true → l ≠ [] → valH l ≠ 0
 | [], _, _, h => absurd rfl h
 | [x], hk, hg, _ => by
  rw [goodL_oneH] at hg
  have := (okL_consH.1 hk).1
  simp at hg
  simp [valH]
  omega
 | x :: y :: l, hk, hg, _ => by
  rw [goodL_consH] at hg
  have := good_posH (okL_consH.1 hk).2 hg (by simp)
  rw [valH]
  omega
theorem limbs_valH : ∀ {l : List Int}, okLH l → goodLH l = true → limbsH (valH l) = l
 | [], _, _ => rfl
 | x :: l, hk, hg => by
  have hp := good_posH hk hg (by simp)
  obtain ⟨h1, h2⟩ := okL_consH.1 hk
  rw [limbs_posH hp]
  have hm : valH (x :: l) % 4294967296 = x.toNat := by
   rw [valH, Nat.add_mul_mod_self_left]
   exact Nat.mod_eq_of_lt (by omega)
  have hd : valH (x :: l) / 4294967296 = valH l := by
   rw [valH, Nat.add_mul_div_left _ _ (by decide), Nat.div_eq_of_lt (by omega)]; omega
  rw [hm, hd]
  have hg' : goodLH l = true := by
   cases l with
   | nil => rfl
   | cons y l => rwa [goodL_consH] at hg
  rw [limbs_valH h2 hg']
  congr 1
  omega
theorem val_appendH : ∀ (l m : List Int), valH (l ++ m) = valH l + 4294967296 ^ l.length * valH m
 | [], m => by simp [valH]
 | x :: l, m => by
  simp only [List.cons_append, valH, List.length_cons, val_appendH l m]
  rw [Nat.mul_add, Nat.pow_succ, Nat.add_assoc, Nat.mul_assoc, Nat.mul_left_comm]
theorem val_repH : ∀ n : Nat, valH (List.replicate n (0 : Int)) = 0
 | 0 => rfl
 | n + 1 => by simp [List.replicate_succ, valH, val_repH n]
theorem val_ltH : ∀ {l : List Int}, okLH l → valH l < 4294967296 ^ l.length
 | [], _ => by simp [valH]
 | x :: l, h => by
  obtain ⟨h1, h2⟩ := okL_consH.1 h
  have := val_ltH h2
  rw [valH, List.length_cons, Nat.pow_succ]
  have h3 : 4294967296 * (valH l + 1) ≤ 4294967296 * 4294967296 ^ l.length := Nat.mul_le_mul_left _ this
  rw [Nat.mul_comm (4294967296 ^ l.length)]
  rw [Nat.mul_add] at h3
  omega
theorem val_zeroH {l : List Int} (h : ∀ x ∈ l, x = 0) : valH l = 0 := by
 induction l with
 | nil => rfl
 | cons x l ih =>
  rw [valH, ih (fun y hy => h y (by simp [hy])), h x (by simp)]
  rfl
theorem take_succ_rdH {l : List Int} {n : Nat} (h : n < l.length) : l.take (n + 1) = l.take n ++ [rd l n] := by
 have : rd l (n : Int) = l[n] := by simp [rd, h]
 rw [this, List.take_append_getElem]
theorem val_take_succH {l : List Int} {n : Nat} (h : n < l.length) : valH (l.take (n + 1)) = valH (l.take n) + 4294967296 ^ n * (rd l n).toNat := by
 rw [take_succ_rdH h, val_appendH, List.length_take, Nat.min_eq_left (by omega)]
 simp [valH]
theorem rd_set_selfH {l : List Int} {n : Nat} {x : Int} (h : n < l.length) : rd (l.set n x) n = x := by simp [rd, h]
theorem rd_set_neH {l : List Int} {n m : Nat} {x : Int} (h : n ≠ m) : rd (l.set n x) m = rd l m := by
 simp only [rd, Int.toNat_natCast, List.getD_eq_getElem?_getD]
 rw [List.getElem?_set_ne h]
theorem take_set_leH {l : List Int} {n m : Nat} {x : Int} (h : m ≤ n) : (l.set n x).take m = l.take m := by
 rw [List.take_set_of_le h]

/-- What trim tells. -/
theorem trim_eqH {l : List Int} (hk : okLH l) {n : Nat} (hn : n ≤ l.length) (hz : ∀ i : Nat, n ≤ i → i < l.length → rd l i = 0) (ht : n = 0 ∨ rd l ((n : Int) - 1) ≠ 0) : l.take n = limbsH (valH l) := by
 have h1 : valH l = valH (l.take n) := by
  have : valH l = valH (l.take n) + 4294967296 ^ (l.take n).length * valH (l.drop n) := by rw [← val_appendH, List.take_append_drop]
  rw [this, val_zeroH (l := l.drop n)]
  ·simp
  ·intro x hx
   obtain ⟨i, hi, rfl⟩ := List.getElem_of_mem hx
   have hi' : n + i < l.length := by simp at hi; omega
   have := hz (n + i) (by omega) hi'
   rw [List.getElem_drop]
   have e : rd l (((n + i : Nat)) : Int) = l[n + i] := by unfold rd; rw [Int.toNat_natCast]; simp [hi']
   rw [← e]; exact this
 rw [h1, limbs_valH (okL_takeH hk n)]
 unfold goodLH
 rw [decide_eq_true_iff]
 rcases ht with rfl | ht
 ·exact .inl (by simp)
 ·by_cases h0 : n = 0
  ·subst h0; exact .inl (by simp)
  ·right
   have e : ((↑(l.take n).length : Int) - 1) = ((n - 1 : Nat) : Int) := by rw [List.length_take, Nat.min_eq_left hn]; omega
   have e2 : (n : Int) - 1 = ((n - 1 : Nat) : Int) := by omega
   rw [e]
   rw [e2] at ht
   unfold rd at ht ⊢
   simp only [Int.toNat_natCast, List.getD_eq_getElem?_getD] at ht ⊢
   rw [List.getElem?_take, if_pos (by omega)]
   exact ht

theorem limbs_oneH {n : Nat} (h0 : n ≠ 0) (h1 : n < 4294967296) : limbsH n = [(n : Int)] := by
 rw [limbs_posH h0, Nat.mod_eq_of_lt h1, Nat.div_eq_of_lt h1, limbs_zeroH]
/-- Comparison. -/
def cmpNH (a b : Nat) : Int := if a < b then -1 else if b < a then 1 else 0
theorem good_geH {l : List Int} (hk : okLH l) (hg : goodLH l = true) (h0 : l ≠ []) : 4294967296 ^ (l.length - 1) ≤ valH l := by
 have h1 : l.length - 1 < l.length := by
  have := List.length_pos_iff.2 h0
  omega
 have h2 := val_take_succH h1
 have h3 : l.take (l.length - 1 + 1) = l := List.take_of_length_le (by omega)
 rw [h3] at h2
 have hr : rd l ((l.length : Int) - 1) ≠ 0 := by
  simp only [goodLH, decide_eq_true_eq] at hg
  rcases hg with h | h
  ·exact absurd h h0
  ·exact h
 have e : ((l.length : Int) - 1) = ((l.length - 1 : Nat) : Int) := by omega
 rw [e] at hr
 have hp := (okL_rdH hk ((l.length - 1 : Nat) : Int)).1
 have h4 : 4294967296 ^ (l.length - 1) * 1 ≤ 4294967296 ^ (l.length - 1) * (rd l ((l.length - 1 : Nat) : Int)).toNat := Nat.mul_le_mul_left _ (by omega)
 omega
theorem val_lt_of_lenH {l m : List Int} (hk : okLH l) (hm : okLH m) (hg : goodLH m = true) (h : l.length < m.length) : valH l < valH m := by
 have h1 := val_ltH hk
 have h2 := good_geH hm hg (by intro e; subst e; simp at h)
 have h3 : 4294967296 ^ l.length ≤ 4294967296 ^ (m.length - 1) := Nat.pow_le_pow_right (by decide) (by omega)
 omega
theorem val_splitH {l : List Int} {n : Nat} (h : n < l.length) : valH l = valH (l.take n) + 4294967296 ^ n * ((rd l n).toNat + 4294967296 * valH (l.drop (n + 1))) := by
 have e : l = l.take n ++ (rd l n :: l.drop (n + 1)) := by
  have : rd l (n : Int) = l[n] := by simp [rd, h]
  rw [this]
  simp
 have := congrArg valH e
 rw [val_appendH, List.length_take, Nat.min_eq_left (by omega), valH] at this
 exact this
theorem val_lt_atH {l m : List Int} (hk : okLH l) (hm : okLH m) {n : Nat} (h1 : n < l.length) (h2 : n < m.length) (hd : l.drop (n + 1) = m.drop (n + 1)) (hr : rd l n < rd m n) : valH l < valH m := by
 rw [val_splitH h1, val_splitH h2, hd]
 have a1 := val_ltH (okL_takeH hk n)
 rw [List.length_take, Nat.min_eq_left (by omega)] at a1
 have a2 := okL_rdH hk n
 have a3 := okL_rdH hm n
 have a4 : 4294967296 ^ n * (((rd l n).toNat + 4294967296 * valH (m.drop (n + 1))) + 1) ≤ 4294967296 ^ n * ((rd m n).toNat + 4294967296 * valH (m.drop (n + 1))) := Nat.mul_le_mul_left _ (by omega)
 rw [Nat.mul_add, Nat.mul_one] at a4
 omega
theorem drop_rdH {l : List Int} {n : Nat} (h : n < l.length) : l.drop n = rd l n :: l.drop (n + 1) := by
 have : rd l (n : Int) = l[n] := by simp [rd, h]
 rw [this, List.drop_eq_getElem_cons h]

theorem rd_geH {l : List Int} {n : Nat} (h : l.length ≤ n) : rd l n = 0 := by
 simp [rd, h]
theorem val_take_succ'H (l : List Int) (n : Nat) : valH (l.take (n + 1)) = valH (l.take n) + 4294967296 ^ n * (rd l n).toNat := by
 by_cases h : n < l.length
 ·exact val_take_succH h
 ·rw [rd_geH (by omega), List.take_of_length_le (by omega), List.take_of_length_le (by omega)]; simp
theorem val_set_takeH {c : List Int} {i : Nat} {s : Int} (h : i < c.length) : valH ((c.set i s).take (i + 1)) = valH (c.take i) + 4294967296 ^ i * s.toNat := by
 rw [val_take_succH (by simpa using h), rd_set_selfH h, take_set_leH (Nat.le_refl i)]

theorem add_stepH {p q c : List Int} {i : Nat} {cy s cy' : Int} (hc : i < c.length) (hp : okLH p) (hq : okLH q) (inv : valH (c.take i) + 4294967296 ^ i * cy.toNat = valH (p.take i) + valH (q.take i))
  (hF : rd p i + cy + rd q i = s + 4294967296 * cy') (h1 : 0 ≤ s) (h2 : 0 ≤ cy) (h3 : 0 ≤ cy') :
  valH ((c.set i s).take (i + 1)) + 4294967296 ^ (i + 1) * cy'.toNat = valH (p.take (i + 1)) + valH (q.take (i + 1)) := by
 rw [val_set_takeH hc, val_take_succ'H, val_take_succ'H]
 have a1 := (okL_rdH hp i).1
 have a2 := (okL_rdH hq i).1
 have e : (rd p i).toNat + cy.toNat + (rd q i).toNat = s.toNat + 4294967296 * cy'.toNat := by omega
 have e2 := congrArg (4294967296 ^ i * ·) e
 simp only [Nat.mul_add] at e2
 rw [Nat.pow_succ, Nat.mul_assoc]
 omega

end Go.Proofs.YthaiegnohkiegaaGreat.Ab
/-
  Limbs and their halves.
-/
namespace Go.Proofs.YthaiegnohkiegaaGreat.Ab
theorem own_app {id e sz : Nat} {fr : Bool} {α : Type} {f : α → List D} {l m : List α} {ys : List (List D)} (h : ys = m.map f) : V.c (.own id e sz fr (l.map f ++ ys)) = V.c (.own id e sz fr ((l ++ m).map f)) := by
  rw [h, List.map_append]
theorem u32_wrap' (a : Int) : IntKind.u32.wrap a = a % 4294967296 := by
  simp only [IntKind.wrap, IntKind.signed, IntKind.bits]
  simp
theorem half_step {l r : List Int} {i : Nat} (hk : okL l) (hr : r.length = 2 * i) (inv : valH r = val (l.take i)) :
    valH (r ++ [IntKind.u32.wrap (rd l i), IntKind.u32.wrap (rd l i / 4294967296)]) = val (l.take (i + 1)) := by
  rw [val_appendH, hr, inv, val_take_succ']
  have hx := okL_rd hk i
  simp only [valH, u32_wrap']
  have e : (4294967296 : Nat) ^ (2 * i) = 18446744073709551616 ^ i := by rw [Nat.pow_mul]
  rw [e]
  congr 2
  omega
theorem or_halves {a b : Int} (h0 : 0 ≤ a) (h1 : a < 4294967296) (h2 : 0 ≤ b) (h3 : b < 4294967296) : bits .or .u64 (IntKind.u64.wrap a) (IntKind.u64.wrap (IntKind.u64.wrap b * ((4294967296 : Nat) : Int))) = a + 4294967296 * b := by
  have e1 : IntKind.u64.wrap a = a := u64_in h0 (by omega)
  have e2 : IntKind.u64.wrap b = b := u64_in h2 (by omega)
  have e3 : IntKind.u64.wrap (b * ((4294967296 : Nat) : Int)) = b * ((4294967296 : Nat) : Int) := u64_in (by omega) (by omega)
  rw [e1, e2, e3]
  obtain ⟨A, rfl⟩ := Int.eq_ofNat_of_zero_le h0
  obtain ⟨B, rfl⟩ := Int.eq_ofNat_of_zero_le h2
  rw [u64_or _ _ (by omega) (by omega) (by omega) (by omega)]
  have hA : A < 2 ^ 32 := by omega
  have := Nat.two_pow_add_eq_or_of_lt (i := 32) (b := A) hA B
  have e4 : ((B : Int) * ((4294967296 : Nat) : Int)).toNat = 2 ^ 32 * B := by omega
  rw [e4, Int.toNat_natCast, Nat.or_comm, ← this]
  omega
theorem whole_step {l r : List Int} {i : Nat} {x : Int} (hk : okLH l) (hr : 2 * r.length = i) (inv : val r = valH (l.take i)) (hx : x = rd l i + 4294967296 * rd l ((i + 1 : Nat) : Int)) :
    val (r ++ [x]) = valH (l.take (i + 2)) ∧ 0 ≤ x ∧ x < 18446744073709551616 := by
  have h1 := okL_rdH hk i
  have h2 := okL_rdH hk ((i + 1 : Nat) : Int)
  refine ⟨?_, by omega, by omega⟩
  rw [val_append, inv, show i + 2 = (i + 1) + 1 by omega, val_take_succ'H, val_take_succ'H]
  have e : (18446744073709551616 : Nat) ^ r.length = 4294967296 ^ i := by rw [← hr, Nat.pow_mul]
  rw [e, Nat.pow_succ, Nat.add_assoc, Nat.mul_assoc, ← Nat.mul_add]
  congr 2
  simp only [val]
  omega
theorem limbs_len_leH {n k : Nat} (h : n < 4294967296 ^ k) : (limbsH n).length ≤ k := by
  rcases Nat.lt_or_ge k (limbsH n).length with h1 | h1
  · have h2 := good_geH (okL_limbsH n) (good_limbsH n) (by intro e; rw [e] at h1; simp at h1)
    rw [val_limbsH] at h2
    have h3 : 4294967296 ^ k ≤ 4294967296 ^ ((limbsH n).length - 1) := Nat.pow_le_pow_right (by decide) (by omega)
    omega
  · exact h1
theorem halves_len {l : List Int} (hk : okL l) : (limbsH (val l)).length ≤ 2 * l.length := by
  apply limbs_len_leH
  have := val_lt hk
  have e : (4294967296 : Nat) ^ (2 * l.length) = 18446744073709551616 ^ l.length := by rw [Nat.pow_mul]
  rw [e]; exact this
theorem plus_step {x y r : List Int} {i : Nat} {c e : Int} (hx : okLH x) (hy : okLH y) (hr : r.length = i) (hc0 : 0 ≤ c) (hc1 : c ≤ 1) (he : e = c + rd x i + rd y i)
    (inv : valH r + 4294967296 ^ i * c.toNat = valH (x.take i) + valH (y.take i)) :
    valH (r ++ [IntKind.u32.wrap e]) + 4294967296 ^ (i + 1) * (e / 4294967296).toNat = valH (x.take (i + 1)) + valH (y.take (i + 1)) ∧ 0 ≤ e / 4294967296 ∧ e / 4294967296 ≤ 1 ∧ 0 ≤ IntKind.u32.wrap e ∧ IntKind.u32.wrap e < 4294967296 := by
  have h1 := okL_rdH hx i
  have h2 := okL_rdH hy i
  rw [u32_wrap']
  refine ⟨?_, by omega, by omega, by omega, by omega⟩
  rw [val_appendH, hr, val_take_succ'H, val_take_succ'H]
  simp only [valH]
  have e1 : (e % 4294967296).toNat + 4294967296 * (e / 4294967296).toNat = c.toNat + (rd x i).toNat + (rd y i).toNat := by omega
  have e2 := congrArg (4294967296 ^ i * ·) e1
  simp only [Nat.mul_add] at e2
  rw [Nat.pow_succ, Nat.mul_assoc, show (e % 4294967296).toNat + 4294967296 * 0 = (e % 4294967296).toNat by omega]
  omega
theorem less_step {x y r : List Int} {i : Nat} {c e : Int} (hx : okLH x) (hy : okLH y) (hr : r.length = i) (hc0 : -1 ≤ c) (hc1 : c ≤ 0) (he : e = c + rd x i - rd y i)
    (inv : valH r + valH (y.take i) = valH (x.take i) + 4294967296 ^ i * (-c).toNat) :
    valH (r ++ [IntKind.u32.wrap (IntKind.u64.wrap e)]) + valH (y.take (i + 1)) = valH (x.take (i + 1)) + 4294967296 ^ (i + 1) * (-(e / 4294967296)).toNat ∧ -1 ≤ e / 4294967296 ∧ e / 4294967296 ≤ 0 ∧ 0 ≤ IntKind.u32.wrap (IntKind.u64.wrap e) ∧ IntKind.u32.wrap (IntKind.u64.wrap e) < 4294967296 := by
  have h1 := okL_rdH hx i
  have h2 := okL_rdH hy i
  have ew : IntKind.u32.wrap (IntKind.u64.wrap e) = e % 4294967296 := by rw [u32_wrap', u64_wrap]; omega
  rw [ew]
  refine ⟨?_, by omega, by omega, by omega, by omega⟩
  rw [val_appendH, hr, val_take_succ'H, val_take_succ'H]
  simp only [valH]
  have e1 : (e % 4294967296).toNat + (rd y i).toNat + (-c).toNat = (rd x i).toNat + 4294967296 * (-(e / 4294967296)).toNat := by omega
  have e2 := congrArg (4294967296 ^ i * ·) e1
  simp only [Nat.mul_add] at e2
  rw [Nat.pow_succ, Nat.mul_assoc, show (e % 4294967296).toNat + 4294967296 * 0 = (e % 4294967296).toNat by omega]
  omega
end Go.Proofs.YthaiegnohkiegaaGreat.Ab
