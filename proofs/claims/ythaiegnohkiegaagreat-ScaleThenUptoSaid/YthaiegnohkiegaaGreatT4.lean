/-
  Part 4 of the walks of the program and of the laws of its arithmetic: what each function of the program tells at every input that its premise takes.
-/
import Derived.Test.YthaiegnohkiegaaGreatT3
import Derived.Laws.BitsAllLaws
/-
  Long division, limb by limb: plain arithmetic.
-/
namespace Go.Proofs.YthaiegnohkiegaaGreat.Ab
set_option linter.unusedVariables false
set_option linter.unusedSimpArgs false

theorem rd_nat (l : List Int) (k : Nat) : rd l (k : Int) = l.getD k default := by unfold rd; rw [Int.toNat_natCast]
/-- The value of k limbs from o on. -/
def win (X : List Int) (o k : Nat) : Nat := val ((X.drop o).take k)
theorem rd_dropN (l : List Int) (o k : Nat) : rd (l.drop o) (k : Int) = rd l ((o + k : Nat) : Int) := by
  unfold rd
  rw [Int.toNat_natCast, Int.toNat_natCast]
  simp [List.getD_eq_getElem?_getD, List.getElem?_drop]
theorem win_zero (X : List Int) (o : Nat) : win X o 0 = 0 := by simp [win, val]
theorem win_succ (X : List Int) (o k : Nat) : win X o (k + 1) = win X o k + 18446744073709551616 ^ k * (rd X ((o + k : Nat) : Int)).toNat := by
  unfold win; rw [val_take_succ', rd_dropN]
theorem win_set {X : List Int} {o k j : Nat} {s : Int} (h : o + k ≤ j) : win (X.set j s) o k = win X o k := by
  unfold win
  congr 1
  apply List.ext_getElem?
  intro i
  simp only [List.getElem?_take, List.getElem?_drop, List.getElem?_set]
  by_cases q : i < k
  · rw [if_pos q, if_pos q, if_neg (by omega)]
  · rw [if_neg q, if_neg q]
theorem win_set_succ {X : List Int} {o k : Nat} {s : Int} (h : o + k < X.length) : win (X.set (o + k) s) o (k + 1) = win X o k + 18446744073709551616 ^ k * s.toNat := by
  rw [win_succ, win_set (Nat.le_refl _), rd_set_self h]
theorem win_lt {X : List Int} (hk : okL X) (o k : Nat) : win X o k < 18446744073709551616 ^ k := by
  unfold win
  have h := val_lt (okL_take (okL_drop hk o) k)
  refine Nat.lt_of_lt_of_le h (Nat.pow_le_pow_right (by decide) ?_)
  simp; omega

/-- One limb of: take g times y away. -/
theorem mulsub_step {X X' y : List Int} {o i : Nat} {g c b s c' b' : Int} (hlen : o + i < X'.length) (hkX : okL X) (hky : okL y) (hs : 0 ≤ s)
    (inv : (win X' o i : Int) + g * (val (y.take i) : Int) = (win X o i : Int) + 18446744073709551616 ^ i * (c + b))
    (hF : rd X ((o + i : Nat) : Int) + 18446744073709551616 * (c' + b') = s + g * rd y (i : Int) + c + b) :
    (win (X'.set (o + i) s) o (i + 1) : Int) + g * (val (y.take (i + 1)) : Int) = (win X o (i + 1) : Int) + 18446744073709551616 ^ (i + 1) * (c' + b') := by
  rw [win_set_succ hlen, win_succ, val_take_succ']
  have hx := (okL_rd hkX ((o + i : Nat) : Int)).1
  have hy := (okL_rd hky (i : Int)).1
  have e1 : ((rd X ((o + i : Nat) : Int)).toNat : Int) = rd X ((o + i : Nat) : Int) := by omega
  have e2 : ((rd y (i : Int)).toNat : Int) = rd y (i : Int) := by omega
  have e3 : (s.toNat : Int) = s := by omega
  simp only [Int.natCast_add, Int.natCast_mul, Int.natCast_pow, e1, e2, e3, Int.pow_succ]
  rw [show ((18446744073709551616 : Nat) : Int) = 18446744073709551616 from rfl]
  generalize (18446744073709551616 : Int) ^ i = p at *
  grind
theorem add_win_step {X X' y : List Int} {o i : Nat} {c s c' : Int} (hlen : o + i < X'.length) (hkX : okL X) (hky : okL y) (hs : 0 ≤ s)
    (inv : (win X' o i : Int) + 18446744073709551616 ^ i * c = (win X o i : Int) + (val (y.take i) : Int))
    (hF : rd X ((o + i : Nat) : Int) + rd y (i : Int) + c = s + 18446744073709551616 * c') :
    (win (X'.set (o + i) s) o (i + 1) : Int) + 18446744073709551616 ^ (i + 1) * c' = (win X o (i + 1) : Int) + (val (y.take (i + 1)) : Int) := by
  rw [win_set_succ hlen, win_succ, val_take_succ']
  have hx := (okL_rd hkX ((o + i : Nat) : Int)).1
  have hy := (okL_rd hky (i : Int)).1
  have e1 : ((rd X ((o + i : Nat) : Int)).toNat : Int) = rd X ((o + i : Nat) : Int) := by omega
  have e2 : ((rd y (i : Int)).toNat : Int) = rd y (i : Int) := by omega
  have e3 : (s.toNat : Int) = s := by omega
  simp only [Int.natCast_add, Int.natCast_mul, Int.natCast_pow, e1, e2, e3, Int.pow_succ]
  rw [show ((18446744073709551616 : Nat) : Int) = 18446744073709551616 from rfl]
  generalize (18446744073709551616 : Int) ^ i = p at *
  grind

/-- The guess is not too small. -/
theorem guess_top {W V g : Nat} {n : Nat} {xn xm yt wl yl : Nat} (hW : W = wl + 18446744073709551616 ^ n * (xm + 18446744073709551616 * xn)) (hwl : wl < 18446744073709551616 ^ n)
    (hV : V = yl + 18446744073709551616 ^ n * yt) (hg : xn * 18446744073709551616 + xm < (g + 1) * yt) : W < (g + 1) * V := by
  have h1 : xm + 18446744073709551616 * xn + 1 ≤ (g + 1) * yt := by omega
  have h2 := Nat.mul_le_mul_left (18446744073709551616 ^ n) h1
  have h3 : (g + 1) * (18446744073709551616 ^ n * yt) ≤ (g + 1) * V := Nat.mul_le_mul_left _ (by omega)
  rw [Nat.mul_left_comm] at h3
  rw [Nat.mul_add, Nat.mul_one] at h2
  omega

/-- k limbs of a number. -/
def padL : Nat → Nat → List Int
  | 0, _ => []
  | k + 1, n => ((n % 18446744073709551616 : Nat) : Int) :: padL k (n / 18446744073709551616)
theorem padL_length : ∀ k n, (padL k n).length = k
  | 0, _ => rfl
  | k + 1, n => by simp [padL, padL_length k]
theorem padL_val : ∀ {l : List Int}, okL l → padL l.length (val l) = l
  | [], _ => rfl
  | x :: l, h => by
    obtain ⟨h1, h2⟩ := okL_cons.1 h
    have e1 : (val (x :: l)) % 18446744073709551616 = x.toNat := by simp only [val]; omega
    have e2 : (val (x :: l)) / 18446744073709551616 = val l := by simp only [val]; omega
    simp only [List.length_cons, padL]
    rw [e1, e2, padL_val h2]
    congr 1
    omega
theorem okL_pad : ∀ k n, okL (padL k n)
  | 0, _ => okL_nil
  | k + 1, n => okL_cons.2 ⟨by omega, okL_pad k _⟩
theorem val_pad : ∀ (k n : Nat), n < 18446744073709551616 ^ k → val (padL k n) = n
  | 0, n, h => by simp [padL, val]; simp at h; omega
  | k + 1, n, h => by
    rw [Nat.pow_succ] at h
    simp only [padL, val]
    rw [val_pad k _ (Nat.div_lt_of_lt_mul (by rw [Nat.mul_comm]; exact h))]
    omega
/-- A window, set. -/
def setWin (X : List Int) (o k n : Nat) : List Int := X.take o ++ padL k n ++ X.drop (o + k)
theorem setWin_length {X : List Int} {o k n : Nat} (h : o + k ≤ X.length) : (setWin X o k n).length = X.length := by
  simp [setWin, padL_length]; omega
theorem setWin_eq {X X' : List Int} {o k n : Nat} (hlen : X'.length = X.length) (hk : okL X') (h : o + k ≤ X.length) (h1 : X'.take o = X.take o) (h2 : X'.drop (o + k) = X.drop (o + k)) (hv : win X' o k = n) : X' = setWin X o k n := by
  unfold setWin
  rw [← h1, ← h2, ← hv]
  have hp := padL_val (okL_take (okL_drop hk o) k)
  have hl : ((X'.drop o).take k).length = k := by simp; omega
  rw [hl] at hp
  unfold win
  rw [hp, ← List.drop_drop, List.append_assoc, List.take_append_drop, List.take_append_drop]
theorem setWin_ok {X : List Int} {o k n : Nat} (hk : okL X) : okL (setWin X o k n) := okL_append.2 ⟨okL_append.2 ⟨okL_take hk _, okL_pad _ _⟩, okL_drop hk _⟩
theorem setWin_take {X : List Int} {o k n : Nat} (h : o + k ≤ X.length) : (setWin X o k n).take o = X.take o := by
  unfold setWin
  rw [List.append_assoc, List.take_append_of_le_length (by simp; omega), List.take_take, Nat.min_self]
theorem setWin_val {X : List Int} {o k n : Nat} (h : o + k ≤ X.length) (hn : n < 18446744073709551616 ^ k) (hz : val (X.drop (o + k)) = 0) : val ((setWin X o k n).drop o) = n := by
  unfold setWin
  have hl : (X.take o).length = o := by simp; omega
  rw [List.append_assoc, List.drop_append_of_le_length (by omega), List.drop_of_length_le (by omega), List.nil_append, val_append, val_pad _ _ hn, hz]
  simp
/-- The end of a step. -/
theorem step_end {W V g : Nat} {w : Nat} (h : w + g * V = W) (hg : W < (g + 1) * V) : g = W / V ∧ w = W % V := by
  rw [Nat.add_mul, Nat.one_mul] at hg
  have hw : w < V := by omega
  have h1 : W / V = g := by
    rw [← h, Nat.add_mul_div_right _ _ (by omega), Nat.div_eq_of_lt hw]; omega
  have h2 : W % V = w := by
    rw [← h, Nat.add_mul_mod_self_right, Nat.mod_eq_of_lt hw]
  exact ⟨h1.symm, h2.symm⟩

/-- One round of long division. -/
theorem long_round {X x0 q : List Int} {V i m : Nat} (hkX : okL X) (hV : 0 < V) (hVm : V < 18446744073709551616 ^ m) (hi : i + (m + 1) ≤ X.length) (hlen : X.length = x0.length) (hq : i < q.length)
    (ht : X.take (i + 1) = x0.take (i + 1)) (inv : val (x0.drop (i + 1)) = V * val (q.drop (i + 1)) + val (X.drop (i + 1))) (hlt : val (X.drop (i + 1)) < V) :
    win X i (m + 1) < 18446744073709551616 * V ∧ val (X.drop (i + (m + 1))) = 0 ∧
    val (x0.drop i) = V * val ((q.set i ((win X i (m + 1) / V : Nat) : Int)).drop i) + win X i (m + 1) % V ∧ win X i (m + 1) = val (X.drop i) := by
  have hr : rd X (i : Int) = rd x0 (i : Int) := by
    have h1 := take_succ_rd (l := X) (n := i) (by omega)
    have h2 := take_succ_rd (l := x0) (n := i) (by omega)
    rw [h1, h2] at ht
    have := List.append_inj_right' ht rfl
    simpa using this
  have hx0 := okL_rd hkX (i : Int)
  have hd : X.drop i = rd X i :: X.drop (i + 1) := drop_rd (by omega)
  have hd0 : x0.drop i = rd x0 i :: x0.drop (i + 1) := drop_rd (by omega)
  -- what is above the window is nought
  have hsp : val (X.drop (i + 1)) = val ((X.drop (i + 1)).take m) + 18446744073709551616 ^ m * val (X.drop (i + (m + 1))) := by
    conv => lhs; rw [← List.take_append_drop m (X.drop (i + 1)), val_append]
    rw [List.length_take, List.length_drop, Nat.min_eq_left (by omega), List.drop_drop, show i + 1 + m = i + (m + 1) by omega]
  have hz : val (X.drop (i + (m + 1))) = 0 := by
    rcases Nat.eq_zero_or_pos (val (X.drop (i + (m + 1)))) with h | h
    · exact h
    · have := Nat.mul_le_mul_left (18446744073709551616 ^ m) h
      omega
  have hw : win X i (m + 1) = val (X.drop i) := by
    have : val (X.drop i) = val ((X.drop i).take (m + 1)) + 18446744073709551616 ^ (m + 1) * val (X.drop (i + (m + 1))) := by
      conv => lhs; rw [← List.take_append_drop (m + 1) (X.drop i), val_append]
      rw [List.length_take, List.length_drop, Nat.min_eq_left (by omega), List.drop_drop]
    rw [hz] at this
    unfold win
    omega
  have hvd : val (X.drop i) = (rd X i).toNat + 18446744073709551616 * val (X.drop (i + 1)) := by rw [hd, val]
  have hvd0 : val (x0.drop i) = (rd X i).toNat + 18446744073709551616 * val (x0.drop (i + 1)) := by rw [hd0, val, hr]
  refine ⟨by rw [hw, hvd]; omega, hz, ?_, hw⟩
  rw [set_drop_self hq, val, hvd0, inv, hw, hvd]
  have hdm := Nat.div_add_mod ((rd X i).toNat + 18446744073709551616 * val (X.drop (i + 1))) V
  have e : (((((rd X i).toNat + 18446744073709551616 * val (X.drop (i + 1))) / V : Nat) : Int)).toNat = ((rd X i).toNat + 18446744073709551616 * val (X.drop (i + 1))) / V := Int.toNat_natCast _
  rw [e]
  generalize ((rd X i).toNat + 18446744073709551616 * val (X.drop (i + 1))) / V = qq at *
  generalize ((rd X i).toNat + 18446744073709551616 * val (X.drop (i + 1))) % V = rr at *
  generalize val (q.drop (i + 1)) = Q at *
  rw [Nat.mul_add, Nat.mul_add, Nat.mul_left_comm V]
  omega
/-- The whole of it, scaled back. -/
theorem long_end {a b p Q R : Nat} (hp : 0 < p) (hb : 0 < b) (h : a * p = b * p * Q + R) (hr : R < b * p) : Q = a / b ∧ R / p = a % b := by
  have h1 : a * p / (b * p) = Q := by
    rw [h, Nat.mul_add_div (Nat.mul_pos hb hp), Nat.div_eq_of_lt hr]; rfl
  have h2 : a * p % (b * p) = R := by
    rw [h, Nat.mul_add_mod, Nat.mod_eq_of_lt hr]
  rw [Nat.mul_div_mul_right _ _ hp] at h1
  rw [Nat.mul_mod_mul_right] at h2
  refine ⟨h1.symm, ?_⟩
  rw [← h2, Nat.mul_div_cancel _ hp]

theorem okL_at {l : List Int} (h : okL l) (k : Nat) : 0 ≤ l.getD k default ∧ l.getD k default < 18446744073709551616 := by
  have := okL_rd h (k : Int)
  simpa [rd] using this
/-- A round of taking away. -/
theorem ms_next {X X1 y : List Int} {o i : Nat} {g b c : Int} (hX : okL X) (h1 : okL X1) (hy : okL y) (hl : X1.length = X.length) (hw : o + (y.length + 1) ≤ X.length) (hi : i < y.length)
    (g0 : 0 ≤ g) (g1 : g < 18446744073709551616) (b0 : 0 ≤ b) (b1 : b ≤ 1) (c0 : 0 ≤ c) (c1 : c < 18446744073709551616) (ht : X1.take o = X.take o) (hd : X1.drop (o + i) = X.drop (o + i))
    (inv : (win X1 o i : Int) + g * (val (y.take i) : Int) = (win X o i : Int) + 18446744073709551616 ^ i * (c + b))
    (x p low ov c' b' s : Int) (hx : x = X1.getD (o + i) default) (hp : p = g * rd y (i : Int)) (hlow : low = (p % 18446744073709551616 + c + 0) % 18446744073709551616) (hov : ov = (p % 18446744073709551616 + c + 0) / 18446744073709551616)
    (hc' : c' = IntKind.u64.wrap (p / 18446744073709551616 + ov)) (hb' : b' = if x < low + b then 1 else 0) (hs : s = (x - low - b) % 18446744073709551616) :
    (0 ≤ b' ∧ b' ≤ 1) ∧ (0 ≤ c' ∧ c' < 18446744073709551616) ∧ (X1.set (o + i) s).length = X.length ∧ okL (X1.set (o + i) s) ∧ (X1.set (o + i) s).take o = X.take o ∧ (X1.set (o + i) s).drop (o + (i + 1)) = X.drop (o + (i + 1)) ∧
      (win (X1.set (o + i) s) o (i + 1) : Int) + g * (val (y.take (i + 1)) : Int) = (win X o (i + 1) : Int) + 18446744073709551616 ^ (i + 1) * (c' + b') := by
  have hxx := okL_at h1 (o + i)
  have hyy := okL_rd hy (i : Int)
  have hxX : x = rd X ((o + i : Nat) : Int) := hx.trans (getD_drop hd)
  have hpb := mul_bd (a := g) (b := rd y (i : Int)) (n := 18446744073709551615) (m := 18446744073709551615) g0 hyy.1 (by omega) (by omega)
  rw [← hp] at hpb
  have hw' := u64_wrap (p / 18446744073709551616 + ov)
  rw [hw'] at hc'
  have hc2 : c' = p / 18446744073709551616 + ov := by omega
  refine ⟨by rw [hb']; split <;> omega, by omega, by simpa using hl, okL_set h1 _ (by omega), by rw [take_set_le (by omega)]; exact ht, ?_, ?_⟩
  · rw [List.drop_set_of_lt (by omega), ← Nat.add_assoc]
    rw [← List.drop_drop, hd, List.drop_drop]
  · refine mulsub_step (X := X) (by omega) hX hy (by omega) inv ?_
    rw [← hxX, ← hp, hb']
    split <;> omega
/-- A round of adding. -/
theorem ad_next {X X1 y : List Int} {o i : Nat} {c : Int} (hX : okL X) (h1 : okL X1) (hy : okL y) (hl : X1.length = X.length) (hw : o + (y.length + 1) ≤ X.length) (hi : i ≤ y.length)
    (c0 : 0 ≤ c) (c1 : c ≤ 1) (ht : X1.take o = X.take o) (hd : X1.drop (o + i) = X.drop (o + i))
    (inv : (win X1 o i : Int) + 18446744073709551616 ^ i * c = (win X o i : Int) + (val (y.take i) : Int))
    (x z s c' : Int) (hx : x = X1.getD (o + i) default) (hz : z = rd y (i : Int)) (hs : s = (x + z + c) % 18446744073709551616) (hc' : c' = (x + z + c) / 18446744073709551616) :
    (0 ≤ c' ∧ c' ≤ 1) ∧ (X1.set (o + i) s).length = X.length ∧ okL (X1.set (o + i) s) ∧ (X1.set (o + i) s).take o = X.take o ∧ (X1.set (o + i) s).drop (o + (i + 1)) = X.drop (o + (i + 1)) ∧
      (win (X1.set (o + i) s) o (i + 1) : Int) + 18446744073709551616 ^ (i + 1) * c' = (win X o (i + 1) : Int) + (val (y.take (i + 1)) : Int) := by
  have hxx := okL_at h1 (o + i)
  have hyy := okL_rd hy (i : Int)
  have hxX : x = rd X ((o + i : Nat) : Int) := hx.trans (getD_drop hd)
  refine ⟨by omega, by simpa using hl, okL_set h1 _ (by omega), by rw [take_set_le (by omega)]; exact ht, ?_, ?_⟩
  · rw [List.drop_set_of_lt (by omega), ← Nat.add_assoc]
    rw [← List.drop_drop, hd, List.drop_drop]
  · refine add_win_step (X := X) (by omega) hX hy (by omega) inv ?_
    rw [← hxX, ← hz]
    omega
/-- The highest limb of a window. -/
theorem ms_top {X X1 y : List Int} {o : Nat} {g b c : Int} (hX : okL X) (h1 : okL X1) (hl : X1.length = X.length) (hw : o + (y.length + 1) ≤ X.length)
    (b0 : 0 ≤ b) (b1 : b ≤ 1) (c0 : 0 ≤ c) (c1 : c < 18446744073709551616) (ht : X1.take o = X.take o) (hd : X1.drop (o + y.length) = X.drop (o + y.length))
    (inv : (win X1 o y.length : Int) + g * (val (y.take y.length) : Int) = (win X o y.length : Int) + 18446744073709551616 ^ y.length * (c + b))
    (x s b' : Int) (hx : x = X1.getD (o + y.length) default) (hb' : b' = if x < c + b then 1 else 0) (hs : s = (x - c - b) % 18446744073709551616) :
    (0 ≤ b' ∧ b' ≤ 1) ∧ (X1.set (o + y.length) s).length = X.length ∧ okL (X1.set (o + y.length) s) ∧ (X1.set (o + y.length) s).take o = X.take o ∧ (X1.set (o + y.length) s).drop (o + (y.length + 1)) = X.drop (o + (y.length + 1)) ∧
      (win (X1.set (o + y.length) s) o (y.length + 1) : Int) + g * (val y : Int) = (win X o (y.length + 1) : Int) + 18446744073709551616 ^ (y.length + 1) * b' := by
  have hxx := okL_at h1 (o + y.length)
  have hxX : x = rd X ((o + y.length : Nat) : Int) := hx.trans (getD_drop hd)
  refine ⟨by rw [hb']; split <;> omega, by simpa using hl, okL_set h1 _ (by omega), by rw [take_set_le (by omega)]; exact ht, ?_, ?_⟩
  · rw [List.drop_set_of_lt (by omega), ← Nat.add_assoc]
    rw [← List.drop_drop, hd, List.drop_drop]
  · rw [List.take_length] at inv
    rw [win_set_succ (by omega), win_succ, ← hxX]
    have e1 : (x.toNat : Int) = x := by omega
    have e3 : (s.toNat : Int) = s := by omega
    have hF : x + 18446744073709551616 * b' = s + c + b := by rw [hb']; split <;> omega
    have eB : ((18446744073709551616 : Nat) : Int) = 18446744073709551616 := rfl
    simp only [Int.natCast_add, Int.natCast_mul, Int.natCast_pow, e1, e3, Int.pow_succ, eB]
    generalize (18446744073709551616 : Int) ^ y.length = q at *
    grind
/-- Once too often: y is added again. -/
theorem back_next {W V B g b ov X1 X2 : Int} (hB : 0 < B) (h1 : X1 + g * V = W + B * b) (h2 : X2 + B * ov = X1 + V) : X2 + (g - 1) * V = W + B * (b - ov) := by grind

theorem cast_pow64 (k : Nat) : ((18446744073709551616 ^ k : Nat) : Int) = (18446744073709551616 : Int) ^ k := by rw [Int.natCast_pow]; rfl
theorem step_neg {w W V k : Nat} {g b : Int} (hg : 0 ≤ g) (hb : b = 1) (hlt : w < 18446744073709551616 ^ k) (h : (w : Int) + g * (V : Int) = (W : Int) + 18446744073709551616 ^ k * b) : W < g.toNat * V := by
  obtain ⟨G, rfl⟩ := Int.eq_ofNat_of_zero_le hg
  subst hb
  rw [← cast_pow64] at h
  have e : (G : Int) * (V : Int) = ((G * V : Nat) : Int) := by simp
  rw [e] at h
  rw [Int.toNat_natCast]
  omega
theorem step_pos {w W V k : Nat} {g b : Int} (hg : 0 ≤ g) (hb : b = 1) (hlt : w < 18446744073709551616 ^ k) (h : (w : Int) + g * (V : Int) = (W : Int) + 18446744073709551616 ^ k * b) : 1 ≤ g := by
  have := step_neg hg hb hlt h
  rcases (show 0 < g ∨ g ≤ 0 by omega) with q | q
  · omega
  · have : g = 0 := by omega
    subst this
    simp at *
theorem step_fin {w W V k : Nat} {g : Int} (hg : 0 ≤ g) (h : (w : Int) + g * (V : Int) = (W : Int) + 18446744073709551616 ^ k * 0) (hgV : W < (g.toNat + 1) * V) : g = ((W / V : Nat) : Int) ∧ w = W % V := by
  obtain ⟨G, rfl⟩ := Int.eq_ofNat_of_zero_le hg
  have e : (G : Int) * (V : Int) = ((G * V : Nat) : Int) := by simp
  rw [e, Int.mul_zero] at h
  rw [Int.toNat_natCast] at hgV
  obtain ⟨h1, h2⟩ := step_end (w := w) (W := W) (V := V) (g := G) (by omega) hgV
  exact ⟨by rw [h1], h2⟩
theorem step_guess {X y : List Int} {o : Nat} (hk : okL X) (hky : okL y) (hn1 : 1 ≤ y.length) (hw : o + (y.length + 1) ≤ X.length)
    (hb : X.getD (o + (y.length : Int).toNat * 1) default < rd y ((y.length : Int) - 1)) :
    (0 ≤ (X.getD (o + (y.length : Int).toNat * 1) default * 18446744073709551616 + X.getD (o + ((y.length : Int) - 1).toNat * 1) default) / rd y ((y.length : Int) - 1) ∧
      (X.getD (o + (y.length : Int).toNat * 1) default * 18446744073709551616 + X.getD (o + ((y.length : Int) - 1).toNat * 1) default) / rd y ((y.length : Int) - 1) < 18446744073709551616) ∧
    win X o (y.length + 1) < (((X.getD (o + (y.length : Int).toNat * 1) default * 18446744073709551616 + X.getD (o + ((y.length : Int) - 1).toNat * 1) default) / rd y ((y.length : Int) - 1)).toNat + 1) * val y := by
  obtain ⟨n, hn⟩ : ∃ n, y.length = n + 1 := ⟨y.length - 1, by omega⟩
  have e0 : o + (y.length : Int).toNat * 1 = o + (n + 1) := by omega
  have e1 : o + ((y.length : Int) - 1).toNat * 1 = o + n := by omega
  have e2 : (y.length : Int) - 1 = (n : Int) := by omega
  rw [e0, e2] at hb
  rw [e0, e1, e2]
  have q1 := okL_at hk (o + (n + 1))
  have q2 := okL_at hk (o + n)
  have q3 := okL_rd hky (n : Int)
  have d := div_bd (hi := X.getD (o + (n + 1)) default) (lo := X.getD (o + n) default) (b := rd y (n : Int)) q1.1 hb q2.1 q2.2
  refine ⟨⟨d.1, d.2.1⟩, ?_⟩
  have w1 := win_succ X o (n + 1)
  have w2 := win_succ X o n
  have r1 : rd X ((o + (n + 1) : Nat) : Int) = X.getD (o + (n + 1)) default := rd_nat _ _
  have r2 : rd X ((o + n : Nat) : Int) = X.getD (o + n) default := rd_nat _ _
  rw [r1] at w1
  rw [r2] at w2
  have hv := val_take_succ' y n
  rw [← hn, List.take_length] at hv
  generalize X.getD (o + (n + 1)) default = xn at *
  generalize X.getD (o + n) default = xm at *
  generalize rd y (n : Int) = yt at *
  generalize hg : (xn * 18446744073709551616 + xm) / yt = g at *
  refine guess_top (n := n) (xn := xn.toNat) (xm := xm.toNat) (yt := yt.toNat) (wl := win X o n) (yl := val (y.take n)) ?_ (win_lt hk o n) hv ?_
  · rw [hn, w1, w2, Nat.pow_succ, Nat.mul_add, Nat.mul_assoc, Nat.add_assoc]
  · have hp := d.2.2.2.1
    have hq := d.2.2.2.2
    obtain ⟨G, rfl⟩ := Int.eq_ofNat_of_zero_le d.1
    obtain ⟨Yt, rfl⟩ := Int.eq_ofNat_of_zero_le q3.1
    simp only [Int.toNat_natCast]
    have e : (G : Int) * (Yt : Int) = ((G * Yt : Nat) : Int) := by simp
    rw [e] at hq
    rw [Nat.add_mul, Nat.one_mul]
    omega
/-- One round, as the walk leaves it. -/
theorem long_next {X x0 q : List Int} {V i m : Nat} (hkX : okL X) (hV : 0 < V) (hVm : V < 18446744073709551616 ^ m) (hi : i + (m + 1) ≤ X.length) (hlen : X.length = x0.length) (hq : i < q.length)
    (ht : X.take (i + 1) = x0.take (i + 1)) (inv : val (x0.drop (i + 1)) = V * val (q.drop (i + 1)) + val (X.drop (i + 1))) (hlt : val (X.drop (i + 1)) < V) :
    win X i (m + 1) < 18446744073709551616 * V ∧ (setWin X i (m + 1) (win X i (m + 1) % V)).length = X.length ∧ okL (setWin X i (m + 1) (win X i (m + 1) % V)) ∧ (setWin X i (m + 1) (win X i (m + 1) % V)).take i = x0.take i ∧
    val (x0.drop i) = V * val ((q.set i ((win X i (m + 1) / V : Nat) : Int)).drop i) + val ((setWin X i (m + 1) (win X i (m + 1) % V)).drop i) ∧
    val ((setWin X i (m + 1) (win X i (m + 1) % V)).drop i) < V ∧ (0 ≤ ((win X i (m + 1) / V : Nat) : Int) ∧ ((win X i (m + 1) / V : Nat) : Int) < 18446744073709551616) := by
  obtain ⟨h1, h2, h3, h4⟩ := long_round hkX hV hVm hi hlen hq ht inv hlt
  have hm := Nat.mod_lt (win X i (m + 1)) hV
  have hsv := setWin_val (X := X) (o := i) (k := m + 1) (n := win X i (m + 1) % V) hi (Nat.lt_of_lt_of_le (Nat.lt_trans hm hVm) (Nat.pow_le_pow_right (by decide) (Nat.le_succ m))) h2
  have hq64 : win X i (m + 1) / V < 18446744073709551616 := Nat.div_lt_of_lt_mul (by rw [Nat.mul_comm]; exact h1)
  refine ⟨h1, setWin_length hi, setWin_ok hkX, ?_, ?_, ?_, Int.natCast_nonneg _, Int.ofNat_lt.2 hq64⟩
  · rw [setWin_take hi]
    have := congrArg (List.take i) ht
    rwa [List.take_take, List.take_take, Nat.min_eq_left (Nat.le_succ i)] at this
  · rw [hsv]; exact h3
  · rw [hsv]; exact hm
theorem val_app0 (l : List Int) : val (l ++ [0]) = val l := by rw [val_append]; simp [val]
theorem val_take_lt {l : List Int} {m : Nat} (h : val l < 18446744073709551616 ^ m) : val (l.take m) = val l := by
  rcases Nat.lt_or_ge m l.length with hm | hm
  · have hs : val l = val (l.take m) + 18446744073709551616 ^ m * val (l.drop m) := by
      conv => lhs; rw [← List.take_append_drop m l, val_append]
      rw [List.length_take, Nat.min_eq_left (by omega)]
    rcases Nat.eq_zero_or_pos (val (l.drop m)) with q | q
    · rw [q] at hs; omega
    · have := Nat.mul_le_mul_left (18446744073709551616 ^ m) q
      omega
  · rw [List.take_of_length_le hm]
end Go.Proofs.YthaiegnohkiegaaGreat.Ab
/-
  The reference's division, bit by bit: plain arithmetic.
-/
namespace Go.Proofs.YthaiegnohkiegaaGreat.Ab
set_option linter.unusedVariables false
set_option linter.unusedSimpArgs false

theorem bl_bounds : ∀ (k x : Nat), k ≤ 64 → x < 2 ^ k → x ≠ 0 → 2 ^ (Lib.bitLen x) ≤ 2 * x ∧ x < 2 ^ (Lib.bitLen x)
  | 0, x, _, h, h0 => by simp at h; exact absurd h h0
  | k + 1, x, hk, h, h0 => by
    have h64 : x < 2 ^ 64 := Nat.lt_of_lt_of_le h (Nat.pow_le_pow_right (by decide) hk)
    rw [Lib.bitLen_half x h0 h64]
    by_cases h1 : x = 1
    · subst h1; decide
    · rw [Nat.pow_succ] at h
      obtain ⟨q1, q2⟩ := bl_bounds k (x / 2) (by omega) (by omega) (by omega)
      rw [Nat.pow_add]
      generalize 2 ^ Lib.bitLen (x / 2) = p at *
      omega
/-- How many bits a number has. -/
def blen (n : Nat) : Nat := if n = 0 then 0 else n.log2 + 1
theorem blen_bounds {n : Nat} (h : n ≠ 0) : 2 ^ blen n ≤ 2 * n ∧ n < 2 ^ blen n := by
  unfold blen
  rw [if_neg h]
  have h1 := Nat.log2_self_le h
  have h2 := Nat.lt_log2_self (n := n)
  rw [Nat.pow_succ] at *
  omega
theorem blen_unique {n k : Nat} (h1 : 2 ^ k ≤ 2 * n) (h2 : n < 2 ^ k) : k = blen n := by
  have h0 : n ≠ 0 := by
    intro e; subst e
    have := Nat.pow_pos (a := 2) (n := k) (by decide)
    omega
  obtain ⟨q1, q2⟩ := blen_bounds h0
  rcases Nat.lt_trichotomy k (blen n) with h | h | h
  · have := Nat.pow_le_pow_right (n := 2) (by decide) (show k + 1 ≤ blen n from h)
    rw [Nat.pow_succ] at this; omega
  · exact h
  · have := Nat.pow_le_pow_right (n := 2) (by decide) (show blen n + 1 ≤ k from h)
    rw [Nat.pow_succ] at this; omega
theorem pow64 (k : Nat) : (18446744073709551616 : Nat) ^ k = 2 ^ (64 * k) := by rw [Nat.pow_mul]
theorem top_split {l : List Int} (h : l ≠ []) : val l = val (l.take (l.length - 1)) + 18446744073709551616 ^ (l.length - 1) * (rd l ((l.length : Int) - 1)).toNat := by
  have hp : 0 < l.length := List.length_pos_iff.2 h
  have := val_take_succ' l (l.length - 1)
  rw [show l.length - 1 + 1 = l.length by omega, List.take_length] at this
  rw [this, show ((l.length : Int) - 1) = ((l.length - 1 : Nat) : Int) by omega]
theorem top_bounds {l : List Int} (hk : okL l) (hg : goodL l = true) (h : l ≠ []) : 64 * (l.length - 1) + Lib.bitLen (rd l ((l.length : Int) - 1)).toNat = blen (val l) := by
  have ht := okL_rd hk ((l.length : Int) - 1)
  have hn : rd l ((l.length : Int) - 1) ≠ 0 := by
    simp only [goodL, decide_eq_true_eq] at hg
    rcases hg with q | q
    · exact absurd q h
    · exact q
  have hs := top_split h
  have hl := val_lt (okL_take hk (l.length - 1))
  rw [List.length_take, Nat.min_eq_left (by omega)] at hl
  obtain ⟨b1, b2⟩ := bl_bounds 64 (rd l ((l.length : Int) - 1)).toNat (by omega) (by omega) (by omega)
  generalize (rd l ((l.length : Int) - 1)).toNat = t at *
  apply blen_unique
  · rw [Nat.pow_add, ← pow64, hs]
    have := Nat.mul_le_mul_left (18446744073709551616 ^ (l.length - 1)) b1
    rw [Nat.mul_left_comm] at this
    omega
  · rw [Nat.pow_add, ← pow64, hs]
    have := Nat.mul_le_mul_left (18446744073709551616 ^ (l.length - 1)) (show t + 1 ≤ _ from b2)
    rw [Nat.mul_add, Nat.mul_one] at this
    omega
theorem lenN_limbs (n : Nat) : lenN (limbs n) = blen n := by
  by_cases h : n = 0
  · subst h; simp [limbs_zero, lenN, blen]
  · have hne : limbs n ≠ [] := by
      intro e
      have := (limbs_len_pos n).2 h
      rw [e] at this; simp at this
    have := top_bounds (okL_limbs n) (good_limbs n) hne
    rw [val_limbs] at this
    unfold lenN
    rw [if_pos ⟨good_limbs n, hne⟩, ← this]
    have := List.length_pos_iff.2 hne
    omega
theorem blen_le {n k : Nat} (h : n < 2 ^ k) : blen n ≤ k := by
  by_cases h0 : n = 0
  · subst h0; simp [blen]
  · obtain ⟨q1, q2⟩ := blen_bounds h0
    rcases Nat.lt_or_ge k (blen n) with h | h
    · have := Nat.pow_le_pow_right (n := 2) (by decide) (show k + 1 ≤ blen n from h)
      rw [Nat.pow_succ] at this; omega
    · exact h
theorem blen_limbs (n : Nat) : blen n ≤ 64 * (limbs n).length := blen_le (by rw [← pow64]; exact limbs_lt n)
theorem blen_mono {n m : Nat} (h : n ≤ m) : blen n ≤ blen m := by
  by_cases h0 : m = 0
  · have : n = 0 := by omega
    subst this; subst h0; exact Nat.le_refl _
  · exact blen_le (Nat.lt_of_le_of_lt h (blen_bounds h0).2)
/-- One bit of the quotient. -/
theorem bit_round {a b q r i : Nat} (inv : a = q * b + r) (hr : r < b * 2 ^ (i + 1)) (hq : q % 2 ^ (i + 1) = 0) :
    (b * 2 ^ i ≤ r → a = (q + 2 ^ i) * b + (r - b * 2 ^ i) ∧ r - b * 2 ^ i < b * 2 ^ i ∧ (q + 2 ^ i) % 2 ^ i = 0) ∧ q % 2 ^ i = 0 := by
  have h2 : q % 2 ^ i = 0 := by
    rw [Nat.pow_succ] at hq
    have : 2 ^ i ∣ q := Nat.dvd_trans ⟨2, rfl⟩ (Nat.dvd_of_mod_eq_zero hq)
    exact Nat.mod_eq_zero_of_dvd this
  refine ⟨fun h => ⟨?_, ?_, ?_⟩, h2⟩
  · rw [inv, Nat.add_mul, Nat.mul_comm (2 ^ i) b]; omega
  · rw [Nat.pow_succ, ← Nat.mul_assoc] at hr; omega
  · rw [Nat.add_mod_right, h2]
theorem set_bit {Q : List Int} {i : Nat} (hk : okL Q) (hi : i / 64 < Q.length) (hq : val Q % 2 ^ (i + 1) = 0) :
    ∃ x : Nat, rd Q ((i / 64 : Nat) : Int) = (x : Int) ∧ x + 2 ^ (i % 64) < 18446744073709551616 ∧ bits .or .u64 (x : Int) ((2 ^ (i % 64) : Nat) : Int) = ((x + 2 ^ (i % 64) : Nat) : Int) ∧
      val (Q.set (i / 64) ((x + 2 ^ (i % 64) : Nat) : Int)) = val Q + 2 ^ i := by
  have hx := okL_rd hk ((i / 64 : Nat) : Int)
  obtain ⟨x, hx'⟩ := Int.eq_ofNat_of_zero_le hx.1
  have hs := val_split hi
  have hlow := val_lt (okL_take hk (i / 64))
  rw [List.length_take, Nat.min_eq_left (by omega), pow64] at hlow
  rw [hx', Int.toNat_natCast, pow64] at hs
  have hj : i % 64 < 64 := Nat.mod_lt _ (by decide)
  have ei : i = 64 * (i / 64) + i % 64 := by omega
  have e1 : 2 ^ (i + 1) = 2 ^ (64 * (i / 64)) * 2 ^ (i % 64 + 1) := by rw [← Nat.pow_add]; congr 1; omega
  have e2 : (18446744073709551616 : Nat) = 2 ^ (i % 64 + 1) * 2 ^ (63 - i % 64) := by
    rw [← Nat.pow_add, show i % 64 + 1 + (63 - i % 64) = 64 by omega]
  have hpp : 0 < 2 ^ (64 * (i / 64)) := Nat.pow_pos (by decide)
  have hjp : 0 < 2 ^ (i % 64) := Nat.pow_pos (by decide)
  have hd : 2 ^ (64 * (i / 64)) * 2 ^ (i % 64 + 1) ∣ val Q := by rw [← e1]; exact Nat.dvd_of_mod_eq_zero hq
  have hd1 : 2 ^ (64 * (i / 64)) ∣ val Q := Nat.dvd_trans ⟨_, rfl⟩ hd
  have hz : val (Q.take (i / 64)) = 0 := by
    have : 2 ^ (64 * (i / 64)) ∣ val (Q.take (i / 64)) := by
      rw [hs] at hd1
      exact (Nat.dvd_add_left ⟨_, rfl⟩).1 hd1
    exact Nat.eq_zero_of_dvd_of_lt this hlow
  rw [hz, Nat.zero_add] at hs
  rw [hs] at hd
  have hd2 := Nat.dvd_of_mul_dvd_mul_left hpp hd
  have hd3 : 2 ^ (i % 64 + 1) ∣ x := by
    have hB : 2 ^ (i % 64 + 1) ∣ 18446744073709551616 * val (Q.drop (i / 64 + 1)) := by
      conv => rhs; rw [e2]
      exact Nat.dvd_mul_right_of_dvd ⟨_, rfl⟩ _
    exact (Nat.dvd_add_left hB).1 hd2
  obtain ⟨c, hc⟩ := hd3
  have hxB : x < 18446744073709551616 := by omega
  have hcl : c + 1 ≤ 2 ^ (63 - i % 64) := by
    rw [hc] at hxB
    conv at hxB => rhs; rw [e2]
    exact Nat.lt_of_mul_lt_mul_left hxB
  have hlt : x + 2 ^ (i % 64) < 18446744073709551616 := by
    have h3 := Nat.mul_le_mul_left (2 ^ (i % 64 + 1)) hcl
    rw [← e2, Nat.mul_add, ← hc, Nat.mul_one, Nat.pow_succ] at h3
    omega
  refine ⟨x, hx', hlt, ?_, ?_⟩
  · rw [u64_or_nat _ _ hxB (by omega)]
    congr 1
    refine nat_join (i % 64 + 1) _ _ (by rw [hc]; exact Nat.mul_mod_right _ _) ?_
    rw [Nat.pow_succ]; omega
  · have hs2 := val_split (l := Q.set (i / 64) ((x + 2 ^ (i % 64) : Nat) : Int)) (n := i / 64) (by simpa using hi)
    rw [rd_set_self hi, take_set_le (Nat.le_refl _), hz, List.drop_set_of_lt (by omega), pow64, Int.toNat_natCast] at hs2
    rw [hs2, hs]
    have e4 : 2 ^ i = 2 ^ (64 * (i / 64)) * 2 ^ (i % 64) := by rw [← Nat.pow_add]; congr 1
    rw [e4]
    simp only [Nat.mul_add]
    omega
theorem or_shl {a b : Int} (h0 : 0 ≤ a) (h1 : a < 4294967296) (h2 : 0 ≤ b) (h3 : b < 4294967296) : bits .or .u64 (IntKind.u64.wrap (a * ((2 ^ 32 : Nat) : Int))) (IntKind.u64.wrap b) = a * 4294967296 + b := by
  obtain ⟨A, rfl⟩ := Int.eq_ofNat_of_zero_le h0
  obtain ⟨B, rfl⟩ := Int.eq_ofNat_of_zero_le h2
  have e1 : IntKind.u64.wrap ((A : Int) * ((2 ^ 32 : Nat) : Int)) = ((A * 4294967296 : Nat) : Int) := by rw [u64_wrap]; omega
  have e2 : IntKind.u64.wrap (B : Int) = (B : Int) := u64_in h2 (by omega)
  rw [e1, e2, u64_or_nat _ _ (by omega) (by omega), nat_join 32 _ _ (by omega) (by omega)]
  omega
theorem blen_lt {A B : Nat} (h : blen A < blen B) : A < B := by
  rcases Nat.lt_or_ge A B with q | q
  · exact q
  · have := blen_mono q; omega
/-- How far the divisor is shifted up at first. -/
theorem div_first {A B n : Nat} (hB : B ≠ 0) (h : blen A = blen B + n) : A < B * 2 ^ (n + 1) ∧ B * 2 ^ n ≤ 2 * A := by
  have hA : A ≠ 0 := by
    intro e; subst e
    unfold blen at h
    rw [if_pos rfl, if_neg hB] at h; omega
  obtain ⟨a1, a2⟩ := blen_bounds hA
  obtain ⟨b1, b2⟩ := blen_bounds hB
  rw [h, Nat.pow_add] at a1 a2
  have hp : 0 < 2 ^ n := Nat.pow_pos (by decide)
  constructor
  · have := Nat.mul_le_mul_right (2 ^ n) b1
    rw [Nat.pow_succ, ← Nat.mul_assoc]
    rw [Nat.mul_assoc, Nat.mul_comm 2] at this
    omega
  · have := Nat.mul_le_mul_right (2 ^ n) (Nat.le_of_lt b2)
    omega
theorem shl_one {i : Int} (h0 : 0 ≤ i) : IntKind.u64.wrap (1 * 2 ^ min (IntKind.u64.wrap (i % 64)).toNat 64) = ((2 ^ (i.toNat % 64) : Nat) : Int) := by
  have e1 : IntKind.u64.wrap (i % 64) = i % 64 := u64_in (by omega) (by omega)
  have e2 : (i % 64).toNat = i.toNat % 64 := by omega
  have e3 : min (i.toNat % 64) 64 = i.toNat % 64 := by omega
  have e4 : 2 ^ (i.toNat % 64) < 2 ^ 64 := Nat.pow_lt_pow_right (by decide) (by omega)
  rw [e1, e2, e3, Int.one_mul]
  have e5 : (2 : Int) ^ (i.toNat % 64) = ((2 ^ (i.toNat % 64) : Nat) : Int) := by simp
  rw [e5]
  generalize 2 ^ (i.toNat % 64) = p at *
  exact u64_in (by omega) (by omega)
/-- A limb shifted up is appended. -/
theorem up_step {l L : List Int} {k i n lo hi c : Nat} (hL : L.length = k + i) (hi1 : i < l.length) (inv : val L + 18446744073709551616 ^ (k + i) * c = 18446744073709551616 ^ k * (val (l.take i) * 2 ^ n))
    (hF : (rd l (i : Int)).toNat * 2 ^ n = lo + 18446744073709551616 * hi) : val (L ++ [((c + lo : Nat) : Int)]) + 18446744073709551616 ^ (k + (i + 1)) * hi = 18446744073709551616 ^ k * (val (l.take (i + 1)) * 2 ^ n) := by
  rw [val_append, hL, val_take_succ']
  simp only [val, Int.toNat_natCast, Nat.mul_zero, Nat.add_zero, Nat.pow_add, Nat.pow_one] at inv ⊢
  generalize 18446744073709551616 ^ k = p at *
  generalize 18446744073709551616 ^ i = q at *
  generalize val (l.take i) = v at *
  generalize (rd l (i : Int)).toNat = x at *
  generalize 2 ^ n = N at *
  grind
theorem right_app {l L : List Int} {i n s : Nat} (hL : L.length = i) (inv : val L = val l / 2 ^ n % 18446744073709551616 ^ i) (hl : i ≤ l.length) (hk : okL l) (hs : val (l.drop i) / 2 ^ n % 18446744073709551616 = s) :
    val (L ++ [(s : Int)]) = val l / 2 ^ n % 18446744073709551616 ^ (i + 1) := by
  have h := right_step (l := l) (c := L ++ [0]) (i := i) (n := n) (s := s) (by simp [hL]) hl hk (by rw [List.take_append_of_le_length (by omega), List.take_of_length_le (by omega)]; exact inv) hs
  rw [← h]
  congr 1
  rw [List.set_append_right _ _ (by omega), hL, Nat.sub_self]
  simp [List.take_of_length_le, hL]
end Go.Proofs.YthaiegnohkiegaaGreat.Ab
/-
  Contracts of package nat at numbers, for long division.
-/
namespace Go.Proofs.YthaiegnohkiegaaGreat.Ab
set_option linter.unusedVariables false
set_option linter.unusedSimpArgs false

theorem nat_cmp0 (a b : Nat) (ha : (limbs a).length ≤ 17592186044416) (hb : (limbs b).length ≤ 17592186044416) : Fn Tryz.prog 183 [.d (encN (limbs a)), .d (encN (limbs b))] false (.one (.d (ii (cmpN a b)))) := by
  have := nat_cmp (limbs a) (limbs b) (by omega) (by omega) (okL_limbs a) (okL_limbs b) (good_limbs a) (good_limbs b)
  rw [val_limbs, val_limbs] at this
  exact this
theorem nat_leftN (a : Nat) (n : Int) (ha : (limbs a).length ≤ 17592186044416) (hn0 : 0 ≤ n) (hn1 : n ≤ 63) : Fn Tryz.prog 186 [.d (encN (limbs a)), .d (ii n)] false (.one (.d (encN (limbs (a * 2 ^ n.toNat))))) := by
  have := nat_left63 (limbs a) n ha (okL_limbs a) hn0 hn1
  rw [val_limbs] at this
  exact this
theorem nat_leftNX (a : Nat) (n : Int) (ha : (limbs a).length ≤ 17592186044416) (hn0 : 0 ≤ n) (hn1 : n ≤ 63) : Fn Tryz.prog 186 [.d (encN (limbs a)), .d (ii n)] false (.one (.dx ((limbs (a * 2 ^ n.toNat)).map fun x => [iu x]))) := by
  have := nat_left63X (limbs a) n ha (okL_limbs a) hn0 hn1
  rw [val_limbs] at this
  exact this
theorem one_limb {B : Nat} (h : ((limbs B).length : Int) = 1) : limbs B = [(B : Int)] ∧ rd (limbs B) 0 = (B : Int) ∧ B < 18446744073709551616 := by
  have hlt := limbs_lt B
  have h1 : (limbs B).length = 1 := by omega
  rw [h1] at hlt
  have h0 : B ≠ 0 := fun e => by subst e; simp [limbs_zero] at h1
  have := limbs_one h0 (by simpa using hlt)
  rw [this]
  exact ⟨rfl, rfl, by simpa using hlt⟩
theorem top_limb {B : Nat} (h : B ≠ 0) : 0 < rd (limbs B) (((limbs B).length : Int) - 1) ∧ rd (limbs B) (((limbs B).length : Int) - 1) < 18446744073709551616 := by
  have ht := okL_rd (okL_limbs B) (((limbs B).length : Int) - 1)
  have hg := good_limbs B
  have hp := (limbs_len_pos B).2 h
  simp only [goodL, decide_eq_true_eq] at hg
  rcases hg with q | q
  · rw [q] at hp; simp at hp
  · omega
theorem limbs_shl_len (A n : Nat) (h : n ≤ 63) : (limbs (A * 2 ^ n)).length ≤ (limbs A).length + 1 := by
  refine limbs_len_le ?_
  rw [Nat.pow_succ]
  have h1 := limbs_lt A
  have h2 : 2 ^ n ≤ 2 ^ 64 := Nat.pow_le_pow_right (by decide) (by omega)
  calc A * 2 ^ n ≤ A * 2 ^ 64 := Nat.mul_le_mul_left _ h2
    _ < 18446744073709551616 ^ (limbs A).length * 18446744073709551616 := Nat.mul_lt_mul_of_pos_right h1 (by decide)
theorem limbs_val_len {l : List Int} (h : okL l) : (limbs (val l)).length ≤ l.length := limbs_len_le (val_lt h)
theorem long_start {N Y Q : Nat} (hY : Y ≠ 0) (h : Q + (limbs Y).length = (limbs N).length + 1) :
    val ((limbs N ++ [0]).drop Q) = Y * val ((List.replicate Q (0 : Int)).drop Q) + val ((limbs N ++ [0]).drop Q) ∧ val ((limbs N ++ [0]).drop Q) < Y := by
  have hp := (limbs_len_pos Y).2 hY
  refine ⟨?_, ?_⟩
  · rw [List.drop_of_length_le (by simp : (List.replicate Q (0 : Int)).length ≤ Q)]; simp [val]
  · rw [List.drop_append_of_le_length (by omega), val_app0]
    have h1 := val_lt (okL_drop (okL_limbs N) Q)
    have hne : limbs Y ≠ [] := fun e => by rw [e] at hp; simp at hp
    have h2 := good_ge (okL_limbs Y) (good_limbs Y) hne
    rw [val_limbs] at h2
    refine Nat.lt_of_lt_of_le h1 (Nat.le_trans (Nat.pow_le_pow_right (by decide) ?_) h2)
    rw [List.length_drop]; omega
end Go.Proofs.YthaiegnohkiegaaGreat.Ab
/-
 Contracts: long division.
-/
namespace Go.Proofs.YthaiegnohkiegaaGreat.Ab
set_option linter.unusedVariables false
set_option linter.unusedSimpArgs false
set_option maxRecDepth 20000
set_option maxHeartbeats 4000000
attribute [local irreducible] Tells Does EVo EV EVq EVr TellsC


theorem nat_step (X y : List Int) (o n1 c1 : Nat) (hn : n1 = y.length + 1) (hl : X.length ≤ 17592186044416) (hn1 : 1 ≤ y.length) (hw : o + (y.length + 1) ≤ X.length) (hk : okL X) (hky : okL y) (hW : win X o (y.length + 1) < 18446744073709551616 * val y) : FnS Tryz.prog 187 [.c (.msl 900 o n1 c1), .c (.d false (encN y))] [(900, X.map (ci .u64))] (vi .u64 ((win X o (y.length + 1) / val y : Nat) : Int)) [(900, (setWin X o (y.length + 1) (win X o (y.length + 1) % val y)).map (ci .u64))] := by
 refine FnS_of_EV Tryz.func187 rfl (by kernel_rfl) rfl rfl rfl (fun E hE => ?_)
 iterate 14 refine τ ?_
 refine EV_join (fun S => ∃ g : Int, S = St.of [(0, V.c (.msl 900 o n1 c1)), (1, V.c (.d false (encN y))), (5, vi .i64 y.length), (6, vi .u64 g)] (tabO [(900, .box (List.map (ci .u64) X))]) 135 ∧ (0 ≤ g ∧ g < 18446744073709551616) ∧ win X o (y.length + 1) < (g.toNat + 1) * val y) ?_ ?_
 ·
  refine τ ?_
  refine EV_draw (inX [900]) (.st 0 (.st 1 (.st 2 (.st 3 (.st 4 (.st 5 (.st 6 (.st 7 (.st 8 (.st 9 .done)))))))))) Tryz.mixed (by kernel_rfl) ?_
  refine EVq_t rfl rfl (T_move rfl) ?_
  refine EVq_t rfl rfl (T_move rfl) ?_
  refine EVq_t rfl rfl (T_indexAddrM (uOk rfl) (zOk rfl) rfl rfl (by omega) (by omega)) ?_
  refine EVq_t rfl rfl (T_loadL (gOk rfl) rfl rfl (by omega) rfl rfl) ?_
  refine EVq_t rfl rfl (T_move rfl) ?_
  refine EVq_t rfl rfl (T_move rfl) ?_
  refine EVq_t rfl rfl (T_binI rfl rfl rfl (by omega) (by omega)) ?_
  refine EVq_t rfl rfl (T_ixL (uOk rfl) (zOk rfl) rfl rfl (by omega) (by omega) rfl) ?_
  refine EVq_t rfl rfl (T_load (gOk rfl) rfl) ?_
  refine EVq_t rfl rfl (T_bin rfl rfl rfl) ?_
  refine EVq_done ?_
  refine EV_cond rfl rfl rfl (fun hb1 => ?_) (fun hb1 => ?_)
  ·try simp only [zz] at hb1
   have hhb := hb1
   have e0 : ((y.length : Int)).toNat = y.length := by omega
   have e1 : ((y.length : Int) - 1).toNat = y.length - 1 := by omega
   have q1 := okL_at hk (o + (y.length : Int).toNat * 1)
   have q2 := okL_at hk (o + ((y.length : Int) - 1).toNat * 1)
   have q3 := okL_rd hky ((y.length : Int) - 1)
   refine EV_draw (inX [900]) (.st 0 (.st 1 (.st 2 (.st 3 (.st 4 (.st 5 (.st 6 (.st 7 (.st 8 (.st 9 (.st 10 (.st 11 (.st 12 (.st 13 (.one 14 (.st 15 (.st 16 (.st 17 (.st 18 .done))))))))))))))))))) Tryz.mixed (by kernel_rfl) ?_
   refine EVq_t rfl rfl (T_move rfl) ?_
   refine EVq_t rfl rfl (T_move rfl) ?_
   refine EVq_t rfl rfl (T_indexAddrM (uOk rfl) (zOk rfl) rfl rfl (by omega) (by omega)) ?_
   refine EVq_t rfl rfl (T_loadL (gOk rfl) rfl rfl (by omega) rfl rfl) ?_
   refine EVq_t rfl rfl (T_move rfl) ?_
   refine EVq_t rfl rfl (T_move rfl) ?_
   refine EVq_t rfl rfl (T_binI rfl rfl rfl (by omega) (by omega)) ?_
   refine EVq_t rfl rfl (T_indexAddrM (uOk rfl) (zOk rfl) rfl rfl (by omega) (by omega)) ?_
   refine EVq_t rfl rfl (T_loadL (gOk rfl) rfl rfl (by omega) rfl rfl) ?_
   refine EVq_t rfl rfl (T_move rfl) ?_
   refine EVq_t rfl rfl (T_move rfl) ?_
   refine EVq_t rfl rfl (T_binI rfl rfl rfl (by omega) (by omega)) ?_
   refine EVq_t rfl rfl (T_ixL (uOk rfl) (zOk rfl) rfl rfl (by omega) (by omega) rfl) ?_
   refine EVq_t rfl rfl (T_load (gOk rfl) rfl) ?_
   refine EVq_e rfl rfl (D_call false (bits_Div64 _ _ _ (by omega) (by omega) (by omega) (by omega) (by omega)) rfl (φd rfl (φd rfl (φd rfl φn)))) ?_
   refine EVq_t rfl rfl (T_move rfl) ?_
   refine EVq_t rfl rfl (T_extract rfl rfl) ?_
   refine EVq_t rfl rfl (T_extract rfl rfl) ?_
   refine EVq_t rfl rfl (T_assign rfl) ?_
   refine EVq_done ?_
   refine ω ⟨_, ⟨_, rfl, ?_⟩, W_keep2 _ _ ⟨rfl, rfl, rfl, rfl, trivial⟩ ⟨rfl, trivial⟩ rfl⟩
   exact step_guess hk hky hn1 hw hhb
  ·try simp only [zz] at hb1
   refine τ ?_
   refine ω ⟨_, ⟨_, rfl, ?_⟩, W_keep2 _ _ ⟨rfl, rfl, rfl, rfl, trivial⟩ ⟨rfl, trivial⟩ rfl⟩
   exact ⟨by omega, by show win X o (y.length + 1) < ((18446744073709551615 : Int).toNat + 1) * val y; exact hW⟩
 ·rintro S ⟨g, rfl, ⟨hg, hgV⟩⟩
  iterate 12 refine τ ?_
  refine EV_wl (fun mm S => ∃ i : Int, ∃ b : Int, ∃ c : Int, ∃ X1 : List Int, mm = ((y.length : Int) - i).toNat ∧ S = St.of [(0, V.c (.msl 900 o n1 c1)), (1, V.c (.d false (encN y))), (5, vi .i64 y.length), (6, vi .u64 g), (7, vi .u64 b), (8, vi .u64 c), (45, vi .i64 y.length), (46, vi .i64 i)] (tabO [(900, .box (List.map (ci .u64) X1))]) 135 ∧ (0 ≤ i ∧ i ≤ y.length) ∧ (0 ≤ b ∧ b ≤ 1) ∧ (0 ≤ c ∧ c < 18446744073709551616) ∧ X1.length = X.length ∧ okL X1 ∧ X1.take o = X.take o ∧ X1.drop (o + i.toNat) = X.drop (o + i.toNat) ∧ (win X1 o i.toNat : Int) + g * (val (y.take i.toNat) : Int) = (win X o i.toNat : Int) + 18446744073709551616 ^ i.toNat * (c + b)) _ ⟨_, ⟨0, 0, 0, X, rfl, rfl, ⟨by omega, by omega, by omega, rfl, hk, rfl, rfl, by simp [win_zero, val]⟩⟩, W_keep2 _ _ ⟨rfl, rfl, rfl, rfl, rfl, rfl, rfl, rfl, trivial⟩ ⟨rfl, trivial⟩ rfl⟩ ?_
  rintro mm S ⟨i, b, c, X1, rfl, rfl, ⟨h0, hb, hc, h1, h2, h3, h4, h5⟩⟩
  iterate 5 refine τ ?_
  refine EV_cond rfl rfl rfl (fun hb2 => ?_) (fun hb2 => ?_)
  ·try simp only [zz] at hb2
   have r1 := okL_rd hky i
   have r2 := okL_at h2 (o + i.toNat * 1)
   have r3 := mul_bd (a := g) (b := rd y i) (n := 18446744073709551615) (m := 18446744073709551615) hg.1 r1.1 (by omega) (by omega)
   iterate 15 refine τ ?_
   refine EVo_e rfl (D_call false (bits_Mul64 _ _ (by omega) (by omega) (by omega) (by omega)) rfl (φd rfl (φd rfl φn))) ?_
   iterate 10 refine τ ?_
   refine EVo_e rfl ((T_add64 Tryz.add64 rfl rfl rfl rfl (by omega) (by omega) (by omega)).does) ?_
   iterate 19 refine τ ?_
   refine EVo_t rfl (T_loadL (gOk rfl) rfl rfl (by omega) rfl rfl) ?_
   iterate 2 refine τ ?_
   refine EVo_e rfl ((T_sub64 Tryz.sub64 rfl rfl rfl rfl (by omega) (by omega) (by omega)).does) ?_
   iterate 4 refine τ ?_
   refine EVo_e rfl (D_storeL rfl Free_no rfl rfl (zOk rfl) (by omega)) ?_
   iterate 6 refine τ ?_
   refine ⟨_, ?_, ω ⟨_, ⟨_, _, _, _, rfl, rfl, ?_⟩, W_keep2 _ _ ⟨rfl, rfl, rfl, rfl, rfl, rfl, rfl, rfl, trivial⟩ ⟨rfl, trivial⟩ rfl⟩⟩
   ·omega
   ·have e2 : (i + 1).toNat = i.toNat + 1 := by omega
    have ei : (i.toNat : Int) = i := by omega
    simp only [Nat.mul_one]
    rw [e2]
    refine ⟨by omega, ?_⟩
    exact ms_next hk h2 hky h1 hw (by omega) hg.1 hg.2 hb.1 hb.2 hc.1 hc.2 h3 h4 h5 _ _ _ _ _ _ _ rfl (by rw [ei]) rfl rfl rfl rfl rfl
  ·try simp only [zz] at hb2
   have e9 : i.toNat = y.length := by omega
   rw [e9] at h4 h5
   have e0 : ((y.length : Int)).toNat = y.length := by omega
   have r2 := okL_at h2 (o + (y.length : Int).toNat * 1)
   have hT := ms_top hk h2 h1 hw hb.1 hb.2 hc.1 hc.2 h3 h4 h5 _ _ _ rfl rfl rfl
   iterate 8 refine τ ?_
   refine EVo_t rfl (T_loadL (gOk rfl) rfl rfl (by omega) rfl rfl) ?_
   iterate 2 refine τ ?_
   refine EVo_e rfl ((T_sub64 Tryz.sub64 rfl rfl rfl rfl (by omega) (by omega) (by omega)).does) ?_
   iterate 4 refine τ ?_
   refine EVo_e rfl (D_storeL rfl Free_no rfl rfl (zOk rfl) (by omega)) ?_
   iterate 4 refine τ ?_
   simp only [Nat.mul_one, e0]
   refine EV_wl (fun mm S => ∃ g : Int, ∃ b : Int, ∃ X1 : List Int, mm = g.toNat ∧ S = St.of [(0, V.c (.msl 900 o n1 c1)), (1, V.c (.d false (encN y))), (5, vi .i64 y.length), (6, vi .u64 g), (7, vi .u64 b)] (tabO [(900, .box (List.map (ci .u64) X1))]) 135 ∧ (0 ≤ g ∧ g < 18446744073709551616) ∧ (win X o (y.length + 1) < (g.toNat + 1) * val y) ∧ (0 ≤ b ∧ b ≤ 1) ∧ X1.length = X.length ∧ okL X1 ∧ X1.take o = X.take o ∧ X1.drop (o + (y.length + 1)) = X.drop (o + (y.length + 1)) ∧ (win X1 o (y.length + 1) : Int) + g * (val y : Int) = (win X o (y.length + 1) : Int) + 18446744073709551616 ^ (y.length + 1) * b) _ ⟨_, ⟨g, _, _, rfl, rfl, ⟨hg, hgV, hT⟩⟩, W_keep2 _ _ ⟨rfl, rfl, rfl, rfl, rfl, trivial⟩ ⟨rfl, trivial⟩ rfl⟩ ?_
   rintro mm S ⟨g, b, X1, rfl, rfl, ⟨hg, hgV, hb, h1, h2, h3, h4, h5⟩⟩
   iterate 6 refine τ ?_
   refine EV_cond rfl rfl rfl (fun hb3 => ?_) (fun hb3 => ?_)
   ·try simp only [zz] at hb3
    have hb1 : b = 1 := by omega
    have hgp : 1 ≤ g := step_pos hg.1 hb1 (win_lt h2 o (y.length + 1)) h5
    have eg : IntKind.u64.wrap (g - 1) = g - 1 := u64_in (by omega) (by omega)
    iterate 19 refine τ ?_
    refine EV_wl (fun mm S => ∃ i : Int, ∃ c : Int, ∃ X2 : List Int, mm = ((y.length : Int) - i).toNat ∧ S = St.of [(0, V.c (.msl 900 o n1 c1)), (1, V.c (.d false (encN y))), (5, vi .i64 y.length), (6, vi .u64 (IntKind.u64.wrap (g - 1))), (7, vi .u64 b), (13, vi .u64 c), (98, vi .i64 y.length), (99, vi .i64 i)] (tabO [(900, .box (List.map (ci .u64) X2))]) 135 ∧ (0 ≤ i ∧ i ≤ y.length) ∧ (0 ≤ c ∧ c ≤ 1) ∧ X2.length = X1.length ∧ okL X2 ∧ X2.take o = X1.take o ∧ X2.drop (o + i.toNat) = X1.drop (o + i.toNat) ∧ (win X2 o i.toNat : Int) + 18446744073709551616 ^ i.toNat * c = (win X1 o i.toNat : Int) + (val (y.take i.toNat) : Int)) _ ⟨_, ⟨0, 0, X1, rfl, rfl, ⟨by omega, by omega, rfl, h2, rfl, rfl, by simp [win_zero, val]⟩⟩, W_keep2 _ _ ⟨rfl, rfl, rfl, rfl, rfl, rfl, rfl, rfl, trivial⟩ ⟨rfl, trivial⟩ rfl⟩ ?_
    rintro mm S ⟨i, c, X2, rfl, rfl, ⟨k0, kc, k1, k2, k3, k4, k5⟩⟩
    iterate 5 refine τ ?_
    refine EV_cond rfl rfl rfl (fun hb4 => ?_) (fun hb4 => ?_)
    ·try simp only [zz] at hb4
     have r1 := okL_rd hky i
     have r2 := okL_at k2 (o + i.toNat * 1)
     iterate 8 refine τ ?_
     refine EV_draw (inX []) (.st 0 (.st 1 (.st 2 (.st 3 (.st 4 (.st 6 (.st 7 (.st 8 (.st 9 (.st 10 (.one 5 (.one 11 (.st 12 (.st 13 (.st 14 (.st 15 (.one 16 (.st 17 .done)))))))))))))))))) Tryz.mixed (by kernel_rfl) ?_
     refine EVq_t rfl rfl (T_move rfl) ?_
     refine EVq_t rfl rfl (T_move rfl) ?_
     refine EVq_t rfl rfl (T_move rfl) ?_
     refine EVq_t rfl rfl (T_move rfl) ?_
     refine EVq_t rfl rfl (T_indexAddrM (uOk rfl) (zOk rfl) rfl rfl (by omega) (by omega)) ?_
     refine EVq_t rfl rfl (T_move rfl) ?_
     refine EVq_t rfl rfl (T_move rfl) ?_
     refine EVq_t rfl rfl (T_ixL (uOk rfl) (zOk rfl) rfl rfl (by omega) (by omega) rfl) ?_
     refine EVq_t rfl rfl (T_load (gOk rfl) rfl) ?_
     refine EVq_t rfl rfl (T_move rfl) ?_
     refine EVq_e rfl rfl ((T_loadL (gOk rfl) rfl rfl (by omega) rfl rfl).now) ?_
     refine EVq_e rfl rfl ((T_add64 Tryz.add64 rfl rfl rfl rfl (by omega) (by omega) (by omega)).does) ?_
     refine EVq_t rfl rfl (T_move rfl) ?_
     refine EVq_t rfl rfl (T_extract rfl rfl) ?_
     refine EVq_t rfl rfl (T_extract rfl rfl) ?_
     refine EVq_t rfl rfl (T_indexAddrM (uOk rfl) (zOk rfl) rfl rfl (by omega) (by omega)) ?_
     refine EVq_e rfl rfl (D_storeL rfl (Free_in rfl) rfl rfl (zOk rfl) (by omega)) ?_
     refine EVq_t rfl rfl (T_assign rfl) ?_
     refine EVq_done ?_
     iterate 4 refine τ ?_
     refine ⟨_, ?_, ω ⟨_, ⟨_, _, _, rfl, rfl, ?_⟩, W_keep2 _ _ ⟨rfl, rfl, rfl, rfl, rfl, rfl, rfl, rfl, trivial⟩ ⟨rfl, trivial⟩ rfl⟩⟩
     ·omega
     ·have e2 : (i + 1).toNat = i.toNat + 1 := by omega
      have ei : (i.toNat : Int) = i := by omega
      simp only [Nat.mul_one]
      rw [e2]
      refine ⟨by omega, ?_⟩
      exact ad_next h2 k2 hky k1 (by omega) (by omega) kc.1 kc.2 k3 k4 k5 _ _ _ _ rfl (by rw [ei]) rfl rfl
    ·try simp only [zz] at hb4
     have e9 : i.toNat = y.length := by omega
     rw [e9] at k4 k5
     have e0 : ((y.length : Int)).toNat = y.length := by omega
     have r2 := okL_at k2 (o + (y.length : Int).toNat * 1)
     have hA := ad_next h2 k2 hky k1 (by omega) (Nat.le_refl _) kc.1 kc.2 k3 k4 (by rw [k5]) _ _ _ _ rfl (show (0 : Int) = rd y (y.length : Int) from (rd_ge (Nat.le_refl _)).symm) rfl rfl
     rw [List.take_of_length_le (Nat.le_succ y.length)] at hA
     iterate 8 refine τ ?_
     refine EVo_t rfl (T_loadL (gOk rfl) rfl rfl (by omega) rfl rfl) ?_
     refine τ ?_
     refine EVo_e rfl ((T_add64 Tryz.add64 rfl rfl rfl rfl (by omega) (by omega) (by omega)).does) ?_
     iterate 4 refine τ ?_
     refine EVo_e rfl (D_storeL rfl Free_no rfl rfl (zOk rfl) (by omega)) ?_
     iterate 3 refine τ ?_
     simp only [Nat.mul_one, e0]
     have eb : IntKind.u64.wrap (b - (X2.getD (o + y.length) default + 0 + c) / 18446744073709551616) = b - (X2.getD (o + y.length) default + 0 + c) / 18446744073709551616 := u64_in (by omega) (by omega)
     iterate 5 refine τ ?_
     refine ⟨_, ?_, ω ⟨_, ⟨_, _, _, rfl, rfl, ?_⟩, W_keep2 _ _ ⟨rfl, rfl, rfl, rfl, rfl, trivial⟩ ⟨rfl, trivial⟩ rfl⟩⟩
     ·rw [eg]; omega
     ·rw [eg, eb]
      refine ⟨by omega, ?_, by omega, hA.2.1.trans h1, hA.2.2.1, hA.2.2.2.1.trans h3, hA.2.2.2.2.1.trans h4, back_next (Int.pow_pos (by decide)) h5 hA.2.2.2.2.2⟩
      have e8 : (g - 1).toNat + 1 = g.toNat := by omega
      rw [e8]
      exact step_neg hg.1 hb1 (win_lt h2 o (y.length + 1)) h5
   ·try simp only [zz] at hb3
    have hb0 : b = 0 := by omega
    subst hb0
    iterate 7 refine τ ?_
    have hend := step_fin hg.1 h5 hgV
    have hX1 := setWin_eq h1 h2 hw h3 h4 hend.2
    refine ⟨⟨_, ⟨rfl, rfl⟩, .inl (congrArg (vi .u64) hend.1)⟩, ⟨(congrArg (fun l => some (O.box (List.map (ci .u64) l))) hX1), trivial⟩⟩

end Go.Proofs.YthaiegnohkiegaaGreat.Ab
/-
 Contracts: division, the greatest common divisor.
-/
namespace Go.Proofs.YthaiegnohkiegaaGreat.Ab
set_option linter.unusedVariables false
set_option linter.unusedSimpArgs false
set_option maxRecDepth 20000
set_option maxHeartbeats 4000000
attribute [local irreducible] Tells Does EVo EV EVq EVr TellsC


theorem nat_stepN (X : List Int) (Y o n1 c1 : Nat) (hn : n1 = (limbs Y).length + 1) (hl : X.length ≤ 17592186044416) (hn1 : 1 ≤ (limbs Y).length) (hw : o + ((limbs Y).length + 1) ≤ X.length) (hk : okL X) (hW : win X o ((limbs Y).length + 1) < 18446744073709551616 * Y) :
  FnS Tryz.prog 187 [.c (.msl 900 o n1 c1), .c (.d false (encN (limbs Y)))] [(900, X.map (ci .u64))] (vi .u64 ((win X o ((limbs Y).length + 1) / Y : Nat) : Int)) [(900, (setWin X o ((limbs Y).length + 1) (win X o ((limbs Y).length + 1) % Y)).map (ci .u64))] := by
 have := nat_step X (limbs Y) o n1 c1 hn hl hn1 hw hk (okL_limbs Y) (by rw [val_limbs]; exact hW)
 rw [val_limbs] at this
 exact this

theorem nat_div (A B : Nat) (hB : B ≠ 0) (hA : (limbs A).length ≤ 8796093022208) (hBl : (limbs B).length ≤ 8796093022208) : Fn Tryz.prog 161 [.d (encN (limbs A)), .d (encN (limbs B))] false (.tup [.d (encN (limbs (A / B))), .d (encN (limbs (A % B)))]) := by
 have hBp := (limbs_len_pos B).2 hB
 refine Fn_of_EV Tryz.func161 rfl (by kernel_rfl) rfl rfl (fun E hE => ?_)
 iterate 10 refine τ ?_
 refine EVo_e rfl (D_call false (nat_cmp0 _ _ (by omega) (by omega)) rfl (φd rfl (φd rfl φn))) ?_
 iterate 2 refine τ ?_
 refine EV_cond rfl rfl rfl (fun hb1 => ?_) (fun hb1 => ?_)
 ·try simp only [zz] at hb1
  have hlt := (cmpN_neg A B).1 hb1
  iterate 3 refine τ ?_
  refine EVo_e rfl (D_call false ((nat_cloneM _ (by omega)).toFn.loose) rfl (φd rfl φn)) ?_
  iterate 4 refine τ ?_
  refine ⟨_, _, ⟨rfl, rfl⟩, ⟨rfl, rfl⟩, fit_eq rfl nofun ?_, fit_eq rfl nofun ?_⟩
  ·rw [Nat.div_eq_of_lt hlt]; rfl
  ·rw [Nat.mod_eq_of_lt hlt]
 ·try simp only [zz] at hb1
  have hge : B ≤ A := by have := mt (cmpN_neg A B).2 (by omega); omega
  iterate 8 refine τ ?_
  refine EV_cond rfl rfl rfl (fun hb2 => ?_) (fun hb2 => ?_)
  ·try simp only [zz] at hb2
   have hone := one_limb hb2
   iterate 6 refine τ ?_
   refine EVo_e rfl (D_call false (nat_divWord _ _ (by omega) (okL_limbs _) (by omega) (by omega)) rfl (φd rfl (φd rfl φn))) ?_
   iterate 10 refine τ ?_
   have hm := Nat.mod_lt (val (limbs A)) (show 0 < (rd (limbs B) 0).toNat by omega)
   refine EVo_e rfl (D_call false (nat_from _ (by omega) (by omega)) rfl (φd rfl φn)) ?_
   iterate 4 refine τ ?_
   refine ⟨_, _, ⟨rfl, rfl⟩, ⟨rfl, rfl⟩, fit_eq rfl nofun ?_, fit_eq rfl nofun ?_⟩
   ·rw [hone.2.1, val_limbs, Int.toNat_natCast]
   ·rw [Int.toNat_natCast, hone.2.1, val_limbs, Int.toNat_natCast]
  ·try simp only [zz] at hb2
   iterate 9 refine τ ?_
   have ht := top_limb hB
   have hz := lz_bounds ht.1 ht.2
   refine EVo_e rfl (D_call false (bits_LeadingZeros64 _ (by omega) (by omega)) rfl (φd rfl φn)) ?_
   iterate 3 refine τ ?_
   refine EV_cut (fun S => ∃ s : Int, S = St.of [(0, V.c (.d false (encN (limbs A)))), (1, V.c (.d false (encN (limbs B)))), (8, vi .i64 s)] (tabO []) 97 ∧ 0 ≤ s ∧ s ≤ 63) (ω ⟨_, ⟨_, rfl, ?_⟩, W_keep2 _ _ ⟨rfl, rfl, rfl, trivial⟩ trivial rfl⟩) ?_
   ·exact ⟨hz.1, hz.2.1⟩
   rintro S ⟨s, rfl, ⟨hs0, hs1⟩⟩
   have hLA := limbs_shl_len A s.toNat (by omega)
   have hLB := limbs_shl_len B s.toNat (by omega)
   have hpp : 0 < 2 ^ s.toNat := Nat.pow_pos (by decide)
   have hLm := limbs_mono (show A ≤ A * 2 ^ s.toNat from Nat.le_mul_of_pos_right _ hpp)
   have hYA : (limbs (B * 2 ^ s.toNat)).length ≤ (limbs (A * 2 ^ s.toNat)).length := limbs_mono (Nat.mul_le_mul_right _ hge)
   have hY0 : B * 2 ^ s.toNat ≠ 0 := Nat.mul_ne_zero hB (by omega)
   have hYp := (limbs_len_pos _).2 hY0
   have hYpos := Nat.pos_of_ne_zero hY0
   iterate 3 refine τ ?_
   refine EVo_e rfl (D_call false (nat_leftN _ _ (by omega) (by omega) (by omega)) rfl (φd rfl (φd rfl φn))) ?_
   iterate 6 refine τ ?_
   refine EVo_e rfl (D_call false (nat_leftNX _ _ (by omega) (by omega) (by omega)) rfl (φd rfl (φd rfl φn))) ?_
   refine EVo_e rfl (D_buildSlice (uOk rfl) bz58 rfl rfl rfl (by simp)) ?_
   refine EVo_e rfl (D_appendX 1 (hE 1 rfl) Free_no (uOk rfl) ap58 rfl rfl (by omega) (by omega)) ?_
   iterate 4 refine τ ?_
   refine EV_weak (W_keep2 [(0, V.c (.d false (encN (limbs A)))), (8, vi .i64 s), (9, V.c (.d false (encN (limbs (B * 2 ^ s.toNat))))), (10, V.c (.msl 1 0 ((limbs (A * 2 ^ s.toNat)).length + 1) ((limbs (A * 2 ^ s.toNat)).length + 1)))] [(1, .box (List.map (ci .u64) (limbs (A * 2 ^ s.toNat) ++ [0])))] ⟨rfl, rfl, rfl, rfl, trivial⟩ ⟨rfl, trivial⟩ rfl) ?_
   refine EV_loop (fun mm S => mm = 0 ∧ S = St.of [(0, V.c (.d false (encN (limbs A)))), (8, vi .i64 s), (9, V.c (.d false (encN (limbs (B * 2 ^ s.toNat))))), (10, V.c (.msl 1 0 ((limbs (A * 2 ^ s.toNat)).length + 1) ((limbs (A * 2 ^ s.toNat)).length + 1)))] (tabO [(1, .box (List.map (ci .u64) (limbs (A * 2 ^ s.toNat) ++ [0])))]) 97 ∧ True) _ ⟨rfl, rfl, trivial⟩ ?_
   rintro mm S ⟨rfl, rfl, _⟩
   iterate 9 refine τ ?_
   refine EV_cond rfl rfl rfl (fun hb3 => ?_) (fun hb3 => ?_)
   ·try simp only [zz] at hb3
    exfalso; omega
   ·try simp only [zz] at hb3
    iterate 8 refine τ ?_
    refine EVo_e rfl (D_makeL 2 (hE 2 rfl) Free_no (uOk rfl) ap58 rfl (by omega) (by omega) (by omega)) ?_
    iterate 11 refine τ ?_
    have eQ : ∀ k : Nat, (((k : Int) - 1) + 1).toNat = k := fun k => by omega
    have hx0 : okL (limbs (A * 2 ^ s.toNat) ++ [0]) := okL_append.2 ⟨okL_limbs _, by intro y hy; simp at hy; subst hy; omega⟩
    refine EV_wl (fun mm S => ∃ Q : Nat, ∃ i : Int, ∃ X : List Int, ∃ q : List Int, mm = (i + 1).toNat ∧ S = St.of [(4, V.c (.msl 2 0 Q Q)), (8, vi .i64 s), (9, V.c (.d false (encN (limbs (B * 2 ^ s.toNat))))), (10, V.c (.msl 1 0 ((limbs (A * 2 ^ s.toNat)).length + 1) ((limbs (A * 2 ^ s.toNat)).length + 1))), (11, vi .i64 i)] (tabO [(1, .box (List.map (ci .u64) X)), (2, .box (List.map (ci .u64) q))]) 97 ∧ Q + (limbs (B * 2 ^ s.toNat)).length = (limbs (A * 2 ^ s.toNat)).length + 1 ∧ (-1 ≤ i ∧ i < Q) ∧ X.length = (limbs (A * 2 ^ s.toNat)).length + 1 ∧ q.length = Q ∧ okL X ∧ okL q ∧ X.take (i + 1).toNat = (limbs (A * 2 ^ s.toNat) ++ [0]).take (i + 1).toNat ∧ val ((limbs (A * 2 ^ s.toNat) ++ [0]).drop (i + 1).toNat) = (B * 2 ^ s.toNat) * val (q.drop (i + 1).toNat) + val (X.drop (i + 1).toNat) ∧ val (X.drop (i + 1).toNat) < (B * 2 ^ s.toNat)) _ ⟨_, ⟨_, _, _, _, rfl, rfl, ⟨by omega, by omega, by simp, by simp, hx0, okL_rep _, rfl, by rw [eQ]; exact (long_start hY0 (by omega)).1, by rw [eQ]; exact (long_start hY0 (by omega)).2⟩⟩, W_keep2 _ _ ⟨rfl, rfl, rfl, rfl, rfl, trivial⟩ ⟨(congrArg (fun l => some (O.box l)) (killL_map (ci .u64) 2 (ci_kill 2 .u64) _)), rfl, trivial⟩ rfl⟩ ?_
    rintro mm S ⟨Q, i, X, q, rfl, rfl, ⟨k1, k2, k3, k4, k5, k6, k7, k8, k9⟩⟩
    iterate 6 refine τ ?_
    refine EV_cond rfl rfl rfl (fun hb4 => ?_) (fun hb4 => ?_)
    ·try simp only [zz] at hb4
     have e2 : (i + 1).toNat = i.toNat + 1 := by omega
     have e0 : 0 + i.toNat * 1 = i.toNat := by omega
     rw [e2] at k7 k8 k9
     have hR := long_next (m := (limbs (B * 2 ^ s.toNat)).length) k5 hYpos (limbs_lt _) (by omega) (by simp; omega) (by omega) k7 k8 k9
     iterate 18 refine τ ?_
     refine EVo_t rfl (T_sliceM (uOk rfl) (zOk rfl) rfl rfl rfl (.inr ⟨rfl, rfl, rfl⟩) (by omega) (by omega) (by omega) (by omega) (by omega) (by omega)) ?_
     refine τ ?_
     refine EVo_e rfl (D_callS1 1 Free_no (nat_stepN _ _ _ _ _ (by omega) (by omega) (by omega) (by omega) (by assumption) (by rw [e0]; exact hR.1)) rfl rfl rfl (by intro e; subst e; simp at k3) (by intro e; have := congrArg List.length e; rw [e0, hR.2.1, k3] at this; simp at this)) ?_
     refine τ ?_
     refine EVo_e rfl (D_storeL rfl Free_no rfl rfl (zOk rfl) (by omega)) ?_
     iterate 6 refine τ ?_
     refine ⟨_, ?_, ω ⟨_, ⟨_, _, _, _, rfl, rfl, ?_⟩, W_keep2 _ _ ⟨rfl, rfl, rfl, rfl, rfl, trivial⟩ ⟨rfl, rfl, trivial⟩ rfl⟩⟩
     ·omega
     ·simp only [e0]
      have e1 : (i - 1 + 1).toNat = i.toNat := by omega
      rw [e1]
      exact ⟨k1, by omega, hR.2.1.trans k3, by simpa using k4, hR.2.2.1, okL_set k6 _ hR.2.2.2.2.2.2, hR.2.2.2.1, hR.2.2.2.2.1, hR.2.2.2.2.2.1⟩
    ·try simp only [zz] at hb4
     have e9 : (i + 1).toNat = 0 := by omega
     rw [e9] at k8 k9
     simp only [List.drop_zero] at k8 k9
     rw [val_app0, val_limbs] at k8
     have hend := long_end hpp (by omega) k8 k9
     iterate 2 refine τ ?_
     refine EV_weak (W_freezeL 4 2 _ _ _ (hE 2 rfl) rfl rfl rfl (by omega) (Nat.le_refl _)) ?_
     refine EV_weak (W_freezeL 10 1 _ _ _ (hE 1 rfl) rfl rfl (congrArg (fun l => some (O.box l)) (killL_map (ci .u64) 2 (ci_kill 2 .u64) X)) (by omega) (Nat.le_refl _)) ?_
     refine EV_cut (fun S => S = St.of [(4, V.c (.d true (encN ((q.drop 0).take Q)))), (8, vi .i64 s), (9, V.c (.d false (encN (limbs (B * 2 ^ s.toNat))))), (10, V.c (.d true (encN ((X.drop 0).take ((limbs (A * 2 ^ s.toNat)).length + 1)))))] (tabO []) 97 ∧ True) (ω ⟨_, ⟨rfl, ?_⟩, W_keep2 _ _ ⟨rfl, rfl, rfl, rfl, trivial⟩ trivial rfl⟩) ?_
     ·trivial
     rintro S ⟨rfl, _⟩
     have hz1 := okL_take (okL_drop k6 0) Q
     have hz2 := okL_take (okL_drop k5 0) ((limbs (A * 2 ^ s.toNat)).length + 1)
     refine EV_draw (inX []) (.st 0 (.st 2 (.st 3 (.st 4 (.st 5 (.st 6 (.st 7 (.st 9 (.one 1 (.one 8 (.one 10 (.st 11 (.st 12 .done))))))))))))) Tryz.mixed (by kernel_rfl) ?_
     refine EVq_t rfl rfl (T_move rfl) ?_
     refine EVq_t rfl rfl (T_move rfl) ?_
     refine EVq_t rfl rfl (T_move rfl) ?_
     refine EVq_t rfl rfl (T_lenL (uOk rfl) rfl) ?_
     refine EVq_t rfl rfl (T_move rfl) ?_
     refine EVq_t rfl rfl (T_lenL (uOk rfl) rfl) ?_
     refine EVq_t rfl rfl (T_slL (uOk rfl) (zOk rfl) rfl (fun _ => rfl) rfl rfl (.inr ⟨rfl, rfl, rfl, (by omega), (by simp; omega)⟩) (by omega) (by omega) (by simp; omega)) ?_
     refine EVq_t rfl rfl (T_move rfl) ?_
     refine EVq_e rfl rfl (D_call false (nat_trim _ (by simp; omega) hz1) rfl (φd rfl φn)) ?_
     refine EVq_e rfl rfl (D_call false (nat_trim _ (by simp; omega) (okL_take (okL_drop hz2 _) _)) rfl (φd rfl φn)) ?_
     refine EVq_e rfl rfl (D_call false (nat_right63 _ _ (Nat.le_trans (limbs_val_len (okL_take (okL_drop hz2 _) _)) (by simp; omega)) (okL_limbs _) (by omega) (by omega)) rfl (φd rfl (φd rfl φn))) ?_
     refine EVq_t rfl rfl (T_assign rfl) ?_
     refine EVq_t rfl rfl (T_assign rfl) ?_
     refine EVq_done ?_
     refine τ ?_
     refine ⟨_, _, ⟨rfl, rfl⟩, ⟨rfl, rfl⟩, fit_eq rfl nofun ?_, fit_eq rfl nofun ?_⟩
     ·rw [List.drop_zero, List.take_of_length_le (by omega), hend.1]
     ·rw [val_limbs, ← hend.2]
      simp only [List.drop_zero, Int.toNat_zero, Int.toNat_natCast, Nat.sub_zero]
      rw [List.take_of_length_le (show X.length ≤ (limbs (A * 2 ^ s.toNat)).length + 1 by omega), val_take_lt (Nat.lt_trans k9 (limbs_lt _))]

theorem nat_DivModN (A B : Nat) (hB : B ≠ 0) (hA : (limbs A).length ≤ 8796093022208) (hBl : (limbs B).length ≤ 8796093022208) : Fn Tryz.prog 138 [.d (encN (limbs A)), .d (encN (limbs B))] false (.tup [.d (encN (limbs (A / B))), .d (encN (limbs (A % B))), .d (ii 0)]) := by
 have hBp := (limbs_len_pos B).2 hB
 have hg1 := good_limbs A
 have hg2 := good_limbs B
 refine Fn_of_EV Tryz.func138 rfl (by kernel_rfl) rfl rfl (fun E hE => ?_)
 iterate 11 refine τ ?_
 refine EVo_e rfl (D_call false (nat_good _ (by omega)) rfl (φd rfl φn)) ?_
 iterate 2 refine τ ?_
 refine EVo_case 11 rfl (fun hb1 => ?_) (fun hb1 => ?_)
 ·try simp only [zz] at hb1
  exfalso; simp_all
 ·try simp only [zz] at hb1
  refine τ ?_
  refine EVo_e rfl (D_call false (nat_good _ (by omega)) rfl (φd rfl φn)) ?_
  iterate 4 refine τ ?_
  refine EV_cond rfl rfl rfl (fun hb2 => ?_) (fun hb2 => ?_)
  ·try simp only [zz] at hb2
   exfalso; simp_all
  ·try simp only [zz] at hb2
   iterate 7 refine τ ?_
   refine EV_cond rfl rfl rfl (fun hb3 => ?_) (fun hb3 => ?_)
   ·try simp only [zz] at hb3
    exfalso; omega
   ·try simp only [zz] at hb3
    iterate 5 refine τ ?_
    refine EVo_e rfl (D_call false (nat_div _ _ (by omega) (by omega) (by omega)) rfl (φd rfl (φd rfl φn))) ?_
    iterate 15 refine τ ?_
    refine ⟨_, _, _, ⟨rfl, rfl⟩, ⟨rfl, rfl⟩, ⟨rfl, rfl⟩, fit_eq rfl nofun rfl, fit_eq rfl nofun rfl, fit_eq rfl nofun rfl⟩

theorem nat_Gcd (l m : List Int) (hl : l.length ≤ 8796093022208) (hm : m.length ≤ 8796093022208) (hk : okL l) (hkm : okL m) : Fn Tryz.prog 130 [.d (encN l), .d (encN m)] false (.tup [.d (encN (if goodL l && goodL m then limbs (Nat.gcd (val l) (val m)) else [])), .d (ii (if goodL l && goodL m then 0 else 10))]) := by
 refine Fn_of_EV Tryz.func130 rfl (by kernel_rfl) rfl rfl (fun E hE => ?_)
 iterate 9 refine τ ?_
 refine EVo_e rfl (D_call false (nat_good _ (by omega)) rfl (φd rfl φn)) ?_
 iterate 2 refine τ ?_
 refine EVo_case 11 rfl (fun hb1 => ?_) (fun hb1 => ?_)
 ·try simp only [zz] at hb1
  iterate 5 refine τ ?_
  refine EV_cond rfl rfl rfl (fun _ => ?_) (fun h => by cases h)
  iterate 6 refine τ ?_
  refine ⟨_, _, ⟨rfl, rfl⟩, ⟨rfl, rfl⟩, fit_eq rfl nofun ?_, fit_eq rfl nofun ?_⟩
  ·simp [hb1]
  ·simp [hb1]
 ·try simp only [zz] at hb1
  refine τ ?_
  refine EVo_e rfl (D_call false (nat_good _ (by omega)) rfl (φd rfl φn)) ?_
  iterate 3 refine τ ?_
  refine EV_cond rfl rfl rfl (fun hb2 => ?_) (fun hb2 => ?_)
  ·try simp only [zz] at hb2
   iterate 6 refine τ ?_
   refine ⟨_, _, ⟨rfl, rfl⟩, ⟨rfl, rfl⟩, fit_eq rfl nofun ?_, fit_eq rfl nofun ?_⟩
   ·simp [hb1, hb2]
   ·simp [hb1, hb2]
  ·try simp only [zz] at hb2
   iterate 4 refine τ ?_
   refine EVo_e rfl (D_call false ((nat_cloneM _ (by omega)).toFn.loose) rfl (φd rfl φn)) ?_
   refine τ ?_
   refine EVo_e rfl (D_call false ((nat_cloneM _ (by omega)).toFn.loose) rfl (φd rfl φn)) ?_
   iterate 5 refine τ ?_
   have gl : goodL l = true := by simp_all
   have gm : goodL m = true := by simp_all
   refine EV_wl (fun mm S => ∃ a : Nat, ∃ b : Nat, mm = 0 + b ∧ S = St.of [(0, V.c (.d false (encN (limbs a)))), (1, V.c (.d false (encN (limbs b))))] (tabO []) 32 ∧ Nat.gcd a b = Nat.gcd (val l) (val m) ∧ (limbs a).length ≤ 8796093022208 ∧ (limbs b).length ≤ 8796093022208) _ ⟨_, ⟨val l, val m, rfl, rfl, ⟨rfl, by rw [limbs_val hk gl]; omega, by rw [limbs_val hkm gm]; omega⟩⟩, W_keep2 _ _ ⟨(by show V.c (.d false (encN l)) = _; rw [limbs_val hk gl]), (by show V.c (.d false (encN m)) = _; rw [limbs_val hkm gm]), trivial⟩ trivial rfl⟩ ?_
   rintro mm S ⟨a, b, rfl, rfl, ⟨k1, k2, k3⟩⟩
   iterate 7 refine τ ?_
   refine EV_cond rfl rfl rfl (fun hb3 => ?_) (fun hb3 => ?_)
   ·try simp only [zz] at hb3
    have hb0 : b ≠ 0 := (limbs_len_pos b).1 (by omega)
    iterate 6 refine τ ?_
    refine EVo_e rfl (D_call false (nat_div _ _ (by omega) (by omega) (by omega)) rfl (φd rfl (φd rfl φn))) ?_
    iterate 12 refine τ ?_
    refine ⟨_, ?_, ω ⟨_, ⟨_, _, rfl, rfl, ?_⟩, W_keep2 _ _ ⟨rfl, rfl, trivial⟩ trivial rfl⟩⟩
    ·have := Nat.mod_lt a (Nat.pos_of_ne_zero hb0); omega
    ·exact ⟨by rw [← k1, Nat.gcd_comm a b, Nat.gcd_rec b a, Nat.gcd_comm], by omega, Nat.le_trans (limbs_mono (Nat.le_of_lt (Nat.mod_lt _ (by omega)))) k3⟩
   ·try simp only [zz] at hb3
    have hb0 : b = 0 := by have := mt (limbs_len_pos b).2 (by omega); omega
    subst hb0
    rw [Nat.gcd_zero_right] at k1
    iterate 8 refine τ ?_
    refine ⟨_, _, ⟨rfl, rfl⟩, ⟨rfl, rfl⟩, fit_eq rfl nofun ?_, fit_eq rfl nofun ?_⟩
    ·simp [gl, gm, k1]
    ·simp [gl, gm]

end Go.Proofs.YthaiegnohkiegaaGreat.Ab
/-
 Contracts of the functions of package ratio: forms.
-/
namespace Go.Proofs.YthaiegnohkiegaaGreat.Ab
set_option linter.unusedVariables false
set_option linter.unusedSimpArgs false
set_option maxRecDepth 20000
set_option maxHeartbeats 4000000
attribute [local irreducible] Tells Does EVo EV EVq EVr TellsC


theorem nat_GcdG (l m : List Int) (hl : l.length ≤ 8796093022208) (hm : m.length ≤ 8796093022208) (hk : okL l) (hkm : okL m) (hg : goodL l = true) (hgm : goodL m = true) : Fn Tryz.prog 130 [.d (encN l), .d (encN m)] false (.tup [.d (encN (limbs (Nat.gcd (val l) (val m)))), .d (ii 0)]) := by
 have := nat_Gcd l m hl hm hk hkm
 simpa [hg, hgm] using this
theorem nat_GcdN (a b : Nat) (ha : (limbs a).length ≤ 8796093022208) (hb : (limbs b).length ≤ 8796093022208) : Fn Tryz.prog 130 [.d (encN (limbs a)), .d (encN (limbs b))] false (.tup [.d (encN (limbs (Nat.gcd a b))), .d (ii 0)]) := by
 have := nat_GcdG (limbs a) (limbs b) ha hb (okL_limbs a) (okL_limbs b) (good_limbs a) (good_limbs b)
 rw [val_limbs, val_limbs] at this
 exact this
theorem whole_MulS (a : Int) (s : Bool) (d : Nat) (hs : s = true → d ≠ 0) (hl : (limbs a.natAbs).length + (limbs d).length ≤ 17592186044416) : Fn Tryz.prog 136 [.agg (encZ a), .agg [ib s, encN (limbs d)]] false (.tup [.agg (encZ (a * (if s then -(d : Int) else (d : Int)))), .d (ii 0)]) := by
 have e : [ib s, encN (limbs d)] = encZ (if s then -(d : Int) else (d : Int)) := by
  unfold encZ
  cases s
  ·simp
  ·have := hs rfl
   have h : decide (-(d : Int) < 0) = true := by simp; omega
   simp [h]
   omega
 have := whole_Mul a (if s then -(d : Int) else (d : Int)) (by cases s <;> simpa using hl)
 rw [← e] at this
 exact this
theorem mk_one (n : Int) : mkRat n 1 = (n : Rat) := (Rat.mk_eq_mkRat n 1 (by decide) (Nat.coprime_one_right _)).symm

theorem whole_CheckG (neg : Bool) (l : List Int) (hl : l.length ≤ 17592186044416) : Fn Tryz.prog 102 [.agg [ib neg, encN l]] false (.one (.d (ii (if goodZ neg l then 0 else 20)))) := by
 refine Fn_of_EV Tryz.func102 rfl (by kernel_rfl) rfl rfl (fun E hE => ?_)
 iterate 2 refine τ ?_
 refine EVo_e rfl (D_box 1 (hE 1 rfl) Free_no rfl) ?_
 iterate 6 refine τ ?_
 refine EVo_e rfl (D_call false (whole_good _ _ (by omega)) rfl (φa rfl φn)) ?_
 refine τ ?_
 refine EV_cond rfl rfl rfl (fun hb1 => ?_) (fun hb1 => ?_)
 ·try simp only [zz] at hb1
  iterate 5 refine τ ?_
  refine ⟨_, ⟨rfl, rfl⟩, fit_eq rfl nofun ?_⟩
  ·simp [hb1]
 ·try simp only [zz] at hb1
  iterate 6 refine τ ?_
  refine ⟨_, ⟨rfl, rfl⟩, fit_eq rfl nofun ?_⟩
  ·simp [hb1]

theorem ratio_isOneN (n : Nat) (hl : (limbs n).length ≤ 17592186044416) : Fn Tryz.prog 99 [.d (encN (limbs n))] false (.one (.d (ib (decide (n = 1))))) := by
 refine Fn_of_EV Tryz.func99 rfl (by kernel_rfl) rfl rfl (fun E hE => ?_)
 iterate 7 refine τ ?_
 refine EVo_e rfl (D_call false (nat_smallN _ (by omega)) rfl (φd rfl φn)) ?_
 iterate 10 refine τ ?_
 refine EVo_case 11 rfl (fun hb1 => ?_) (fun hb1 => ?_)
 ·try simp only [zz] at hb1
  iterate 6 refine τ ?_
  refine ⟨_, ⟨rfl, rfl⟩, fit_eq rfl nofun ?_⟩
  ·refine congrArg ib ?_
   rw [if_pos hb1]
   refine decide_eq_decide.2 ?_
   omega
 ·try simp only [zz] at hb1
  iterate 6 refine τ ?_
  refine ⟨_, ⟨rfl, rfl⟩, fit_eq rfl nofun ?_⟩
  ·refine congrArg ib ?_
   symm
   refine decide_eq_false ?_
   omega

theorem ratio_good (neg : Bool) (l m : List Int) (hl : l.length ≤ 8796093022208) (hm : m.length ≤ 8796093022208) (hk : okL l) (hkm : okL m) : Fn Tryz.prog 92 [.agg [ib neg, encN l, encN m]] false (.one (.d (ib (ratB neg l m)))) := by
 refine Fn_of_EV Tryz.func92 rfl (by kernel_rfl) rfl rfl (fun E hE => ?_)
 iterate 2 refine τ ?_
 refine EVo_e rfl (D_box 1 (hE 1 rfl) Free_no rfl) ?_
 iterate 7 refine τ ?_
 refine EVo_e rfl (D_call false (whole_CheckG _ _ (by omega)) rfl (φa rfl φn)) ?_
 iterate 2 refine τ ?_
 refine EVo_case 9 rfl (fun hb1 => ?_) (fun hb1 => ?_)
 ·try simp only [zz] at hb1
  iterate 12 refine τ ?_
  refine EV_cond rfl rfl rfl (fun _ => ?_) (fun h => by cases h)
  iterate 5 refine τ ?_
  unfold ratB
  refine ⟨_, ⟨rfl, rfl⟩, fit_eq rfl nofun ?_⟩
  ·refine congrArg ib ?_
   rcases hz : goodZ neg l <;> rcases hz2 : goodL m <;> by_cases hz3 : 0 < m.length <;> simp_all <;> omega
 ·try simp only [zz] at hb1
  iterate 2 refine τ ?_
  refine EVo_e rfl (D_call false (nat_check _ (by omega)) rfl (φd rfl φn)) ?_
  iterate 3 refine τ ?_
  refine EVo_case 15 rfl (fun hb2 => ?_) (fun hb2 => ?_)
  ·try simp only [zz] at hb2
   iterate 6 refine τ ?_
   refine EV_cond rfl rfl rfl (fun _ => ?_) (fun h => by cases h)
   iterate 5 refine τ ?_
   unfold ratB
   refine ⟨_, ⟨rfl, rfl⟩, fit_eq rfl nofun ?_⟩
   ·refine congrArg ib ?_
    rcases hz : goodZ neg l <;> rcases hz2 : goodL m <;> by_cases hz3 : 0 < m.length <;> simp_all <;> omega
  ·try simp only [zz] at hb2
   iterate 6 refine τ ?_
   refine EV_cond rfl rfl rfl (fun hb3 => ?_) (fun hb3 => ?_)
   ·try simp only [zz] at hb3
    iterate 5 refine τ ?_
    unfold ratB
    refine ⟨_, ⟨rfl, rfl⟩, fit_eq rfl nofun ?_⟩
    ·refine congrArg ib ?_
     rcases hz : goodZ neg l <;> rcases hz2 : goodL m <;> by_cases hz3 : 0 < m.length <;> simp_all <;> omega
   ·try simp only [zz] at hb3
    iterate 8 refine τ ?_
    have hgz : goodZ neg l = true := by simp_all
    have hgl : goodL l = true := by simp_all [goodZ]
    have hgm : goodL m = true := by simp_all
    have hgp : val m ≠ 0 := good_pos hkm hgm (by intro e; subst e; simp_all)
    refine EVo_e rfl (D_call false (nat_GcdG _ _ (by omega) (by omega) (by assumption) (by assumption) hgl hgm) rfl (φd rfl (φd rfl φn))) ?_
    iterate 9 refine τ ?_
    refine EVo_e rfl (D_call false (ratio_isOneN _ (Nat.le_trans (limbs_mono (Nat.gcd_le_right _ (Nat.pos_of_ne_zero hgp))) (by rw [limbs_val hkm hgm]; omega))) rfl (φd rfl φn)) ?_
    iterate 3 refine τ ?_
    unfold ratB
    refine ⟨_, ⟨rfl, rfl⟩, fit_eq rfl nofun ?_⟩
    ·refine congrArg ib ?_
     rcases hz : goodZ neg l <;> rcases hz2 : goodL m <;> by_cases hz3 : 0 < m.length <;> simp_all <;> omega

theorem ratio_Check (neg : Bool) (l m : List Int) (hl : l.length ≤ 8796093022208) (hm : m.length ≤ 8796093022208) (hk : okL l) (hkm : okL m) : Fn Tryz.prog 36 [.agg [ib neg, encN l, encN m]] false (.one (.d (ii (if ratB neg l m then 0 else 30)))) := by
 refine Fn_of_EV Tryz.func36 rfl (by kernel_rfl) rfl rfl (fun E hE => ?_)
 iterate 2 refine τ ?_
 refine EVo_e rfl (D_box 1 (hE 1 rfl) Free_no rfl) ?_
 iterate 6 refine τ ?_
 refine EVo_e rfl (D_call false (ratio_good _ _ _ (by omega) (by omega) (by assumption) (by assumption)) rfl (φa rfl φn)) ?_
 refine τ ?_
 refine EV_cond rfl rfl rfl (fun hb1 => ?_) (fun hb1 => ?_)
 ·try simp only [zz] at hb1
  iterate 5 refine τ ?_
  refine ⟨_, ⟨rfl, rfl⟩, fit_eq rfl nofun ?_⟩
  ·simp [hb1]
 ·try simp only [zz] at hb1
  iterate 6 refine τ ?_
  refine ⟨_, ⟨rfl, rfl⟩, fit_eq rfl nofun ?_⟩
  ·simp [hb1]

theorem whole_SignN (a : Int) (hl : (limbs a.natAbs).length ≤ 8796093022208) : Fn Tryz.prog 95 [.agg (encZ a)] false (.one (.d (ii (if 0 < a then 1 else if a < 0 then -1 else 0)))) := by
 have := whole_Sign (decide (a < 0)) (limbs a.natAbs) (by omega)
 rw [goodZ_enc] at this
 have e : (if (true && decide (0 < (limbs a.natAbs).length)) = true then (if decide (a < 0) = true then (-1 : Int) else 1) else 0) = (if 0 < a then 1 else if a < 0 then -1 else 0) := by
  have hp := limbs_len_pos a.natAbs
  by_cases h0 : a = 0
  ·subst h0; rfl
  ·have : 0 < (limbs a.natAbs).length := hp.2 (by omega)
   simp only [this, decide_true, Bool.and_self, if_true, decide_eq_true_eq]
   split <;> split <;> omega
 rw [e] at this
 exact this
theorem ratio_goodQ (q : Rat) (h : szQ q ≤ 8796093022208) : Fn Tryz.prog 92 [.agg (encQ q)] false (.one (.d (ib true))) := by
 have hz : szQ q = (limbs q.num.natAbs).length + (limbs q.den).length := rfl
 have := ratio_good (decide (q.num < 0)) (limbs q.num.natAbs) (limbs q.den) (by omega) (by omega) (okL_limbs _) (okL_limbs _)
 rw [ratB_enc] at this
 exact this
theorem ratio_CheckQ (q : Rat) (h : szQ q ≤ 8796093022208) : Fn Tryz.prog 36 [.agg (encQ q)] false (.one (.d (ii 0))) := by
 have hz : szQ q = (limbs q.num.natAbs).length + (limbs q.den).length := rfl
 have := ratio_Check (decide (q.num < 0)) (limbs q.num.natAbs) (limbs q.den) (by omega) (by omega) (okL_limbs _) (okL_limbs _)
 rw [ratB_enc] at this
 exact this

end Go.Proofs.YthaiegnohkiegaaGreat.Ab
/-
 Contracts of the functions of package ratio.
-/
namespace Go.Proofs.YthaiegnohkiegaaGreat.Ab
set_option linter.unusedVariables false
set_option linter.unusedSimpArgs false
set_option maxRecDepth 20000
set_option maxHeartbeats 4000000
attribute [local irreducible] Tells Does EVo EV EVq EVr TellsC


theorem ratio_quotient (n : Int) (d : Nat) (hd : d ≠ 0) (hn : (limbs n.natAbs).length ≤ 8796093022208) (hdl : (limbs d).length ≤ 8796093022208) : Fn Tryz.prog 103 [.agg (encZ n), .d (encN (limbs d))] false (.one (.agg (encQ (mkRat n d)))) := by
 have hg : Nat.gcd n.natAbs d ≠ 0 := Nat.ne_of_gt (Nat.gcd_pos_of_pos_right n.natAbs (Nat.pos_of_ne_zero hd))
 have hgl := limbs_mono (Nat.gcd_le_right n.natAbs (Nat.pos_of_ne_zero hd))
 refine Fn_of_EV Tryz.func103 rfl (by kernel_rfl) rfl rfl (fun E hE => ?_)
 iterate 2 refine τ ?_
 refine EVo_e rfl (D_box 1 (hE 1 rfl) Free_no rfl) ?_
 refine EVo_e rfl (D_alloc 2 (hE 2 rfl) Free_no zr40 rfl) ?_
 iterate 6 refine τ ?_
 refine EVo_e rfl (D_call false (nat_GcdN _ _ (by omega) (by omega)) rfl (φd rfl (φd rfl φn))) ?_
 iterate 11 refine τ ?_
 refine EVo_e rfl (D_call false (nat_DivModN _ _ hg (by omega) (by omega)) rfl (φd rfl (φd rfl φn))) ?_
 iterate 12 refine τ ?_
 refine EVo_e rfl (D_call false (nat_DivModN _ _ hg (by omega) (by omega)) rfl (φd rfl (φd rfl φn))) ?_
 iterate 13 refine τ ?_
 refine EVo_t rfl (T_build ly38 rfl rfl) ?_
 refine τ ?_
 refine EVo_t rfl (T_build ly40 rfl rfl) ?_
 iterate 3 refine τ ?_
 refine ⟨_, ⟨rfl, _, _, _, rfl, rfl, rfl, .inl ⟨_, gOk rfl, zOk rfl, Nat.le_of_ble_eq_true rfl, rfl⟩⟩, fit_agg rfl nofun ?_⟩
 ·exact (encQ_mk n hd).symm

theorem ratio_From (n : Int) (hn : (limbs n.natAbs).length ≤ 8796093022208) : Fn Tryz.prog 49 [.agg (encZ n)] false (.one (.agg (encQ (n : Rat)))) := by
 refine Fn_of_EV Tryz.func49 rfl (by kernel_rfl) rfl rfl (fun E hE => ?_)
 iterate 2 refine τ ?_
 refine EVo_e rfl (D_box 1 (hE 1 rfl) Free_no rfl) ?_
 refine EVo_e rfl (D_alloc 2 (hE 2 rfl) Free_no zr40 rfl) ?_
 iterate 5 refine τ ?_
 refine EVo_e rfl (D_call false (whole_Check _ (by omega)) rfl (φa rfl φn)) ?_
 iterate 2 refine τ ?_
 refine EV_cond rfl rfl rfl (fun hb1 => ?_) (fun hb1 => ?_)
 ·try simp only [zz] at hb1
  exfalso; simp at hb1
 ·try simp only [zz] at hb1
  iterate 2 refine τ ?_
  refine EV_draw (inX [1]) (.st 0 (.one 1 (.one 2 (.one 3 .done)))) Tryz.mixed (by kernel_rfl) ?_
  refine EVq_t rfl rfl (T_loadRA (gOk rfl) (zOk rfl) rfl rfl (Nat.le_of_ble_eq_true rfl) rfl rfl) ?_
  refine EVq_e rfl rfl (D_call false (nat_from _ (by omega) (by omega)) rfl (φd rfl φn)) ?_
  refine EVq_e rfl rfl (D_call false (ratio_quotient n 1 (by decide) (by omega) (by decide)) rfl (φa rfl (φd rfl φn))) ?_
  refine EVq_e rfl rfl (D_store rfl (Free_in rfl) rfl rfl (zOk rfl) rfl (Nat.le_of_ble_eq_true rfl) rfl) ?_
  refine EVq_done ?_
  refine τ ?_
  refine ⟨_, ⟨rfl, _, _, _, rfl, rfl, rfl, .inl ⟨_, gOk rfl, zOk rfl, Nat.le_of_ble_eq_true rfl, rfl⟩⟩, fit_agg rfl nofun ?_⟩
  ·exact congrArg encQ (mk_one n)

theorem ratio_copied (a : Int) (hl : (limbs a.natAbs).length ≤ 8796093022208) : Fn Tryz.prog 100 [.agg (encZ a)] false (.one (.agg (encZ a))) := by
 refine Fn_of_EV Tryz.func100 rfl (by kernel_rfl) rfl rfl (fun E hE => ?_)
 iterate 2 refine τ ?_
 refine EVo_e rfl (D_box 1 (hE 1 rfl) Free_no rfl) ?_
 refine EVo_e rfl (D_alloc 2 (hE 2 rfl) Free_no zr38 rfl) ?_
 iterate 2 refine τ ?_
 refine EV_draw (inX [1]) (.st 0 (.st 1 (.st 2 (.st 3 (.one 4 (.st 5 (.one 6 .done))))))) Tryz.mixed (by kernel_rfl) ?_
 refine EVq_t rfl rfl (T_faR (fOk rfl) (zOk rfl) rfl) ?_
 refine EVq_t rfl rfl (T_loadR (gOk rfl) rfl rfl rfl rfl) ?_
 refine EVq_t rfl rfl (T_faR (fOk rfl) (zOk rfl) rfl) ?_
 refine EVq_t rfl rfl (T_loadR (gOk rfl) rfl rfl rfl rfl) ?_
 refine EVq_e rfl rfl (D_call false ((nat_cloneM _ (by omega)).toFn.loose) rfl (φd rfl φn)) ?_
 refine EVq_t rfl rfl (T_build ly38 rfl rfl) ?_
 refine EVq_e rfl rfl (D_store rfl (Free_in rfl) rfl rfl (zOk rfl) rfl (Nat.le_of_ble_eq_true rfl) rfl) ?_
 refine EVq_done ?_
 refine τ ?_
 refine ⟨_, ⟨rfl, _, _, _, rfl, rfl, rfl, .inl ⟨_, gOk rfl, zOk rfl, Nat.le_of_ble_eq_true rfl, rfl⟩⟩, fit_agg rfl nofun rfl⟩

theorem ratio_Whole (q : Rat) (hq : szQ q ≤ 8796093022208) : Fn Tryz.prog 47 [.agg (encQ q)] false (.tup [.agg (if q.den = 1 then encZ q.num else encZ 0), .d (ib (decide (q.den = 1)))]) := by
 have hzq : szQ q = (limbs q.num.natAbs).length + (limbs q.den).length := rfl
 refine Fn_of_EV Tryz.func47 rfl (by kernel_rfl) rfl rfl (fun E hE => ?_)
 iterate 2 refine τ ?_
 refine EVo_e rfl (D_box 1 (hE 1 rfl) Free_no rfl) ?_
 refine EVo_e rfl (D_alloc 2 (hE 2 rfl) Free_no zr38 rfl) ?_
 iterate 6 refine τ ?_
 refine EVo_e rfl (D_call false (ratio_goodQ _ (by omega)) rfl (φa rfl φn)) ?_
 iterate 4 refine τ ?_
 refine EVo_e rfl (D_call false (ratio_isOneN _ (by omega)) rfl (φd rfl φn)) ?_
 iterate 3 refine τ ?_
 refine EV_cond rfl rfl rfl (fun hb1 => ?_) (fun hb1 => ?_)
 ·try simp only [zz] at hb1
  iterate 2 refine τ ?_
  refine EVo_t rfl (T_build ly38 rfl rfl) ?_
  iterate 4 refine τ ?_
  refine ⟨_, _, ⟨rfl, _, _, _, rfl, rfl, rfl, .inl ⟨_, gOk rfl, zOk rfl, Nat.le_of_ble_eq_true rfl, rfl⟩⟩, ⟨rfl, rfl⟩, fit_agg rfl nofun ?_, fit_eq rfl nofun ?_⟩
  ·rw [if_neg hb1]; rfl
  ·exact congrArg ib (decide_eq_false hb1).symm
 ·try simp only [zz] at hb1
  iterate 5 refine τ ?_
  refine EVo_e rfl (D_call false (ratio_copied _ (by omega)) rfl (φa rfl φn)) ?_
  iterate 4 refine τ ?_
  refine ⟨_, _, ⟨rfl, _, _, _, rfl, rfl, rfl, .inl ⟨_, gOk rfl, zOk rfl, Nat.le_of_ble_eq_true rfl, rfl⟩⟩, ⟨rfl, rfl⟩, fit_agg rfl nofun ?_, fit_eq rfl nofun ?_⟩
  ·rw [if_pos hb1]; rfl
  ·exact congrArg ib (decide_eq_true hb1).symm

theorem ratio_over (a : Int) (d : Nat) (hl : (limbs a.natAbs).length + (limbs d).length ≤ 8796093022208) : Fn Tryz.prog 135 [.agg (encZ a), .d (encN (limbs d))] false (.one (.agg (encZ (a * (d : Int))))) := by
 refine Fn_of_EV Tryz.func135 rfl (by kernel_rfl) rfl rfl (fun E hE => ?_)
 iterate 2 refine τ ?_
 refine EVo_e rfl (D_box 1 (hE 1 rfl) Free_no rfl) ?_
 refine EVo_e rfl (D_alloc 2 (hE 2 rfl) Free_no zr38 rfl) ?_
 iterate 5 refine τ ?_
 refine EVo_t rfl (T_build ly38 rfl rfl) ?_
 refine EVo_e rfl (D_call false (whole_MulS a false d nofun (by omega)) rfl (φa rfl (φa rfl φn))) ?_
 iterate 3 refine τ ?_
 refine EVo_e rfl (D_alloc 3 (hE 3 rfl) Free_no zr38 rfl) ?_
 iterate 9 refine τ ?_
 refine ⟨_, ⟨rfl, _, _, _, rfl, rfl, rfl, .inl ⟨_, gOk rfl, zOk rfl, Nat.le_of_ble_eq_true rfl, rfl⟩⟩, fit_agg rfl nofun rfl⟩

theorem ratio_reckon_add (p q : Rat) (h : szQ p + szQ q ≤ 4398046511104) : Fn Tryz.prog 101 [.d (ii 1), .agg (encQ p), .agg (encQ q)] false (.tup [.agg (encQ (p + q)), .d (ii 0)]) := by
 have hzp : szQ p = (limbs p.num.natAbs).length + (limbs p.den).length := rfl
 have hzq : szQ q = (limbs q.num.natAbs).length + (limbs q.den).length := rfl
 have hpd := p.den_nz
 have hqd := q.den_nz
 have hmad := limbs_mul_len p.num.natAbs q.den
 have hmcb := limbs_mul_len q.num.natAbs p.den
 have hmbd := limbs_mul_len p.den q.den
 have hsa : (limbs (p.num * q.den).natAbs).length ≤ szQ p + szQ q := by rw [Int.natAbs_mul, Int.natAbs_natCast]; omega
 have hsb : (limbs (q.num * p.den).natAbs).length ≤ szQ p + szQ q := by rw [Int.natAbs_mul, Int.natAbs_natCast]; omega
 have hss : (limbs (p.num * q.den + q.num * p.den).natAbs).length ≤ szQ p + szQ q + 1 := Nat.le_trans (limbs_mono (Int.natAbs_add_le _ _)) (Nat.le_trans (limbs_add_len _ _) (by omega))
 refine Fn_of_EV Tryz.func101 rfl (by kernel_rfl) rfl rfl (fun E hE => ?_)
 iterate 2 refine τ ?_
 refine EVo_e rfl (D_box 1 (hE 1 rfl) Free_no rfl) ?_
 refine EVo_e rfl (D_box 2 (hE 2 rfl) Free_no rfl) ?_
 refine EVo_e rfl (D_alloc 3 (hE 3 rfl) Free_no zr40 rfl) ?_
 iterate 6 refine τ ?_
 refine EVo_e rfl (D_call false (ratio_goodQ _ (by omega)) rfl (φa rfl φn)) ?_
 iterate 3 refine τ ?_
 refine EVo_e rfl (D_call false (ratio_goodQ _ (by omega)) rfl (φa rfl φn)) ?_
 iterate 3 refine τ ?_
 refine EV_cond rfl rfl rfl (fun h => by cases h) (fun _ => ?_)
 iterate 3 refine τ ?_
 refine EVo_e rfl (D_alloc 4 (hE 4 rfl) Free_no zr38 rfl) ?_
 iterate 22 refine τ ?_
 refine EV_cond rfl rfl rfl (fun hb1 => ?_) (fun hb1 => ?_)
 ·try simp only [zz] at hb1
  exfalso; omega
 ·try simp only [zz] at hb1
  iterate 7 refine τ ?_
  refine EV_cond rfl rfl rfl (fun hb2 => ?_) (fun hb2 => ?_)
  ·try simp only [zz] at hb2
   iterate 2 refine τ ?_
   refine EV_draw (inX [1, 2]) (.st 0 (.st 1 (.st 2 (.st 3 (.st 5 (.st 6 (.st 7 (.st 8 (.one 4 (.one 9 (.one 10 (.st 11 (.st 12 (.st 13 (.one 14 .done))))))))))))))) Tryz.mixed (by kernel_rfl) ?_
   refine EVq_t rfl rfl (T_faR (fOk rfl) (zOk rfl) rfl) ?_
   refine EVq_t rfl rfl (T_loadRA (gOk rfl) (zOk rfl) rfl rfl (Nat.le_of_ble_eq_true rfl) rfl rfl) ?_
   refine EVq_t rfl rfl (T_faR (fOk rfl) (zOk rfl) rfl) ?_
   refine EVq_t rfl rfl (T_loadR (gOk rfl) rfl rfl rfl rfl) ?_
   refine EVq_t rfl rfl (T_faR (fOk rfl) (zOk rfl) rfl) ?_
   refine EVq_t rfl rfl (T_loadRA (gOk rfl) (zOk rfl) rfl rfl (Nat.le_of_ble_eq_true rfl) rfl rfl) ?_
   refine EVq_t rfl rfl (T_faR (fOk rfl) (zOk rfl) rfl) ?_
   refine EVq_t rfl rfl (T_loadR (gOk rfl) rfl rfl rfl rfl) ?_
   refine EVq_e rfl rfl (D_call false (ratio_over p.num q.den (by omega)) rfl (φa rfl (φd rfl φn))) ?_
   refine EVq_e rfl rfl (D_call false (ratio_over q.num p.den (by omega)) rfl (φa rfl (φd rfl φn))) ?_
   refine EVq_e rfl rfl (D_call false (whole_Add _ _ (by omega) (by omega)) rfl (φa rfl (φa rfl φn))) ?_
   refine EVq_t rfl rfl (T_move rfl) ?_
   refine EVq_t rfl rfl (T_extract rfl rfl) ?_
   refine EVq_t rfl rfl (T_extract rfl rfl) ?_
   refine EVq_e rfl rfl (D_store rfl (Free_in rfl) rfl rfl (zOk rfl) rfl (Nat.le_of_ble_eq_true rfl) rfl) ?_
   refine EVq_done ?_
   iterate 7 refine τ ?_
   refine EVo_e rfl (D_call false (nat_MulN p.den q.den (by omega) (by omega)) rfl (φd rfl (φd rfl φn))) ?_
   iterate 10 refine τ ?_
   refine EVo_e rfl (D_call false (ratio_quotient (p.num * q.den + q.num * p.den) _ (Nat.mul_ne_zero hpd hqd) (by omega) (by omega)) rfl (φa rfl (φd rfl φn))) ?_
   iterate 4 refine τ ?_
   refine ⟨_, _, ⟨rfl, _, _, _, rfl, rfl, rfl, .inl ⟨_, gOk rfl, zOk rfl, Nat.le_of_ble_eq_true rfl, rfl⟩⟩, ⟨rfl, rfl⟩, fit_agg rfl nofun ?_, fit_eq rfl nofun rfl⟩
   ·exact congrArg encQ (Rat.add_def' p q).symm
  ·try simp only [zz] at hb2
   simp at hb2

theorem ratio_reckon_mul (p q : Rat) (h : szQ p + szQ q ≤ 4398046511104) : Fn Tryz.prog 101 [.d (ii 3), .agg (encQ p), .agg (encQ q)] false (.tup [.agg (encQ (p * q)), .d (ii 0)]) := by
 have hzp : szQ p = (limbs p.num.natAbs).length + (limbs p.den).length := rfl
 have hzq : szQ q = (limbs q.num.natAbs).length + (limbs q.den).length := rfl
 have hpd := p.den_nz
 have hqd := q.den_nz
 have hmac := limbs_mul_len p.num.natAbs q.num.natAbs
 have hmbd := limbs_mul_len p.den q.den
 have hss : (limbs (p.num * q.num).natAbs).length ≤ szQ p + szQ q := by rw [Int.natAbs_mul]; omega
 refine Fn_of_EV Tryz.func101 rfl (by kernel_rfl) rfl rfl (fun E hE => ?_)
 iterate 2 refine τ ?_
 refine EVo_e rfl (D_box 1 (hE 1 rfl) Free_no rfl) ?_
 refine EVo_e rfl (D_box 2 (hE 2 rfl) Free_no rfl) ?_
 refine EVo_e rfl (D_alloc 3 (hE 3 rfl) Free_no zr40 rfl) ?_
 iterate 6 refine τ ?_
 refine EVo_e rfl (D_call false (ratio_goodQ _ (by omega)) rfl (φa rfl φn)) ?_
 iterate 3 refine τ ?_
 refine EVo_e rfl (D_call false (ratio_goodQ _ (by omega)) rfl (φa rfl φn)) ?_
 iterate 3 refine τ ?_
 refine EV_cond rfl rfl rfl (fun h => by cases h) (fun _ => ?_)
 iterate 3 refine τ ?_
 refine EVo_e rfl (D_alloc 4 (hE 4 rfl) Free_no zr38 rfl) ?_
 iterate 22 refine τ ?_
 refine EV_cond rfl rfl rfl (fun hb1 => ?_) (fun hb1 => ?_)
 ·try simp only [zz] at hb1
  exfalso; omega
 ·try simp only [zz] at hb1
  iterate 7 refine τ ?_
  refine EV_cond rfl rfl rfl (fun hb2 => ?_) (fun hb2 => ?_)
  ·try simp only [zz] at hb2
   exfalso; omega
  ·try simp only [zz] at hb2
   iterate 6 refine τ ?_
   refine EV_cond rfl rfl rfl (fun hb3 => ?_) (fun hb3 => ?_)
   ·try simp only [zz] at hb3
    exfalso; omega
   ·try simp only [zz] at hb3
    iterate 8 refine τ ?_
    refine EVo_e rfl (D_call false (whole_Mul p.num q.num (by omega)) rfl (φa rfl (φa rfl φn))) ?_
    iterate 12 refine τ ?_
    refine EVo_e rfl (D_call false (nat_MulN p.den q.den (by omega) (by omega)) rfl (φd rfl (φd rfl φn))) ?_
    iterate 10 refine τ ?_
    refine EVo_e rfl (D_call false (ratio_quotient (p.num * q.num) _ (Nat.mul_ne_zero hpd hqd) (by omega) (by omega)) rfl (φa rfl (φd rfl φn))) ?_
    iterate 4 refine τ ?_
    refine ⟨_, _, ⟨rfl, _, _, _, rfl, rfl, rfl, .inl ⟨_, gOk rfl, zOk rfl, Nat.le_of_ble_eq_true rfl, rfl⟩⟩, ⟨rfl, rfl⟩, fit_agg rfl nofun ?_, fit_eq rfl nofun rfl⟩
    ·exact congrArg encQ (Rat.mul_def' p q).symm

theorem ratio_reckon_div (p q : Rat) (h : szQ p + szQ q ≤ 4398046511104) (hq0 : q ≠ 0) : Fn Tryz.prog 101 [.d (ii 2), .agg (encQ p), .agg (encQ q)] false (.tup [.agg (encQ (p / q)), .d (ii 0)]) := by
 have hzp : szQ p = (limbs p.num.natAbs).length + (limbs p.den).length := rfl
 have hzq : szQ q = (limbs q.num.natAbs).length + (limbs q.den).length := rfl
 have hpd := p.den_nz
 have hqd := q.den_nz
 have hmad := limbs_mul_len p.num.natAbs q.den
 have hmbc := limbs_mul_len p.den q.num.natAbs
 have hqn : q.num.natAbs ≠ 0 := (inv_parts hq0).2.2
 have hqp := (limbs_len_pos q.num.natAbs).2 hqn
 have hss : (limbs (p.num * (if decide (q.num < 0) then -(q.den : Int) else (q.den : Int))).natAbs).length ≤ szQ p + szQ q := by rw [Int.natAbs_mul]; split <;> simp only [Int.natAbs_neg, Int.natAbs_natCast] <;> omega
 refine Fn_of_EV Tryz.func101 rfl (by kernel_rfl) rfl rfl (fun E hE => ?_)
 iterate 2 refine τ ?_
 refine EVo_e rfl (D_box 1 (hE 1 rfl) Free_no rfl) ?_
 refine EVo_e rfl (D_box 2 (hE 2 rfl) Free_no rfl) ?_
 refine EVo_e rfl (D_alloc 3 (hE 3 rfl) Free_no zr40 rfl) ?_
 iterate 6 refine τ ?_
 refine EVo_e rfl (D_call false (ratio_goodQ _ (by omega)) rfl (φa rfl φn)) ?_
 iterate 3 refine τ ?_
 refine EVo_e rfl (D_call false (ratio_goodQ _ (by omega)) rfl (φa rfl φn)) ?_
 iterate 3 refine τ ?_
 refine EV_cond rfl rfl rfl (fun h => by cases h) (fun _ => ?_)
 iterate 3 refine τ ?_
 refine EVo_e rfl (D_alloc 4 (hE 4 rfl) Free_no zr38 rfl) ?_
 iterate 22 refine τ ?_
 refine EV_cond rfl rfl rfl (fun hb1 => ?_) (fun hb1 => ?_)
 ·try simp only [zz] at hb1
  exfalso; omega
 ·try simp only [zz] at hb1
  iterate 7 refine τ ?_
  refine EV_cond rfl rfl rfl (fun hb2 => ?_) (fun hb2 => ?_)
  ·try simp only [zz] at hb2
   exfalso; omega
  ·try simp only [zz] at hb2
   iterate 6 refine τ ?_
   refine EV_cond rfl rfl rfl (fun hb3 => ?_) (fun hb3 => ?_)
   ·try simp only [zz] at hb3
    iterate 10 refine τ ?_
    refine EV_cond rfl rfl rfl (fun hb4 => ?_) (fun hb4 => ?_)
    ·try simp only [zz] at hb4
     exfalso; omega
    ·try simp only [zz] at hb4
     iterate 7 refine τ ?_
     refine EVo_t rfl (T_build ly38 rfl rfl) ?_
     iterate 3 refine τ ?_
     refine EVo_t rfl (T_build ly40 rfl rfl) ?_
     iterate 8 refine τ ?_
     refine EVo_e rfl (D_call false (whole_MulS p.num (decide (q.num < 0)) q.den (fun _ => hqd) (by omega)) rfl (φa rfl (φa rfl φn))) ?_
     iterate 12 refine τ ?_
     refine EVo_e rfl (D_call false (nat_MulN p.den q.num.natAbs (by omega) (by omega)) rfl (φd rfl (φd rfl φn))) ?_
     iterate 10 refine τ ?_
     refine EVo_e rfl (D_call false (ratio_quotient _ _ (Nat.mul_ne_zero hpd hqn) (Nat.le_trans hss (by omega)) (by omega)) rfl (φa rfl (φd rfl φn))) ?_
     iterate 4 refine τ ?_
     refine ⟨_, _, ⟨rfl, _, _, _, rfl, rfl, rfl, .inl ⟨_, gOk rfl, zOk rfl, Nat.le_of_ble_eq_true rfl, rfl⟩⟩, ⟨rfl, rfl⟩, fit_agg rfl nofun ?_, fit_eq rfl nofun rfl⟩
     ·simp only [decide_eq_true_eq]
      exact congrArg encQ (div_mk hq0).symm
   ·try simp only [zz] at hb3
    simp at hb3

theorem ratio_Add (p q : Rat) (h : szQ p + szQ q ≤ 4398046511104) : Fn Tryz.prog 48 [.agg (encQ p), .agg (encQ q)] false (.tup [.agg (encQ (p + q)), .d (ii 0)]) := by
 refine Fn_of_EV Tryz.func48 rfl (by kernel_rfl) rfl rfl (fun E hE => ?_)
 iterate 2 refine τ ?_
 refine EVo_e rfl (D_box 1 (hE 1 rfl) Free_no rfl) ?_
 refine EVo_e rfl (D_box 2 (hE 2 rfl) Free_no rfl) ?_
 refine EVo_e rfl (D_alloc 3 (hE 3 rfl) Free_no zr40 rfl) ?_
 iterate 6 refine τ ?_
 refine EVo_e rfl (D_call false (ratio_reckon_add p q h) rfl (φd rfl (φa rfl (φa rfl φn)))) ?_
 iterate 6 refine τ ?_
 refine ⟨_, _, ⟨rfl, _, _, _, rfl, rfl, rfl, .inl ⟨_, gOk rfl, zOk rfl, Nat.le_of_ble_eq_true rfl, rfl⟩⟩, ⟨rfl, rfl⟩, fit_agg rfl nofun rfl, fit_eq rfl nofun rfl⟩

theorem ratio_Mul (p q : Rat) (h : szQ p + szQ q ≤ 4398046511104) : Fn Tryz.prog 97 [.agg (encQ p), .agg (encQ q)] false (.tup [.agg (encQ (p * q)), .d (ii 0)]) := by
 refine Fn_of_EV Tryz.func97 rfl (by kernel_rfl) rfl rfl (fun E hE => ?_)
 iterate 2 refine τ ?_
 refine EVo_e rfl (D_box 1 (hE 1 rfl) Free_no rfl) ?_
 refine EVo_e rfl (D_box 2 (hE 2 rfl) Free_no rfl) ?_
 refine EVo_e rfl (D_alloc 3 (hE 3 rfl) Free_no zr40 rfl) ?_
 iterate 6 refine τ ?_
 refine EVo_e rfl (D_call false (ratio_reckon_mul p q h) rfl (φd rfl (φa rfl (φa rfl φn)))) ?_
 iterate 6 refine τ ?_
 refine ⟨_, _, ⟨rfl, _, _, _, rfl, rfl, rfl, .inl ⟨_, gOk rfl, zOk rfl, Nat.le_of_ble_eq_true rfl, rfl⟩⟩, ⟨rfl, rfl⟩, fit_agg rfl nofun rfl, fit_eq rfl nofun rfl⟩

theorem ratio_Div (p q : Rat) (h : szQ p + szQ q ≤ 4398046511104) (hq0 : q ≠ 0) : Fn Tryz.prog 98 [.agg (encQ p), .agg (encQ q)] false (.tup [.agg (encQ (p / q)), .d (ii 0)]) := by
 refine Fn_of_EV Tryz.func98 rfl (by kernel_rfl) rfl rfl (fun E hE => ?_)
 iterate 2 refine τ ?_
 refine EVo_e rfl (D_box 1 (hE 1 rfl) Free_no rfl) ?_
 refine EVo_e rfl (D_box 2 (hE 2 rfl) Free_no rfl) ?_
 refine EVo_e rfl (D_alloc 3 (hE 3 rfl) Free_no zr40 rfl) ?_
 iterate 6 refine τ ?_
 refine EVo_e rfl (D_call false (ratio_reckon_div p q h hq0) rfl (φd rfl (φa rfl (φa rfl φn)))) ?_
 iterate 6 refine τ ?_
 refine ⟨_, _, ⟨rfl, _, _, _, rfl, rfl, rfl, .inl ⟨_, gOk rfl, zOk rfl, Nat.le_of_ble_eq_true rfl, rfl⟩⟩, ⟨rfl, rfl⟩, fit_agg rfl nofun rfl, fit_eq rfl nofun rfl⟩

theorem ratio_Sign (q : Rat) (h : szQ q ≤ 8796093022208) : Fn Tryz.prog 42 [.agg (encQ q)] false (.one (.d (ii (if 0 < q.num then 1 else if q.num < 0 then -1 else 0)))) := by
 have hzq : szQ q = (limbs q.num.natAbs).length + (limbs q.den).length := rfl
 refine Fn_of_EV Tryz.func42 rfl (by kernel_rfl) rfl rfl (fun E hE => ?_)
 iterate 2 refine τ ?_
 refine EVo_e rfl (D_box 1 (hE 1 rfl) Free_no rfl) ?_
 iterate 6 refine τ ?_
 refine EVo_e rfl (D_call false (ratio_goodQ _ (by omega)) rfl (φa rfl φn)) ?_
 iterate 2 refine τ ?_
 refine EV_cond rfl rfl rfl (fun h => by cases h) (fun _ => ?_)
 iterate 5 refine τ ?_
 refine EVo_e rfl (D_call false (whole_SignN q.num (by omega)) rfl (φa rfl φn)) ?_
 iterate 3 refine τ ?_
 refine ⟨_, ⟨rfl, rfl⟩, fit_eq rfl nofun rfl⟩

end Go.Proofs.YthaiegnohkiegaaGreat.Ab
/-
  The reference: forms.
-/
namespace Go.Proofs.YthaiegnohkiegaaGreat.Ab
abbrev encNs (ls : List (List Int)) : D := .sl (ls.map fun l => [encN l])
theorem sum_take {ls : List (List Int)} {i : Nat} (h : i < ls.length) : ((ls.take (i + 1)).map List.length).sum = ((ls.take i).map List.length).sum + (rd ls (i : Int)).length ∧
    ((ls.take i).map List.length).sum + (rd ls (i : Int)).length ≤ (ls.map List.length).sum := by
  have e : rd ls (i : Int) = ls[i] := by simp [rd, h]
  have h1 : ((ls.take (i + 1)).map List.length).sum = ((ls.take i).map List.length).sum + (rd ls (i : Int)).length := by
    rw [e, ← List.take_append_getElem h, List.map_append, List.sum_append_nat]
    simp
  refine ⟨h1, ?_⟩
  rw [← h1]
  have h2 : (ls.map List.length).sum = ((ls.take (i + 1)).map List.length).sum + ((ls.drop (i + 1)).map List.length).sum := by
    rw [← List.sum_append_nat, ← List.map_append, List.take_append_drop]
  omega
end Go.Proofs.YthaiegnohkiegaaGreat.Ab
/-
 Contracts of the reference: what is the same; limbs.
-/
namespace Go.Proofs.YthaiegnohkiegaaGreat.Ab
set_option linter.unusedVariables false
set_option linter.unusedSimpArgs false
set_option maxRecDepth 20000
set_option maxHeartbeats 4000000
attribute [local irreducible] Tells Does EVo EV EVq EVr TellsC


theorem ref_EqNat (l m : List Int) (hl : l.length ≤ 17592186044416) (hm : m.length ≤ 17592186044416) : Fn Tryz.prog 58 [.d (encN l), .d (encN m)] false (.one (.d (ib (decide (l = m))))) := by
 refine Fn_of_EV Tryz.func58 rfl (by kernel_rfl) rfl rfl (fun E hE => ?_)
 iterate 13 refine τ ?_
 refine EV_cond rfl rfl rfl (fun hb1 => ?_) (fun hb1 => ?_)
 ·try simp only [zz] at hb1
  iterate 5 refine τ ?_
  refine ⟨_, ⟨rfl, rfl⟩, fit_eq rfl nofun ?_⟩
  ·have : l ≠ m := fun e => by subst e; omega
   simp [this]
 ·try simp only [zz] at hb1
  iterate 7 refine τ ?_
  refine EV_wl (fun mm S => ∃ i : Int, mm = ((l.length : Int) - i).toNat ∧ S = St.of [(0, V.c (.d false (encN l))), (1, V.c (.d false (encN m))), (5, vi .i64 i)] (tabO []) 26 ∧ 0 ≤ i ∧ i ≤ l.length ∧ l.take i.toNat = m.take i.toNat) _ ⟨_, ⟨_, rfl, rfl, ⟨by omega, by omega, rfl⟩⟩, W_keep2 _ _ ⟨rfl, rfl, rfl, trivial⟩ trivial rfl⟩ ?_
  rintro mm S ⟨i, rfl, rfl, ⟨h0, h1, h2⟩⟩
  iterate 8 refine τ ?_
  refine EV_cond rfl rfl rfl (fun hb2 => ?_) (fun hb2 => ?_)
  ·try simp only [zz] at hb2
   iterate 4 refine τ ?_
   refine EV_draw (inX []) (.st 0 (.st 1 (.st 2 (.st 3 (.st 4 (.st 5 (.st 6 (.st 7 (.st 8 .done))))))))) Tryz.mixed (by kernel_rfl) ?_
   refine EVq_t rfl rfl (T_move rfl) ?_
   refine EVq_t rfl rfl (T_move rfl) ?_
   refine EVq_t rfl rfl (T_ixL (uOk rfl) (zOk rfl) rfl rfl (by omega) (by omega) rfl) ?_
   refine EVq_t rfl rfl (T_load (gOk rfl) rfl) ?_
   refine EVq_t rfl rfl (T_move rfl) ?_
   refine EVq_t rfl rfl (T_move rfl) ?_
   refine EVq_t rfl rfl (T_ixL (uOk rfl) (zOk rfl) rfl rfl (by omega) (by omega) rfl) ?_
   refine EVq_t rfl rfl (T_load (gOk rfl) rfl) ?_
   refine EVq_t rfl rfl (T_bin rfl rfl rfl) ?_
   refine EVq_done ?_
   refine EV_cond rfl rfl rfl (fun hb3 => ?_) (fun hb3 => ?_)
   ·try simp only [zz] at hb3
    iterate 5 refine τ ?_
    refine ⟨_, ⟨rfl, rfl⟩, fit_eq rfl nofun ?_⟩
    ·have : l ≠ m := fun e => by subst e; simp at *
     simp [this]
   ·try simp only [zz] at hb3
    iterate 6 refine τ ?_
    refine ⟨_, ?_, ω ⟨_, ⟨_, rfl, rfl, ?_⟩, W_keep2 _ _ ⟨rfl, rfl, rfl, trivial⟩ trivial rfl⟩⟩
    ·omega
    ·refine ⟨by omega, by omega, ?_⟩
     rw [show (i + 1).toNat = i.toNat + 1 by omega, take_succ_rd (l := l) (by omega), take_succ_rd (l := m) (by omega), h2]
     congr 2
     (try (rw [Int.toNat_of_nonneg h0]; assumption))
  ·try simp only [zz] at hb2
   iterate 6 refine τ ?_
   refine ⟨_, ⟨rfl, rfl⟩, fit_eq rfl nofun ?_⟩
   ·have e : i.toNat = l.length := by omega
    rw [e, List.take_of_length_le (Nat.le_refl l.length), List.take_of_length_le (by omega)] at h2
    simp [h2]

theorem ref_EqInt (x y : Bool) (l m : List Int) (hl : l.length ≤ 17592186044416) (hm : m.length ≤ 17592186044416) : Fn Tryz.prog 57 [.agg [ib x, encN l], .agg [ib y, encN m]] false (.one (.d (ib (decide (x = y ∧ l = m))))) := by
 refine Fn_of_EV Tryz.func57 rfl (by kernel_rfl) rfl rfl (fun E hE => ?_)
 iterate 2 refine τ ?_
 refine EVo_e rfl (D_box 1 (hE 1 rfl) Free_no rfl) ?_
 refine EVo_e rfl (D_box 2 (hE 2 rfl) Free_no rfl) ?_
 iterate 10 refine τ ?_
 refine EVo_case 10 rfl (fun hb1 => ?_) (fun hb1 => ?_)
 ·try simp only [zz] at hb1
  iterate 4 refine τ ?_
  refine EVo_e rfl (D_call false (ref_EqNat _ _ (by omega) (by omega)) rfl (φd rfl (φd rfl φn))) ?_
  iterate 4 refine τ ?_
  refine ⟨_, ⟨rfl, rfl⟩, fit_eq rfl nofun ?_⟩
  ·simp_all
 ·try simp only [zz] at hb1
  iterate 9 refine τ ?_
  refine ⟨_, ⟨rfl, rfl⟩, fit_eq rfl nofun ?_⟩
  ·simp_all

theorem ref_EqRat (x y : Bool) (l m p q : List Int) (hl : l.length ≤ 17592186044416) (hm : m.length ≤ 17592186044416) (hp : p.length ≤ 17592186044416) (hq : q.length ≤ 17592186044416) : Fn Tryz.prog 13 [.agg [ib x, encN l, encN p], .agg [ib y, encN m, encN q]] false (.one (.d (ib (decide ((x = y ∧ l = m) ∧ p = q))))) := by
 refine Fn_of_EV Tryz.func13 rfl (by kernel_rfl) rfl rfl (fun E hE => ?_)
 iterate 2 refine τ ?_
 refine EVo_e rfl (D_box 1 (hE 1 rfl) Free_no rfl) ?_
 refine EVo_e rfl (D_box 2 (hE 2 rfl) Free_no rfl) ?_
 iterate 8 refine τ ?_
 refine EVo_e rfl (D_call false (ref_EqInt _ _ _ _ (by omega) (by omega)) rfl (φa rfl (φa rfl φn))) ?_
 refine τ ?_
 refine EVo_case 10 rfl (fun hb1 => ?_) (fun hb1 => ?_)
 ·try simp only [zz] at hb1
  iterate 4 refine τ ?_
  refine EVo_e rfl (D_call false (ref_EqNat _ _ (by omega) (by omega)) rfl (φd rfl (φd rfl φn))) ?_
  iterate 4 refine τ ?_
  refine ⟨_, ⟨rfl, rfl⟩, fit_eq rfl nofun ?_⟩
  ·simp_all
 ·try simp only [zz] at hb1
  iterate 9 refine τ ?_
  refine ⟨_, ⟨rfl, rfl⟩, fit_eq rfl nofun ?_⟩
  ·simp_all

theorem law_Limbs (most : Int) (ls : List (List Int)) (hl : ls.length ≤ 17592186044416) (hs : (ls.map List.length).sum ≤ 4611686018427387904) : Fn Tryz.prog 22 [.d (ii most), .d (encNs ls)] false (.one (.d (ib (decide (most < ((ls.map List.length).sum : Int)) && decide (0 < ls.length))))) := by
 refine Fn_of_EV Tryz.func22 rfl (by kernel_rfl) rfl rfl (fun E hE => ?_)
 iterate 14 refine τ ?_
 refine EV_wl (fun mm S => ∃ n : Int, ∃ i : Int, mm = ((ls.length : Int) - i).toNat ∧ S = St.of [(0, vi .i64 most), (1, V.c (.d false (encNs ls))), (5, vi .i64 n), (6, vi .i64 i)] (tabO []) 23 ∧ 0 ≤ i ∧ i ≤ ls.length ∧ n = (((ls.take i.toNat).map List.length).sum : Nat) ∧ (0 < i → n ≤ most)) _ ⟨_, ⟨_, _, rfl, rfl, ⟨by omega, by omega, rfl, by omega⟩⟩, W_keep2 _ _ ⟨rfl, rfl, rfl, rfl, trivial⟩ trivial rfl⟩ ?_
 rintro mm S ⟨n, i, rfl, rfl, ⟨h0, h1, h2, h3⟩⟩
 iterate 8 refine τ ?_
 refine EV_cond rfl rfl rfl (fun hb1 => ?_) (fun hb1 => ?_)
 ·try simp only [zz] at hb1
  have hsum := sum_take (ls := ls) (i := i.toNat) (by omega)
  rw [Int.toNat_of_nonneg h0] at hsum
  iterate 20 refine τ ?_
  refine EV_cond rfl rfl rfl (fun hb2 => ?_) (fun hb2 => ?_)
  ·try simp only [zz] at hb2
   iterate 5 refine τ ?_
   refine ⟨_, ⟨rfl, rfl⟩, fit_eq rfl nofun ?_⟩
   ·have : most < ((ls.map List.length).sum : Nat) := by omega
    have h9 : 0 < ls.length := by omega
    simp [this, h9]
  ·try simp only [zz] at hb2
   iterate 6 refine τ ?_
   refine ⟨_, ?_, ω ⟨_, ⟨_, _, rfl, rfl, ?_⟩, W_keep2 _ _ ⟨rfl, rfl, rfl, rfl, trivial⟩ trivial rfl⟩⟩
   ·omega
   ·refine ⟨by omega, by omega, ?_, by omega⟩
    rw [show (i + 1).toNat = i.toNat + 1 by omega, hsum.1]; omega
 ·try simp only [zz] at hb1
  iterate 6 refine τ ?_
  refine ⟨_, ⟨rfl, rfl⟩, fit_eq rfl nofun ?_⟩
  ·have e : i.toNat = ls.length := by omega
   rw [e, List.take_of_length_le (Nat.le_refl _)] at h2
   by_cases h9 : 0 < ls.length
   ·have : ¬ most < ((ls.map List.length).sum : Nat) := by omega
    simp [this]
   ·simp [h9]

end Go.Proofs.YthaiegnohkiegaaGreat.Ab
/-
 Contracts of the reference: numbers from 0 on.
-/
namespace Go.Proofs.YthaiegnohkiegaaGreat.Ab
set_option linter.unusedVariables false
set_option linter.unusedSimpArgs false
set_option maxRecDepth 20000
set_option maxHeartbeats 4000000
attribute [local irreducible] Tells Does EVo EV EVq EVr TellsC


theorem ref_May (l : List Int) (hl : l.length ≤ 4611686018427387904) : Fn Tryz.prog 68 [.d (encN l)] false (.one (.d (ib (goodL l)))) := by
 refine Fn_of_EV Tryz.func68 rfl (by kernel_rfl) rfl rfl (fun E hE => ?_)
 iterate 10 refine τ ?_
 refine EVo_case 6 rfl (fun hb1 => ?_) (fun hb1 => ?_)
 ·try simp only [zz] at hb1
  iterate 11 refine τ ?_
  refine ⟨_, ⟨rfl, rfl⟩, fit_eq rfl nofun ?_⟩
  ·have e : l = [] := List.eq_nil_of_length_eq_zero (by omega)
   subst e; rfl
 ·try simp only [zz] at hb1
  iterate 11 refine τ ?_
  refine ⟨_, ⟨rfl, rfl⟩, fit_eq rfl nofun ?_⟩
  ·simp [goodL]; rcases l with _ | ⟨x, l⟩
   ·simp at hb1
   ·simp; rfl

theorem ref_Trim (l : List Int) (hl : l.length ≤ 4611686018427387904) (hk : okL l) : Fn Tryz.prog 120 [.d (encN l)] false (.one (.d (encN (limbs (val l))))) := by
 refine Fn_of_EV Tryz.func120 rfl (by kernel_rfl) rfl rfl (fun E hE => ?_)
 iterate 12 refine τ ?_
 refine EV_wl (fun mm S => ∃ n : Int, mm = n.toNat ∧ S = St.of [(0, V.c (.d false (encN l))), (3, vi .i64 n)] (tabO []) 21 ∧ 0 ≤ n ∧ n ≤ l.length ∧ ∀ i : Nat, n ≤ i → i < l.length → rd l i = 0) _ ⟨_, ⟨(l.length : Int), rfl, rfl, ⟨by omega, by omega, fun i h1 h2 => by omega⟩⟩, W_keep2 _ _ ⟨rfl, rfl, trivial⟩ trivial rfl⟩ ?_
 rintro mm S ⟨n, rfl, rfl, ⟨h0, h1, h2⟩⟩
 iterate 6 refine τ ?_
 refine EVo_case 8 rfl (fun hb1 => ?_) (fun hb1 => ?_)
 ·try simp only [zz] at hb1
  iterate 8 refine τ ?_
  refine EV_cond rfl rfl rfl (fun hb2 => ?_) (fun hb2 => ?_)
  ·try simp only [zz] at hb2
   have hz := hb2
   iterate 7 refine τ ?_
   refine ⟨_, ?_, ω ⟨_, ⟨n - 1, rfl, rfl, ?_⟩, W_keep2 _ _ ⟨rfl, rfl, trivial⟩ trivial rfl⟩⟩
   ·omega
   ·refine ⟨by omega, by omega, fun i q1 q2 => ?_⟩
    by_cases e : (i : Int) = n - 1
    ·rw [e]; exact hz
    ·exact h2 i (by omega) q2
  ·try simp only [zz] at hb2
   have hz := hb2
   iterate 5 refine τ ?_
   refine EVo_t rfl (T_slL (m := 0) (uOk rfl) (zOk rfl) rfl (fun _ => rfl) rfl rfl (.inl rfl) (by omega) (by omega) (by omega)) ?_
   iterate 3 refine τ ?_
   refine ⟨_, ⟨rfl, rfl⟩, fit_eq rfl nofun ?_⟩
   ·have := trim_eq hk (n := n.toNat) (by omega) (fun i q1 q2 => h2 i (by omega) q2) (.inr (by rw [Int.toNat_of_nonneg h0]; exact hz)); simp [this]
 ·try simp only [zz] at hb1
  iterate 8 refine τ ?_
  refine EV_cond rfl rfl rfl (fun h => by cases h) (fun _ => ?_)
  iterate 5 refine τ ?_
  refine EVo_t rfl (T_slL (m := 0) (uOk rfl) (zOk rfl) rfl (fun _ => rfl) rfl rfl (.inl rfl) (by omega) (by omega) (by omega)) ?_
  iterate 3 refine τ ?_
  refine ⟨_, ⟨rfl, rfl⟩, fit_eq rfl nofun ?_⟩
  ·have := trim_eq hk (n := n.toNat) (by omega) (fun i q1 q2 => h2 i (by omega) q2) (.inl (by omega)); simp [this]

theorem ref_Cmp (l m : List Int) (hl : l.length ≤ 4611686018427387904) (hm : m.length ≤ 4611686018427387904) (hk : okL l) (hkm : okL m) (hg : goodL l = true) (hgm : goodL m = true) : Fn Tryz.prog 148 [.d (encN l), .d (encN m)] false (.one (.d (ii (cmpN (val l) (val m))))) := by
 refine Fn_of_EV Tryz.func148 rfl (by kernel_rfl) rfl rfl (fun E hE => ?_)
 iterate 13 refine τ ?_
 refine EV_cond rfl rfl rfl (fun hb1 => ?_) (fun hb1 => ?_)
 ·try simp only [zz] at hb1
  iterate 9 refine τ ?_
  refine EV_cond rfl rfl rfl (fun hb2 => ?_) (fun hb2 => ?_)
  ·try simp only [zz] at hb2
   iterate 5 refine τ ?_
   refine ⟨_, ⟨rfl, rfl⟩, fit_eq rfl nofun ?_⟩
   ·have := val_lt_of_len hk hkm hgm (by omega); simp [cmpN, this]
  ·try simp only [zz] at hb2
   iterate 6 refine τ ?_
   refine ⟨_, ⟨rfl, rfl⟩, fit_eq rfl nofun ?_⟩
   ·have := val_lt_of_len hkm hk hg (by omega); simp [cmpN, this]; omega
 ·try simp only [zz] at hb1
  iterate 10 refine τ ?_
  refine EV_wl (fun mm S => ∃ i : Int, mm = (i + 1).toNat ∧ S = St.of [(0, V.c (.d false (encN l))), (1, V.c (.d false (encN m))), (5, vi .i64 i)] (tabO []) 41 ∧ -1 ≤ i ∧ i < l.length ∧ l.drop (i + 1).toNat = m.drop (i + 1).toNat) _ ⟨_, ⟨(l.length : Int) - 1, rfl, rfl, ⟨by omega, by omega, by simp [List.drop_of_length_le, hb1]; omega⟩⟩, W_keep2 _ _ ⟨rfl, rfl, rfl, trivial⟩ trivial rfl⟩ ?_
  rintro mm S ⟨i, rfl, rfl, ⟨h0, h1, h2⟩⟩
  iterate 6 refine τ ?_
  refine EV_cond rfl rfl rfl (fun hb3 => ?_) (fun hb3 => ?_)
  ·try simp only [zz] at hb3
   have hi := hb3
   iterate 5 refine τ ?_
   refine EV_draw (inX []) (.st 0 (.st 1 (.st 2 (.st 3 (.st 4 (.st 5 (.st 6 (.st 7 (.st 8 .done))))))))) Tryz.mixed (by kernel_rfl) ?_
   refine EVq_t rfl rfl (T_move rfl) ?_
   refine EVq_t rfl rfl (T_move rfl) ?_
   refine EVq_t rfl rfl (T_ixL (uOk rfl) (zOk rfl) rfl rfl (by omega) (by omega) rfl) ?_
   refine EVq_t rfl rfl (T_load (gOk rfl) rfl) ?_
   refine EVq_t rfl rfl (T_move rfl) ?_
   refine EVq_t rfl rfl (T_move rfl) ?_
   refine EVq_t rfl rfl (T_ixL (uOk rfl) (zOk rfl) rfl rfl (by omega) (by omega) rfl) ?_
   refine EVq_t rfl rfl (T_load (gOk rfl) rfl) ?_
   refine EVq_t rfl rfl (T_bin rfl rfl rfl) ?_
   refine EVq_done ?_
   refine EV_cond rfl rfl rfl (fun hb4 => ?_) (fun hb4 => ?_)
   ·try simp only [zz] at hb4
    iterate 5 refine τ ?_
    refine ⟨_, ⟨rfl, rfl⟩, fit_eq rfl nofun ?_⟩
    ·have := val_lt_at hk hkm (n := i.toNat) (by omega) (by omega) (by rw [show i.toNat + 1 = (i + 1).toNat by omega]; exact h2) (by rw [Int.toNat_of_nonneg hi]; omega); simp [cmpN, this]
   ·try simp only [zz] at hb4
    iterate 2 refine τ ?_
    refine EV_draw (inX []) (.st 0 (.st 1 (.st 2 (.st 3 (.st 4 (.st 5 (.st 6 (.st 7 (.st 8 .done))))))))) Tryz.mixed (by kernel_rfl) ?_
    refine EVq_t rfl rfl (T_move rfl) ?_
    refine EVq_t rfl rfl (T_move rfl) ?_
    refine EVq_t rfl rfl (T_ixL (uOk rfl) (zOk rfl) rfl rfl (by omega) (by omega) rfl) ?_
    refine EVq_t rfl rfl (T_load (gOk rfl) rfl) ?_
    refine EVq_t rfl rfl (T_move rfl) ?_
    refine EVq_t rfl rfl (T_move rfl) ?_
    refine EVq_t rfl rfl (T_ixL (uOk rfl) (zOk rfl) rfl rfl (by omega) (by omega) rfl) ?_
    refine EVq_t rfl rfl (T_load (gOk rfl) rfl) ?_
    refine EVq_t rfl rfl (T_bin rfl rfl rfl) ?_
    refine EVq_done ?_
    refine EV_cond rfl rfl rfl (fun hb5 => ?_) (fun hb5 => ?_)
    ·try simp only [zz] at hb5
     iterate 5 refine τ ?_
     refine ⟨_, ⟨rfl, rfl⟩, fit_eq rfl nofun ?_⟩
     ·have := val_lt_at hkm hk (n := i.toNat) (by omega) (by omega) (by rw [show i.toNat + 1 = (i + 1).toNat by omega]; exact h2.symm) (by rw [Int.toNat_of_nonneg hi]; omega); simp [cmpN, this]; omega
    ·try simp only [zz] at hb5
     iterate 6 refine τ ?_
     refine ⟨_, ?_, ω ⟨_, ⟨i - 1, rfl, rfl, ?_⟩, W_keep2 _ _ ⟨rfl, rfl, rfl, trivial⟩ trivial rfl⟩⟩
     ·omega
     ·refine ⟨by omega, by omega, ?_⟩
      have e1 : ((i - 1) + 1).toNat = i.toNat := by omega
      have e2 : (i + 1).toNat = i.toNat + 1 := by omega
      rw [e1, drop_rd (l := l) (by omega), drop_rd (l := m) (by omega), ← e2, h2]
      congr 1
      rw [Int.toNat_of_nonneg hi]; omega
  ·try simp only [zz] at hb3
   have hi := hb3
   iterate 6 refine τ ?_
   refine ⟨_, ⟨rfl, rfl⟩, fit_eq rfl nofun ?_⟩
   ·have e : l = m := by
     have e0 : (i + 1).toNat = 0 := by omega
     rw [e0] at h2; simpa using h2
    subst e; simp [cmpN]

theorem ref_Of (x : Int) (h0 : 0 ≤ x) (h1 : x < 18446744073709551616) : Fn Tryz.prog 66 [.d (iu x)] false (.one (.d (encN (limbs x.toNat)))) := by
 refine Fn_of_EV Tryz.func66 rfl (by kernel_rfl) rfl rfl (fun E hE => ?_)
 iterate 7 refine τ ?_
 refine EVo_e rfl (D_buildSlice (uOk rfl) bz58 rfl rfl rfl (by simp)) ?_
 refine EVo_e rfl (D_call false (ref_Trim [x] (by simp) (by intro y hy; simp at hy; omega)) rfl (φd rfl φn)) ?_
 iterate 3 refine τ ?_
 refine ⟨_, ⟨rfl, rfl⟩, fit_eq rfl nofun ?_⟩
 ·simp [val]

end Go.Proofs.YthaiegnohkiegaaGreat.Ab
/-
 Halves of limbs and the numbers that they say: plain arithmetic (the laws of limbs, at half the base).
-/
namespace Go.Proofs.YthaiegnohkiegaaGreat.Ab
set_option linter.unusedVariables false
set_option linter.unusedSimpArgs false

abbrev ih (x : Int) : D := .val (.int .u32 x)
abbrev encH (l : List Int) : D := .sl (l.map fun x => [ih x])
/-- Words. -/
def okLH (l : List Int) : Prop := ∀ x ∈ l, 0 ≤ x ∧ x < 4294967296
def valH : List Int → Nat
 | [] => 0
 | x :: l => x.toNat + 4294967296 * valH l
def limbsFH : Nat → Nat → List Int
 | 0, _ => []
 | f + 1, n => if n = 0 then [] else ((n % 4294967296 : Nat) : Int) :: limbsFH f (n / 4294967296)
def limbsH (n : Nat) : List Int := limbsFH n n

theorem limbsF_fuelH : ∀ (f g n : Nat), n ≤ f → n ≤ g → limbsFH f n = limbsFH g n
 | 0, g, n, hf, hg => by
  have : n = 0 := by omega
  subst this
  cases g <;> simp [limbsFH]
 | f + 1, 0, n, hf, hg => by
  have : n = 0 := by omega
  subst this
  simp [limbsFH]
 | f + 1, g + 1, n, hf, hg => by
  simp only [limbsFH]
  split
  ·rfl
  ·rw [limbsF_fuelH f g (n / 4294967296) (by omega) (by omega)]
theorem limbs_zeroH : limbsH 0 = [] := rfl
theorem limbs_posH {n : Nat} (h : n ≠ 0) : limbsH n = ((n % 4294967296 : Nat) : Int) :: limbsH (n / 4294967296) := by
 unfold limbsH
 obtain ⟨m, rfl⟩ := Nat.exists_eq_succ_of_ne_zero h
 simp only [limbsFH]
 rw [if_neg h, limbsF_fuelH m ((m + 1) / 4294967296) ((m + 1) / 4294967296) (by omega) (by omega)]
theorem val_limbsH (n : Nat) : valH (limbsH n) = n := by
 induction n using Nat.strongRecOn with
 | _ n ih =>
  by_cases h : n = 0
  ·subst h; rfl
  ·rw [limbs_posH h, valH, ih (n / 4294967296) (by omega)]
   simp only [Int.toNat_natCast]
   have := Nat.div_add_mod n 4294967296
   omega
theorem okL_nilH : okLH [] := fun x h => by cases h
theorem okL_consH {x : Int} {l : List Int} : okLH (x :: l) ↔ (0 ≤ x ∧ x < 4294967296) ∧ okLH l := by
 simp [okLH]
theorem okL_appendH {l m : List Int} : okLH (l ++ m) ↔ okLH l ∧ okLH m := by
 constructor
 ·intro h
  exact ⟨fun x hx => h x (by simp [hx]), fun x hx => h x (by simp [hx])⟩
 ·rintro ⟨h1, h2⟩ x hx
  rcases List.mem_append.1 hx with h | h
  ·exact h1 x h
  ·exact h2 x h
theorem okL_rdH {l : List Int} (h : okLH l) (i : Int) : 0 ≤ rd l i ∧ rd l i < 4294967296 := by
 unfold rd
 by_cases hi : i.toNat < l.length
 ·have e : l.getD i.toNat default = l[i.toNat] := by simp [hi]
  rw [e]
  exact h _ (List.getElem_mem hi)
 ·have e : l.getD i.toNat default = (0 : Int) := by simp [Nat.le_of_not_lt hi]
  rw [e]
  decide
theorem okL_takeH {l : List Int} (h : okLH l) (n : Nat) : okLH (l.take n) := fun x hx => h x (List.mem_of_mem_take hx)
theorem okL_dropH {l : List Int} (h : okLH l) (n : Nat) : okLH (l.drop n) := fun x hx => h x (List.mem_of_mem_drop hx)
theorem okL_setH {l : List Int} (h : okLH l) (n : Nat) {x : Int} (hx : 0 ≤ x ∧ x < 4294967296) : okLH (l.set n x) := fun y hy => by
 rcases List.mem_or_eq_of_mem_set hy with h1 | rfl
 ·exact h y h1
 ·exact hx
theorem okL_repH (n : Nat) : okLH (List.replicate n (0 : Int)) := fun x hx => by
 have := (List.mem_replicate.1 hx).2
 subst this
 decide
theorem okL_limbsH (n : Nat) : okLH (limbsH n) := by
 induction n using Nat.strongRecOn with
 | _ n ih =>
  by_cases h : n = 0
  ·subst h; exact okL_nilH
  ·rw [limbs_posH h, okL_consH]
   have := Nat.mod_lt n (show 4294967296 > 0 by decide)
   exact ⟨by omega, ih (n / 4294967296) (by omega)⟩

/-- The highest limb is no nought. -/
def goodLH (l : List Int) : Bool := decide (l = [] ∨ rd l (l.length - 1) ≠ 0)
theorem goodL_consH {x y : Int} {l : List Int} : goodLH (x :: y :: l) = goodLH (y :: l) := by
 unfold goodLH rd
 have h1 : ((↑(x :: y :: l).length : Int) - 1).toNat = l.length + 1 := by simp only [List.length_cons]; omega
 have h2 : ((↑(y :: l).length : Int) - 1).toNat = l.length := by simp
 rw [h1, h2]
 simp
theorem goodL_oneH {x : Int} : goodLH [x] = decide (x ≠ 0) := by simp [goodLH, rd]
theorem goodL_nilH : goodLH [] = true := rfl
theorem good_limbsH (n : Nat) : goodLH (limbsH n) = true := by
 induction n using Nat.strongRecOn with
 | _ n ih =>
  by_cases h : n = 0
  ·subst h; rfl
  ·rw [limbs_posH h]
   by_cases h2 : n / 4294967296 = 0
   ·rw [h2, limbs_zeroH, goodL_oneH]
    have := Nat.div_add_mod n 4294967296
    simp
    omega
   ·have := ih (n / 4294967296) (by omega)
    rw [limbs_posH h2] at this ⊢
    rw [goodL_consH]; exact this
theorem good_posH : ∀ {l : List Int}, okLH l → goodLH l = true → l ≠ [] → valH l ≠ 0
 | [], _, _, h => absurd rfl h
 | [x], hk, hg, _ => by
  rw [goodL_oneH] at hg
  have := (okL_consH.1 hk).1
  simp at hg
  simp [valH]
  omega
 | x :: y :: l, hk, hg, _ => by
  rw [goodL_consH] at hg
  have := good_posH (okL_consH.1 hk).2 hg (by simp)
  rw [valH]
  omega
theorem limbs_valH : ∀ {l : List Int}, okLH l → goodLH l = true → limbsH (valH l) = l
 | [], _, _ => rfl
 | x :: l, hk, hg => by
  have hp := good_posH hk hg (by simp)
  obtain ⟨h1, h2⟩ := okL_consH.1 hk
  rw [limbs_posH hp]
  have hm : valH (x :: l) % 4294967296 = x.toNat := by
   rw [valH, Nat.add_mul_mod_self_left]
   exact Nat.mod_eq_of_lt (by omega)
  have hd : valH (x :: l) / 4294967296 = valH l := by
   rw [valH, Nat.add_mul_div_left _ _ (by decide), Nat.div_eq_of_lt (by omega)]; omega
  rw [hm, hd]
  have hg' : goodLH l = true := by
   cases l with
   | nil => rfl
   | cons y l => rwa [goodL_consH] at hg
  rw [limbs_valH h2 hg']
  congr 1
  omega
theorem val_appendH : ∀ (l m : List Int), valH (l ++ m) = valH l + 4294967296 ^ l.length * valH m
 | [], m => by simp [valH]
 | x :: l, m => by
  simp only [List.cons_append, valH, List.length_cons, val_appendH l m]
  rw [Nat.mul_add, Nat.pow_succ, Nat.add_assoc, Nat.mul_assoc, Nat.mul_left_comm]
theorem val_repH : ∀ n : Nat, valH (List.replicate n (0 : Int)) = 0
 | 0 => rfl
 | n + 1 => by simp [List.replicate_succ, valH, val_repH n]
theorem val_ltH : ∀ {l : List Int}, okLH l → valH l < 4294967296 ^ l.length
 | [], _ => by simp [valH]
 | x :: l, h => by
  obtain ⟨h1, h2⟩ := okL_consH.1 h
  have := val_ltH h2
  rw [valH, List.length_cons, Nat.pow_succ]
  have h3 : 4294967296 * (valH l + 1) ≤ 4294967296 * 4294967296 ^ l.length := Nat.mul_le_mul_left _ this
  rw [Nat.mul_comm (4294967296 ^ l.length)]
  rw [Nat.mul_add] at h3
  omega
theorem val_zeroH {l : List Int} (h : ∀ x ∈ l, x = 0) : valH l = 0 := by
 induction l with
 | nil => rfl
 | cons x l ih =>
  rw [valH, ih (fun y hy => h y (by simp [hy])), h x (by simp)]
  rfl
theorem take_succ_rdH {l : List Int} {n : Nat} (h : n < l.length) : l.take (n + 1) = l.take n ++ [rd l n] := by
 have : rd l (n : Int) = l[n] := by simp [rd, h]
 rw [this, List.take_append_getElem]
theorem val_take_succH {l : List Int} {n : Nat} (h : n < l.length) : valH (l.take (n + 1)) = valH (l.take n) + 4294967296 ^ n * (rd l n).toNat := by
 rw [take_succ_rdH h, val_appendH, List.length_take, Nat.min_eq_left (by omega)]
 simp [valH]
theorem rd_set_selfH {l : List Int} {n : Nat} {x : Int} (h : n < l.length) : rd (l.set n x) n = x := by simp [rd, h]
theorem rd_set_neH {l : List Int} {n m : Nat} {x : Int} (h : n ≠ m) : rd (l.set n x) m = rd l m := by
 simp only [rd, Int.toNat_natCast, List.getD_eq_getElem?_getD]
 rw [List.getElem?_set_ne h]
theorem take_set_leH {l : List Int} {n m : Nat} {x : Int} (h : m ≤ n) : (l.set n x).take m = l.take m := by
 rw [List.take_set_of_le h]

/-- What trim tells. -/
theorem trim_eqH {l : List Int} (hk : okLH l) {n : Nat} (hn : n ≤ l.length) (hz : ∀ i : Nat, n ≤ i → i < l.length → rd l i = 0) (ht : n = 0 ∨ rd l ((n : Int) - 1) ≠ 0) : l.take n = limbsH (valH l) := by
 have h1 : valH l = valH (l.take n) := by
  have : valH l = valH (l.take n) + 4294967296 ^ (l.take n).length * valH (l.drop n) := by rw [← val_appendH, List.take_append_drop]
  rw [this, val_zeroH (l := l.drop n)]
  ·simp
  ·intro x hx
   obtain ⟨i, hi, rfl⟩ := List.getElem_of_mem hx
   have hi' : n + i < l.length := by simp at hi; omega
   have := hz (n + i) (by omega) hi'
   rw [List.getElem_drop]
   have e : rd l (((n + i : Nat)) : Int) = l[n + i] := by unfold rd; rw [Int.toNat_natCast]; simp [hi']
   rw [← e]; exact this
 rw [h1, limbs_valH (okL_takeH hk n)]
 unfold goodLH
 rw [decide_eq_true_iff]
 rcases ht with rfl | ht
 ·exact .inl (by simp)
 ·by_cases h0 : n = 0
  ·subst h0; exact .inl (by simp)
  ·right
   have e : ((↑(l.take n).length : Int) - 1) = ((n - 1 : Nat) : Int) := by rw [List.length_take, Nat.min_eq_left hn]; omega
   have e2 : (n : Int) - 1 = ((n - 1 : Nat) : Int) := by omega
   rw [e]
   rw [e2] at ht
   unfold rd at ht ⊢
   simp only [Int.toNat_natCast, List.getD_eq_getElem?_getD] at ht ⊢
   rw [List.getElem?_take, if_pos (by omega)]
   exact ht

theorem limbs_oneH {n : Nat} (h0 : n ≠ 0) (h1 : n < 4294967296) : limbsH n = [(n : Int)] := by
 rw [limbs_posH h0, Nat.mod_eq_of_lt h1, Nat.div_eq_of_lt h1, limbs_zeroH]
/-- Comparison. -/
def cmpNH (a b : Nat) : Int := if a < b then -1 else if b < a then 1 else 0
theorem good_geH {l : List Int} (hk : okLH l) (hg : goodLH l = true) (h0 : l ≠ []) : 4294967296 ^ (l.length - 1) ≤ valH l := by
 have h1 : l.length - 1 < l.length := by
  have := List.length_pos_iff.2 h0
  omega
 have h2 := val_take_succH h1
 have h3 : l.take (l.length - 1 + 1) = l := List.take_of_length_le (by omega)
 rw [h3] at h2
 have hr : rd l ((l.length : Int) - 1) ≠ 0 := by
  simp only [goodLH, decide_eq_true_eq] at hg
  rcases hg with h | h
  ·exact absurd h h0
  ·exact h
 have e : ((l.length : Int) - 1) = ((l.length - 1 : Nat) : Int) := by omega
 rw [e] at hr
 have hp := (okL_rdH hk ((l.length - 1 : Nat) : Int)).1
 have h4 : 4294967296 ^ (l.length - 1) * 1 ≤ 4294967296 ^ (l.length - 1) * (rd l ((l.length - 1 : Nat) : Int)).toNat := Nat.mul_le_mul_left _ (by omega)
 omega
theorem val_lt_of_lenH {l m : List Int} (hk : okLH l) (hm : okLH m) (hg : goodLH m = true) (h : l.length < m.length) : valH l < valH m := by
 have h1 := val_ltH hk
 have h2 := good_geH hm hg (by intro e; subst e; simp at h)
 have h3 : 4294967296 ^ l.length ≤ 4294967296 ^ (m.length - 1) := Nat.pow_le_pow_right (by decide) (by omega)
 omega
theorem val_splitH {l : List Int} {n : Nat} (h : n < l.length) : valH l = valH (l.take n) + 4294967296 ^ n * ((rd l n).toNat + 4294967296 * valH (l.drop (n + 1))) := by
 have e : l = l.take n ++ (rd l n :: l.drop (n + 1)) := by
  have : rd l (n : Int) = l[n] := by simp [rd, h]
  rw [this]
  simp
 have := congrArg valH e
 rw [val_appendH, List.length_take, Nat.min_eq_left (by omega), valH] at this
 exact this
theorem val_lt_atH {l m : List Int} (hk : okLH l) (hm : okLH m) {n : Nat} (h1 : n < l.length) (h2 : n < m.length) (hd : l.drop (n + 1) = m.drop (n + 1)) (hr : rd l n < rd m n) : valH l < valH m := by
 rw [val_splitH h1, val_splitH h2, hd]
 have a1 := val_ltH (okL_takeH hk n)
 rw [List.length_take, Nat.min_eq_left (by omega)] at a1
 have a2 := okL_rdH hk n
 have a3 := okL_rdH hm n
 have a4 : 4294967296 ^ n * (((rd l n).toNat + 4294967296 * valH (m.drop (n + 1))) + 1) ≤ 4294967296 ^ n * ((rd m n).toNat + 4294967296 * valH (m.drop (n + 1))) := Nat.mul_le_mul_left _ (by omega)
 rw [Nat.mul_add, Nat.mul_one] at a4
 omega
theorem drop_rdH {l : List Int} {n : Nat} (h : n < l.length) : l.drop n = rd l n :: l.drop (n + 1) := by
 have : rd l (n : Int) = l[n] := by simp [rd, h]
 rw [this, List.drop_eq_getElem_cons h]

theorem rd_geH {l : List Int} {n : Nat} (h : l.length ≤ n) : rd l n = 0 := by
 simp [rd, h]
theorem val_take_succ'H (l : List Int) (n : Nat) : valH (l.take (n + 1)) = valH (l.take n) + 4294967296 ^ n * (rd l n).toNat := by
 by_cases h : n < l.length
 ·exact val_take_succH h
 ·rw [rd_geH (by omega), List.take_of_length_le (by omega), List.take_of_length_le (by omega)]; simp
theorem val_set_takeH {c : List Int} {i : Nat} {s : Int} (h : i < c.length) : valH ((c.set i s).take (i + 1)) = valH (c.take i) + 4294967296 ^ i * s.toNat := by
 rw [val_take_succH (by simpa using h), rd_set_selfH h, take_set_leH (Nat.le_refl i)]

theorem add_stepH {p q c : List Int} {i : Nat} {cy s cy' : Int} (hc : i < c.length) (hp : okLH p) (hq : okLH q) (inv : valH (c.take i) + 4294967296 ^ i * cy.toNat = valH (p.take i) + valH (q.take i))
  (hF : rd p i + cy + rd q i = s + 4294967296 * cy') (h1 : 0 ≤ s) (h2 : 0 ≤ cy) (h3 : 0 ≤ cy') :
  valH ((c.set i s).take (i + 1)) + 4294967296 ^ (i + 1) * cy'.toNat = valH (p.take (i + 1)) + valH (q.take (i + 1)) := by
 rw [val_set_takeH hc, val_take_succ'H, val_take_succ'H]
 have a1 := (okL_rdH hp i).1
 have a2 := (okL_rdH hq i).1
 have e : (rd p i).toNat + cy.toNat + (rd q i).toNat = s.toNat + 4294967296 * cy'.toNat := by omega
 have e2 := congrArg (4294967296 ^ i * ·) e
 simp only [Nat.mul_add] at e2
 rw [Nat.pow_succ, Nat.mul_assoc]
 omega

end Go.Proofs.YthaiegnohkiegaaGreat.Ab
/-
  Limbs and their halves.
-/
namespace Go.Proofs.YthaiegnohkiegaaGreat.Ab
theorem own_app {id e sz : Nat} {fr : Bool} {α : Type} {f : α → List D} {l m : List α} {ys : List (List D)} (h : ys = m.map f) : V.c (.own id e sz fr (l.map f ++ ys)) = V.c (.own id e sz fr ((l ++ m).map f)) := by
  rw [h, List.map_append]
theorem u32_wrap' (a : Int) : IntKind.u32.wrap a = a % 4294967296 := by
  simp only [IntKind.wrap, IntKind.signed, IntKind.bits]
  simp
theorem half_step {l r : List Int} {i : Nat} (hk : okL l) (hr : r.length = 2 * i) (inv : valH r = val (l.take i)) :
    valH (r ++ [IntKind.u32.wrap (rd l i), IntKind.u32.wrap (rd l i / 4294967296)]) = val (l.take (i + 1)) := by
  rw [val_appendH, hr, inv, val_take_succ']
  have hx := okL_rd hk i
  simp only [valH, u32_wrap']
  have e : (4294967296 : Nat) ^ (2 * i) = 18446744073709551616 ^ i := by rw [Nat.pow_mul]
  rw [e]
  congr 2
  omega
theorem or_halves {a b : Int} (h0 : 0 ≤ a) (h1 : a < 4294967296) (h2 : 0 ≤ b) (h3 : b < 4294967296) : bits .or .u64 (IntKind.u64.wrap a) (IntKind.u64.wrap (IntKind.u64.wrap b * ((4294967296 : Nat) : Int))) = a + 4294967296 * b := by
  have e1 : IntKind.u64.wrap a = a := u64_in h0 (by omega)
  have e2 : IntKind.u64.wrap b = b := u64_in h2 (by omega)
  have e3 : IntKind.u64.wrap (b * ((4294967296 : Nat) : Int)) = b * ((4294967296 : Nat) : Int) := u64_in (by omega) (by omega)
  rw [e1, e2, e3]
  obtain ⟨A, rfl⟩ := Int.eq_ofNat_of_zero_le h0
  obtain ⟨B, rfl⟩ := Int.eq_ofNat_of_zero_le h2
  rw [u64_or _ _ (by omega) (by omega) (by omega) (by omega)]
  have hA : A < 2 ^ 32 := by omega
  have := Nat.two_pow_add_eq_or_of_lt (i := 32) (b := A) hA B
  have e4 : ((B : Int) * ((4294967296 : Nat) : Int)).toNat = 2 ^ 32 * B := by omega
  rw [e4, Int.toNat_natCast, Nat.or_comm, ← this]
  omega
theorem whole_step {l r : List Int} {i : Nat} {x : Int} (hk : okLH l) (hr : 2 * r.length = i) (inv : val r = valH (l.take i)) (hx : x = rd l i + 4294967296 * rd l ((i + 1 : Nat) : Int)) :
    val (r ++ [x]) = valH (l.take (i + 2)) ∧ 0 ≤ x ∧ x < 18446744073709551616 := by
  have h1 := okL_rdH hk i
  have h2 := okL_rdH hk ((i + 1 : Nat) : Int)
  refine ⟨?_, by omega, by omega⟩
  rw [val_append, inv, show i + 2 = (i + 1) + 1 by omega, val_take_succ'H, val_take_succ'H]
  have e : (18446744073709551616 : Nat) ^ r.length = 4294967296 ^ i := by rw [← hr, Nat.pow_mul]
  rw [e, Nat.pow_succ, Nat.add_assoc, Nat.mul_assoc, ← Nat.mul_add]
  congr 2
  simp only [val]
  omega
theorem limbs_len_leH {n k : Nat} (h : n < 4294967296 ^ k) : (limbsH n).length ≤ k := by
  rcases Nat.lt_or_ge k (limbsH n).length with h1 | h1
  · have h2 := good_geH (okL_limbsH n) (good_limbsH n) (by intro e; rw [e] at h1; simp at h1)
    rw [val_limbsH] at h2
    have h3 : 4294967296 ^ k ≤ 4294967296 ^ ((limbsH n).length - 1) := Nat.pow_le_pow_right (by decide) (by omega)
    omega
  · exact h1
theorem halves_len {l : List Int} (hk : okL l) : (limbsH (val l)).length ≤ 2 * l.length := by
  apply limbs_len_leH
  have := val_lt hk
  have e : (4294967296 : Nat) ^ (2 * l.length) = 18446744073709551616 ^ l.length := by rw [Nat.pow_mul]
  rw [e]; exact this
theorem plus_step {x y r : List Int} {i : Nat} {c e : Int} (hx : okLH x) (hy : okLH y) (hr : r.length = i) (hc0 : 0 ≤ c) (hc1 : c ≤ 1) (he : e = c + rd x i + rd y i)
    (inv : valH r + 4294967296 ^ i * c.toNat = valH (x.take i) + valH (y.take i)) :
    valH (r ++ [IntKind.u32.wrap e]) + 4294967296 ^ (i + 1) * (e / 4294967296).toNat = valH (x.take (i + 1)) + valH (y.take (i + 1)) ∧ 0 ≤ e / 4294967296 ∧ e / 4294967296 ≤ 1 ∧ 0 ≤ IntKind.u32.wrap e ∧ IntKind.u32.wrap e < 4294967296 := by
  have h1 := okL_rdH hx i
  have h2 := okL_rdH hy i
  rw [u32_wrap']
  refine ⟨?_, by omega, by omega, by omega, by omega⟩
  rw [val_appendH, hr, val_take_succ'H, val_take_succ'H]
  simp only [valH]
  have e1 : (e % 4294967296).toNat + 4294967296 * (e / 4294967296).toNat = c.toNat + (rd x i).toNat + (rd y i).toNat := by omega
  have e2 := congrArg (4294967296 ^ i * ·) e1
  simp only [Nat.mul_add] at e2
  rw [Nat.pow_succ, Nat.mul_assoc, show (e % 4294967296).toNat + 4294967296 * 0 = (e % 4294967296).toNat by omega]
  omega
theorem less_step {x y r : List Int} {i : Nat} {c e : Int} (hx : okLH x) (hy : okLH y) (hr : r.length = i) (hc0 : -1 ≤ c) (hc1 : c ≤ 0) (he : e = c + rd x i - rd y i)
    (inv : valH r + valH (y.take i) = valH (x.take i) + 4294967296 ^ i * (-c).toNat) :
    valH (r ++ [IntKind.u32.wrap (IntKind.u64.wrap e)]) + valH (y.take (i + 1)) = valH (x.take (i + 1)) + 4294967296 ^ (i + 1) * (-(e / 4294967296)).toNat ∧ -1 ≤ e / 4294967296 ∧ e / 4294967296 ≤ 0 ∧ 0 ≤ IntKind.u32.wrap (IntKind.u64.wrap e) ∧ IntKind.u32.wrap (IntKind.u64.wrap e) < 4294967296 := by
  have h1 := okL_rdH hx i
  have h2 := okL_rdH hy i
  have ew : IntKind.u32.wrap (IntKind.u64.wrap e) = e % 4294967296 := by rw [u32_wrap', u64_wrap]; omega
  rw [ew]
  refine ⟨?_, by omega, by omega, by omega, by omega⟩
  rw [val_appendH, hr, val_take_succ'H, val_take_succ'H]
  simp only [valH]
  have e1 : (e % 4294967296).toNat + (rd y i).toNat + (-c).toNat = (rd x i).toNat + 4294967296 * (-(e / 4294967296)).toNat := by omega
  have e2 := congrArg (4294967296 ^ i * ·) e1
  simp only [Nat.mul_add] at e2
  rw [Nat.pow_succ, Nat.mul_assoc, show (e % 4294967296).toNat + 4294967296 * 0 = (e % 4294967296).toNat by omega]
  omega
end Go.Proofs.YthaiegnohkiegaaGreat.Ab
/-
 Contracts of the reference: halves.
-/
namespace Go.Proofs.YthaiegnohkiegaaGreat.Ab
set_option linter.unusedVariables false
set_option linter.unusedSimpArgs false
set_option maxRecDepth 20000
set_option maxHeartbeats 4000000
attribute [local irreducible] Tells Does EVo EV EVq EVr TellsC


theorem ref_cut (l : List Int) (hl : l.length ≤ 4611686018427387904) (hk : okLH l) : Fn Tryz.prog 119 [.d (encH l)] false (.one (.d (encH (limbsH (valH l))))) := by
 refine Fn_of_EV Tryz.func119 rfl (by kernel_rfl) rfl rfl (fun E hE => ?_)
 iterate 12 refine τ ?_
 refine EV_wl (fun mm S => ∃ n : Int, mm = n.toNat ∧ S = St.of [(0, V.c (.d false (encH l))), (3, vi .i64 n)] (tabO []) 21 ∧ 0 ≤ n ∧ n ≤ l.length ∧ ∀ i : Nat, n ≤ i → i < l.length → rd l i = 0) _ ⟨_, ⟨(l.length : Int), rfl, rfl, ⟨by omega, by omega, fun i h1 h2 => by omega⟩⟩, W_keep2 _ _ ⟨rfl, rfl, trivial⟩ trivial rfl⟩ ?_
 rintro mm S ⟨n, rfl, rfl, ⟨h0, h1, h2⟩⟩
 iterate 6 refine τ ?_
 refine EVo_case 8 rfl (fun hb1 => ?_) (fun hb1 => ?_)
 ·try simp only [zz] at hb1
  iterate 8 refine τ ?_
  refine EV_cond rfl rfl rfl (fun hb2 => ?_) (fun hb2 => ?_)
  ·try simp only [zz] at hb2
   have hz := hb2
   iterate 7 refine τ ?_
   refine ⟨_, ?_, ω ⟨_, ⟨n - 1, rfl, rfl, ?_⟩, W_keep2 _ _ ⟨rfl, rfl, trivial⟩ trivial rfl⟩⟩
   ·omega
   ·refine ⟨by omega, by omega, fun i q1 q2 => ?_⟩
    by_cases e : (i : Int) = n - 1
    ·rw [e]; exact hz
    ·exact h2 i (by omega) q2
  ·try simp only [zz] at hb2
   have hz := hb2
   iterate 5 refine τ ?_
   refine EVo_t rfl (T_slL (m := 0) (uOk rfl) (zOk rfl) rfl (fun _ => rfl) rfl rfl (.inl rfl) (by omega) (by omega) (by omega)) ?_
   iterate 3 refine τ ?_
   refine ⟨_, ⟨rfl, rfl⟩, fit_eq rfl nofun ?_⟩
   ·have := trim_eqH hk (n := n.toNat) (by omega) (fun i q1 q2 => h2 i (by omega) q2) (.inr (by rw [Int.toNat_of_nonneg h0]; exact hz)); simp [this]
 ·try simp only [zz] at hb1
  iterate 8 refine τ ?_
  refine EV_cond rfl rfl rfl (fun h => by cases h) (fun _ => ?_)
  iterate 5 refine τ ?_
  refine EVo_t rfl (T_slL (m := 0) (uOk rfl) (zOk rfl) rfl (fun _ => rfl) rfl rfl (.inl rfl) (by omega) (by omega) (by omega)) ?_
  iterate 3 refine τ ?_
  refine ⟨_, ⟨rfl, rfl⟩, fit_eq rfl nofun ?_⟩
  ·have := trim_eqH hk (n := n.toNat) (by omega) (fun i q1 q2 => h2 i (by omega) q2) (.inl (by omega)); simp [this]

theorem ref_halves (l : List Int) (hl : l.length ≤ 8796093022208) (hk : okL l) : Fn Tryz.prog 117 [.d (encN l)] false (.one (.d (encH (limbsH (val l))))) := by
 refine Fn_of_EV Tryz.func117 rfl (by kernel_rfl) rfl rfl (fun E hE => ?_)
 iterate 10 refine τ ?_
 refine EV_weak (W_nilRow 1 3 145 1 (hE 1 rfl) rfl) ?_
 iterate 4 refine τ ?_
 refine EV_wl (fun mm S => ∃ i : Int, ∃ r : List Int, mm = ((l.length : Int) - i).toNat ∧ S = St.of [(0, V.c (.d false (encN l))), (3, V.c (.own 1 145 1 true (List.map (fun x => [ih x]) r))), (4, vi .i64 i)] (tabO [(1, .row)]) 27 ∧ 0 ≤ i ∧ i ≤ l.length ∧ okLH r ∧ r.length = 2 * i.toNat ∧ valH r = val (l.take i.toNat)) _ ⟨_, ⟨0, ([] : List Int), rfl, rfl, ⟨by omega, by omega, okL_nilH, rfl, rfl⟩⟩, W_keep2 _ _ ⟨rfl, rfl, rfl, trivial⟩ ⟨rfl, trivial⟩ rfl⟩ ?_
 rintro mm S ⟨i, r, rfl, rfl, ⟨h0, h1, h2, h3, h4⟩⟩
 iterate 8 refine τ ?_
 refine EV_cond rfl rfl rfl (fun hb1 => ?_) (fun hb1 => ?_)
 ·try simp only [zz] at hb1
  iterate 3 refine τ ?_
  refine EV_draw (inX []) (.st 0 (.st 1 (.st 2 (.st 3 (.st 4 (.st 5 (.st 6 (.st 7 (.st 8 (.st 9 (.st 10 (.st 11 (.one 12 (.one 13 (.st 14 .done))))))))))))))) Tryz.mixed (by kernel_rfl) ?_
  refine EVq_t rfl rfl (T_move rfl) ?_
  refine EVq_t rfl rfl (T_move rfl) ?_
  refine EVq_t rfl rfl (T_move rfl) ?_
  refine EVq_t rfl rfl (T_ixL (uOk rfl) (zOk rfl) rfl rfl (by omega) (by omega) rfl) ?_
  refine EVq_t rfl rfl (T_load (gOk rfl) rfl) ?_
  refine EVq_t rfl rfl (T_conv (uOk rfl) (uOk rfl) rfl) ?_
  refine EVq_t rfl rfl (T_move rfl) ?_
  refine EVq_t rfl rfl (T_move rfl) ?_
  refine EVq_t rfl rfl (T_ixL (uOk rfl) (zOk rfl) rfl rfl (by omega) (by omega) rfl) ?_
  refine EVq_t rfl rfl (T_load (gOk rfl) rfl) ?_
  refine EVq_t rfl rfl (T_shrK rfl rfl rfl rfl) ?_
  refine EVq_t rfl rfl (T_conv (uOk rfl) (uOk rfl) rfl) ?_
  refine EVq_e rfl rfl (D_buildSlice (uOk rfl) bz145 rfl rfl rfl (by simp)) ?_
  refine EVq_e rfl rfl (D_append (uOk rfl) ap145 (by decide) rfl rfl (hE 1 rfl) (Free_in rfl) rfl rfl (by simp) (by simp; omega) (by simp; omega)) ?_
  refine EVq_t rfl rfl (T_assign rfl) ?_
  refine EVq_done ?_
  iterate 5 refine τ ?_
  refine ⟨_, ?_, ω ⟨_, ⟨i + 1, r ++ [IntKind.u32.wrap (rd l i), IntKind.u32.wrap (rd l i / 4294967296)], rfl, rfl, ?_⟩, W_keep2 _ _ ⟨rfl, (own_app rfl), rfl, trivial⟩ ⟨rfl, trivial⟩ rfl⟩⟩
  ·omega
  ·have e2 : (i + 1).toNat = i.toNat + 1 := by omega
   have ei : (i.toNat : Int) = i := by omega
   have hst := half_step (i := i.toNat) hk h3 h4
   rw [ei] at hst
   refine ⟨by omega, by omega, okL_appendH.2 ⟨h2, ?_⟩, by simp; omega, by rw [e2]; exact hst⟩
   intro y hy
   simp [u32_wrap'] at hy
   omega
 ·try simp only [zz] at hb1
  iterate 4 refine τ ?_
  refine EVo_e rfl (D_call false (ref_cut _ (by omega) (by assumption)) rfl (φd rfl φn)) ?_
  iterate 3 refine τ ?_
  refine ⟨_, ⟨rfl, rfl⟩, fit_eq rfl nofun ?_⟩
  ·have e : i.toNat = l.length := by omega
   rw [e, List.take_of_length_le (Nat.le_refl _)] at h4
   rw [h4]

theorem ref_whole (l : List Int) (hl : l.length ≤ 17592186044416) (hk : okLH l) : Fn Tryz.prog 118 [.d (encH l)] false (.one (.d (encN (limbs (valH l))))) := by
 refine Fn_of_EV Tryz.func118 rfl (by kernel_rfl) rfl rfl (fun E hE => ?_)
 iterate 10 refine τ ?_
 refine EV_weak (W_nilRow 1 3 58 1 (hE 1 rfl) rfl) ?_
 iterate 4 refine τ ?_
 refine EV_wl (fun mm S => ∃ i : Int, ∃ r : List Int, mm = ((l.length : Int) + 1 - i).toNat ∧ S = St.of [(0, V.c (.d false (encH l))), (3, V.c (.own 1 58 1 true (List.map (fun x => [iu x]) r))), (4, vi .i64 i)] (tabO [(1, .row)]) 37 ∧ 0 ≤ i ∧ i ≤ l.length + 1 ∧ okL r ∧ 2 * r.length = i.toNat ∧ val r = valH (l.take i.toNat)) _ ⟨_, ⟨0, ([] : List Int), rfl, rfl, ⟨by omega, by omega, okL_nil, rfl, rfl⟩⟩, W_keep2 _ _ ⟨rfl, rfl, rfl, trivial⟩ ⟨rfl, trivial⟩ rfl⟩ ?_
 rintro mm S ⟨i, r, rfl, rfl, ⟨h0, h1, h2, h3, h4⟩⟩
 iterate 8 refine τ ?_
 refine EV_cond rfl rfl rfl (fun hb1 => ?_) (fun hb1 => ?_)
 ·try simp only [zz] at hb1
  iterate 21 refine τ ?_
  refine EV_cond rfl rfl rfl (fun hb2 => ?_) (fun hb2 => ?_)
  ·try simp only [zz] at hb2
   iterate 8 refine τ ?_
   refine EVo_t rfl (T_shlK rfl rfl rfl rfl) ?_
   iterate 6 refine τ ?_
   refine EVo_e rfl (D_buildSlice (uOk rfl) bz58 rfl rfl rfl (by simp)) ?_
   refine EVo_e rfl (D_append (uOk rfl) ap58 (by decide) rfl rfl (hE 1 rfl) Free_no rfl rfl (by simp) (by simp; omega) (by simp; omega)) ?_
   iterate 7 refine τ ?_
   have e2 : (i + 2).toNat = i.toNat + 2 := by omega
   have ei : (i.toNat : Int) = i := by omega
   have ej : ((i.toNat + 1 : Nat) : Int) = i + 1 := by omega
   have hx := okL_rdH hk i
   have hy := okL_rdH hk (i + 1)
   refine ⟨_, ?_, ω ⟨_, ⟨i + 2, r ++ [_], rfl, rfl, ?_⟩, W_keep2 _ _ ⟨rfl, (own_app rfl), rfl, trivial⟩ ⟨rfl, trivial⟩ rfl⟩⟩
   ·omega
   ·have hst := whole_step (i := i.toNat) (x := rd l i + 4294967296 * rd l (i + 1)) hk h3 h4 (by rw [ei, ej])
    have hor : bits .or .u64 (IntKind.u64.wrap (rd l i)) (IntKind.u64.wrap (IntKind.u64.wrap (rd l (i + 1)) * ((2 ^ 32 : Nat) : Int))) = rd l i + 4294967296 * rd l (i + 1) := or_halves hx.1 hx.2 hy.1 hy.2
    rw [hor]
    refine ⟨by omega, by omega, okL_append.2 ⟨h2, ?_⟩, by (simp <;> omega), by rw [e2]; exact hst.1⟩
    intro y hy
    simp at hy
    rw [hy]; exact hst.2
  ·try simp only [zz] at hb2
   iterate 4 refine τ ?_
   refine EVo_e rfl (D_buildSlice (uOk rfl) bz58 rfl rfl rfl (by simp)) ?_
   refine EVo_e rfl (D_append (uOk rfl) ap58 (by decide) rfl rfl (hE 1 rfl) Free_no rfl rfl (by simp) (by simp; omega) (by simp; omega)) ?_
   iterate 7 refine τ ?_
   have e2 : (i + 2).toNat = i.toNat + 2 := by omega
   have ei : (i.toNat : Int) = i := by omega
   have ej : ((i.toNat + 1 : Nat) : Int) = i + 1 := by omega
   have hx := okL_rdH hk i
   have hy := okL_rdH hk (i + 1)
   refine ⟨_, ?_, ω ⟨_, ⟨i + 2, r ++ [_], rfl, rfl, ?_⟩, W_keep2 _ _ ⟨rfl, (own_app rfl), rfl, trivial⟩ ⟨rfl, trivial⟩ rfl⟩⟩
   ·omega
   ·have hz : rd l (i + 1) = 0 := by rw [← ej]; exact rd_ge (by omega)
    have hst := whole_step (i := i.toNat) hk h3 h4 (x := IntKind.u64.wrap (rd l i)) (by rw [ei, ej, hz]; simp only [u64_wrap]; omega)
    refine ⟨by omega, by omega, okL_append.2 ⟨h2, ?_⟩, by (simp <;> omega), by rw [e2]; exact hst.1⟩
    intro y hy
    simp at hy
    rw [hy]; exact hst.2
 ·try simp only [zz] at hb1
  iterate 4 refine τ ?_
  refine EVo_e rfl (D_call false (ref_Trim _ (by omega) (by assumption)) rfl (φd rfl φn)) ?_
  iterate 3 refine τ ?_
  refine ⟨_, ⟨rfl, rfl⟩, fit_eq rfl nofun ?_⟩
  ·rw [List.take_of_length_le (by omega)] at h4
   rw [h4]

end Go.Proofs.YthaiegnohkiegaaGreat.Ab
/-
 Contracts of the reference: sums.
-/
namespace Go.Proofs.YthaiegnohkiegaaGreat.Ab
set_option linter.unusedVariables false
set_option linter.unusedSimpArgs false
set_option maxRecDepth 20000
set_option maxHeartbeats 4000000
attribute [local irreducible] Tells Does EVo EV EVq EVr TellsC


theorem ref_Plus (l m : List Int) (hl : l.length ≤ 4398046511104) (hm : m.length ≤ 4398046511104) (hk : okL l) (hkm : okL m) : Fn Tryz.prog 198 [.d (encN l), .d (encN m)] false (.one (.d (encN (limbs (val l + val m))))) := by
 have hX := halves_len hk
 have hY := halves_len hkm
 have oX := okL_limbsH (val l)
 have oY := okL_limbsH (val m)
 refine Fn_of_EV Tryz.func198 rfl (by kernel_rfl) rfl rfl (fun E hE => ?_)
 iterate 7 refine τ ?_
 refine EVo_e rfl (D_call false (ref_halves _ (by omega) (by assumption)) rfl (φd rfl φn)) ?_
 iterate 5 refine τ ?_
 refine EVo_e rfl (D_call false (ref_halves _ (by omega) (by assumption)) rfl (φd rfl φn)) ?_
 iterate 7 refine τ ?_
 refine EV_weak (W_nilRow 1 7 145 1 (hE 1 rfl) rfl) ?_
 iterate 9 refine τ ?_
 refine EV_wl (fun mm S => ∃ i : Int, ∃ c : Int, ∃ r : List Int, mm = ((max (limbsH (val l)).length (limbsH (val m)).length : Nat) - i).toNat ∧ S = St.of [(5, V.c (.d false (encH (limbsH (val l))))), (6, V.c (.d false (encH (limbsH (val m))))), (7, V.c (.own 1 145 1 true (List.map (fun x => [ih x]) r))), (8, vi .u64 c), (9, vi .i64 i)] (tabO [(1, .row)]) 62 ∧ 0 ≤ i ∧ (i ≤ (limbsH (val l)).length ∨ i ≤ (limbsH (val m)).length) ∧ (0 ≤ c ∧ c ≤ 1) ∧ okLH r ∧ r.length = i.toNat ∧ valH r + 4294967296 ^ i.toNat * c.toNat = valH ((limbsH (val l)).take i.toNat) + valH ((limbsH (val m)).take i.toNat)) _ ⟨_, ⟨0, 0, ([] : List Int), rfl, rfl, ⟨by omega, by omega, by omega, okL_nilH, rfl, rfl⟩⟩, W_keep2 _ _ ⟨rfl, rfl, rfl, rfl, rfl, trivial⟩ ⟨rfl, trivial⟩ rfl⟩ ?_
 rintro mm S ⟨i, c, r, rfl, rfl, ⟨h0, h1, h2, h3, h4, h5⟩⟩
 have ei : (i.toNat : Int) = i := by omega
 have hx := okL_rdH oX i
 have hy := okL_rdH oY i
 iterate 8 refine τ ?_
 refine EVo_case 18 rfl (fun hb1 => ?_) (fun hb1 => ?_)
 ·try simp only [zz] at hb1
  iterate 6 refine τ ?_
  refine EV_cond rfl rfl rfl (fun _ => ?_) (fun h => by cases h)
  iterate 3 refine τ ?_
  refine EV_join (fun S => ∃ d : Int, S = St.of [(5, V.c (.d false (encH (limbsH (val l))))), (6, V.c (.d false (encH (limbsH (val m))))), (7, V.c (.own 1 145 1 true (List.map (fun x => [ih x]) r))), (8, vi .u64 d), (9, vi .i64 i)] (tabO [(1, .row)]) 62 ∧ d = c + rd (limbsH (val l)) i) ?_ ?_
  ·
   iterate 7 refine τ ?_
   refine EV_cond rfl rfl rfl (fun hb2 => ?_) (fun hb2 => ?_)
   ·try simp only [zz] at hb2
    iterate 10 refine τ ?_
    refine ω ⟨_, ⟨_, rfl, ?_⟩, W_keep2 _ _ ⟨rfl, rfl, rfl, rfl, rfl, trivial⟩ ⟨rfl, trivial⟩ rfl⟩
    rw [u64_in hx.1 (by omega), u64_in (by omega) (by omega)]
   ·try simp only [zz] at hb2
    refine τ ?_
    refine ω ⟨_, ⟨_, rfl, ?_⟩, W_keep2 _ _ ⟨rfl, rfl, rfl, rfl, rfl, trivial⟩ ⟨rfl, trivial⟩ rfl⟩
    have := rd_ge (l := (limbsH (val l))) (n := i.toNat) (by omega); rw [ei] at this; omega
  ·rintro S ⟨d, rfl, hd⟩
   refine EV_join (fun S => ∃ e : Int, S = St.of [(5, V.c (.d false (encH (limbsH (val l))))), (6, V.c (.d false (encH (limbsH (val m))))), (7, V.c (.own 1 145 1 true (List.map (fun x => [ih x]) r))), (8, vi .u64 e), (9, vi .i64 i)] (tabO [(1, .row)]) 62 ∧ e = c + rd (limbsH (val l)) i + rd (limbsH (val m)) i) ?_ ?_
   ·
    iterate 7 refine τ ?_
    refine EV_cond rfl rfl rfl (fun hb3 => ?_) (fun hb3 => ?_)
    ·try simp only [zz] at hb3
     iterate 10 refine τ ?_
     refine ω ⟨_, ⟨_, rfl, ?_⟩, W_keep2 _ _ ⟨rfl, rfl, rfl, rfl, rfl, trivial⟩ ⟨rfl, trivial⟩ rfl⟩
     rw [u64_in hy.1 (by omega), u64_in (by omega) (by omega)]; omega
    ·try simp only [zz] at hb3
     refine τ ?_
     refine ω ⟨_, ⟨_, rfl, ?_⟩, W_keep2 _ _ ⟨rfl, rfl, rfl, rfl, rfl, trivial⟩ ⟨rfl, trivial⟩ rfl⟩
     have := rd_ge (l := (limbsH (val m))) (n := i.toNat) (by omega); rw [ei] at this; omega
   ·rintro S ⟨e, rfl, he⟩
    iterate 5 refine τ ?_
    refine EVo_e rfl (D_buildSlice (uOk rfl) bz145 rfl rfl rfl (by simp)) ?_
    refine EVo_e rfl (D_append (uOk rfl) ap145 (by decide) rfl rfl (hE 1 rfl) Free_no rfl rfl (by simp) (by simp; omega) (by simp; omega)) ?_
    iterate 4 refine τ ?_
    refine EVo_t rfl (T_shrK rfl rfl rfl rfl) ?_
    iterate 7 refine τ ?_
    refine ⟨_, ?_, ω ⟨_, ⟨i + 1, _, r ++ [_], rfl, rfl, ?_⟩, W_keep2 _ _ ⟨rfl, rfl, (own_app rfl), rfl, rfl, trivial⟩ ⟨rfl, trivial⟩ rfl⟩⟩
    ·omega
    ·have e2 : (i + 1).toNat = i.toNat + 1 := by omega
     have hst := plus_step (i := i.toNat) (e := e) oX oY h4 h2.1 h2.2 (by rw [ei]; exact he) h5
     refine ⟨by omega, by omega, ⟨hst.2.1, hst.2.2.1⟩, okL_appendH.2 ⟨h3, ?_⟩, by (simp <;> omega), by rw [e2]; exact hst.1⟩
     intro y hy
     simp at hy
     rw [hy]; exact hst.2.2.2
 ·try simp only [zz] at hb1
  iterate 6 refine τ ?_
  refine EV_cond rfl rfl rfl (fun hb4 => ?_) (fun hb4 => ?_)
  ·try simp only [zz] at hb4
   iterate 3 refine τ ?_
   refine EV_join (fun S => ∃ d : Int, S = St.of [(5, V.c (.d false (encH (limbsH (val l))))), (6, V.c (.d false (encH (limbsH (val m))))), (7, V.c (.own 1 145 1 true (List.map (fun x => [ih x]) r))), (8, vi .u64 d), (9, vi .i64 i)] (tabO [(1, .row)]) 62 ∧ d = c + rd (limbsH (val l)) i) ?_ ?_
   ·
    iterate 7 refine τ ?_
    refine EV_cond rfl rfl rfl (fun hb5 => ?_) (fun hb5 => ?_)
    ·try simp only [zz] at hb5
     iterate 10 refine τ ?_
     refine ω ⟨_, ⟨_, rfl, ?_⟩, W_keep2 _ _ ⟨rfl, rfl, rfl, rfl, rfl, trivial⟩ ⟨rfl, trivial⟩ rfl⟩
     rw [u64_in hx.1 (by omega), u64_in (by omega) (by omega)]
    ·try simp only [zz] at hb5
     refine τ ?_
     refine ω ⟨_, ⟨_, rfl, ?_⟩, W_keep2 _ _ ⟨rfl, rfl, rfl, rfl, rfl, trivial⟩ ⟨rfl, trivial⟩ rfl⟩
     have := rd_ge (l := (limbsH (val l))) (n := i.toNat) (by omega); rw [ei] at this; omega
   ·rintro S ⟨d, rfl, hd⟩
    refine EV_join (fun S => ∃ e : Int, S = St.of [(5, V.c (.d false (encH (limbsH (val l))))), (6, V.c (.d false (encH (limbsH (val m))))), (7, V.c (.own 1 145 1 true (List.map (fun x => [ih x]) r))), (8, vi .u64 e), (9, vi .i64 i)] (tabO [(1, .row)]) 62 ∧ e = c + rd (limbsH (val l)) i + rd (limbsH (val m)) i) ?_ ?_
    ·
     iterate 7 refine τ ?_
     refine EV_cond rfl rfl rfl (fun hb6 => ?_) (fun hb6 => ?_)
     ·try simp only [zz] at hb6
      iterate 10 refine τ ?_
      refine ω ⟨_, ⟨_, rfl, ?_⟩, W_keep2 _ _ ⟨rfl, rfl, rfl, rfl, rfl, trivial⟩ ⟨rfl, trivial⟩ rfl⟩
      rw [u64_in hy.1 (by omega), u64_in (by omega) (by omega)]; omega
     ·try simp only [zz] at hb6
      refine τ ?_
      refine ω ⟨_, ⟨_, rfl, ?_⟩, W_keep2 _ _ ⟨rfl, rfl, rfl, rfl, rfl, trivial⟩ ⟨rfl, trivial⟩ rfl⟩
      have := rd_ge (l := (limbsH (val m))) (n := i.toNat) (by omega); rw [ei] at this; omega
    ·rintro S ⟨e, rfl, he⟩
     iterate 5 refine τ ?_
     refine EVo_e rfl (D_buildSlice (uOk rfl) bz145 rfl rfl rfl (by simp)) ?_
     refine EVo_e rfl (D_append (uOk rfl) ap145 (by decide) rfl rfl (hE 1 rfl) Free_no rfl rfl (by simp) (by simp; omega) (by simp; omega)) ?_
     iterate 4 refine τ ?_
     refine EVo_t rfl (T_shrK rfl rfl rfl rfl) ?_
     iterate 7 refine τ ?_
     refine ⟨_, ?_, ω ⟨_, ⟨i + 1, _, r ++ [_], rfl, rfl, ?_⟩, W_keep2 _ _ ⟨rfl, rfl, (own_app rfl), rfl, rfl, trivial⟩ ⟨rfl, trivial⟩ rfl⟩⟩
     ·omega
     ·have e2 : (i + 1).toNat = i.toNat + 1 := by omega
      have hst := plus_step (i := i.toNat) (e := e) oX oY h4 h2.1 h2.2 (by rw [ei]; exact he) h5
      refine ⟨by omega, by omega, ⟨hst.2.1, hst.2.2.1⟩, okL_appendH.2 ⟨h3, ?_⟩, by (simp <;> omega), by rw [e2]; exact hst.1⟩
      intro y hy
      simp at hy
      rw [hy]; exact hst.2.2.2
  ·try simp only [zz] at hb4
   iterate 6 refine τ ?_
   refine EVo_e rfl (D_buildSlice (uOk rfl) bz145 rfl rfl rfl (by simp)) ?_
   refine EVo_e rfl (D_append (uOk rfl) ap145 (by decide) rfl rfl (hE 1 rfl) Free_no rfl rfl (by simp) (by simp; omega) (by simp; omega)) ?_
   refine EVo_weak (W_keep2 [(59, V.c (.own 1 145 1 true (List.map (fun x => [ih x]) (r ++ [_]))))] [] ⟨own_app rfl, trivial⟩ trivial rfl) ?_
   refine EVo_e rfl (D_call false (ref_cut _ (by simp; omega) (okL_appendH.2 ⟨h3, by intro y hy; simp at hy; rw [hy, u32_wrap']; omega⟩)) rfl (φd rfl φn)) ?_
   refine EVo_e rfl (D_call false (ref_whole _ (Nat.le_trans (limbs_len_leH (val_ltH (okL_appendH.2 ⟨h3, by intro y hy; simp at hy; rw [hy, u32_wrap']; omega⟩))) (by simp; omega)) (okL_limbsH _)) rfl (φd rfl φn)) ?_
   iterate 3 refine τ ?_
   have hcc : IntKind.u32.wrap c = c := by rw [u32_wrap']; omega
   refine ⟨_, ⟨rfl, rfl⟩, fit_eq rfl nofun ?_⟩
   ·rw [val_limbsH, val_appendH, hcc, h4]
    rw [List.take_of_length_le (by omega), List.take_of_length_le (by omega), val_limbsH, val_limbsH] at h5
    simp only [valH]
    rw [← h5]; simp

end Go.Proofs.YthaiegnohkiegaaGreat.Ab
/-
 Contracts of the reference: differences.
-/
namespace Go.Proofs.YthaiegnohkiegaaGreat.Ab
set_option linter.unusedVariables false
set_option linter.unusedSimpArgs false
set_option maxRecDepth 20000
set_option maxHeartbeats 4000000
attribute [local irreducible] Tells Does EVo EV EVq EVr TellsC


theorem ref_Less (l m : List Int) (hl : l.length ≤ 4398046511104) (hm : m.length ≤ 4398046511104) (hk : okL l) (hkm : okL m) (hle : val m ≤ val l) : Fn Tryz.prog 149 [.d (encN l), .d (encN m)] false (.one (.d (encN (limbs (val l - val m))))) := by
 have hX := halves_len hk
 have hY := halves_len hkm
 have oX := okL_limbsH (val l)
 have oY := okL_limbsH (val m)
 refine Fn_of_EV Tryz.func149 rfl (by kernel_rfl) rfl rfl (fun E hE => ?_)
 iterate 7 refine τ ?_
 refine EVo_e rfl (D_call false (ref_halves _ (by omega) (by assumption)) rfl (φd rfl φn)) ?_
 iterate 5 refine τ ?_
 refine EVo_e rfl (D_call false (ref_halves _ (by omega) (by assumption)) rfl (φd rfl φn)) ?_
 iterate 7 refine τ ?_
 refine EV_weak (W_nilRow 1 7 145 1 (hE 1 rfl) rfl) ?_
 iterate 9 refine τ ?_
 refine EV_wl (fun mm S => ∃ i : Int, ∃ c : Int, ∃ r : List Int, mm = (((limbsH (val l)).length : Int) - i).toNat ∧ S = St.of [(5, V.c (.d false (encH (limbsH (val l))))), (6, V.c (.d false (encH (limbsH (val m))))), (7, V.c (.own 1 145 1 true (List.map (fun x => [ih x]) r))), (8, vi .i64 c), (9, vi .i64 i)] (tabO [(1, .row)]) 49 ∧ 0 ≤ i ∧ i ≤ (limbsH (val l)).length ∧ (-1 ≤ c ∧ c ≤ 0) ∧ okLH r ∧ r.length = i.toNat ∧ valH r + valH ((limbsH (val m)).take i.toNat) = valH ((limbsH (val l)).take i.toNat) + 4294967296 ^ i.toNat * (-c).toNat) _ ⟨_, ⟨0, 0, ([] : List Int), rfl, rfl, ⟨by omega, by omega, by omega, okL_nilH, rfl, rfl⟩⟩, W_keep2 _ _ ⟨rfl, rfl, rfl, rfl, rfl, trivial⟩ ⟨rfl, trivial⟩ rfl⟩ ?_
 rintro mm S ⟨i, c, r, rfl, rfl, ⟨h0, h1, h2, h3, h4, h5⟩⟩
 have ei : (i.toNat : Int) = i := by omega
 have hx := okL_rdH oX i
 have hy := okL_rdH oY i
 iterate 8 refine τ ?_
 refine EV_cond rfl rfl rfl (fun hb1 => ?_) (fun hb1 => ?_)
 ·try simp only [zz] at hb1
  iterate 11 refine τ ?_
  refine EVo_t rfl (T_binI rfl rfl rfl (by rw [wrap_in (by omega) (by omega)]; omega) (by rw [wrap_in (by omega) (by omega)]; omega)) ?_
  iterate 2 refine τ ?_
  refine EV_join (fun S => ∃ e : Int, S = St.of [(5, V.c (.d false (encH (limbsH (val l))))), (6, V.c (.d false (encH (limbsH (val m))))), (7, V.c (.own 1 145 1 true (List.map (fun x => [ih x]) r))), (8, vi .i64 e), (9, vi .i64 i)] (tabO [(1, .row)]) 49 ∧ e = c + rd (limbsH (val l)) i - rd (limbsH (val m)) i) ?_ ?_
  ·
   iterate 7 refine τ ?_
   refine EV_cond rfl rfl rfl (fun hb2 => ?_) (fun hb2 => ?_)
   ·try simp only [zz] at hb2
    iterate 7 refine τ ?_
    refine EVo_t rfl (T_binI rfl rfl rfl (by rw [wrap_in (by omega) (by omega), wrap_in (by omega) (by omega)]; omega) (by rw [wrap_in (by omega) (by omega), wrap_in (by omega) (by omega)]; omega)) ?_
    iterate 2 refine τ ?_
    refine ω ⟨_, ⟨_, rfl, ?_⟩, W_keep2 _ _ ⟨rfl, rfl, rfl, rfl, rfl, trivial⟩ ⟨rfl, trivial⟩ rfl⟩
    rw [wrap_in (by omega) (by omega), wrap_in (by omega) (by omega)]
   ·try simp only [zz] at hb2
    refine τ ?_
    refine ω ⟨_, ⟨_, rfl, ?_⟩, W_keep2 _ _ ⟨rfl, rfl, rfl, rfl, rfl, trivial⟩ ⟨rfl, trivial⟩ rfl⟩
    have hz := rd_ge (l := (limbsH (val m))) (n := i.toNat) (by omega)
    rw [ei] at hz
    rw [wrap_in (by omega) (by omega)]; omega
  ·rintro S ⟨e, rfl, he⟩
   iterate 6 refine τ ?_
   refine EVo_e rfl (D_buildSlice (uOk rfl) bz145 rfl rfl rfl (by simp)) ?_
   refine EVo_e rfl (D_append (uOk rfl) ap145 (by decide) rfl rfl (hE 1 rfl) Free_no rfl rfl (by simp) (by simp; omega) (by simp; omega)) ?_
   iterate 4 refine τ ?_
   refine EVo_t rfl (T_shrK rfl rfl rfl rfl) ?_
   iterate 7 refine τ ?_
   refine ⟨_, ?_, ω ⟨_, ⟨i + 1, _, r ++ [_], rfl, rfl, ?_⟩, W_keep2 _ _ ⟨rfl, rfl, (own_app rfl), rfl, rfl, trivial⟩ ⟨rfl, trivial⟩ rfl⟩⟩
   ·omega
   ·have e2 : (i + 1).toNat = i.toNat + 1 := by omega
    have hst := less_step (i := i.toNat) (e := e) oX oY h4 h2.1 h2.2 (by rw [ei]; exact he) h5
    refine ⟨by omega, by omega, ⟨hst.2.1, hst.2.2.1⟩, okL_appendH.2 ⟨h3, ?_⟩, by (simp <;> omega), by rw [e2]; exact hst.1⟩
    intro y hy
    simp at hy
    rw [hy]; exact hst.2.2.2
 ·try simp only [zz] at hb1
  iterate 4 refine τ ?_
  refine EVo_e rfl (D_call false (ref_cut _ (by omega) (by assumption)) rfl (φd rfl φn)) ?_
  refine EVo_e rfl (D_call false (ref_whole _ (Nat.le_trans (limbs_len_leH (val_ltH h3)) (by omega)) (okL_limbsH _)) rfl (φd rfl φn)) ?_
  iterate 3 refine τ ?_
  have e2 : i.toNat = (limbsH (val l)).length := by omega
  have hYX : (limbsH (val m)).length ≤ (limbsH (val l)).length := limbs_len_leH (Nat.lt_of_le_of_lt hle (by have := val_ltH oX; rwa [val_limbsH] at this))
  have hlt := val_ltH h3
  rw [h4, e2] at hlt
  rw [e2, List.take_of_length_le hYX, List.take_of_length_le (Nat.le_refl (limbsH (val l)).length), val_limbsH, val_limbsH] at h5
  have hc : (-c).toNat = 0 ∨ (-c).toNat = 1 := by omega
  have hv : valH r = val l - val m := by
   rcases hc with hc | hc <;> rw [hc] at h5 <;> omega
  refine ⟨_, ⟨rfl, rfl⟩, fit_eq rfl nofun ?_⟩
  ·rw [val_limbsH, hv]

end Go.Proofs.YthaiegnohkiegaaGreat.Ab
/-
 Halves of limbs: products, short division: plain arithmetic (the laws of limbs, at half the base).
-/
namespace Go.Proofs.YthaiegnohkiegaaGreat.Ab
set_option linter.unusedVariables false
set_option linter.unusedSimpArgs false

theorem val_take_zeroH {l : List Int} {n : Nat} (hz : ∀ i : Nat, n ≤ i → i < l.length → rd l i = 0) : valH l = valH (l.take n) := by
 have : valH l = valH (l.take n) + 4294967296 ^ (l.take n).length * valH (l.drop n) := by rw [← val_appendH, List.take_append_drop]
 rw [this, val_zeroH (l := l.drop n)]
 ·simp
 ·intro x hx
  obtain ⟨i, hi, rfl⟩ := List.getElem_of_mem hx
  have hi' : n + i < l.length := by simp at hi; omega
  have := hz (n + i) (by omega) hi'
  rw [List.getElem_drop]
  have e : rd l (((n + i : Nat)) : Int) = l[n + i] := by unfold rd; rw [Int.toNat_natCast]; simp [hi']
  rw [← e]; exact this
theorem rd_dropH {c l : List Int} {i j : Nat} (h : c.drop i = l.drop i) (hj : i ≤ j) : rd c j = rd l j := by
 have := congrArg (·[j - i]?) h
 simp only [List.getElem?_drop, show i + (j - i) = j by omega] at this
 simp [rd, List.getD_eq_getElem?_getD, this]
theorem mul_stepH {m c c2 : List Int} {i k : Nat} {x cy s cy' : Int} (hc : i + k < c2.length) (hck : okLH c) (hm : okLH m) (hx : 0 ≤ x) (hcy : 0 ≤ cy) (hs : 0 ≤ s) (hcy' : 0 ≤ cy')
  (inv : valH (c2.take (i + k)) + 4294967296 ^ (i + k) * cy.toNat = valH (c.take (i + k)) + 4294967296 ^ i * (x.toNat * valH (m.take k)))
  (hF : x * rd m k + cy + rd c ((i + k : Nat) : Int) = s + 4294967296 * cy') :
  valH ((c2.set (i + k) s).take (i + k + 1)) + 4294967296 ^ (i + k + 1) * cy'.toNat = valH (c.take (i + k + 1)) + 4294967296 ^ i * (x.toNat * valH (m.take (k + 1))) := by
 rw [val_set_takeH hc, val_take_succ'H, val_take_succ'H]
 have a1 := (okL_rdH hm k).1
 have a2 := (okL_rdH hck ((i + k : Nat) : Int)).1
 generalize rd m k = y at *
 generalize rd c ((i + k : Nat) : Int) = r at *
 obtain ⟨x, rfl⟩ := Int.eq_ofNat_of_zero_le hx
 obtain ⟨y, rfl⟩ := Int.eq_ofNat_of_zero_le a1
 obtain ⟨cy, rfl⟩ := Int.eq_ofNat_of_zero_le hcy
 obtain ⟨r, rfl⟩ := Int.eq_ofNat_of_zero_le a2
 obtain ⟨s, rfl⟩ := Int.eq_ofNat_of_zero_le hs
 obtain ⟨cy', rfl⟩ := Int.eq_ofNat_of_zero_le hcy'
 simp only [Int.toNat_natCast] at *
 have e : x * y + cy + r = s + 4294967296 * cy' := by
  apply Int.ofNat_inj.1
  rw [Int.natCast_add, Int.natCast_add, Int.natCast_mul, Int.natCast_add, Int.natCast_mul]
  exact hF
 have e2 := congrArg (4294967296 ^ (i + k) * ·) e
 simp only [Nat.mul_add] at e2
 have e3 : 4294967296 ^ i * (x * (valH (m.take k) + 4294967296 ^ k * y)) = 4294967296 ^ i * (x * valH (m.take k)) + 4294967296 ^ (i + k) * (x * y) := by
  rw [Nat.mul_add, Nat.mul_add, Nat.pow_add, Nat.mul_left_comm x, ← Nat.mul_assoc (4294967296 ^ i) (4294967296 ^ k)]
 rw [e3, Nat.pow_succ, Nat.mul_assoc]
 omega
theorem mul_endH {l m c c2 : List Int} {i : Nat} {cy : Int} (hl : okLH l) (hi : i < l.length) (hlen : c.length = l.length + m.length) (hz : ∀ j : Nat, i + m.length ≤ j → j < c.length → rd c j = 0)
  (hlen2 : c2.length = c.length) (hd : c2.drop (i + m.length) = c.drop (i + m.length)) (hcy : 0 ≤ cy)
  (g5 : valH (c2.take (i + m.length)) + 4294967296 ^ (i + m.length) * cy.toNat = valH (c.take (i + m.length)) + 4294967296 ^ i * ((rd l i).toNat * valH m)) (h5 : valH c = valH (l.take i) * valH m) :
  valH (c2.set (i + m.length) cy) = valH (l.take (i + 1)) * valH m ∧ ∀ j : Nat, i + 1 + m.length ≤ j → j < c.length → rd (c2.set (i + m.length) cy) j = 0 := by
 have h2 : ∀ j : Nat, i + 1 + m.length ≤ j → j < c.length → rd (c2.set (i + m.length) cy) j = 0 := fun j h1 h2 => by
  rw [rd_set_neH (by omega), rd_dropH hd (by omega)]
  exact hz j (by omega) h2
 refine ⟨?_, h2⟩
 rw [val_take_zeroH (n := i + m.length + 1) (l := c2.set _ _) (fun j h1 h3 => h2 j (by omega) (by simpa [hlen2] using h3)), val_set_takeH (by omega), g5, val_take_succ'H, Nat.add_mul, ← h5, val_take_zeroH (l := c) hz, Nat.mul_assoc]


theorem dw_stepH {l c : List Int} {i : Nat} {b q rest rest' : Int} (hi : i < l.length) (hc : c.length = l.length) (hk : okLH l) (hq : 0 ≤ q) (inv : (valH (l.drop (i + 1)) : Int) = b * (valH (c.drop (i + 1)) : Int) + rest)
  (hF : q * b + rest' = rest * 4294967296 + rd l i) : (valH (l.drop i) : Int) = b * (valH ((c.set i q).drop i) : Int) + rest' := by
 rw [drop_rdH hi, set_drop_self (by omega)]
 simp only [valH]
 have h1 := (okL_rdH hk i).1
 have e1 : (((rd l i).toNat + 4294967296 * valH (l.drop (i + 1)) : Nat) : Int) = rd l i + 4294967296 * (valH (l.drop (i + 1)) : Int) := by omega
 have e2 : ((q.toNat + 4294967296 * valH (c.drop (i + 1)) : Nat) : Int) = q + 4294967296 * (valH (c.drop (i + 1)) : Int) := by omega
 rw [e1, e2, inv, Int.mul_add b, Int.mul_left_comm b, Int.mul_comm b q]
 omega
theorem div_bdH {hi lo b : Int} (h0 : 0 ≤ hi) (h1 : hi < b) (h2 : 0 ≤ lo) (h3 : lo < 4294967296) : 0 ≤ (hi * 4294967296 + lo) / b ∧ (hi * 4294967296 + lo) / b < 4294967296 ∧
  0 ≤ (hi * 4294967296 + lo) % b ∧ (hi * 4294967296 + lo) % b < b ∧ (hi * 4294967296 + lo) / b * b + (hi * 4294967296 + lo) % b = hi * 4294967296 + lo := by
 refine ⟨Int.ediv_nonneg (by omega) (by omega), div_lt (by omega) (by omega), Int.emod_nonneg _ (by omega), Int.emod_lt_of_pos _ (by omega), ?_⟩
 have := Int.mul_ediv_add_emod (hi * 4294967296 + lo) b
 rw [Int.mul_comm b] at this
 exact this
theorem dw_endH {L C : Nat} {b rest : Int} (h : (L : Int) = b * (C : Int) + rest) (h0 : 0 ≤ rest) (h1 : rest < b) : C = L / b.toNat ∧ rest = ((L % b.toNat : Nat) : Int) := by
 obtain ⟨B, rfl⟩ := Int.eq_ofNat_of_zero_le (show 0 ≤ b by omega)
 obtain ⟨r, rfl⟩ := Int.eq_ofNat_of_zero_le h0
 simp only [Int.toNat_natCast]
 have h2 : L = B * C + r := by
  have : ((B * C + r : Nat) : Int) = (B : Int) * C + r := by rw [Int.natCast_add, Int.natCast_mul]
  omega
 subst h2
 have hr : r < B := by omega
 rw [Nat.mul_add_div (by omega), Nat.mul_add_mod, Nat.div_eq_of_lt hr, Nat.mod_eq_of_lt hr]
 exact ⟨by omega, rfl⟩

end Go.Proofs.YthaiegnohkiegaaGreat.Ab
/-
 Contracts of the reference: products, short division, length.
-/
namespace Go.Proofs.YthaiegnohkiegaaGreat.Ab
set_option linter.unusedVariables false
set_option linter.unusedSimpArgs false
set_option maxRecDepth 20000
set_option maxHeartbeats 4000000
attribute [local irreducible] Tells Does EVo EV EVq EVr TellsC


theorem ref_Times (l m : List Int) (hl : l.length ≤ 4398046511104) (hm : m.length ≤ 4398046511104) (hk : okL l) (hkm : okL m) : Fn Tryz.prog 65 [.d (encN l), .d (encN m)] false (.one (.d (encN (limbs (val l * val m))))) := by
 have hX := halves_len hk
 have hY := halves_len hkm
 have oX := okL_limbsH (val l)
 have oY := okL_limbsH (val m)
 refine Fn_of_EV Tryz.func65 rfl (by kernel_rfl) rfl rfl (fun E hE => ?_)
 iterate 7 refine τ ?_
 refine EVo_e rfl (D_call false (ref_halves _ (by omega) (by assumption)) rfl (φd rfl φn)) ?_
 iterate 5 refine τ ?_
 refine EVo_e rfl (D_call false (ref_halves _ (by omega) (by assumption)) rfl (φd rfl φn)) ?_
 iterate 9 refine τ ?_
 refine EVo_e rfl (D_makeL 1 (hE 1 rfl) Free_no (uOk rfl) ap145 rfl (by omega) (by omega) (by omega)) ?_
 iterate 8 refine τ ?_
 refine EV_wl (fun mm S => ∃ i : Int, ∃ c : List Int, mm = (((limbsH (val l)).length : Int) - i).toNat ∧ S = St.of [(5, V.c (.d false (encH (limbsH (val l))))), (6, V.c (.d false (encH (limbsH (val m))))), (7, V.c (.msl 1 0 (((limbsH (val l)).length : Int) + (limbsH (val m)).length).toNat (((limbsH (val l)).length : Int) + (limbsH (val m)).length).toNat)), (8, vi .i64 i)] (tabO [(1, .box (List.map (ci .u32) c))]) 74 ∧ 0 ≤ i ∧ i ≤ (limbsH (val l)).length ∧ c.length = (limbsH (val l)).length + (limbsH (val m)).length ∧ okLH c ∧ (∀ j : Nat, i + (limbsH (val m)).length ≤ j → j < c.length → rd c j = 0) ∧ valH c = valH ((limbsH (val l)).take i.toNat) * valH (limbsH (val m))) _ ⟨_, ⟨_, _, rfl, rfl, ⟨by omega, by omega, by simp; omega, okL_repH _, fun j _ _ => rd_rep _ _, by rw [val_repH]; simp [valH]⟩⟩, W_keep2 _ _ ⟨rfl, rfl, rfl, rfl, trivial⟩ ⟨rfl, trivial⟩ rfl⟩ ?_
 rintro mm S ⟨i, c, rfl, rfl, ⟨h0, h1, h2, h3, h4, h5⟩⟩
 iterate 8 refine τ ?_
 refine EV_cond rfl rfl rfl (fun hb1 => ?_) (fun hb1 => ?_)
 ·try simp only [zz] at hb1
  iterate 13 refine τ ?_
  refine EV_wl (fun mm S => ∃ k : Int, ∃ cy : Int, ∃ c2 : List Int, mm = (((limbsH (val m)).length : Int) - k).toNat ∧ S = St.of [(5, V.c (.d false (encH (limbsH (val l))))), (6, V.c (.d false (encH (limbsH (val m))))), (7, V.c (.msl 1 0 (((limbsH (val l)).length : Int) + (limbsH (val m)).length).toNat (((limbsH (val l)).length : Int) + (limbsH (val m)).length).toNat)), (8, vi .i64 i), (9, vi .u64 cy), (10, vi .i64 k)] (tabO [(1, .box (List.map (ci .u32) c2))]) 74 ∧ 0 ≤ k ∧ k ≤ (limbsH (val m)).length ∧ (0 ≤ cy ∧ cy < 4294967296) ∧ c2.length = c.length ∧ okLH c2 ∧ c2.drop (i.toNat + k.toNat) = c.drop (i.toNat + k.toNat) ∧ valH (c2.take (i.toNat + k.toNat)) + 4294967296 ^ (i.toNat + k.toNat) * cy.toNat = valH (c.take (i.toNat + k.toNat)) + 4294967296 ^ i.toNat * ((rd (limbsH (val l)) i).toNat * valH ((limbsH (val m)).take k.toNat))) _ ⟨_, ⟨_, _, _, rfl, rfl, ⟨by omega, by omega, by omega, rfl, h3, rfl, by simp [valH]⟩⟩, W_keep2 _ _ ⟨rfl, rfl, rfl, rfl, rfl, rfl, trivial⟩ ⟨rfl, trivial⟩ rfl⟩ ?_
  rintro mm S ⟨k, cy, c2, rfl, rfl, ⟨g0, g1, g2, g3, g4, g6, g5⟩⟩
  iterate 8 refine τ ?_
  refine EV_cond rfl rfl rfl (fun hb2 => ?_) (fun hb2 => ?_)
  ·try simp only [zz] at hb2
   iterate 4 refine τ ?_
   refine EV_draw (inX [1]) (.st 0 (.st 1 (.st 2 (.st 3 (.st 4 (.st 5 (.st 6 (.st 7 (.st 8 (.st 9 (.st 10 (.st 11 (.st 12 (.st 13 (.st 14 (.st 15 (.st 16 (.st 17 (.st 18 (.st 19 (.st 20 (.st 21 .done)))))))))))))))))))))) Tryz.mixed (by kernel_rfl) ?_
   refine EVq_t rfl rfl (T_move rfl) ?_
   refine EVq_t rfl rfl (T_move rfl) ?_
   refine EVq_t rfl rfl (T_move rfl) ?_
   refine EVq_t rfl rfl (T_move rfl) ?_
   refine EVq_t rfl rfl (T_binI rfl rfl rfl (by omega) (by omega)) ?_
   refine EVq_t rfl rfl (T_indexAddrM (uOk rfl) (zOk rfl) rfl rfl (by omega) (by omega)) ?_
   refine EVq_t rfl rfl (T_loadL (gOk rfl) rfl rfl (by omega) rfl rfl) ?_
   refine EVq_t rfl rfl (T_conv (uOk rfl) (uOk rfl) rfl) ?_
   refine EVq_t rfl rfl (T_bin rfl rfl rfl) ?_
   refine EVq_t rfl rfl (T_move rfl) ?_
   refine EVq_t rfl rfl (T_move rfl) ?_
   refine EVq_t rfl rfl (T_ixL (uOk rfl) (zOk rfl) rfl rfl (by omega) (by omega) rfl) ?_
   refine EVq_t rfl rfl (T_load (gOk rfl) rfl) ?_
   refine EVq_t rfl rfl (T_conv (uOk rfl) (uOk rfl) rfl) ?_
   refine EVq_t rfl rfl (T_move rfl) ?_
   refine EVq_t rfl rfl (T_move rfl) ?_
   refine EVq_t rfl rfl (T_ixL (uOk rfl) (zOk rfl) rfl rfl (by omega) (by omega) rfl) ?_
   refine EVq_t rfl rfl (T_load (gOk rfl) rfl) ?_
   refine EVq_t rfl rfl (T_conv (uOk rfl) (uOk rfl) rfl) ?_
   refine EVq_t rfl rfl (T_bin rfl rfl rfl) ?_
   refine EVq_t rfl rfl (T_bin rfl rfl rfl) ?_
   refine EVq_t rfl rfl (T_assign rfl) ?_
   refine EVq_done ?_
   iterate 9 refine τ ?_
   refine EVo_e rfl (D_storeL rfl Free_no rfl rfl (zOk rfl) (by omega)) ?_
   iterate 3 refine τ ?_
   refine EVo_t rfl (T_shrK rfl rfl rfl rfl) ?_
   iterate 7 refine τ ?_
   have e0 : 0 + (i + k).toNat * 1 = i.toNat + k.toNat := by omega
   have hci := getD_drop g6
   have hx := okL_rdH oX i
   have hy := okL_rdH oY k
   have hr := okL_rdH h3 ((i.toNat + k.toNat : Nat) : Int)
   have hp := mul_bd (n := 4294967295) (m := 4294967295) hx.1 hy.1 (by omega) (by omega)
   have e1 : (k + 1).toNat = k.toNat + 1 := by omega
   have ek : ((k.toNat : Nat) : Int) = k := by omega
   have ewx : IntKind.u64.wrap (rd (limbsH (val l)) i) = rd (limbsH (val l)) i := u64_in hx.1 (by omega)
   have ewy : IntKind.u64.wrap (rd (limbsH (val m)) k) = rd (limbsH (val m)) k := u64_in hy.1 (by omega)
   simp only [e0, hci, ewx, ewy, u64_wrap, u32_wrap'] at *
   refine ⟨_, ?_, ω ⟨_, ⟨_, _, _, rfl, rfl, ?_⟩, W_keep2 _ _ ⟨rfl, rfl, rfl, rfl, rfl, rfl, trivial⟩ ⟨rfl, trivial⟩ rfl⟩⟩
   ·omega
   ·refine ⟨by omega, by omega, by omega, by simpa using g3, okL_setH g4 _ (by omega), ?_, ?_⟩
    ·rw [e1, ← Nat.add_assoc]; exact set_drop g6
    rw [e1, ← Nat.add_assoc]
    refine mul_stepH (by omega) h3 oY hx.1 g2.1 (by omega) (by omega) g5 ?_
    rw [ek]
    omega
  ·try simp only [zz] at hb2
   iterate 10 refine τ ?_
   refine EVo_e rfl (D_storeL rfl Free_no rfl rfl (zOk rfl) (by omega)) ?_
   iterate 6 refine τ ?_
   have e1 : (i + 1).toNat = i.toNat + 1 := by omega
   have ek : k.toNat = (limbsH (val m)).length := by omega
   have e0 : 0 + (i + ((limbsH (val m)).length : Int)).toNat * 1 = i.toNat + (limbsH (val m)).length := by omega
   have ecy : IntKind.u32.wrap cy = cy := by rw [u32_wrap']; omega
   simp only [e0, ecy]
   rw [ek] at g5 g6
   rw [List.take_of_length_le (Nat.le_refl (limbsH (val m)).length)] at g5
   have hend := mul_endH (i := i.toNat) oX (by omega) h2 (fun j q1 q2 => h4 j (by omega) q2) g3 g6 g2.1 (by rw [Int.toNat_of_nonneg h0]; exact g5) h5
   refine ⟨_, ?_, ω ⟨_, ⟨_, _, rfl, rfl, ?_⟩, W_keep2 _ _ ⟨rfl, rfl, rfl, rfl, trivial⟩ ⟨rfl, trivial⟩ rfl⟩⟩
   ·omega
   ·refine ⟨by omega, by omega, by simp; omega, okL_setH g4 _ g2, fun j q1 q2 => hend.2 j (by omega) (by simpa [g3] using q2), ?_⟩
    rw [e1]; exact hend.1
 ·try simp only [zz] at hb1
  iterate 4 refine τ ?_
  refine EVo_weak (W_freezeL 71 1 _ _ _ (hE 1 rfl) rfl rfl rfl (by omega) (by omega)) ?_
  refine EVo_e rfl (D_call false (ref_cut _ (by simp; omega) (okL_takeH (okL_dropH h3 _) _)) rfl (φd rfl φn)) ?_
  refine EVo_e rfl (D_call false (ref_whole _ (Nat.le_trans (limbs_len_leH (val_ltH (okL_takeH (okL_dropH h3 0) (((limbsH (val l)).length : Int) + (limbsH (val m)).length).toNat))) (by simp; omega)) (okL_limbsH _)) rfl (φd rfl φn)) ?_
  iterate 3 refine τ ?_
  refine ⟨_, ⟨rfl, rfl⟩, fit_eq rfl nofun ?_⟩
  ·have e2 : i.toNat = (limbsH (val l)).length := by omega
   rw [e2, List.take_of_length_le (Nat.le_refl _), val_limbsH, val_limbsH] at h5
   rw [val_limbsH, List.drop_zero, List.take_of_length_le (by omega), h5]

theorem ref_short (l : List Int) (d : Int) (hl : l.length ≤ 17592186044416) (hk : okLH l) (hd0 : 0 < d) (hd1 : d < 4294967296) : Fn Tryz.prog 146 [.d (encH l), .d (ih d)] false (.tup [.d (encH (limbsH (valH l / d.toNat))), .d (ih ((valH l % d.toNat : Nat) : Int))]) := by
 have ewd : IntKind.u64.wrap d = d := u64_in (by omega) (by omega)
 refine Fn_of_EV Tryz.func146 rfl (by kernel_rfl) rfl rfl (fun E hE => ?_)
 iterate 9 refine τ ?_
 refine EVo_e rfl (D_makeL 1 (hE 1 rfl) Free_no (uOk rfl) ap145 rfl (by omega) (by omega) (by omega)) ?_
 iterate 15 refine τ ?_
 refine EV_wl (fun mm S => ∃ i : Int, ∃ rest : Int, ∃ c : List Int, mm = (i + 1).toNat ∧ S = St.of [(0, V.c (.d false (encH l))), (1, V.c (.d true (ih d))), (6, V.c (.msl 1 0 ((l.length : Int)).toNat ((l.length : Int)).toNat)), (7, vi .u64 rest), (8, vi .i64 i)] (tabO [(1, .box (List.map (ci .u32) c))]) 43 ∧ -1 ≤ i ∧ i < l.length ∧ (0 ≤ rest ∧ rest < d) ∧ c.length = l.length ∧ okLH c ∧ (valH (l.drop (i + 1).toNat) : Int) = d * (valH (c.drop (i + 1).toNat) : Int) + rest) _ ⟨_, ⟨_, _, _, rfl, rfl, ⟨by omega, by omega, by omega, by simp, okL_repH _, by rw [List.drop_of_length_le (by omega), List.drop_of_length_le (by simp)]; simp [valH]⟩⟩, W_keep2 _ _ ⟨rfl, rfl, rfl, rfl, rfl, trivial⟩ ⟨rfl, trivial⟩ rfl⟩ ?_
 rintro mm S ⟨i, rest, c, rfl, rfl, ⟨h0, h1, h2, h3, h4, h5⟩⟩
 iterate 6 refine τ ?_
 refine EV_cond rfl rfl rfl (fun hb1 => ?_) (fun hb1 => ?_)
 ·try simp only [zz] at hb1
  have hx := okL_rdH hk i
  have ei : (i.toNat : Int) = i := by omega
  have hd := div_bdH h2.1 h2.2 hx.1 hx.2
  have hor := or_shl h2.1 (by omega) hx.1 hx.2
  iterate 6 refine τ ?_
  refine EVo_t rfl (T_shlK rfl rfl rfl rfl) ?_
  iterate 15 refine τ ?_
  refine EVo_t rfl (T_quoU rfl rfl (by rw [hor]; omega) (by rw [ewd]; omega) (by rw [hor]; omega)) ?_
  iterate 2 refine τ ?_
  refine EVo_e rfl (D_storeL rfl Free_no rfl rfl (zOk rfl) (by omega)) ?_
  iterate 5 refine τ ?_
  refine EVo_t rfl (T_remN rfl rfl (by rw [hor]; omega) (by rw [ewd]; omega) (by rw [hor]; omega)) ?_
  iterate 7 refine τ ?_
  refine ⟨_, ?_, ω ⟨_, ⟨_, _, _, rfl, rfl, ?_⟩, W_keep2 _ _ ⟨rfl, rfl, rfl, rfl, rfl, trivial⟩ ⟨rfl, trivial⟩ rfl⟩⟩
  ·omega
  ·have e1 : (i - 1 + 1).toNat = i.toNat := by omega
   have e2 : (i + 1).toNat = i.toNat + 1 := by omega
   have e0 : 0 + i.toNat * 1 = i.toNat := by omega
   have ewq : IntKind.u32.wrap ((rest * 4294967296 + rd l i) / d) = (rest * 4294967296 + rd l i) / d := by rw [u32_wrap']; exact Int.emod_eq_of_lt hd.1 hd.2.1
   rw [e1, e0]
   simp only [hor, ewd, ewq]
   refine ⟨by omega, by omega, ⟨hd.2.2.1, hd.2.2.2.1⟩, by simpa using h3, okL_setH h4 _ ⟨hd.1, hd.2.1⟩, ?_⟩
   refine dw_stepH (by omega) h3 hk hd.1 (by rw [← e2]; exact h5) ?_
   rw [ei]; exact hd.2.2.2.2
 ·try simp only [zz] at hb1
  iterate 4 refine τ ?_
  refine EVo_weak (W_freezeL 39 1 _ _ _ (hE 1 rfl) rfl rfl rfl (by omega) (by omega)) ?_
  refine EVo_e rfl (D_call false (ref_cut _ (by simp; omega) (okL_takeH (okL_dropH h4 _) _)) rfl (φd rfl φn)) ?_
  iterate 6 refine τ ?_
  have e2 : (i + 1).toNat = 0 := by omega
  rw [e2, List.drop_zero, List.drop_zero] at h5
  have hend := dw_endH h5 h2.1 h2.2
  have ewr : IntKind.u32.wrap rest = rest := by rw [u32_wrap']; omega
  refine ⟨_, _, ⟨rfl, rfl⟩, ⟨rfl, rfl⟩, fit_eq rfl nofun ?_, fit_eq rfl nofun ?_⟩
  ·rw [List.drop_zero, List.take_of_length_le (by omega), hend.1]
  ·rw [ewr, ← hend.2]

theorem ref_Len (l : List Int) (hl : l.length ≤ 17592186044416) (hk : okL l) (hg : goodL l = true) : Fn Tryz.prog 144 [.d (encN l)] false (.one (.d (ii (blen (val l) : Int)))) := by
 refine Fn_of_EV Tryz.func144 rfl (by kernel_rfl) rfl rfl (fun E hE => ?_)
 iterate 11 refine τ ?_
 refine EV_cond rfl rfl rfl (fun hb1 => ?_) (fun hb1 => ?_)
 ·try simp only [zz] at hb1
  iterate 5 refine τ ?_
  refine ⟨_, ⟨rfl, rfl⟩, fit_eq rfl nofun ?_⟩
  ·have e : l = [] := List.eq_nil_of_length_eq_zero (by omega)
   subst e; rfl
 ·try simp only [zz] at hb1
  iterate 17 refine τ ?_
  have hne : l ≠ [] := by intro e; subst e; simp at hb1
  have ht := okL_rd hk ((l.length : Int) - 1)
  have htb := top_bounds hk hg hne
  have hbl := Lib.bitLen_le (rd l ((l.length : Int) - 1)).toNat 64 (by omega) (by omega)
  iterate 4 refine τ ?_
  refine EV_wl (fun mm S => ∃ n : Int, ∃ x : Int, mm = x.toNat ∧ S = St.of [(3, vi .i64 n), (4, vi .u64 x)] (tabO []) 25 ∧ (0 ≤ x ∧ x < 18446744073709551616) ∧ n + Lib.bitLen x.toNat = blen (val l) ∧ 0 ≤ n) _ ⟨_, ⟨_, _, rfl, rfl, ⟨ht, by omega, by omega⟩⟩, W_keep2 _ _ ⟨rfl, rfl, trivial⟩ trivial rfl⟩ ?_
  rintro mm S ⟨n, x, rfl, rfl, ⟨h0, h1, h2⟩⟩
  iterate 6 refine τ ?_
  refine EV_cond rfl rfl rfl (fun hb2 => ?_) (fun hb2 => ?_)
  ·try simp only [zz] at hb2
   iterate 5 refine τ ?_
   refine EVo_t rfl (T_binI rfl rfl rfl (by omega) (by have := blen_limbs (val l); have := limbs_val_len hk; omega)) ?_
   iterate 4 refine τ ?_
   refine EVo_t rfl (T_shrK rfl rfl rfl rfl) ?_
   iterate 2 refine τ ?_
   refine ⟨_, ?_, ω ⟨_, ⟨_, _, rfl, rfl, ?_⟩, W_keep2 _ _ ⟨rfl, rfl, trivial⟩ trivial rfl⟩⟩
   ·rw [show ((2 ^ 1 : Nat) : Int) = 2 from rfl]; omega
   ·rw [show ((2 ^ 1 : Nat) : Int) = 2 from rfl]
    have e : (x / 2).toNat = x.toNat / 2 := by omega
    have hh := Lib.bitLen_half x.toNat (by omega) (by omega)
    exact ⟨by omega, by rw [e]; omega, by omega⟩
  ·try simp only [zz] at hb2
   have hx0 : x = 0 := by omega
   subst hx0
   have hbz : Lib.bitLen (0 : Int).toNat = 0 := by decide
   rw [hbz] at h1
   iterate 7 refine τ ?_
   refine ⟨_, ⟨rfl, rfl⟩, fit_eq rfl nofun ?_⟩
   ·refine congrArg ii ?_; omega

end Go.Proofs.YthaiegnohkiegaaGreat.Ab
/-
 Contracts of the reference: shifts, division, the greatest common divisor.
-/
namespace Go.Proofs.YthaiegnohkiegaaGreat.Ab
set_option linter.unusedVariables false
set_option linter.unusedSimpArgs false
set_option maxRecDepth 20000
set_option maxHeartbeats 4000000
attribute [local irreducible] Tells Does EVo EV EVq EVr TellsC


theorem ref_Up2 (l : List Int) (n : Int) (hl : l.length ≤ 4398046511104) (hk : okL l) (hn0 : 0 ≤ n) (hn1 : n ≤ 281474976710656) : Fn Tryz.prog 147 [.d (encN l), .d (ii n)] false (.one (.d (encN (limbs (val l * 2 ^ n.toNat))))) := by
 obtain ⟨k, s, hks, hk0, hs0, hs1⟩ : ∃ k s : Int, n = 64 * k + s ∧ 0 ≤ k ∧ 0 ≤ s ∧ s ≤ 63 := ⟨n / 64, n % 64, by omega, by omega, by omega, by omega⟩
 have ek : n / 64 = k := by omega
 have es : n % 64 = s := by omega
 have ews : IntKind.u64.wrap s = s := u64_in (by omega) (by omega)
 have ew64 : IntKind.u64.wrap (64 - s) = 64 - s := u64_in (by omega) (by omega)
 have epw : 18446744073709551616 ^ k.toNat * (val l * 2 ^ s.toNat) = val l * 2 ^ n.toNat := by
  rw [pow64, show n.toNat = 64 * k.toNat + s.toNat by omega, Nat.pow_add]
  exact Nat.mul_left_comm _ _ _
 refine Fn_of_EV Tryz.func147 rfl (by kernel_rfl) rfl rfl (fun E hE => ?_)
 iterate 11 refine τ ?_
 refine EV_cond rfl rfl rfl (fun hb1 => ?_) (fun hb1 => ?_)
 ·try simp only [zz] at hb1
  iterate 5 refine τ ?_
  refine ⟨_, ⟨rfl, rfl⟩, fit_eq rfl nofun ?_⟩
  ·have e : l = [] := List.eq_nil_of_length_eq_zero (by omega)
   subst e; simp [val, limbs_zero]
 ·try simp only [zz] at hb1
  iterate 4 refine τ ?_
  refine EVo_t rfl (T_quoN rfl rfl (by omega) (by decide) (by omega)) ?_
  refine EVo_e rfl (D_makeRow 1 (hE 1 rfl) Free_no (uOk rfl) ap58 rfl (by omega) (by omega) (by omega)) ?_
  iterate 5 refine τ ?_
  refine EVo_t rfl (T_remN rfl rfl (by omega) (by decide) (by omega)) ?_
  iterate 13 refine τ ?_
  refine EV_wl (fun mm S => ∃ i : Int, ∃ c : Int, ∃ L : List Int, mm = ((l.length : Int) - i).toNat ∧ S = St.of [(0, V.c (.d false (encN l))), (5, V.c (.own 1 58 1 true (List.map (fun x => [iu x]) L))), (6, vi .u64 s), (7, vi .u64 c), (8, vi .i64 i)] (tabO [(1, .row)]) 49 ∧ (0 ≤ i ∧ i ≤ l.length) ∧ (0 ≤ c ∧ c.toNat < 2 ^ s.toNat) ∧ okL L ∧ L.length = k.toNat + i.toNat ∧ val L + 18446744073709551616 ^ (k.toNat + i.toNat) * c.toNat = 18446744073709551616 ^ k.toNat * (val (l.take i.toNat) * 2 ^ s.toNat)) _ ⟨_, ⟨0, 0, _, rfl, rfl, ⟨by omega, ⟨by omega, Nat.pow_pos (by decide)⟩, okL_rep _, by simp [ek], by simp [val_rep, val]⟩⟩, W_keep2 _ _ ⟨rfl, rfl, (by show vi .u64 (IntKind.u64.wrap (n % 64)) = _; rw [es, ews]), rfl, rfl, trivial⟩ ⟨rfl, trivial⟩ rfl⟩ ?_
  rintro mm S ⟨i, c, L, rfl, rfl, ⟨h0, hc, h2, h3, h4⟩⟩
  have hx := okL_rd hk i
  have ei : (i.toNat : Int) = i := by omega
  obtain ⟨lo, hi, p1, p2, p3, p4, p5, p6⟩ := shl_parts hx.1 hx.2 hs0 hs1
  obtain ⟨cc, rfl⟩ := Int.eq_ofNat_of_zero_le hc.1
  have hq := p6 cc (by simpa using hc.2)
  have hor : bits .or .u64 (lo : Int) (cc : Int) = ((cc + lo : Nat) : Int) := by rw [u64_or_nat _ _ p4 (by omega), Nat.or_comm, ← u64_or_nat _ _ (by omega) p4]; exact hq.1
  iterate 8 refine τ ?_
  refine EV_cond rfl rfl rfl (fun hb2 => ?_) (fun hb2 => ?_)
  ·try simp only [zz] at hb2
   have hst := up_step (l := l) (k := k.toNat) (i := i.toNat) h3 (by omega) (by simpa using h4) (by rw [ei]; exact p5)
   iterate 11 refine τ ?_
   refine EVo_t rfl (T_shl rfl rfl (by omega)) ?_
   iterate 2 refine τ ?_
   refine EVo_e rfl (D_buildSlice (uOk rfl) bz58 rfl rfl rfl (by simp)) ?_
   refine EVo_e rfl (D_append (uOk rfl) ap58 (by decide) rfl rfl (hE 1 rfl) Free_no rfl rfl (by simp) (by simp; omega) (by simp; omega)) ?_
   iterate 11 refine τ ?_
   refine EV_cond rfl rfl rfl (fun hb3 => ?_) (fun hb3 => ?_)
   ·try simp only [zz] at hb3
    iterate 7 refine τ ?_
    refine EVo_t rfl (T_shr rfl rfl (by omega)) ?_
    iterate 7 refine τ ?_
    have e2 : (i + 1).toNat = i.toNat + 1 := by omega
    simp only [show IntKind.u64.bits = 64 from rfl, p1, hor]
    refine ⟨_, ?_, ω ⟨_, ⟨i + 1, (hi : Int), L ++ [_], rfl, rfl, ?_⟩, W_keep2 _ _ ⟨rfl, (own_app rfl), rfl, (show V.c (.d true (.val (.int .u64 (rd l i / 2 ^ min (IntKind.u64.wrap (64 - s)).toNat 64)))) = _ from by rw [ew64, p2]), rfl, trivial⟩ ⟨rfl, trivial⟩ rfl⟩⟩
    ·omega
    ·rw [e2]
     exact ⟨by omega, ⟨by omega, by simpa using p3⟩, okL_append.2 ⟨h2, by intro y hy; simp at hy; omega⟩, by simp; omega, by simpa using hst⟩
   ·try simp only [zz] at hb3
    iterate 6 refine τ ?_
    have e2 : (i + 1).toNat = i.toNat + 1 := by omega
    simp only [show IntKind.u64.bits = 64 from rfl, p1, hor]
    refine ⟨_, ?_, ω ⟨_, ⟨i + 1, 0, L ++ [_], rfl, rfl, ?_⟩, W_keep2 _ _ ⟨rfl, (own_app rfl), rfl, rfl, rfl, trivial⟩ ⟨rfl, trivial⟩ rfl⟩⟩
    ·omega
    ·rw [e2]
     have hs00 : s = 0 := by omega
     have hhi : hi = 0 := by rw [hs00] at p3; simpa using p3
     subst hhi
     exact ⟨by omega, ⟨by omega, Nat.pow_pos (by decide)⟩, okL_append.2 ⟨h2, by intro y hy; simp at hy; omega⟩, by simp; omega, by simpa using hst⟩
  ·try simp only [zz] at hb2
   iterate 5 refine τ ?_
   refine EVo_e rfl (D_buildSlice (uOk rfl) bz58 rfl rfl rfl (by simp)) ?_
   refine EVo_e rfl (D_append (uOk rfl) ap58 (by decide) rfl rfl (hE 1 rfl) Free_no rfl rfl (by simp) (by simp; omega) (by simp; omega)) ?_
   refine EVo_weak (W_keep2 [(47, V.c (.own 1 58 1 true (List.map (fun x => [iu x]) (L ++ [_]))))] [] ⟨own_app rfl, trivial⟩ trivial rfl) ?_
   refine EVo_e rfl (D_call false (ref_Trim _ (by simp; omega) (okL_append.2 ⟨h2, by intro y hy; simp at hy; have := Nat.pow_lt_pow_right (a := 2) (by decide) (show s.toNat < 64 by omega); omega⟩)) rfl (φd rfl φn)) ?_
   iterate 3 refine τ ?_
   refine ⟨_, ⟨rfl, rfl⟩, fit_eq rfl nofun ?_⟩
   ·have e9 : i.toNat = l.length := by omega
    rw [e9, List.take_of_length_le (Nat.le_refl _), epw] at h4
    rw [val_append, h3, e9]
    simp only [val, Nat.mul_zero, Nat.add_zero]
    rw [h4]

theorem ref_Down1 (l : List Int) (hl : l.length ≤ 4398046511104) (hk : okL l) (hg : goodL l = true) : Fn Tryz.prog 150 [.d (encN l), .d (ii 1)] false (.one (.d (encN (limbs (val l / 2))))) := by
 refine Fn_of_EV Tryz.func150 rfl (by kernel_rfl) rfl rfl (fun E hE => ?_)
 iterate 9 refine τ ?_
 refine EVo_e rfl (D_call false (ref_Len _ (by omega) (by assumption) (by assumption)) rfl (φd rfl φn)) ?_
 iterate 2 refine τ ?_
 refine EV_cond rfl rfl rfl (fun hb1 => ?_) (fun hb1 => ?_)
 ·try simp only [zz] at hb1
  iterate 5 refine τ ?_
  refine ⟨_, ⟨rfl, rfl⟩, fit_eq rfl nofun ?_⟩
  ·have h2 : val l / 2 = 0 := by
    by_cases h0 : val l = 0
    ·omega
    ·have := (blen_bounds h0).2
     have hb : blen (val l) ≤ 1 := by omega
     have := Nat.pow_le_pow_right (n := 2) (by decide) hb
     omega
   rw [h2]; rfl
 ·try simp only [zz] at hb1
  iterate 4 refine τ ?_
  refine EVo_t rfl (T_remN rfl rfl (by omega) (by decide) (by omega)) ?_
  iterate 9 refine τ ?_
  refine EV_weak (W_nilRow 1 6 58 1 (hE 1 rfl) rfl) ?_
  refine EV_cut (fun S => S = St.of [(0, V.c (.d false (encN l))), (1, V.c (.d true (ii 1))), (5, vi .u64 1), (6, V.c (.own 1 58 1 true (List.map (fun x => [iu x]) ([] : List Int))))] (tabO [(1, .row)]) 55 ∧ True) (ω ⟨_, ⟨rfl, ?_⟩, W_keep2 _ _ ⟨rfl, rfl, rfl, rfl, trivial⟩ ⟨rfl, trivial⟩ rfl⟩) ?_
  ·trivial
  rintro S ⟨rfl, _⟩
  iterate 2 refine τ ?_
  refine EVo_t rfl (T_quoN rfl rfl (by omega) (by decide) (by omega)) ?_
  iterate 3 refine τ ?_
  refine EV_wl (fun mm S => ∃ i : Int, ∃ L : List Int, mm = ((l.length : Int) - i).toNat ∧ S = St.of [(0, V.c (.d false (encN l))), (5, vi .u64 1), (6, V.c (.own 1 58 1 true (List.map (fun x => [iu x]) L))), (7, vi .i64 i)] (tabO [(1, .row)]) 55 ∧ (0 ≤ i ∧ i ≤ l.length) ∧ okL L ∧ L.length = i.toNat ∧ val L = val l / 2 ^ 1 % 18446744073709551616 ^ i.toNat) _ ⟨_, ⟨0, [], rfl, rfl, ⟨by omega, okL_nil, rfl, by simp [val, Nat.mod_one]⟩⟩, W_keep2 _ _ ⟨rfl, rfl, rfl, rfl, trivial⟩ ⟨rfl, trivial⟩ rfl⟩ ?_
  rintro mm S ⟨i, L, rfl, rfl, ⟨h0, h1, h2, h3⟩⟩
  have hx := okL_rd hk i
  have hy := okL_rd hk (i + 1)
  have ei : (i.toNat : Int) = i := by omega
  have ej : ((i.toNat + 1 : Nat) : Int) = i + 1 := by omega
  obtain ⟨lo, hi, p1, p2, p3, p4, p5, p6, p7⟩ := shr_parts hx.1 hx.2 hy.1 hy.2 (show (0 : Int) ≤ 1 by omega) (by omega)
  simp only [show (64 : Int) - 1 = 63 from rfl] at p2
  iterate 8 refine τ ?_
  refine EV_cond rfl rfl rfl (fun hb2 => ?_) (fun hb2 => ?_)
  ·try simp only [zz] at hb2
   iterate 10 refine τ ?_
   refine EVo_t rfl (T_shr rfl rfl (by omega)) ?_
   iterate 8 refine τ ?_
   refine EVo_case 32 rfl (fun hb3 => ?_) (fun hb3 => ?_)
   ·try simp only [zz] at hb3
    iterate 7 refine τ ?_
    refine EV_cond rfl rfl rfl (fun hb4 => ?_) (fun hb4 => ?_)
    ·try simp only [zz] at hb4
     iterate 9 refine τ ?_
     refine EVo_t rfl (T_shl rfl rfl (by decide)) ?_
     iterate 6 refine τ ?_
     refine EVo_e rfl (D_buildSlice (uOk rfl) bz58 rfl rfl rfl (by simp)) ?_
     refine EVo_e rfl (D_append (uOk rfl) ap58 (by decide) rfl rfl (hE 1 rfl) Free_no rfl rfl (by simp) (by simp; omega) (by simp; omega)) ?_
     iterate 7 refine τ ?_
     have e2 : (i + 1).toNat = i.toNat + 1 := by omega
     simp only [show IntKind.u64.bits = 64 from rfl, p1]
     refine ⟨_, ?_, ω ⟨_, ⟨i + 1, L ++ [_], rfl, rfl, ?_⟩, W_keep2 _ _ ⟨rfl, rfl, (own_app rfl), rfl, trivial⟩ ⟨rfl, trivial⟩ rfl⟩⟩
     ·omega
     ·have p2' : IntKind.u64.wrap (rd l (i + 1) * 2 ^ min (IntKind.u64.wrap (64 - 1)).toNat 64) = (hi : Int) := p2
      rw [p2', p4, e2]
      have hst := right_app (s := lo + hi) h2 h3 (by omega) hk (by rw [drop_rd (by omega), drop_rd (n := i.toNat + 1) (by omega)]; simp only [val]; rw [ei, ej]; exact p6 _)
      exact ⟨by omega, okL_append.2 ⟨h1, by intro y hy; simp at hy; omega⟩, by simp; omega, hst⟩
    ·try simp only [zz] at hb4
     iterate 4 refine τ ?_
     refine EVo_e rfl (D_buildSlice (uOk rfl) bz58 rfl rfl rfl (by simp)) ?_
     refine EVo_e rfl (D_append (uOk rfl) ap58 (by decide) rfl rfl (hE 1 rfl) Free_no rfl rfl (by simp) (by simp; omega) (by simp; omega)) ?_
     iterate 7 refine τ ?_
     have e2 : (i + 1).toNat = i.toNat + 1 := by omega
     simp only [show IntKind.u64.bits = 64 from rfl, p1]
     refine ⟨_, ?_, ω ⟨_, ⟨i + 1, L ++ [_], rfl, rfl, ?_⟩, W_keep2 _ _ ⟨rfl, rfl, (own_app rfl), rfl, trivial⟩ ⟨rfl, trivial⟩ rfl⟩⟩
     ·omega
     ·rw [e2]
      have hst := right_app (s := lo) h2 h3 (by omega) hk (by rw [drop_rd (by omega), List.drop_of_length_le (by omega)]; simp only [val]; rw [ei]; simpa using p7)
      exact ⟨by omega, okL_append.2 ⟨h1, by intro y hy; simp at hy; omega⟩, by simp; omega, hst⟩
   ·try simp only [zz] at hb3
    iterate 7 refine τ ?_
    refine EV_cond rfl rfl rfl (fun h => by cases h) (fun _ => ?_)
    iterate 4 refine τ ?_
    refine EVo_e rfl (D_buildSlice (uOk rfl) bz58 rfl rfl rfl (by simp)) ?_
    refine EVo_e rfl (D_append (uOk rfl) ap58 (by decide) rfl rfl (hE 1 rfl) Free_no rfl rfl (by simp) (by simp; omega) (by simp; omega)) ?_
    iterate 7 refine τ ?_
    have e2 : (i + 1).toNat = i.toNat + 1 := by omega
    simp only [show IntKind.u64.bits = 64 from rfl, p1]
    refine ⟨_, ?_, ω ⟨_, ⟨i + 1, L ++ [_], rfl, rfl, ?_⟩, W_keep2 _ _ ⟨rfl, rfl, (own_app rfl), rfl, trivial⟩ ⟨rfl, trivial⟩ rfl⟩⟩
    ·omega
    ·omega
  ·try simp only [zz] at hb2
   iterate 4 refine τ ?_
   refine EVo_e rfl (D_call false (ref_Trim _ (by omega) (by assumption)) rfl (φd rfl φn)) ?_
   iterate 3 refine τ ?_
   refine ⟨_, ⟨rfl, rfl⟩, fit_eq rfl nofun ?_⟩
   ·have e9 : i.toNat = l.length := by omega
    have hv := val_lt hk
    rw [e9, Nat.mod_eq_of_lt (Nat.lt_of_le_of_lt (Nat.div_le_self _ _) hv)] at h3
    rw [h3]

theorem ref_LenN (a : Nat) (h : (limbs a).length ≤ 17592186044416) : Fn Tryz.prog 144 [.d (encN (limbs a))] false (.one (.d (ii (blen a : Int)))) := by
 have := ref_Len (limbs a) h (okL_limbs a) (good_limbs a)
 rw [val_limbs] at this; exact this
theorem ref_Up2N (a : Nat) (n : Int) (h : (limbs a).length ≤ 4398046511104) (hn0 : 0 ≤ n) (hn1 : n ≤ 281474976710656) : Fn Tryz.prog 147 [.d (encN (limbs a)), .d (ii n)] false (.one (.d (encN (limbs (a * 2 ^ n.toNat))))) := by
 have := ref_Up2 (limbs a) n h (okL_limbs a) hn0 hn1
 rw [val_limbs] at this; exact this
theorem ref_Down1N (a : Nat) (h : (limbs a).length ≤ 4398046511104) : Fn Tryz.prog 150 [.d (encN (limbs a)), .d (ii 1)] false (.one (.d (encN (limbs (a / 2))))) := by
 have := ref_Down1 (limbs a) h (okL_limbs a) (good_limbs a)
 rw [val_limbs] at this; exact this
theorem ref_CmpN (a b : Nat) (ha : (limbs a).length ≤ 17592186044416) (hb : (limbs b).length ≤ 17592186044416) : Fn Tryz.prog 148 [.d (encN (limbs a)), .d (encN (limbs b))] false (.one (.d (ii (cmpN a b)))) := by
 have := ref_Cmp (limbs a) (limbs b) (by omega) (by omega) (okL_limbs a) (okL_limbs b) (good_limbs a) (good_limbs b)
 rw [val_limbs, val_limbs] at this; exact this
theorem ref_LessN (a b : Nat) (ha : (limbs a).length ≤ 4398046511104) (hb : (limbs b).length ≤ 4398046511104) (hle : b ≤ a) : Fn Tryz.prog 149 [.d (encN (limbs a)), .d (encN (limbs b))] false (.one (.d (encN (limbs (a - b))))) := by
 have := ref_Less (limbs a) (limbs b) ha hb (okL_limbs a) (okL_limbs b) (by rw [val_limbs, val_limbs]; exact hle)
 rw [val_limbs, val_limbs] at this; exact this
theorem ref_halvesN (a : Nat) (h : (limbs a).length ≤ 8796093022208) : Fn Tryz.prog 117 [.d (encN (limbs a))] false (.one (.d (encH (limbsH a)))) := by
 have := ref_halves (limbs a) h (okL_limbs a)
 rw [val_limbs] at this; exact this
theorem halvesN_len (a : Nat) : (limbsH a).length ≤ 2 * (limbs a).length := by
 have := halves_len (okL_limbs a)
 rwa [val_limbs] at this
theorem one_half {B : Nat} (h : ((limbsH B).length : Int) = 1) : rd (limbsH B) 0 = (B : Int) ∧ B < 4294967296 ∧ B ≠ 0 := by
 have hlt := val_ltH (okL_limbsH B)
 rw [val_limbsH] at hlt
 have h1 : (limbsH B).length = 1 := by omega
 rw [h1] at hlt
 have h0 : B ≠ 0 := fun e => by subst e; simp [limbs_zeroH] at h1
 rw [limbs_oneH h0 (by simpa using hlt)]
 exact ⟨rfl, by simpa using hlt, h0⟩
theorem cmpN_ge {a b : Nat} : 0 ≤ cmpN a b ↔ b ≤ a := by
 have := cmpN_neg a b
 constructor
 ·intro h; have := mt this.2 (by omega); omega
 ·intro h; have := mt this.1 (by omega); omega
theorem pow_half (B : Nat) {i : Int} (h : 0 ≤ i) : B * 2 ^ (i + 1).toNat / 2 = B * 2 ^ i.toNat := by
 rw [show (i + 1).toNat = i.toNat + 1 by omega, Nat.pow_succ, ← Nat.mul_assoc, Nat.mul_div_cancel _ (by decide)]

theorem ref_Divide (A B : Nat) (hB : B ≠ 0) (hA : (limbs A).length ≤ 1099511627776) (hBl : (limbs B).length ≤ 1099511627776) : Fn Tryz.prog 116 [.d (encN (limbs A)), .d (encN (limbs B))] false (.tup [.d (encN (limbs (A / B))), .d (encN (limbs (A % B)))]) := by
 have hXA := halvesN_len A
 have hXB := halvesN_len B
 have hbA := blen_limbs A
 have hbB := blen_limbs B
 refine Fn_of_EV Tryz.func116 rfl (by kernel_rfl) rfl rfl (fun E hE => ?_)
 iterate 8 refine τ ?_
 refine EVo_e rfl (D_call false (ref_halvesN _ (by omega)) rfl (φd rfl φn)) ?_
 iterate 9 refine τ ?_
 refine EV_cond rfl rfl rfl (fun hb1 => ?_) (fun hb1 => ?_)
 ·try simp only [zz] at hb1
  have hone := one_half hb1
  have hmB := Nat.mod_lt A (Nat.pos_of_ne_zero hB)
  refine τ ?_
  refine EV_draw (inX []) (.st 0 (.st 2 (.st 3 (.st 4 (.one 1 (.one 5 (.st 6 (.st 7 (.st 8 (.st 9 (.st 10 .done))))))))))) Tryz.mixed (by kernel_rfl) ?_
  refine EVq_t rfl rfl (T_move rfl) ?_
  refine EVq_t rfl rfl (T_move rfl) ?_
  refine EVq_t rfl rfl (T_ixL (uOk rfl) (zOk rfl) rfl rfl (by omega) (by omega) rfl) ?_
  refine EVq_t rfl rfl (T_load (gOk rfl) rfl) ?_
  refine EVq_e rfl rfl (D_call false (ref_halvesN _ (by omega)) rfl (φd rfl φn)) ?_
  refine EVq_e rfl rfl (D_call false (ref_short _ _ (by omega) (okL_limbsH _) (by omega) (by omega)) rfl (φd rfl (φd rfl φn))) ?_
  refine EVq_t rfl rfl (T_move rfl) ?_
  refine EVq_t rfl rfl (T_extract rfl rfl) ?_
  refine EVq_t rfl rfl (T_extract rfl rfl) ?_
  refine EVq_t rfl rfl (T_assign rfl) ?_
  refine EVq_t rfl rfl (T_assign rfl) ?_
  refine EVq_done ?_
  iterate 3 refine τ ?_
  refine EVo_e rfl (D_call false (ref_whole _ (Nat.le_trans (limbs_len_leH (Nat.lt_of_le_of_lt (Nat.div_le_self _ _) (val_ltH (okL_limbsH A)))) (by omega)) (okL_limbsH _)) rfl (φd rfl φn)) ?_
  iterate 2 refine τ ?_
  have eR : (valH (limbsH A) % (rd (limbsH B) 0).toNat : Nat) = A % B := by rw [hone.1, val_limbsH, Int.toNat_natCast]
  have ewR : IntKind.u64.wrap ((valH (limbsH A) % (rd (limbsH B) 0).toNat : Nat) : Int) = ((A % B : Nat) : Int) := by rw [eR]; exact u64_in (by omega) (by omega)
  refine EVo_e rfl (D_call false (ref_Of _ (by rw [ewR]; omega) (by rw [ewR]; omega)) rfl (φd rfl φn)) ?_
  iterate 4 refine τ ?_
  refine ⟨_, _, ⟨rfl, rfl⟩, ⟨rfl, rfl⟩, fit_eq rfl nofun ?_, fit_eq rfl nofun ?_⟩
  ·rw [val_limbsH, hone.1, val_limbsH, Int.toNat_natCast]
  ·rw [ewR, Int.toNat_natCast]
 ·try simp only [zz] at hb1
  iterate 4 refine τ ?_
  refine EVo_e rfl (D_call false (ref_LenN _ (by omega)) rfl (φd rfl φn)) ?_
  refine τ ?_
  refine EVo_e rfl (D_call false (ref_LenN _ (by omega)) rfl (φd rfl φn)) ?_
  iterate 9 refine τ ?_
  refine EV_cond rfl rfl rfl (fun hb2 => ?_) (fun hb2 => ?_)
  ·try simp only [zz] at hb2
   have hlt : A < B := blen_lt (by omega)
   iterate 7 refine τ ?_
   refine ⟨_, _, ⟨rfl, rfl⟩, ⟨rfl, rfl⟩, fit_eq rfl nofun ?_, fit_eq rfl nofun ?_⟩
   ·rw [Nat.div_eq_of_lt hlt]; rfl
   ·rw [Nat.mod_eq_of_lt hlt]
  ·try simp only [zz] at hb2
   iterate 2 refine τ ?_
   refine EV_cut (fun S => ∃ n : Int, S = St.of [(0, V.c (.d false (encN (limbs A)))), (1, V.c (.d false (encN (limbs B)))), (9, vi .i64 n)] (tabO []) 80 ∧ 0 ≤ n ∧ (blen A : Int) = blen B + n) (ω ⟨_, ⟨_, rfl, ?_⟩, W_keep2 _ _ ⟨rfl, rfl, rfl, trivial⟩ trivial rfl⟩) ?_
   ·omega
   rintro S ⟨n, rfl, ⟨hn0, hn⟩⟩
   have hdf := div_first (A := A) (B := B) (n := n.toNat) hB (by omega)
   have hdl0 := limbs_mul_len 2 A
   have hdl1 : (limbs 2).length = 1 := by decide
   have hdl : (limbs (2 * A)).length ≤ 1099511627777 := by omega
   iterate 2 refine τ ?_
   refine EVo_t rfl (T_quoN rfl rfl (by omega) (by decide) (by omega)) ?_
   refine τ ?_
   refine EVo_e rfl (D_makeL 1 (hE 1 rfl) Free_no (uOk rfl) ap58 rfl (by omega) (by omega) (by omega)) ?_
   iterate 11 refine τ ?_
   refine EVo_e rfl (D_call false (ref_Up2N _ _ (by omega) (by omega) (by omega)) rfl (φd rfl (φd rfl φn))) ?_
   iterate 9 refine τ ?_
   refine EV_wl (fun mm S => ∃ i : Int, ∃ r : Nat, ∃ q : List Int, mm = (i + 1).toNat ∧ S = St.of [(10, V.c (.msl 1 0 ((n / 64 + 1).toNat) ((n / 64 + 1).toNat))), (11, V.c (.d false (encN (limbs r)))), (12, V.c (.d false (encN (limbs (B * 2 ^ (i + 1).toNat / 2))))), (13, vi .i64 i)] (tabO [(1, .box (List.map (ci .u64) q))]) 80 ∧ (-1 ≤ i ∧ i ≤ n) ∧ q.length = ((n / 64 + 1).toNat) ∧ okL q ∧ A = val q * B + r ∧ r < B * 2 ^ (i + 1).toNat ∧ val q % 2 ^ (i + 1).toNat = 0 ∧ r ≤ A) _ ⟨_, ⟨n, A, _, rfl, rfl, ⟨by omega, by simp, okL_rep _, by rw [val_rep]; omega, by rw [show (n + 1).toNat = n.toNat + 1 by omega]; exact hdf.1, by rw [val_rep]; exact Nat.zero_mod _, Nat.le_refl _⟩⟩, W_keep2 _ _ ⟨rfl, rfl, (by show V.c (.d false (encN (limbs (B * 2 ^ n.toNat)))) = _; rw [pow_half B hn0]), rfl, trivial⟩ ⟨rfl, trivial⟩ rfl⟩ ?_
   rintro mm S ⟨i, r, q, rfl, rfl, ⟨k1, k2, k3, k4, k5, k6, k7⟩⟩
   iterate 6 refine τ ?_
   refine EV_cond rfl rfl rfl (fun hb3 => ?_) (fun hb3 => ?_)
   ·try simp only [zz] at hb3
    have hph := pow_half B hb3
    have ei : (i + 1).toNat = i.toNat + 1 := by omega
    rw [ei] at k5 k6
    have hbr := bit_round k4 k5 k6
    have hsb := set_bit k3 (show i.toNat / 64 < q.length by omega) k6
    have hdm : B * 2 ^ i.toNat ≤ 2 * A := Nat.le_trans (Nat.mul_le_mul_left _ (Nat.pow_le_pow_right (by decide) (by omega))) hdf.2
    have hdd := limbs_mono hdm
    have hrr := limbs_mono k7
    iterate 8 refine τ ?_
    refine EVo_e rfl (D_call false (ref_CmpN _ _ (by omega) (by rw [hph]; omega)) rfl (φd rfl (φd rfl φn))) ?_
    iterate 2 refine τ ?_
    refine EV_cond rfl rfl rfl (fun hb4 => ?_) (fun hb4 => ?_)
    ·try simp only [zz] at hb4
     have hge := cmpN_ge.1 hb4
     rw [hph] at hge
     iterate 4 refine τ ?_
     rw [hph]
     refine EVo_e rfl (D_call false (ref_LessN _ _ (by omega) (by omega) hge) rfl (φd rfl (φd rfl φn))) ?_
     iterate 5 refine τ ?_
     refine EVo_t rfl (T_quoN rfl rfl (by omega) (by decide) (by omega)) ?_
     iterate 2 refine τ ?_
     refine EVo_t rfl (T_quoN rfl rfl (by omega) (by decide) (by omega)) ?_
     refine τ ?_
     refine EVo_t rfl (T_loadL (gOk rfl) rfl rfl (by omega) rfl rfl) ?_
     refine τ ?_
     refine EVo_t rfl (T_remN rfl rfl (by omega) (by decide) (by omega)) ?_
     refine τ ?_
     refine EVo_t rfl (T_shl rfl rfl (by rw [u64_wrap]; omega)) ?_
     iterate 2 refine τ ?_
     refine EVo_e rfl (D_storeL rfl Free_no rfl rfl (zOk rfl) (by omega)) ?_
     iterate 3 refine τ ?_
     refine EVo_e rfl (D_call false (ref_Down1N _ (by (try rw [hph]); omega)) rfl (φd rfl (φd rfl φn))) ?_
     iterate 7 refine τ ?_
     refine ⟨_, ?_, ω ⟨_, ⟨i - 1, _, _, rfl, rfl, ?_⟩, W_keep2 _ _ ⟨rfl, rfl, (by show V.c (.d false (encN (limbs (B * 2 ^ i.toNat / 2)))) = _; rw [show i - 1 + 1 = i by omega]), rfl, trivial⟩ ⟨rfl, trivial⟩ rfl⟩⟩
     ·omega
     ·have e1 : (i - 1 + 1).toNat = i.toNat := by omega
      rw [e1]
      have hst := hbr.1 hge
      obtain ⟨x, x1, x2, x3, x4⟩ := hsb
      have e0 : 0 + (i / 64).toNat * 1 = i.toNat / 64 := by omega
      have x1' : q.getD (i.toNat / 64) default = (x : Int) := by rw [← x1, rd_nat]
      simp only [show IntKind.u64.bits = 64 from rfl]
      rw [shl_one (by omega), e0, x1', x3]
      exact ⟨by omega, by simpa using k2, okL_set k3 _ ⟨Int.natCast_nonneg _, Int.ofNat_lt.2 x2⟩, by rw [x4]; exact hst.1, hst.2.1, by rw [x4]; exact hst.2.2, by omega⟩
    ·try simp only [zz] at hb4
     have hlt : r < B * 2 ^ i.toNat := Nat.lt_of_not_le (fun hc => by have := cmpN_ge.2 (show B * 2 ^ (i + 1).toNat / 2 ≤ r by rw [hph]; exact hc); omega)
     iterate 3 refine τ ?_
     refine EVo_e rfl (D_call false (ref_Down1N _ (by (try rw [hph]); omega)) rfl (φd rfl (φd rfl φn))) ?_
     iterate 7 refine τ ?_
     refine ⟨_, ?_, ω ⟨_, ⟨i - 1, _, _, rfl, rfl, ?_⟩, W_keep2 _ _ ⟨rfl, rfl, (by show V.c (.d false (encN (limbs (B * 2 ^ (i + 1).toNat / 2 / 2)))) = _; rw [hph, show i - 1 + 1 = i by omega]), rfl, trivial⟩ ⟨rfl, trivial⟩ rfl⟩⟩
     ·omega
     ·have e1 : (i - 1 + 1).toNat = i.toNat := by omega
      rw [e1]
      exact ⟨by omega, k2, k3, k4, hlt, hbr.2, k7⟩
   ·try simp only [zz] at hb3
    have e9 : i = -1 := by omega
    subst e9
    simp only [show ((-1 : Int) + 1).toNat = 0 from rfl, Nat.pow_zero, Nat.mul_one] at k5
    have hend := step_end (w := r) (W := A) (V := B) (g := val q) (by omega) (by rw [Nat.add_mul]; omega)
    iterate 4 refine τ ?_
    refine EVo_weak (W_freezeL 77 1 _ _ _ (hE 1 rfl) rfl rfl rfl (by omega) (by omega)) ?_
    refine EVo_e rfl (D_call false (ref_Trim _ (by simp; omega) (okL_take (okL_drop k3 _) _)) rfl (φd rfl φn)) ?_
    iterate 5 refine τ ?_
    refine ⟨_, _, ⟨rfl, rfl⟩, ⟨rfl, rfl⟩, fit_eq rfl nofun ?_, fit_eq rfl nofun ?_⟩
    ·rw [List.drop_zero, List.take_of_length_le (by omega), hend.1]
    ·rw [hend.2]

theorem ref_Gcd (A B : Nat) (hA : (limbs A).length ≤ 1099511627776) (hB : (limbs B).length ≤ 1099511627776) : Fn Tryz.prog 69 [.d (encN (limbs A)), .d (encN (limbs B))] false (.one (.d (encN (limbs (Nat.gcd A B))))) := by
 refine Fn_of_EV Tryz.func69 rfl (by kernel_rfl) rfl rfl (fun E hE => ?_)
 iterate 6 refine τ ?_
 refine EV_wl (fun mm S => ∃ a : Nat, ∃ b : Nat, mm = 0 + b ∧ S = St.of [(0, V.c (.d false (encN (limbs a)))), (1, V.c (.d false (encN (limbs b))))] (tabO []) 19 ∧ Nat.gcd a b = Nat.gcd A B ∧ (limbs a).length ≤ 1099511627776 ∧ (limbs b).length ≤ 1099511627776) _ ⟨_, ⟨A, B, rfl, rfl, ⟨rfl, hA, hB⟩⟩, W_keep2 _ _ ⟨rfl, rfl, trivial⟩ trivial rfl⟩ ?_
 rintro mm S ⟨a, b, rfl, rfl, ⟨k1, k2, k3⟩⟩
 iterate 7 refine τ ?_
 refine EV_cond rfl rfl rfl (fun hb1 => ?_) (fun hb1 => ?_)
 ·try simp only [zz] at hb1
  have hb0 : b ≠ 0 := (limbs_len_pos b).1 (by omega)
  iterate 6 refine τ ?_
  refine EVo_e rfl (D_call false (ref_Divide _ _ hb0 (by omega) (by omega)) rfl (φd rfl (φd rfl φn))) ?_
  iterate 15 refine τ ?_
  refine ⟨_, ?_, ω ⟨_, ⟨_, _, rfl, rfl, ?_⟩, W_keep2 _ _ ⟨rfl, rfl, trivial⟩ trivial rfl⟩⟩
  ·have := Nat.mod_lt a (Nat.pos_of_ne_zero hb0); omega
  ·exact ⟨by rw [← k1, Nat.gcd_comm a b, Nat.gcd_rec b a, Nat.gcd_comm], by omega, Nat.le_trans (limbs_mono (Nat.le_of_lt (Nat.mod_lt _ (by omega)))) k3⟩
 ·try simp only [zz] at hb1
  have hb0 : b = 0 := by have := mt (limbs_len_pos b).2 (by omega); omega
  subst hb0
  rw [Nat.gcd_zero_right] at k1
  iterate 7 refine τ ?_
  refine ⟨_, ⟨rfl, rfl⟩, fit_eq rfl nofun ?_⟩
  ·rw [k1]

end Go.Proofs.YthaiegnohkiegaaGreat.Ab
/-
 Contracts of the reference: whole numbers.
-/
namespace Go.Proofs.YthaiegnohkiegaaGreat.Ab
set_option linter.unusedVariables false
set_option linter.unusedSimpArgs false
set_option maxRecDepth 20000
set_option maxHeartbeats 4000000
attribute [local irreducible] Tells Does EVo EV EVq EVr TellsC


theorem ref_TimesN (a b : Nat) (ha : (limbs a).length ≤ 4398046511104) (hb : (limbs b).length ≤ 4398046511104) : Fn Tryz.prog 65 [.d (encN (limbs a)), .d (encN (limbs b))] false (.one (.d (encN (limbs (a * b))))) := by
 have := ref_Times (limbs a) (limbs b) ha hb (okL_limbs a) (okL_limbs b)
 rw [val_limbs, val_limbs] at this
 exact this
theorem ref_GcdG (l m : List Int) (hl : l.length ≤ 1099511627776) (hm : m.length ≤ 1099511627776) (hk : okL l) (hkm : okL m) (hg : goodL l = true) (hgm : goodL m = true) : Fn Tryz.prog 69 [.d (encN l), .d (encN m)] false (.one (.d (encN (limbs (Nat.gcd (val l) (val m)))))) := by
 have := ref_Gcd (val l) (val m) (by rw [limbs_val hk hg]; exact hl) (by rw [limbs_val hkm hgm]; exact hm)
 rw [limbs_val hk hg, limbs_val hkm hgm] at this
 exact this
theorem is_one {g : Nat} : (((limbs g).length : Int) = 1 ∧ rd (limbs g) 0 = 1) ↔ g = 1 := by
 constructor
 ·rintro ⟨h1, h2⟩
  have := (one_limb h1).2.1
  omega
 ·rintro rfl
  exact ⟨by decide, by decide⟩
theorem made_sign {n : Int} {g : Nat} (hg : 0 < g) (hd : g ∣ n.natAbs) : (decide (n < 0) && decide (0 < (limbs (n.natAbs / g)).length)) = decide (n < 0) := by
 by_cases h : n < 0
 ·have hp : n.natAbs / g ≠ 0 := by
   have := Nat.div_pos (Nat.le_of_dvd (by omega) hd) hg
   omega
  have := (limbs_len_pos _).2 hp
  simp [h, this]
 ·simp [h]

theorem ref2_Made (neg : Bool) (l : List Int) (hl : l.length ≤ 17592186044416) : Fn Tryz.prog 72 [.d (ib neg), .d (encN l)] false (.one (.agg [ib (neg && decide (0 < l.length)), encN l])) := by
 refine Fn_of_EV Tryz.func72 rfl (by kernel_rfl) rfl rfl (fun E hE => ?_)
 iterate 2 refine τ ?_
 refine EVo_e rfl (D_alloc 1 (hE 1 rfl) Free_no zr38 rfl) ?_
 iterate 5 refine τ ?_
 refine EVo_case 6 rfl (fun hb1 => ?_) (fun hb1 => ?_)
 ·try simp only [zz] at hb1
  iterate 5 refine τ ?_
  refine EVo_t rfl (T_build ly38 rfl rfl) ?_
  iterate 3 refine τ ?_
  refine ⟨_, ⟨rfl, _, _, _, rfl, rfl, rfl, .inl ⟨_, gOk rfl, zOk rfl, Nat.le_of_ble_eq_true rfl, rfl⟩⟩, fit_agg rfl nofun ?_⟩
  ·simp_all
 ·try simp only [zz] at hb1
  iterate 5 refine τ ?_
  refine EVo_t rfl (T_build ly38 rfl rfl) ?_
  iterate 3 refine τ ?_
  refine ⟨_, ⟨rfl, _, _, _, rfl, rfl, rfl, .inl ⟨_, gOk rfl, zOk rfl, Nat.le_of_ble_eq_true rfl, rfl⟩⟩, fit_agg rfl nofun ?_⟩
  ·simp_all

theorem ref2_MadeN (neg : Bool) (n : Nat) (hl : (limbs n).length ≤ 17592186044416) : Fn Tryz.prog 72 [.d (ib neg), .d (encN (limbs n))] false (.one (.agg (encZ (if neg then -(n : Int) else n)))) := by
 have := ref2_Made neg (limbs n) (by omega)
 rw [enc_of] at this
 exact this

theorem ref2_Size (n : Int) (h0 : -9223372036854775808 ≤ n) (h1 : n ≤ 9223372036854775807) : Fn Tryz.prog 73 [.d (ii n)] false (.one (.d (iu n.natAbs))) := by
 refine Fn_of_EV Tryz.func73 rfl (by kernel_rfl) rfl rfl (fun E hE => ?_)
 iterate 10 refine τ ?_
 refine EV_cond rfl rfl rfl (fun hb1 => ?_) (fun hb1 => ?_)
 ·try simp only [zz] at hb1
  iterate 8 refine τ ?_
  refine ⟨_, ⟨rfl, rfl⟩, fit_eq rfl nofun ?_⟩
  ·refine congrArg iu ?_; simp only [u64_wrap]; omega
 ·try simp only [zz] at hb1
  iterate 8 refine τ ?_
  refine ⟨_, ⟨rfl, rfl⟩, fit_eq rfl nofun ?_⟩
  ·refine congrArg iu ?_; simp only [u64_wrap]; omega

theorem ref2_From (n : Int) (h0 : -9223372036854775808 ≤ n) (h1 : n ≤ 9223372036854775807) : Fn Tryz.prog 27 [.d (ii n)] false (.one (.agg (encZ n))) := by
 have hl1 : (limbs n.natAbs).length ≤ 1 := limbs_len_le (by omega)
 refine Fn_of_EV Tryz.func27 rfl (by kernel_rfl) rfl rfl (fun E hE => ?_)
 iterate 2 refine τ ?_
 refine EVo_e rfl (D_alloc 1 (hE 1 rfl) Free_no zr38 rfl) ?_
 iterate 6 refine τ ?_
 refine EVo_e rfl (D_call false (ref2_Size _ (by omega) (by omega)) rfl (φd rfl φn)) ?_
 refine EVo_e rfl (D_call false (ref_Of _ (by omega) (by omega)) rfl (φd rfl φn)) ?_
 refine EVo_e rfl (D_call false (ref2_MadeN _ _ (by rw [Int.toNat_natCast]; omega)) rfl (φd rfl (φd rfl φn))) ?_
 iterate 3 refine τ ?_
 refine ⟨_, ⟨rfl, _, _, _, rfl, rfl, rfl, .inl ⟨_, gOk rfl, zOk rfl, Nat.le_of_ble_eq_true rfl, rfl⟩⟩, fit_agg rfl nofun ?_⟩
 ·refine congrArg encZ ?_
  split
  ·simp_all; omega
  ·simp_all; omega

theorem ref2_Sign (a : Int) (hl : (limbs a.natAbs).length ≤ 17592186044416) : Fn Tryz.prog 70 [.agg (encZ a)] false (.one (.d (ii (if a < 0 then -1 else if 0 < a then 1 else 0)))) := by
 have hp := limbs_len_pos a.natAbs
 refine Fn_of_EV Tryz.func70 rfl (by kernel_rfl) rfl rfl (fun E hE => ?_)
 iterate 2 refine τ ?_
 refine EVo_e rfl (D_box 1 (hE 1 rfl) Free_no rfl) ?_
 iterate 8 refine τ ?_
 refine EV_cond rfl rfl rfl (fun hb1 => ?_) (fun hb1 => ?_)
 ·try simp only [zz] at hb1
  iterate 5 refine τ ?_
  refine ⟨_, ⟨rfl, rfl⟩, fit_eq rfl nofun ?_⟩
  ·rw [if_pos hb1]
 ·try simp only [zz] at hb1
  iterate 9 refine τ ?_
  refine EV_cond rfl rfl rfl (fun hb2 => ?_) (fun hb2 => ?_)
  ·try simp only [zz] at hb2
   iterate 5 refine τ ?_
   refine ⟨_, ⟨rfl, rfl⟩, fit_eq rfl nofun ?_⟩
   ·have : 0 < a := by have := hp.1 (by omega); omega
    rw [if_neg (by omega), if_pos this]
  ·try simp only [zz] at hb2
   iterate 6 refine τ ?_
   refine ⟨_, ⟨rfl, rfl⟩, fit_eq rfl nofun ?_⟩
   ·have : ¬ 0 < a := by have := mt hp.2 (by omega); omega
    rw [if_neg (by omega), if_neg this]

theorem ref2_Zero (a : Int) (hl : (limbs a.natAbs).length ≤ 17592186044416) : Fn Tryz.prog 71 [.agg (encZ a)] false (.one (.d (ib (decide (a = 0))))) := by
 have hp := limbs_len_pos a.natAbs
 refine Fn_of_EV Tryz.func71 rfl (by kernel_rfl) rfl rfl (fun E hE => ?_)
 iterate 2 refine τ ?_
 refine EVo_e rfl (D_box 1 (hE 1 rfl) Free_no rfl) ?_
 iterate 11 refine τ ?_
 refine ⟨_, ⟨rfl, rfl⟩, fit_eq rfl nofun ?_⟩
 ·refine congrArg ib (decide_eq_decide.2 ?_)
  omega

theorem ref2_Neg (a : Int) (hl : (limbs a.natAbs).length ≤ 17592186044416) : Fn Tryz.prog 76 [.agg (encZ a)] false (.one (.agg (encZ (-a)))) := by
 refine Fn_of_EV Tryz.func76 rfl (by kernel_rfl) rfl rfl (fun E hE => ?_)
 iterate 2 refine τ ?_
 refine EVo_e rfl (D_box 1 (hE 1 rfl) Free_no rfl) ?_
 refine EVo_e rfl (D_alloc 2 (hE 2 rfl) Free_no zr38 rfl) ?_
 iterate 8 refine τ ?_
 refine EVo_e rfl (D_call false (ref2_MadeN _ _ (by omega)) rfl (φd rfl (φd rfl φn))) ?_
 iterate 3 refine τ ?_
 refine ⟨_, ⟨rfl, _, _, _, rfl, rfl, rfl, .inl ⟨_, gOk rfl, zOk rfl, Nat.le_of_ble_eq_true rfl, rfl⟩⟩, fit_agg rfl nofun ?_⟩
 ·exact congrArg encZ (neg_sign a)

theorem ref2_Times (a b : Int) (hl : (limbs a.natAbs).length + (limbs b.natAbs).length ≤ 4398046511104) : Fn Tryz.prog 64 [.agg (encZ a), .agg (encZ b)] false (.one (.agg (encZ (a * b)))) := by
 have hml := limbs_mul_len a.natAbs b.natAbs
 refine Fn_of_EV Tryz.func64 rfl (by kernel_rfl) rfl rfl (fun E hE => ?_)
 iterate 2 refine τ ?_
 refine EVo_e rfl (D_box 1 (hE 1 rfl) Free_no rfl) ?_
 refine EVo_e rfl (D_box 2 (hE 2 rfl) Free_no rfl) ?_
 refine EVo_e rfl (D_alloc 3 (hE 3 rfl) Free_no zr38 rfl) ?_
 iterate 2 refine τ ?_
 refine EV_draw (inX [1, 2]) (.st 0 (.st 1 (.st 2 (.st 3 (.st 4 (.st 5 (.st 6 (.st 7 (.st 8 (.one 9 (.one 10 (.one 11 .done)))))))))))) Tryz.mixed (by kernel_rfl) ?_
 refine EVq_t rfl rfl (T_faR (fOk rfl) (zOk rfl) rfl) ?_
 refine EVq_t rfl rfl (T_loadR (gOk rfl) rfl rfl rfl rfl) ?_
 refine EVq_t rfl rfl (T_faR (fOk rfl) (zOk rfl) rfl) ?_
 refine EVq_t rfl rfl (T_loadR (gOk rfl) rfl rfl rfl rfl) ?_
 refine EVq_t rfl rfl (T_eqb (uOk rfl) rfl rfl (.inr ⟨rfl, rfl⟩)) ?_
 refine EVq_t rfl rfl (T_faR (fOk rfl) (zOk rfl) rfl) ?_
 refine EVq_t rfl rfl (T_loadR (gOk rfl) rfl rfl rfl rfl) ?_
 refine EVq_t rfl rfl (T_faR (fOk rfl) (zOk rfl) rfl) ?_
 refine EVq_t rfl rfl (T_loadR (gOk rfl) rfl rfl rfl rfl) ?_
 refine EVq_e rfl rfl (D_call false (ref_TimesN _ _ (by omega) (by omega)) rfl (φd rfl (φd rfl φn))) ?_
 refine EVq_e rfl rfl (D_call false (ref2_MadeN _ _ (by omega)) rfl (φd rfl (φd rfl φn))) ?_
 refine EVq_e rfl rfl (D_store rfl (Free_in rfl) rfl rfl (zOk rfl) rfl (Nat.le_of_ble_eq_true rfl) rfl) ?_
 refine EVq_done ?_
 refine τ ?_
 refine ⟨_, ⟨rfl, _, _, _, rfl, rfl, rfl, .inl ⟨_, gOk rfl, zOk rfl, Nat.le_of_ble_eq_true rfl, rfl⟩⟩, fit_agg rfl nofun ?_⟩
 ·exact congrArg encZ (mul_sign a b)

theorem ref2_May (neg : Bool) (l : List Int) (hl : l.length ≤ 17592186044416) : Fn Tryz.prog 67 [.agg [ib neg, encN l]] false (.one (.d (ib (goodZ neg l)))) := by
 refine Fn_of_EV Tryz.func67 rfl (by kernel_rfl) rfl rfl (fun E hE => ?_)
 iterate 2 refine τ ?_
 refine EVo_e rfl (D_box 1 (hE 1 rfl) Free_no rfl) ?_
 iterate 6 refine τ ?_
 refine EVo_e rfl (D_call false (ref_May _ (by omega)) rfl (φd rfl φn)) ?_
 refine τ ?_
 refine EVo_case 6 rfl (fun hb1 => ?_) (fun hb1 => ?_)
 ·try simp only [zz] at hb1
  iterate 5 refine τ ?_
  refine EVo_case 11 rfl (fun hb2 => ?_) (fun hb2 => ?_)
  ·try simp only [zz] at hb2
   iterate 8 refine τ ?_
   refine ⟨_, ⟨rfl, rfl⟩, fit_eq rfl nofun ?_⟩
   ·rcases hg : goodL l <;> cases neg <;> simp_all [goodZ] <;> omega
  ·try simp only [zz] at hb2
   iterate 8 refine τ ?_
   refine ⟨_, ⟨rfl, rfl⟩, fit_eq rfl nofun ?_⟩
   ·rcases hg : goodL l <;> cases neg <;> simp_all [goodZ] <;> omega
 ·try simp only [zz] at hb1
  iterate 13 refine τ ?_
  refine ⟨_, ⟨rfl, rfl⟩, fit_eq rfl nofun ?_⟩
  ·rcases hg : goodL l <;> cases neg <;> simp_all [goodZ] <;> omega

end Go.Proofs.YthaiegnohkiegaaGreat.Ab
/-
 Contracts of the reference: rationals.
-/
namespace Go.Proofs.YthaiegnohkiegaaGreat.Ab
set_option linter.unusedVariables false
set_option linter.unusedSimpArgs false
set_option maxRecDepth 20000
set_option maxHeartbeats 4000000
attribute [local irreducible] Tells Does EVo EV EVq EVr TellsC


theorem ref3_den (q : Rat) (h : szQ q ≤ 1099511627776) : Fn Tryz.prog 75 [.agg (encQ q)] false (.one (.agg (encZ (q.den : Int)))) := by
 have hzq : szQ q = (limbs q.num.natAbs).length + (limbs q.den).length := rfl
 refine Fn_of_EV Tryz.func75 rfl (by kernel_rfl) rfl rfl (fun E hE => ?_)
 iterate 2 refine τ ?_
 refine EVo_e rfl (D_box 1 (hE 1 rfl) Free_no rfl) ?_
 refine EVo_e rfl (D_alloc 2 (hE 2 rfl) Free_no zr38 rfl) ?_
 iterate 5 refine τ ?_
 refine EVo_e rfl (D_call false (ref2_MadeN false q.den (by omega)) rfl (φd rfl (φd rfl φn))) ?_
 iterate 3 refine τ ?_
 refine ⟨_, ⟨rfl, _, _, _, rfl, rfl, rfl, .inl ⟨_, gOk rfl, zOk rfl, Nat.le_of_ble_eq_true rfl, rfl⟩⟩, fit_agg rfl nofun rfl⟩

theorem ref3_Make (n : Int) (d : Nat) (hd : d ≠ 0) (hn : (limbs n.natAbs).length ≤ 1099511627776) (hdl : (limbs d).length ≤ 1099511627776) : Fn Tryz.prog 63 [.agg (encZ n), .d (encN (limbs d))] false (.one (.agg (encQ (mkRat n d)))) := by
 have hg : Nat.gcd n.natAbs d ≠ 0 := Nat.ne_of_gt (Nat.gcd_pos_of_pos_right n.natAbs (Nat.pos_of_ne_zero hd))
 have hgl := limbs_mono (Nat.gcd_le_right n.natAbs (Nat.pos_of_ne_zero hd))
 have hdv := limbs_mono (Nat.div_le_self n.natAbs (Nat.gcd n.natAbs d))
 refine Fn_of_EV Tryz.func63 rfl (by kernel_rfl) rfl rfl (fun E hE => ?_)
 iterate 2 refine τ ?_
 refine EVo_e rfl (D_box 1 (hE 1 rfl) Free_no rfl) ?_
 refine EVo_e rfl (D_alloc 2 (hE 2 rfl) Free_no zr40 rfl) ?_
 iterate 6 refine τ ?_
 refine EVo_e rfl (D_call false (ref_Gcd n.natAbs d (by omega) (by omega)) rfl (φd rfl (φd rfl φn))) ?_
 iterate 7 refine τ ?_
 refine EVo_e rfl (D_call false (ref_Divide _ _ hg (by omega) (by omega)) rfl (φd rfl (φd rfl φn))) ?_
 iterate 10 refine τ ?_
 refine EVo_e rfl (D_call false (ref_Divide _ _ hg (by omega) (by omega)) rfl (φd rfl (φd rfl φn))) ?_
 iterate 11 refine τ ?_
 refine EVo_e rfl (D_call false (ref2_Made _ _ (by omega)) rfl (φd rfl (φd rfl φn))) ?_
 refine τ ?_
 refine EVo_t rfl (T_build ly40 rfl rfl) ?_
 iterate 3 refine τ ?_
 refine ⟨_, ⟨rfl, _, _, _, rfl, rfl, rfl, .inl ⟨_, gOk rfl, zOk rfl, Nat.le_of_ble_eq_true rfl, rfl⟩⟩, fit_agg rfl nofun ?_⟩
 ·rw [encQ_mk n hd, made_sign (Nat.pos_of_ne_zero hg) (Nat.gcd_dvd_left _ _)]

theorem ref3_Times (p q : Rat) (h : szQ p + szQ q ≤ 549755813888) : Fn Tryz.prog 20 [.agg (encQ p), .agg (encQ q)] false (.one (.agg (encQ (p * q)))) := by
 have hzp : szQ p = (limbs p.num.natAbs).length + (limbs p.den).length := rfl
 have hzq : szQ q = (limbs q.num.natAbs).length + (limbs q.den).length := rfl
 have hpd := p.den_nz
 have hqd := q.den_nz
 have hm1 := limbs_mul_len p.num.natAbs q.num.natAbs
 have hm2 := limbs_mul_len p.den q.den
 have hss : (limbs (p.num * q.num).natAbs).length ≤ szQ p + szQ q := by rw [Int.natAbs_mul]; omega
 refine Fn_of_EV Tryz.func20 rfl (by kernel_rfl) rfl rfl (fun E hE => ?_)
 iterate 2 refine τ ?_
 refine EVo_e rfl (D_box 1 (hE 1 rfl) Free_no rfl) ?_
 refine EVo_e rfl (D_box 2 (hE 2 rfl) Free_no rfl) ?_
 refine EVo_e rfl (D_alloc 3 (hE 3 rfl) Free_no zr40 rfl) ?_
 iterate 2 refine τ ?_
 refine EV_draw (inX [1, 2]) (.st 0 (.st 1 (.st 2 (.st 3 (.st 5 (.st 6 (.st 7 (.st 8 (.one 4 (.one 9 (.one 10 (.one 11 .done)))))))))))) Tryz.mixed (by kernel_rfl) ?_
 refine EVq_t rfl rfl (T_faR (fOk rfl) (zOk rfl) rfl) ?_
 refine EVq_t rfl rfl (T_loadRA (gOk rfl) (zOk rfl) rfl rfl (Nat.le_of_ble_eq_true rfl) rfl rfl) ?_
 refine EVq_t rfl rfl (T_faR (fOk rfl) (zOk rfl) rfl) ?_
 refine EVq_t rfl rfl (T_loadRA (gOk rfl) (zOk rfl) rfl rfl (Nat.le_of_ble_eq_true rfl) rfl rfl) ?_
 refine EVq_t rfl rfl (T_faR (fOk rfl) (zOk rfl) rfl) ?_
 refine EVq_t rfl rfl (T_loadR (gOk rfl) rfl rfl rfl rfl) ?_
 refine EVq_t rfl rfl (T_faR (fOk rfl) (zOk rfl) rfl) ?_
 refine EVq_t rfl rfl (T_loadR (gOk rfl) rfl rfl rfl rfl) ?_
 refine EVq_e rfl rfl (D_call false (ref2_Times p.num q.num (by omega)) rfl (φa rfl (φa rfl φn))) ?_
 refine EVq_e rfl rfl (D_call false (ref_TimesN p.den q.den (by omega) (by omega)) rfl (φd rfl (φd rfl φn))) ?_
 refine EVq_e rfl rfl (D_call false (ref3_Make (p.num * q.num) (p.den * q.den) (Nat.mul_ne_zero hpd hqd) (by omega) (by omega)) rfl (φa rfl (φd rfl φn))) ?_
 refine EVq_e rfl rfl (D_store rfl (Free_in rfl) rfl rfl (zOk rfl) rfl (Nat.le_of_ble_eq_true rfl) rfl) ?_
 refine EVq_done ?_
 refine τ ?_
 refine ⟨_, ⟨rfl, _, _, _, rfl, rfl, rfl, .inl ⟨_, gOk rfl, zOk rfl, Nat.le_of_ble_eq_true rfl, rfl⟩⟩, fit_agg rfl nofun ?_⟩
 ·exact congrArg encQ (Rat.mul_def' p q).symm

theorem ref3_Over (p q : Rat) (h : szQ p + szQ q ≤ 549755813888) (hq0 : q ≠ 0) : Fn Tryz.prog 29 [.agg (encQ p), .agg (encQ q)] false (.one (.agg (encQ (p / q)))) := by
 have hzp : szQ p = (limbs p.num.natAbs).length + (limbs p.den).length := rfl
 have hzq : szQ q = (limbs q.num.natAbs).length + (limbs q.den).length := rfl
 have hpd := p.den_nz
 have hqd := q.den_nz
 have hqn : q.num.natAbs ≠ 0 := (inv_parts hq0).2.2
 have hm1 := limbs_mul_len p.num.natAbs q.den
 have hm2 := limbs_mul_len p.den q.num.natAbs
 have hss : (limbs (p.num * (q.den : Int)).natAbs).length ≤ szQ p + szQ q := by rw [Int.natAbs_mul, Int.natAbs_natCast]; omega
 refine Fn_of_EV Tryz.func29 rfl (by kernel_rfl) rfl rfl (fun E hE => ?_)
 iterate 2 refine τ ?_
 refine EVo_e rfl (D_box 1 (hE 1 rfl) Free_no rfl) ?_
 refine EVo_e rfl (D_box 2 (hE 2 rfl) Free_no rfl) ?_
 refine EVo_e rfl (D_alloc 3 (hE 3 rfl) Free_no zr40 rfl) ?_
 iterate 2 refine τ ?_
 refine EV_draw (inX [1, 2]) (.st 0 (.st 1 (.st 2 (.two 3 (.two 4 (.one 5 (.one 6 .done)) 5 (.one 4 (.one 6 .done))) 5 (.one 3 (.one 4 (.one 6 .done))))))) Tryz.mixed (by kernel_rfl) ?_
 refine EVq_t rfl rfl (T_faR (fOk rfl) (zOk rfl) rfl) ?_
 refine EVq_t rfl rfl (T_loadRA (gOk rfl) (zOk rfl) rfl rfl (Nat.le_of_ble_eq_true rfl) rfl rfl) ?_
 refine EVq_t rfl rfl (T_loadRA (gOk rfl) (zOk rfl) rfl rfl (Nat.le_of_ble_eq_true rfl) rfl rfl) ?_
 refine EVq_two rfl rfl (D_call false (ref3_den q (by omega)) rfl (φa rfl φn)) rfl rfl (D_alloc 4 (hE 4 rfl) (Free_in rfl) zr38 rfl) ?_ ?_
 ·
  refine EVq_two rfl rfl (D_call false (ref2_Times p.num (q.den : Int) (by rw [Int.natAbs_natCast]; omega)) rfl (φa rfl (φa rfl φn))) rfl rfl (D_alloc 5 (hE 5 rfl) (Free_in rfl) zr38 rfl) ?_ ?_
  ·
   refine EVq_e rfl rfl (D_alloc 6 (hE 6 rfl) (Free_in rfl) zr38 rfl) ?_
   refine EVq_e rfl rfl (D_store rfl (Free_in rfl) rfl rfl (zOk rfl) rfl (Nat.le_of_ble_eq_true rfl) rfl) ?_
   refine EVq_done ?_
   iterate 7 refine τ ?_
   refine EV_cond rfl rfl rfl (fun hb1 => ?_) (fun hb1 => ?_)
   ·try simp only [zz] at hb1
    have hbn := hb1
    iterate 2 refine τ ?_
    refine EVo_e rfl (D_call false (ref2_Neg (p.num * (q.den : Int)) (by omega)) rfl (φa rfl φn)) ?_
    iterate 3 refine τ ?_
    refine EV_draw (inX [1, 2, 6]) (.st 0 (.st 1 (.st 2 (.st 3 (.st 4 (.st 5 (.one 6 (.one 7 (.one 8 .done))))))))) Tryz.mixed (by kernel_rfl) ?_
    refine EVq_t rfl rfl (T_loadRA (gOk rfl) (zOk rfl) rfl rfl (Nat.le_of_ble_eq_true rfl) rfl rfl) ?_
    refine EVq_t rfl rfl (T_faR (fOk rfl) (zOk rfl) rfl) ?_
    refine EVq_t rfl rfl (T_loadR (gOk rfl) rfl rfl rfl rfl) ?_
    refine EVq_t rfl rfl (T_faR (fOk rfl) (zOk rfl) rfl) ?_
    refine EVq_t rfl rfl (T_faR (fOk rfl) (zOk rfl) rfl) ?_
    refine EVq_t rfl rfl (T_loadR (gOk rfl) rfl rfl rfl rfl) ?_
    refine EVq_e rfl rfl (D_call false (ref_TimesN p.den q.num.natAbs (by omega) (by omega)) rfl (φd rfl (φd rfl φn))) ?_
    refine EVq_e rfl rfl (D_call false (ref3_Make _ _ (Nat.mul_ne_zero hpd hqn) (by (try rw [Int.natAbs_neg]); omega) (by omega)) rfl (φa rfl (φd rfl φn))) ?_
    refine EVq_e rfl rfl (D_store rfl (Free_in rfl) rfl rfl (zOk rfl) rfl (Nat.le_of_ble_eq_true rfl) rfl) ?_
    refine EVq_done ?_
    refine τ ?_
    refine ⟨_, ⟨rfl, _, _, _, rfl, rfl, rfl, .inl ⟨_, gOk rfl, zOk rfl, Nat.le_of_ble_eq_true rfl, rfl⟩⟩, fit_agg rfl nofun ?_⟩
    ·refine congrArg encQ ?_
     rw [div_mk hq0]
     first | rw [if_pos hbn, Int.mul_neg] | rw [if_neg hbn]
   ·try simp only [zz] at hb1
    have hbn : ¬ q.num < 0 := by omega
    iterate 2 refine τ ?_
    refine EV_draw (inX [1, 2, 6]) (.st 0 (.st 1 (.st 2 (.st 3 (.st 4 (.st 5 (.one 6 (.one 7 (.one 8 .done))))))))) Tryz.mixed (by kernel_rfl) ?_
    refine EVq_t rfl rfl (T_loadRA (gOk rfl) (zOk rfl) rfl rfl (Nat.le_of_ble_eq_true rfl) rfl rfl) ?_
    refine EVq_t rfl rfl (T_faR (fOk rfl) (zOk rfl) rfl) ?_
    refine EVq_t rfl rfl (T_loadR (gOk rfl) rfl rfl rfl rfl) ?_
    refine EVq_t rfl rfl (T_faR (fOk rfl) (zOk rfl) rfl) ?_
    refine EVq_t rfl rfl (T_faR (fOk rfl) (zOk rfl) rfl) ?_
    refine EVq_t rfl rfl (T_loadR (gOk rfl) rfl rfl rfl rfl) ?_
    refine EVq_e rfl rfl (D_call false (ref_TimesN p.den q.num.natAbs (by omega) (by omega)) rfl (φd rfl (φd rfl φn))) ?_
    refine EVq_e rfl rfl (D_call false (ref3_Make _ _ (Nat.mul_ne_zero hpd hqn) (by (try rw [Int.natAbs_neg]); omega) (by omega)) rfl (φa rfl (φd rfl φn))) ?_
    refine EVq_e rfl rfl (D_store rfl (Free_in rfl) rfl rfl (zOk rfl) rfl (Nat.le_of_ble_eq_true rfl) rfl) ?_
    refine EVq_done ?_
    refine τ ?_
    refine ⟨_, ⟨rfl, _, _, _, rfl, rfl, rfl, .inl ⟨_, gOk rfl, zOk rfl, Nat.le_of_ble_eq_true rfl, rfl⟩⟩, fit_agg rfl nofun ?_⟩
    ·refine congrArg encQ ?_
     rw [div_mk hq0]
     first | rw [if_pos hbn, Int.mul_neg] | rw [if_neg hbn]
  ·
   refine EVq_e rfl rfl (D_call false (ref2_Times p.num (q.den : Int) (by rw [Int.natAbs_natCast]; omega)) rfl (φa rfl (φa rfl φn))) ?_
   refine EVq_e rfl rfl (D_store rfl (Free_in rfl) rfl rfl (zOk rfl) rfl (Nat.le_of_ble_eq_true rfl) rfl) ?_
   refine EVq_done ?_
   iterate 7 refine τ ?_
   refine EV_cond rfl rfl rfl (fun hb2 => ?_) (fun hb2 => ?_)
   ·try simp only [zz] at hb2
    have hbn := hb2
    iterate 2 refine τ ?_
    refine EVo_e rfl (D_call false (ref2_Neg (p.num * (q.den : Int)) (by omega)) rfl (φa rfl φn)) ?_
    iterate 3 refine τ ?_
    refine EV_draw (inX [1, 2, 5]) (.st 0 (.st 1 (.st 2 (.st 3 (.st 4 (.st 5 (.one 6 (.one 7 (.one 8 .done))))))))) Tryz.mixed (by kernel_rfl) ?_
    refine EVq_t rfl rfl (T_loadRA (gOk rfl) (zOk rfl) rfl rfl (Nat.le_of_ble_eq_true rfl) rfl rfl) ?_
    refine EVq_t rfl rfl (T_faR (fOk rfl) (zOk rfl) rfl) ?_
    refine EVq_t rfl rfl (T_loadR (gOk rfl) rfl rfl rfl rfl) ?_
    refine EVq_t rfl rfl (T_faR (fOk rfl) (zOk rfl) rfl) ?_
    refine EVq_t rfl rfl (T_faR (fOk rfl) (zOk rfl) rfl) ?_
    refine EVq_t rfl rfl (T_loadR (gOk rfl) rfl rfl rfl rfl) ?_
    refine EVq_e rfl rfl (D_call false (ref_TimesN p.den q.num.natAbs (by omega) (by omega)) rfl (φd rfl (φd rfl φn))) ?_
    refine EVq_e rfl rfl (D_call false (ref3_Make _ _ (Nat.mul_ne_zero hpd hqn) (by (try rw [Int.natAbs_neg]); omega) (by omega)) rfl (φa rfl (φd rfl φn))) ?_
    refine EVq_e rfl rfl (D_store rfl (Free_in rfl) rfl rfl (zOk rfl) rfl (Nat.le_of_ble_eq_true rfl) rfl) ?_
    refine EVq_done ?_
    refine τ ?_
    refine ⟨_, ⟨rfl, _, _, _, rfl, rfl, rfl, .inl ⟨_, gOk rfl, zOk rfl, Nat.le_of_ble_eq_true rfl, rfl⟩⟩, fit_agg rfl nofun ?_⟩
    ·refine congrArg encQ ?_
     rw [div_mk hq0]
     first | rw [if_pos hbn, Int.mul_neg] | rw [if_neg hbn]
   ·try simp only [zz] at hb2
    have hbn : ¬ q.num < 0 := by omega
    iterate 2 refine τ ?_
    refine EV_draw (inX [1, 2, 5]) (.st 0 (.st 1 (.st 2 (.st 3 (.st 4 (.st 5 (.one 6 (.one 7 (.one 8 .done))))))))) Tryz.mixed (by kernel_rfl) ?_
    refine EVq_t rfl rfl (T_loadRA (gOk rfl) (zOk rfl) rfl rfl (Nat.le_of_ble_eq_true rfl) rfl rfl) ?_
    refine EVq_t rfl rfl (T_faR (fOk rfl) (zOk rfl) rfl) ?_
    refine EVq_t rfl rfl (T_loadR (gOk rfl) rfl rfl rfl rfl) ?_
    refine EVq_t rfl rfl (T_faR (fOk rfl) (zOk rfl) rfl) ?_
    refine EVq_t rfl rfl (T_faR (fOk rfl) (zOk rfl) rfl) ?_
    refine EVq_t rfl rfl (T_loadR (gOk rfl) rfl rfl rfl rfl) ?_
    refine EVq_e rfl rfl (D_call false (ref_TimesN p.den q.num.natAbs (by omega) (by omega)) rfl (φd rfl (φd rfl φn))) ?_
    refine EVq_e rfl rfl (D_call false (ref3_Make _ _ (Nat.mul_ne_zero hpd hqn) (by (try rw [Int.natAbs_neg]); omega) (by omega)) rfl (φa rfl (φd rfl φn))) ?_
    refine EVq_e rfl rfl (D_store rfl (Free_in rfl) rfl rfl (zOk rfl) rfl (Nat.le_of_ble_eq_true rfl) rfl) ?_
    refine EVq_done ?_
    refine τ ?_
    refine ⟨_, ⟨rfl, _, _, _, rfl, rfl, rfl, .inl ⟨_, gOk rfl, zOk rfl, Nat.le_of_ble_eq_true rfl, rfl⟩⟩, fit_agg rfl nofun ?_⟩
    ·refine congrArg encQ ?_
     rw [div_mk hq0]
     first | rw [if_pos hbn, Int.mul_neg] | rw [if_neg hbn]
 ·
  refine EVq_e rfl rfl (D_call false (ref3_den q (by omega)) rfl (φa rfl φn)) ?_
  refine EVq_e rfl rfl (D_call false (ref2_Times p.num (q.den : Int) (by rw [Int.natAbs_natCast]; omega)) rfl (φa rfl (φa rfl φn))) ?_
  refine EVq_e rfl rfl (D_store rfl (Free_in rfl) rfl rfl (zOk rfl) rfl (Nat.le_of_ble_eq_true rfl) rfl) ?_
  refine EVq_done ?_
  iterate 7 refine τ ?_
  refine EV_cond rfl rfl rfl (fun hb3 => ?_) (fun hb3 => ?_)
  ·try simp only [zz] at hb3
   have hbn := hb3
   iterate 2 refine τ ?_
   refine EVo_e rfl (D_call false (ref2_Neg (p.num * (q.den : Int)) (by omega)) rfl (φa rfl φn)) ?_
   iterate 3 refine τ ?_
   refine EV_draw (inX [1, 2, 4]) (.st 0 (.st 1 (.st 2 (.st 3 (.st 4 (.st 5 (.one 6 (.one 7 (.one 8 .done))))))))) Tryz.mixed (by kernel_rfl) ?_
   refine EVq_t rfl rfl (T_loadRA (gOk rfl) (zOk rfl) rfl rfl (Nat.le_of_ble_eq_true rfl) rfl rfl) ?_
   refine EVq_t rfl rfl (T_faR (fOk rfl) (zOk rfl) rfl) ?_
   refine EVq_t rfl rfl (T_loadR (gOk rfl) rfl rfl rfl rfl) ?_
   refine EVq_t rfl rfl (T_faR (fOk rfl) (zOk rfl) rfl) ?_
   refine EVq_t rfl rfl (T_faR (fOk rfl) (zOk rfl) rfl) ?_
   refine EVq_t rfl rfl (T_loadR (gOk rfl) rfl rfl rfl rfl) ?_
   refine EVq_e rfl rfl (D_call false (ref_TimesN p.den q.num.natAbs (by omega) (by omega)) rfl (φd rfl (φd rfl φn))) ?_
   refine EVq_e rfl rfl (D_call false (ref3_Make _ _ (Nat.mul_ne_zero hpd hqn) (by (try rw [Int.natAbs_neg]); omega) (by omega)) rfl (φa rfl (φd rfl φn))) ?_
   refine EVq_e rfl rfl (D_store rfl (Free_in rfl) rfl rfl (zOk rfl) rfl (Nat.le_of_ble_eq_true rfl) rfl) ?_
   refine EVq_done ?_
   refine τ ?_
   refine ⟨_, ⟨rfl, _, _, _, rfl, rfl, rfl, .inl ⟨_, gOk rfl, zOk rfl, Nat.le_of_ble_eq_true rfl, rfl⟩⟩, fit_agg rfl nofun ?_⟩
   ·refine congrArg encQ ?_
    rw [div_mk hq0]
    first | rw [if_pos hbn, Int.mul_neg] | rw [if_neg hbn]
  ·try simp only [zz] at hb3
   have hbn : ¬ q.num < 0 := by omega
   iterate 2 refine τ ?_
   refine EV_draw (inX [1, 2, 4]) (.st 0 (.st 1 (.st 2 (.st 3 (.st 4 (.st 5 (.one 6 (.one 7 (.one 8 .done))))))))) Tryz.mixed (by kernel_rfl) ?_
   refine EVq_t rfl rfl (T_loadRA (gOk rfl) (zOk rfl) rfl rfl (Nat.le_of_ble_eq_true rfl) rfl rfl) ?_
   refine EVq_t rfl rfl (T_faR (fOk rfl) (zOk rfl) rfl) ?_
   refine EVq_t rfl rfl (T_loadR (gOk rfl) rfl rfl rfl rfl) ?_
   refine EVq_t rfl rfl (T_faR (fOk rfl) (zOk rfl) rfl) ?_
   refine EVq_t rfl rfl (T_faR (fOk rfl) (zOk rfl) rfl) ?_
   refine EVq_t rfl rfl (T_loadR (gOk rfl) rfl rfl rfl rfl) ?_
   refine EVq_e rfl rfl (D_call false (ref_TimesN p.den q.num.natAbs (by omega) (by omega)) rfl (φd rfl (φd rfl φn))) ?_
   refine EVq_e rfl rfl (D_call false (ref3_Make _ _ (Nat.mul_ne_zero hpd hqn) (by (try rw [Int.natAbs_neg]); omega) (by omega)) rfl (φa rfl (φd rfl φn))) ?_
   refine EVq_e rfl rfl (D_store rfl (Free_in rfl) rfl rfl (zOk rfl) rfl (Nat.le_of_ble_eq_true rfl) rfl) ?_
   refine EVq_done ?_
   refine τ ?_
   refine ⟨_, ⟨rfl, _, _, _, rfl, rfl, rfl, .inl ⟨_, gOk rfl, zOk rfl, Nat.le_of_ble_eq_true rfl, rfl⟩⟩, fit_agg rfl nofun ?_⟩
   ·refine congrArg encQ ?_
    rw [div_mk hq0]
    first | rw [if_pos hbn, Int.mul_neg] | rw [if_neg hbn]

theorem ref3_Sign (q : Rat) (h : szQ q ≤ 1099511627776) : Fn Tryz.prog 24 [.agg (encQ q)] false (.one (.d (ii (if q.num < 0 then -1 else if 0 < q.num then 1 else 0)))) := by
 have hzq : szQ q = (limbs q.num.natAbs).length + (limbs q.den).length := rfl
 refine Fn_of_EV Tryz.func24 rfl (by kernel_rfl) rfl rfl (fun E hE => ?_)
 iterate 2 refine τ ?_
 refine EVo_e rfl (D_box 1 (hE 1 rfl) Free_no rfl) ?_
 iterate 6 refine τ ?_
 refine EVo_e rfl (D_call false (ref2_Sign q.num (by omega)) rfl (φa rfl φn)) ?_
 iterate 3 refine τ ?_
 refine ⟨_, ⟨rfl, rfl⟩, fit_eq rfl nofun rfl⟩

theorem ref3_May (neg : Bool) (l m : List Int) (hl : l.length ≤ 1099511627776) (hm : m.length ≤ 1099511627776) (hk : okL l) (hkm : okL m) : Fn Tryz.prog 23 [.agg [ib neg, encN l, encN m]] false (.one (.d (ib (ratB neg l m)))) := by
 refine Fn_of_EV Tryz.func23 rfl (by kernel_rfl) rfl rfl (fun E hE => ?_)
 iterate 2 refine τ ?_
 refine EVo_e rfl (D_box 1 (hE 1 rfl) Free_no rfl) ?_
 iterate 7 refine τ ?_
 refine EVo_e rfl (D_call false (ref2_May _ _ (by omega)) rfl (φa rfl φn)) ?_
 iterate 2 refine τ ?_
 refine EVo_case 8 rfl (fun hb1 => ?_) (fun hb1 => ?_)
 ·try simp only [zz] at hb1
  iterate 12 refine τ ?_
  refine EV_cond rfl rfl rfl (fun _ => ?_) (fun h => by cases h)
  iterate 5 refine τ ?_
  unfold ratB
  refine ⟨_, ⟨rfl, rfl⟩, fit_eq rfl nofun ?_⟩
  ·refine congrArg ib ?_
   rcases hz : goodZ neg l <;> rcases hz2 : goodL m <;> by_cases hz3 : 0 < m.length <;> simp_all <;> omega
 ·try simp only [zz] at hb1
  iterate 2 refine τ ?_
  refine EVo_e rfl (D_call false (ref_May _ (by omega)) rfl (φd rfl φn)) ?_
  iterate 3 refine τ ?_
  refine EVo_case 14 rfl (fun hb2 => ?_) (fun hb2 => ?_)
  ·try simp only [zz] at hb2
   iterate 6 refine τ ?_
   refine EV_cond rfl rfl rfl (fun _ => ?_) (fun h => by cases h)
   iterate 5 refine τ ?_
   unfold ratB
   refine ⟨_, ⟨rfl, rfl⟩, fit_eq rfl nofun ?_⟩
   ·refine congrArg ib ?_
    rcases hz : goodZ neg l <;> rcases hz2 : goodL m <;> by_cases hz3 : 0 < m.length <;> simp_all <;> omega
  ·try simp only [zz] at hb2
   iterate 6 refine τ ?_
   refine EV_cond rfl rfl rfl (fun hb3 => ?_) (fun hb3 => ?_)
   ·try simp only [zz] at hb3
    iterate 5 refine τ ?_
    unfold ratB
    refine ⟨_, ⟨rfl, rfl⟩, fit_eq rfl nofun ?_⟩
    ·refine congrArg ib ?_
     rcases hz : goodZ neg l <;> rcases hz2 : goodL m <;> by_cases hz3 : 0 < m.length <;> simp_all <;> omega
   ·try simp only [zz] at hb3
    iterate 8 refine τ ?_
    have hgz : goodZ neg l = true := by simp_all
    have hgl : goodL l = true := by simp_all [goodZ]
    have hgm : goodL m = true := by simp_all
    refine EVo_e rfl (D_call false (ref_GcdG _ _ (by omega) (by omega) (by assumption) (by assumption) hgl hgm) rfl (φd rfl (φd rfl φn))) ?_
    iterate 8 refine τ ?_
    refine EVo_case 29 rfl (fun hb4 => ?_) (fun hb4 => ?_)
    ·try simp only [zz] at hb4
     have ho := hb4
     iterate 8 refine τ ?_
     unfold ratB
     refine ⟨_, ⟨rfl, rfl⟩, fit_eq rfl nofun ?_⟩
     ·refine congrArg ib ?_
      have hi := is_one (g := Nat.gcd (val l) (val m))
      have hz3 : 0 < m.length := by omega
      simp only [hgz, hgm, hz3, decide_true, Bool.true_and]
      refine decide_eq_decide.2 ?_
      rw [← hi]
      exact ⟨fun h => ⟨ho, h⟩, fun h => h.2⟩
    ·try simp only [zz] at hb4
     have ho := hb4
     iterate 8 refine τ ?_
     unfold ratB
     refine ⟨_, ⟨rfl, rfl⟩, fit_eq rfl nofun ?_⟩
     ·refine congrArg ib ?_
      have hi := is_one (g := Nat.gcd (val l) (val m))
      have hz3 : 0 < m.length := by omega
      simp only [hgz, hgm, hz3, decide_true, Bool.true_and]
      symm
      refine decide_eq_false ?_
      rw [← hi]
      exact fun h => ho h.1

theorem law_of (n d : Int) (h0 : -9223372036854775808 ≤ n) (h1 : n ≤ 9223372036854775807) (hd0 : 0 < d) (hd1 : d < 18446744073709551616) : Fn Tryz.prog 21 [.d (ii n), .d (iu d)] false (.one (.agg (encQ (mkRat n d.toNat)))) := by
 have hl1 : (limbs n.natAbs).length ≤ 1 := limbs_len_le (by omega)
 have hl2 : (limbs d.toNat).length ≤ 1 := limbs_len_le (by omega)
 refine Fn_of_EV Tryz.func21 rfl (by kernel_rfl) rfl rfl (fun E hE => ?_)
 iterate 2 refine τ ?_
 refine EVo_e rfl (D_alloc 1 (hE 1 rfl) Free_no zr40 rfl) ?_
 iterate 4 refine τ ?_
 refine EVo_e rfl (D_call false (ref2_From _ (by omega) (by omega)) rfl (φd rfl φn)) ?_
 refine τ ?_
 refine EVo_e rfl (D_call false (ref_Of _ (by omega) (by omega)) rfl (φd rfl φn)) ?_
 refine EVo_e rfl (D_call false (ref3_Make _ _ (by omega) (by omega) (by omega)) rfl (φa rfl (φd rfl φn))) ?_
 iterate 3 refine τ ?_
 refine ⟨_, ⟨rfl, _, _, _, rfl, rfl, rfl, .inl ⟨_, gOk rfl, zOk rfl, Nat.le_of_ble_eq_true rfl, rfl⟩⟩, fit_agg rfl nofun rfl⟩

end Go.Proofs.YthaiegnohkiegaaGreat.Ab
/-
  Units and types: forms, what may be one.
-/
namespace Go.Proofs.YthaiegnohkiegaaGreat.Ab
set_option linter.unusedVariables false
set_option linter.unusedSimpArgs false

abbrev sd (s : ByteArray) : D := .val (.string s)
abbrev encI (l : List Int) : D := .sl (l.map fun x => [ii x])
/-- A power, as it is read: kind, number, name, sign, limbs. -/
structure Pw where
  k : Int
  n : Int
  s : ByteArray
  neg : Bool
  mag : List Int
instance : Inhabited Pw := ⟨⟨0, 0, ⟨#[]⟩, false, []⟩⟩
def encPw (p : Pw) : List D := [ii p.k, ii p.n, sd p.s, ib p.neg, encN p.mag]
abbrev encU (u : List Pw) : D := .sl (u.map encPw)
abbrev byS (s : ByteArray) (i : Nat) : Int := if h : i < s.size then ((s[i]'h).toNat : Int) else 0
def letterB (c : Int) : Bool := (decide (97 ≤ c) && decide (c ≤ 122)) || decide (c = 95)
def innerB (c : Int) : Bool := letterB c || (decide (65 ≤ c) && decide (c ≤ 90)) || (decide (48 ≤ c) && decide (c ≤ 57))
def wordB (s : ByteArray) : Bool := !(s.toList == []) && decide (s.size ≤ 32) && !(s.toList == [95]) && letterB (byS s 0) && (List.range s.size).all fun i => innerB (byS s i)
def numB (n : Int) : Bool := decide (0 ≤ n) && decide (n ≤ 2147483647)
def atomB (k n : Int) (s : ByteArray) : Bool :=
  if k = 1 ∨ k = 2 then numB n && (s.toList == []) else if k = 3 then decide (n = 0) && wordB s else if k = 4 then decide (n = 0) && (s.toList == []) else false
def orL : List Int → Int
  | [] => 0
  | x :: l => if x = 0 then orL l else x
def ordA (k n : Int) (s : ByteArray) (k' n' : Int) (s' : ByteArray) : Int := orL [Lib.compareInt k k', Lib.compareInt n n', Lib.compareBytes s.data.toList s'.data.toList]
def okAt (u : List Pw) (i : Nat) : Bool :=
  let p := rd u (i : Int)
  atomB p.k p.n p.s && goodZ p.neg p.mag && decide (0 < p.mag.length) && (decide (i = 0) || decide (ordA (rd u ((i : Int) - 1)).k (rd u ((i : Int) - 1)).n (rd u ((i : Int) - 1)).s p.k p.n p.s < 0))
def goodU (u : List Pw) : Bool := (List.range u.length).all (okAt u)
theorem goodU_false {u : List Pw} {i : Nat} (h : i < u.length) (hf : okAt u i = false) : goodU u = false := by
  unfold goodU
  rw [List.all_eq_false]
  exact ⟨i, List.mem_range.2 h, by simp [hf]⟩
theorem goodU_true {u : List Pw} (h : ∀ i, i < u.length → okAt u i = true) : goodU u = true := by
  unfold goodU
  rw [List.all_eq_true]
  exact fun i hi => h i (List.mem_range.1 hi)
theorem goodU_at {u : List Pw} (h : goodU u = true) {i : Nat} (hi : i < u.length) : okAt u i = true := by
  unfold goodU at h
  exact List.all_eq_true.1 h i (List.mem_range.2 hi)
theorem orL_drop {l : List Int} {i : Nat} (h : i < l.length) (hz : rd l (i : Int) = 0) : orL (l.drop i) = orL (l.drop (i + 1)) := by
  rw [drop_rd h, orL, if_pos hz]
theorem orL_at {l : List Int} {i : Nat} (h : i < l.length) (hz : rd l (i : Int) ≠ 0) : orL (l.drop i) = rd l (i : Int) := by
  rw [drop_rd h, orL, if_neg hz]
/-- What the program may be asked of: lengths that fit. -/
def szP (p : Pw) : Prop := p.mag.length ≤ 549755813888 ∧ okL p.mag ∧ p.s.size ≤ 4611686018427387904
def szU (u : List Pw) : Prop := u.length ≤ 549755813888 ∧ ∀ p ∈ u, szP p
theorem mem_rd {α : Type} [Inhabited α] {l : List α} {i : Int} (h0 : 0 ≤ i) (h1 : i < l.length) : rd l i ∈ l := by
  unfold rd
  rw [List.getD_eq_getElem?_getD, List.getElem?_eq_getElem (by omega)]
  exact List.getElem_mem _
theorem szU_rd {u : List Pw} (h : szU u) {i : Int} (h0 : 0 ≤ i) (h1 : i < u.length) : szP (rd u i) := h.2 _ (mem_rd h0 h1)
/-- Where the first one is that a test takes. -/
def idxF {α : Type} [Inhabited α] (p : α → Bool) (u : List α) : Int := match u.findIdx? p with | some i => (i : Int) | none => -1
theorem idxF_found {α : Type} [Inhabited α] {p : α → Bool} {u : List α} {i : Nat} (h : i < u.length) (hp : p (rd u (i : Int)) = true) (hn : ∀ j, j < i → p (rd u (j : Int)) = false) : idxF p u = (i : Int) := by
  unfold idxF
  have e : ∀ j (hj : j < u.length), rd u (j : Int) = u[j] := fun j hj => by
    unfold rd
    rw [Int.toNat_natCast, List.getD_eq_getElem?_getD, List.getElem?_eq_getElem hj]; rfl
  have : u.findIdx? p = some i := by
    rw [List.findIdx?_eq_some_iff_getElem]
    refine ⟨h, by rw [← e i h]; exact hp, fun j hj => ?_⟩
    rw [← e j (by omega), hn j hj]; simp
  rw [this]
theorem idxF_none {α : Type} [Inhabited α] {p : α → Bool} {u : List α} (hn : ∀ j, j < u.length → p (rd u (j : Int)) = false) : idxF p u = -1 := by
  unfold idxF
  have : u.findIdx? p = none := by
    rw [List.findIdx?_eq_none_iff]
    intro x hx
    obtain ⟨j, hj, rfl⟩ := List.getElem_of_mem hx
    have := hn j hj
    unfold rd at this
    rw [Int.toNat_natCast, List.getD_eq_getElem?_getD, List.getElem?_eq_getElem hj] at this
    exact this
  rw [this]
theorem idxF_any {α : Type} [Inhabited α] (p : α → Bool) (u : List α) : decide (0 ≤ idxF p u) = u.any p := by
  unfold idxF
  cases h : u.findIdx? p with
  | none =>
    rw [List.findIdx?_eq_none_iff] at h
    have : u.any p = false := by rw [List.any_eq_false]; intro x hx; simp [h x hx]
    rw [this]; rfl
  | some i =>
    rw [List.findIdx?_eq_some_iff_getElem] at h
    obtain ⟨h1, h2, _⟩ := h
    have : u.any p = true := List.any_eq_true.2 ⟨_, List.getElem_mem h1, h2⟩
    rw [this]
    simp
/-- A type, as it is read. -/
inductive Ty where
  | mk (k n : Int) (s : ByteArray) (ar : List Ty) (us : List (List Pw))
instance : Inhabited Ty := ⟨.mk 0 0 ⟨#[]⟩ [] []⟩
def Ty.k : Ty → Int | .mk k _ _ _ _ => k
def Ty.n : Ty → Int | .mk _ n _ _ _ => n
def Ty.s : Ty → ByteArray | .mk _ _ s _ _ => s
def Ty.ar : Ty → List Ty | .mk _ _ _ ar _ => ar
def Ty.us : Ty → List (List Pw) | .mk _ _ _ _ us => us
abbrev encUs (us : List (List Pw)) : D := .sl (us.map fun u => [encU u])
mutual
def encTy : Ty → List D
  | .mk k n s ar us => [ii k, ii n, sd s, .sl (encTys ar), encUs us]
def encTys : List Ty → List (List D)
  | [] => []
  | a :: l => encTy a :: encTys l
end
theorem encTys_map : ∀ l : List Ty, encTys l = l.map encTy
  | [] => by simp [encTys]
  | a :: l => by simp [encTys, encTys_map l]
abbrev tyD (t : Ty) : List D := [ii t.k, ii t.n, sd t.s, .sl (t.ar.map encTy), encUs t.us]
theorem encTy_eq (t : Ty) : encTy t = tyD t := by
  cases t
  simp [encTy, encTys_map, tyD, Ty.k, Ty.n, Ty.s, Ty.ar, Ty.us]
theorem encTy_len (t : Ty) : (encTy t).length = 5 := by rw [encTy_eq]; rfl
mutual
def szT : Ty → Prop
  | .mk k n s ar us => s.size ≤ 4611686018427387904 ∧ ar.length ≤ 549755813888 ∧ us.length ≤ 549755813888 ∧ (∀ u ∈ us, szU u) ∧ szTs ar
def szTs : List Ty → Prop
  | [] => True
  | a :: l => szT a ∧ szTs l
end
theorem szTs_mem : ∀ {l : List Ty}, szTs l → ∀ t ∈ l, szT t
  | [], _, t, h => by cases h
  | a :: l, hl, t, h => by
    simp only [szTs] at hl
    rcases List.mem_cons.1 h with rfl | h
    · exact hl.1
    · exact szTs_mem hl.2 t h
theorem szT_eq {t : Ty} (h : szT t) : t.s.size ≤ 4611686018427387904 ∧ t.ar.length ≤ 549755813888 ∧ t.us.length ≤ 549755813888 ∧ (∀ u ∈ t.us, szU u) ∧ ∀ a ∈ t.ar, szT a := by
  cases t
  simp only [szT] at h
  exact ⟨h.1, h.2.1, h.2.2.1, h.2.2.2.1, szTs_mem h.2.2.2.2⟩
def wildB (p : Pw) : Bool := decide (p.k = 4)
def fineU (u : List Pw) : Bool := goodU u && !u.any wildB
def kws : List (List UInt8) := [[108, 101, 116], [114, 101, 99], [105, 110], [102, 117, 110], [109, 97, 116, 99, 104], [119, 105, 116, 104], [101, 110, 100], [105, 102], [116, 104, 101, 110], [101, 108, 115, 101], [117, 110, 105, 116], [100, 97, 116, 97], [111, 102], [101, 118, 97, 108], [102, 111, 114, 97, 108, 108], [105, 110, 116], [114, 97, 116]]
def keyB (s : ByteArray) : Bool := kws.any fun k => s.toList == k
def twordB (s : ByteArray) : Bool := !keyB s && goodU [⟨3, 0, s, false, [1]⟩]
/-- May a node's own fields be? -/
def shapedB (t : Ty) : Bool :=
  if t.k = 1 ∨ t.k = 2 then numB t.n && (t.s.toList == []) && decide (t.ar.length = 0) && decide (t.us.length = 0)
  else if t.k = 3 ∨ t.k = 4 then decide (t.n = 0) && (t.s.toList == []) && decide (t.ar.length = 0) && decide (t.us.length = 1)
  else if t.k = 5 then decide (t.n = 0) && (t.s.toList == []) && decide (t.ar.length = 2) && decide (t.us.length = 0)
  else if t.k = 6 then decide (t.n = 0) && (t.s.toList == []) && decide (2 ≤ t.ar.length) && decide (t.us.length = 0)
  else if t.k = 7 then decide (t.n = 0) && twordB t.s else false
theorem drop_rdT {α : Type} [Inhabited α] {l : List α} {n : Nat} (h : n < l.length) : l.drop n = rd l (n : Int) :: l.drop (n + 1) := by
  rw [List.drop_eq_getElem_cons h]
  congr 1
  unfold rd
  simp [h]
def unCs : List V → Option (List C)
  | [] => some []
  | .c c :: l => match unCs l with | some m => some (c :: m) | none => none
  | _ :: _ => none
theorem unCs_eq : ∀ {l : List V} {m : List C}, unCs l = some m → l = m.map V.c
  | [], m, h => by cases h; rfl
  | .c c :: l, m, h => by
    simp only [unCs] at h
    split at h
    · rename_i e
      cases h
      rw [unCs_eq e]
      rfl
    · cases h
  | .agg _ :: _, _, h => by cases h
  | .tup _ :: _, _, h => by cases h
theorem T_mf {P : Program} {X : Nat → Bool} {E : Ent} {S : St} {d : Option Tmp} {ty : TypeId} {ps : String} {af : Array Edge} {gd : Option (Nat × Bool)} {f : FuncId} {first cap : Array Operand} {fs cs : List C} (hf : unCs (first.toList.map S.ev) = some fs) (hc : unCs (cap.toList.map S.ev) = some cs) (hk : (fs ++ cs).all C.known = true)
    : Tells X P E S ⟨d, .makeFunc (.func f) first cap, ty, ps, af, gd⟩ (.c (.fn (.func f) fs cs)) := T_makeFunc (unCs_eq hf) (unCs_eq hc) hk
end Go.Proofs.YthaiegnohkiegaaGreat.Ab
