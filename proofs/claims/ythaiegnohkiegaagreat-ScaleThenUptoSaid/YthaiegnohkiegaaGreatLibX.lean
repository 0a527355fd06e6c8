/-
  What functions of the library tell at numbers and strings: contracts laid by the shelf.
-/
import Derived.Test.YthaiegnohkiegaaGreatChecked
import Derived.Lib.Strings
import Derived.Lib.Slices
import Derived.Lib.Small
import Derived.Lib.Walk
import Derived.Lib.BitFns
import Derived.Lib.Bytealg
/-
  DERIVED: LAID BY THE SHELF's contract.sh OFF ITS TEMPLATE 'math/bits.Len64' FOR THE PROGRAM 'Tryz' (the function's number there: 131). THE LIBRARY's OWN TEXT IS WALKED: nothing is assumed of it. Behind the contract: ONE FALSE NEIGHBOUR, a contract that says a little too much, REFUTED.
-/
namespace Go.Proofs

set_option maxHeartbeats 4000000 in
set_option maxRecDepth 100000 in
/-- bits.Len64: "Len64 returns the minimum number of bits required to represent x; the result is 0 for x == 0.": IT RETURNS 'Lib.bitLen x'; the world is as it was. ('h0', 'h1': x is a uint64.) -/
theorem Tryz.bits_Len64 (x : Int) (w : World) (h0 : 0 ≤ x) (h1 : x ≤ 18446744073709551615) :
    Calls Tryz.prog 131 #[.int .u64 x] w fun e w' => e = .returned (.int .i64 (Lib.bitLen x.toNat)) ∧ w' = w := by
  go_enter Tryz.func131, Tryz.ntmps131
  go_wp2
  all_goals (go_ret; refine ⟨congrArg Ending.returned (congrArg (Value.int IntKind.i64) ?_), rfl⟩)
  all_goals first
    | (rw [Lib.len8_of (x / 4294967296 / 65536 / 256 % 256) (by omega) (by omega)]
       have e : (x / 4294967296 / 65536 / 256 % 256).toNat = x.toNat / 72057594037927936 := by omega
       have l := Lib.bitLen_le8' (x / 4294967296 / 65536 / 256 % 256) (by omega) (by omega)
       have s := Lib.bitLen_shift56 x.toNat (by omega) (by omega)
       rw [e] at l ⊢
       omega)
    | (rw [Lib.len8_of (x / 4294967296 / 65536 % 256) (by omega) (by omega)]
       have e : (x / 4294967296 / 65536 % 256).toNat = x.toNat / 281474976710656 := by omega
       have l := Lib.bitLen_le8' (x / 4294967296 / 65536 % 256) (by omega) (by omega)
       have s := Lib.bitLen_shift48 x.toNat (by omega) (by omega)
       rw [e] at l ⊢
       omega)
    | (rw [Lib.len8_of (x / 4294967296 / 256 % 256) (by omega) (by omega)]
       have e : (x / 4294967296 / 256 % 256).toNat = x.toNat / 1099511627776 := by omega
       have l := Lib.bitLen_le8' (x / 4294967296 / 256 % 256) (by omega) (by omega)
       have s := Lib.bitLen_shift40 x.toNat (by omega) (by omega)
       rw [e] at l ⊢
       omega)
    | (rw [Lib.len8_of (x / 4294967296 % 256) (by omega) (by omega)]
       have e : (x / 4294967296 % 256).toNat = x.toNat / 4294967296 := by omega
       have l := Lib.bitLen_le8' (x / 4294967296 % 256) (by omega) (by omega)
       have s := Lib.bitLen_shift32 x.toNat (by omega) (by omega)
       rw [e] at l ⊢
       omega)
    | (rw [Lib.len8_of (x / 65536 / 256 % 256) (by omega) (by omega)]
       have e : (x / 65536 / 256 % 256).toNat = x.toNat / 16777216 := by omega
       have l := Lib.bitLen_le8' (x / 65536 / 256 % 256) (by omega) (by omega)
       have s := Lib.bitLen_shift24 x.toNat (by omega) (by omega)
       rw [e] at l ⊢
       omega)
    | (rw [Lib.len8_of (x / 65536 % 256) (by omega) (by omega)]
       have e : (x / 65536 % 256).toNat = x.toNat / 65536 := by omega
       have l := Lib.bitLen_le8' (x / 65536 % 256) (by omega) (by omega)
       have s := Lib.bitLen_shift16 x.toNat (by omega) (by omega)
       rw [e] at l ⊢
       omega)
    | (rw [Lib.len8_of (x / 256 % 256) (by omega) (by omega)]
       have e : (x / 256 % 256).toNat = x.toNat / 256 := by omega
       have l := Lib.bitLen_le8' (x / 256 % 256) (by omega) (by omega)
       have s := Lib.bitLen_shift8 x.toNat (by omega) (by omega)
       rw [e] at l ⊢
       omega)
    | (rw [Lib.len8_of (x % 256) (by omega) (by omega)]
       have e : (x % 256).toNat = x.toNat := by omega
       have l := Lib.bitLen_le8' (x % 256) (by omega) (by omega)
       rw [e] at l ⊢
       omega)

/-- A LITTLE TOO MUCH: 'one bit is wanted for 0 too': falls at 0. -/
theorem Tryz.bits_Len64_not : ¬ ∀ (x : Int) (w : World), 0 ≤ x → x ≤ 18446744073709551615 →
    Calls Tryz.prog 131 #[.int .u64 x] w fun e w' => e = .returned (.int .i64 (Lib.bitLen x.toNat + (if x = 0 then 1 else 0))) ∧ w' = w := by
  intro h
  have e := Lib.agree (by kernel_rfl) (Tryz.bits_Len64 0 default (by decide) (by decide)) (h 0 default (by decide) (by decide))
  injection e with _ e
  revert e
  decide

#print axioms Tryz.bits_Len64
#print axioms Tryz.bits_Len64_not
end Go.Proofs
/-
  DERIVED: LAID BY THE SHELF's contract.sh OFF ITS TEMPLATE 'math/bits.Len' FOR THE PROGRAM 'Tryz' (the function's number there: 182). THE LIBRARY's OWN TEXT IS WALKED: nothing is assumed of it. Behind the contract: ONE FALSE NEIGHBOUR, a contract that says a little too much, REFUTED.
-/
namespace Go.Proofs

/-- bits.Len: "Len returns the minimum number of bits required to represent x; the result is 0 for x == 0.": IT RETURNS 'Lib.bitLen x'; the world is as it was. (A uint has 64 bits in the model.) ITS CALLEE bits.Len64 IS MET BY ITS OWN CONTRACT OFF THE SHELF (lay that first). -/
theorem Tryz.bits_Len (x : Int) (w : World) (h0 : 0 ≤ x) (h1 : x ≤ 18446744073709551615) :
    Calls Tryz.prog 182 #[.int .u64 x] w fun e w' => e = .returned (.int .i64 (Lib.bitLen x.toNat)) ∧ w' = w := by
  go_enter Tryz.func182, Tryz.ntmps182
  go_wp2_with (go_at_call 131; refine (Tryz.bits_Len64 x _ h0 h1).mono ?_; rintro e w' ⟨rfl, rfl⟩)
  go_ret
  exact ⟨rfl, rfl⟩

/-- A LITTLE TOO MUCH: 'one bit is wanted for 0 too': falls at 0. -/
theorem Tryz.bits_Len_not : ¬ ∀ (x : Int) (w : World), 0 ≤ x → x ≤ 18446744073709551615 →
    Calls Tryz.prog 182 #[.int .u64 x] w fun e w' => e = .returned (.int .i64 (Lib.bitLen x.toNat + (if x = 0 then 1 else 0))) ∧ w' = w := by
  intro h
  have e := Lib.agree (by kernel_rfl) (Tryz.bits_Len 0 default (by decide) (by decide)) (h 0 default (by decide) (by decide))
  injection e with _ e
  revert e
  decide

#print axioms Tryz.bits_Len
#print axioms Tryz.bits_Len_not
end Go.Proofs
/-
  DERIVED: LAID BY THE SHELF's contract.sh OFF ITS TEMPLATE 'math/bits.LeadingZeros64' FOR THE PROGRAM 'Tryz' (the function's number there: 185). THE LIBRARY's OWN TEXT IS WALKED: nothing is assumed of it. Behind the contract: ONE FALSE NEIGHBOUR, a contract that says a little too much, REFUTED.
-/
namespace Go.Proofs

theorem Tryz.bitLen_le64 (x : Int) (h0 : 0 ≤ x) (h1 : x ≤ 18446744073709551615) : Lib.bitLen x.toNat ≤ 64 := Lib.bitLen_le x.toNat 64 (by omega) (by omega)

/-- bits.LeadingZeros64: "LeadingZeros64 returns the number of leading zero bits in x; the result is 64 for x == 0.": IT RETURNS '64 - Lib.bitLen x'; the world is as it was. ITS CALLEE bits.Len64 IS MET BY ITS OWN CONTRACT OFF THE SHELF (lay that first): entered in place it sends the kernel out of memory. -/
theorem Tryz.bits_LeadingZeros64 (x : Int) (w : World) (h0 : 0 ≤ x) (h1 : x ≤ 18446744073709551615) :
    Calls Tryz.prog 185 #[.int .u64 x] w fun e w' => e = .returned (.int .i64 (64 - (Lib.bitLen x.toNat : Int))) ∧ w' = w := by
  have l := Tryz.bitLen_le64 x h0 h1
  have e8 : (64 - (Lib.bitLen x.toNat : Int) + 9223372036854775808) % 18446744073709551616 - 9223372036854775808 = 64 - (Lib.bitLen x.toNat : Int) := by omega
  go_enter Tryz.func185, Tryz.ntmps185
  go_wp2_with (go_at_call 131; refine (Tryz.bits_Len64 x _ h0 h1).mono ?_; rintro e w' ⟨rfl, rfl⟩)
  go_ret
  refine ⟨?_, rfl⟩
  rw [← e8]
  rfl

/-- A LITTLE TOO MUCH: '63 at most': falls at 0. -/
theorem Tryz.bits_LeadingZeros64_not : ¬ ∀ (x : Int) (w : World), 0 ≤ x → x ≤ 18446744073709551615 →
    Calls Tryz.prog 185 #[.int .u64 x] w fun e w' => e = .returned (.int .i64 (min 63 (64 - (Lib.bitLen x.toNat : Int)))) ∧ w' = w := by
  intro h
  have e := Lib.agree (by kernel_rfl) (Tryz.bits_LeadingZeros64 0 default (by decide) (by decide)) (h 0 default (by decide) (by decide))
  injection e with _ e
  revert e
  decide

#print axioms Tryz.bitLen_le64
#print axioms Tryz.bits_LeadingZeros64
#print axioms Tryz.bits_LeadingZeros64_not
end Go.Proofs
/-
  DERIVED: LAID BY THE SHELF's contract.sh OFF ITS TEMPLATE 'cmp.Compare[int]' FOR THE PROGRAM 'Tryz' (the function's number there: 243). THE LIBRARY's OWN TEXT IS WALKED: nothing is assumed of it. Behind the contract: ONE FALSE NEIGHBOUR, a contract that says a little too much, REFUTED.
-/
namespace Go.Proofs

set_option maxHeartbeats 1000000 in
/-- cmp.Compare at int: "Compare returns -1 if x is less than y, 0 if x equals y, +1 if x is greater than y.": IT RETURNS 'Lib.compareInt x y'; the world is as it was. -/
theorem Tryz.cmp_Compare_int (x y : Int) (w : World) :
    Calls Tryz.prog 243 #[.int .i64 x, .int .i64 y] w fun e w' => e = .returned (.int .i64 (Lib.compareInt x y)) ∧ w' = w := by
  go_enter Tryz.func243, Tryz.ntmps243
  go_wp2
  all_goals (go_ret; refine ⟨?_, rfl⟩; unfold Lib.compareInt; (repeat' split) <;> first | rfl | (exfalso; omega))

/-- A LITTLE TOO MUCH: '-1 wherever x is not greater than y': falls at 1, 1. -/
theorem Tryz.cmp_Compare_int_not : ¬ ∀ (x y : Int) (w : World),
    Calls Tryz.prog 243 #[.int .i64 x, .int .i64 y] w fun e w' => e = .returned (.int .i64 (if x ≤ y then -1 else 1)) ∧ w' = w := by
  intro h
  have e := Lib.agree (by kernel_rfl) (Tryz.cmp_Compare_int 1 1 default) (h 1 1 default)
  injection e with _ e
  revert e
  decide

#print axioms Tryz.cmp_Compare_int
#print axioms Tryz.cmp_Compare_int_not
end Go.Proofs
/-
  DERIVED: LAID BY THE SHELF's contract.sh OFF ITS TEMPLATE 'internal/bytealg.CompareString' FOR THE PROGRAM 'Tryz' (the function's number there: 252). THE LIBRARY's OWN TEXT IS WALKED: nothing is assumed of it; where it calls a function without a Go body (internal/bytealg), THE MODEL's OWN ENTRY stands in, by its law (Derived/Lib/Bytealg.lean). Behind the contract: ONE FALSE NEIGHBOUR, a contract that says a little too much, REFUTED. (The template: the authors, an AI agent; Sun.)
-/
namespace Go.Proofs

set_option maxHeartbeats 1000000 in
set_option maxRecDepth 100000 in
/-- internal/bytealg.CompareString (what strings.Compare calls): IT RETURNS 'Lib.compareBytes a b'; the world is as it was. -/
theorem Tryz.bytealg_CompareString (a b : ByteArray) (w : World) :
    Calls Tryz.prog 252 #[.string a, .string b] w fun e w' => e = .returned (.int .i64 (Lib.compareBytes a.data.toList b.data.toList)) ∧ w' = w := by
  go_enter Tryz.func252, Tryz.ntmps252
  go_wp2
  rw [run_callFunc_extern Tryz.func253 (by kernel_rfl) (by kernel_rfl) (by kernel_rfl) (e := Extern.BytealgCompare.compare) (by kernel_rfl), Lib.run_compareString]
  simp only [Result.andThen]
  rw [Oper.upon_value]
  go_wp2
  go_ret
  exact ⟨rfl, rfl⟩

#print axioms Tryz.bytealg_CompareString
end Go.Proofs
/-
  DERIVED: LAID BY THE SHELF's contract.sh OFF ITS TEMPLATE 'strings.Compare' FOR THE PROGRAM 'Tryz' (the function's number there: 244). THE LIBRARY's OWN TEXT IS WALKED: nothing is assumed of it; where it calls a function without a Go body (internal/bytealg), THE MODEL's OWN ENTRY stands in, by its law (Derived/Lib/Bytealg.lean). Behind the contract: ONE FALSE NEIGHBOUR, a contract that says a little too much, REFUTED. (The template: the authors, an AI agent; Sun.)
-/
namespace Go.Proofs

set_option maxHeartbeats 1000000 in
/-- strings.Compare: "Compare returns an integer comparing two strings lexicographically. The result will be 0 if a == b, -1 if a < b, and +1 if a > b.": IT RETURNS 'Lib.compareBytes a b'; the world is as it was. -/
theorem Tryz.strings_Compare (a b : ByteArray) (w : World) :
    Calls Tryz.prog 244 #[.string a, .string b] w fun e w' => e = .returned (.int .i64 (Lib.compareBytes a.data.toList b.data.toList)) ∧ w' = w := by
  go_enter Tryz.func244, Tryz.ntmps244
  go_wp2_with (go_at_call 252; refine (Tryz.bytealg_CompareString _ _ _).mono ?_; rintro e w' ⟨rfl, rfl⟩)
  go_ret
  exact ⟨rfl, rfl⟩

/-- A LITTLE TOO MUCH: 'the shorter string is the lesser': falls at "b", "aa". -/
theorem Tryz.strings_Compare_not : ¬ ∀ (a b : ByteArray) (w : World),
    Calls Tryz.prog 244 #[.string a, .string b] w fun e w' => e = .returned (.int .i64 (if a.size < b.size then -1 else Lib.compareBytes a.data.toList b.data.toList)) ∧ w' = w := by
  intro h
  have e := Lib.agree (by kernel_rfl) (Tryz.strings_Compare ⟨#[98]⟩ ⟨#[97, 97]⟩ default) (h ⟨#[98]⟩ ⟨#[97, 97]⟩ default)
  injection e with _ e
  revert e
  decide

#print axioms Tryz.strings_Compare
#print axioms Tryz.strings_Compare_not
end Go.Proofs
