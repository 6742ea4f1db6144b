/- Plain functions and lemmas on words of 64 bits: no program. -/
import Derived.Laws.BitsAllLaws
import Derived.Laws.BitsLemmas
import Derived.RowKit
set_option linter.unusedVariables false
set_option linter.unusedSimpArgs false
namespace Go.Proofs.YtpmnkabggljpkaaDoor
open Go.RowKit
def tagS (x : Int) : Int := x % 8
def valS (x : Int) : Int := (if x < 9223372036854775808 then x else x - 18446744073709551616) / 8
def fitsS (t v : Int) : Bool :=
  if t = 0 ∨ t = 3 ∨ t = 5 then decide (0 ≤ v ∧ v < 65536)
  else if t = 1 then decide (0 ≤ v ∧ v < 1024)
  else if t = 2 then decide (-1125899906842624 ≤ v ∧ v ≤ 1125899906842624)
  else if t = 4 then decide (0 ≤ v ∧ v / 16 < 1024 ∧ 1 ≤ v % 16 ∧ v % 16 ≤ 8)
  else false
def goodS (x : Int) : Bool := fitsS (tagS x) (valS x)
theorem mod_pow_and (a k : Nat) : a &&& (2 ^ k - 1) = a % 2 ^ k := Nat.and_two_pow_sub_one_eq_mod a k
theorem and7 (x : Int) (h0 : 0 ≤ x) (h1 : x ≤ 18446744073709551615) : bits .and .u64 x 7 = x % 8 := by
  obtain ⟨n, rfl⟩ := Int.eq_ofNat_of_zero_le h0
  rw [show (7 : Int) = ((7 : Nat) : Int) from rfl, u64_and_nat n 7 (by omega) (by omega)]
  have := mod_pow_and n 3
  simp at this
  rw [this]; omega
theorem and15 (x : Int) (h0 : 0 ≤ x) (h1 : x ≤ 9223372036854775807) : bits .and .i64 x 15 = x % 16 := by
  obtain ⟨n, rfl⟩ := Int.eq_ofNat_of_zero_le h0
  have h2 := bits_mask .i64 63 (by decide) (fun n a b => by rw [IntKind.wrap_i64]; omega) 4 (by decide) n (by omega) (by omega)
  simpa using h2
theorem tag_wrap (x : Int) (h0 : 0 ≤ x) (h1 : x ≤ 18446744073709551615) : wrap64 (bits .and .u64 x 7) = tagS x := by
  rw [and7 x h0 h1]; unfold wrap64 tagS; omega
theorem val_wrap (x : Int) (h0 : 0 ≤ x) (h1 : x ≤ 18446744073709551615) : wrap64 x / 8 = valS x := by
  unfold wrap64 valS; split <;> omega
theorem tagS_range (x : Int) : 0 ≤ tagS x ∧ tagS x < 8 := by unfold tagS; omega
theorem valS_range (x : Int) (h0 : 0 ≤ x) (h1 : x ≤ 18446744073709551615) : -1152921504606846976 ≤ valS x ∧ valS x < 1152921504606846976 := by
  unfold valS; split <;> omega
def joinS (tag v : Int) : Int := (v * 8 + tag) % 18446744073709551616
theorem wrapu (n : Int) : IntKind.u64.wrap n = n % 18446744073709551616 := by simp [IntKind.wrap, IntKind.bits, IntKind.signed]
theorem or8 (a t : Int) (h0 : 0 ≤ a) (h1 : a < 18446744073709551616) (h2 : a % 8 = 0) (t0 : 0 ≤ t) (t1 : t < 8) : bits .or .u64 a t = a + t := by
  obtain ⟨a, rfl⟩ := Int.eq_ofNat_of_zero_le h0
  obtain ⟨t, rfl⟩ := Int.eq_ofNat_of_zero_le t0
  rw [u64_or_nat a t (by omega) (by omega)]
  obtain ⟨m, rfl⟩ : ∃ m, a = 8 * m := ⟨a / 8, by omega⟩
  have := Nat.two_pow_add_eq_or_of_lt (i := 3) (b := t) (by omega) m
  simp at this
  omega
theorem join_w (t v : Int) (h0 : 0 ≤ t) (h1 : t < 8) : bits .or .u64 (IntKind.u64.wrap (IntKind.u64.wrap v * 8)) (IntKind.u64.wrap t) = joinS t v := by
  simp only [wrapu]
  rw [or8 _ _ (by omega) (by omega) (by omega) (by omega) (by omega)]
  unfold joinS; omega
theorem or16 (a t : Int) (h0 : 0 ≤ a) (h1 : a < 1024) (t0 : 0 ≤ t) (t1 : t < 16) : bits .or .i64 (a * 16) t = a * 16 + t := by
  exact bits_join .i64 63 (by decide) (fun n a b => by rw [IntKind.wrap_i64]; omega) 4 (a * 16) t (by omega) (by omega) (by omega) t0 (by omega) (by omega)
theorem tq (y : Int) : (y.tmod 8 < 0 → y.tdiv 8 - 1 = y / 8) ∧ (0 ≤ y.tmod 8 → y.tdiv 8 = y / 8) := by
  rw [Int.tmod_eq_emod, Int.tdiv_eq_ediv]
  by_cases hd : 0 ≤ y ∨ (8 : Int) ∣ y
  · simp only [if_pos hd]; omega
  · simp only [if_neg hd, show Int.sign 8 = 1 from rfl, show Int.natAbs 8 = 8 from rfl]; omega
theorem wr64 (x : Int) : wrap64 x = (x + 9223372036854775808) % 18446744073709551616 - 9223372036854775808 := by unfold wrap64; omega
theorem rval1 (x : Int) (h0 : 0 ≤ x) (h1 : x ≤ 18446744073709551615) (h : (wrap64 x).tmod 8 < 0) : wrap64 (wrap64 ((wrap64 x).tdiv 8) - 1) = valS x := by
  have e := val_wrap x h0 h1
  have hr : -9223372036854775808 ≤ wrap64 x ∧ wrap64 x ≤ 9223372036854775807 := by unfold wrap64; omega
  rw [← e]
  generalize wrap64 x = y at *
  have := (tq y).1 h
  simp only [wr64]; omega
theorem rval2 (x : Int) (h0 : 0 ≤ x) (h1 : x ≤ 18446744073709551615) (h : 0 ≤ (wrap64 x).tmod 8) : wrap64 ((wrap64 x).tdiv 8) = valS x := by
  have e := val_wrap x h0 h1
  have hr : -9223372036854775808 ≤ wrap64 x ∧ wrap64 x ≤ 9223372036854775807 := by unfold wrap64; omega
  rw [← e]
  generalize wrap64 x = y at *
  have := (tq y).2 h
  simp only [wr64]; omega
def headB (x : Int) : Bool := decide (tagS x = 4) && goodS x
def headN (x : Int) : Int := if headB x = true then valS x / 16 else 0
def headK (x : Int) : Int := if headB x = true then valS x % 16 else 0
def placeB (x : Int) : Bool := goodS x && decide (tagS x = 0 ∨ tagS x = 3 ∨ tagS x = 5)
def placeV (x : Int) : Int := if placeB x = true then valS x else 0
theorem head_range {x : Int} (h : headB x = true) : 0 ≤ valS x ∧ valS x < 16384 := by
  unfold headB goodS at h
  simp only [Bool.and_eq_true, decide_eq_true_eq] at h
  obtain ⟨h1, h2⟩ := h
  rw [h1] at h2
  simp [fitsS] at h2
  omega
def funOk (n k : Int) : Bool := decide (0 ≤ n ∧ n < 1024 ∧ 1 ≤ k ∧ k ≤ 8)
def funS (n k : Int) : Int := if funOk n k = true then (n * 16 + k) * 8 + 4 else 0
end Go.Proofs.YtpmnkabggljpkaaDoor
