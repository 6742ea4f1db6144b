/- tendrilref01's numerals and texts: Decimal, number, Text. -/
import Derived.Test.YtpmnkabggljpkaaDoorWordV
import Derived.Test.YtpmnkabggljpkaaDoorPRefx1
set_option linter.unusedVariables false
set_option linter.unusedSimpArgs false
namespace Go.Proofs.YtpmnkabggljpkaaDoor
open Go.RowKit Go.Shelf
theorem ston (m : Nat) (h : m < 10) : strOfNums [((48 + (m : Int)) % 256)] = ⟨#[UInt8.ofNat (48 + m)]⟩ := by
  have : (48 + (m : Int)) % 256 = ((48 + m : Nat) : Int) := by omega
  rw [this]
  unfold strOfNums
  simp only [List.map, Int.toNat_natCast]
theorem decp (m : Nat) : ∀ k u : Nat, u < 10 ^ (m + 1) → m + 2 ≤ k → m ≤ 17 → PRef.tendrilref01_Decimal.f k (u : Int) = some ⟨(Lib.decDigits u).toArray⟩ := by
  induction m with
  | zero =>
    intro k u hu hk _
    obtain ⟨k, rfl⟩ : ∃ k', k = k' + 1 := ⟨k - 1, by omega⟩
    have hu' : u < 10 := by simpa using hu
    unfold PRef.tendrilref01_Decimal.f
    rw [if_neg (by omega), if_neg (by omega), Lib.decDigits, dif_pos hu']
    simp only [Option.bind_some]
    rw [if_neg (by omega)]
    have e : wrap64 (48 + Int.tmod (u : Int) 10) % 256 = (48 + (u : Int)) % 256 := by
      rw [Int.tmod_eq_emod_of_nonneg (by omega)]; unfold wrap64; omega
    rw [e, ston u hu']
  | succ m ih =>
    intro k u hu hk hm
    obtain ⟨k, rfl⟩ : ∃ k', k = k' + 1 := ⟨k - 1, by omega⟩
    have hb : u < 1000000000000000000 * 10 := Nat.lt_of_lt_of_le hu (by
      have : 10 ^ (m + 2) ≤ 10 ^ 19 := Nat.pow_le_pow_right (by omega) (by omega)
      omega)
    have e : wrap64 (48 + Int.tmod (u : Int) 10) % 256 = (48 + ((u % 10 : Nat) : Int)) % 256 := by
      rw [Int.tmod_eq_emod_of_nonneg (by omega)]; unfold wrap64; omega
    unfold PRef.tendrilref01_Decimal.f
    rw [if_neg (by omega), if_neg (by omega), Lib.decDigits]
    simp only [Option.bind_some]
    rw [e, ston _ (by omega)]
    by_cases h10 : u < 10
    · rw [if_neg (by omega), dif_pos h10]
      have : u % 10 = u := by omega
      rw [this]
    · rw [if_pos (by omega), dif_neg h10]
      have e2 : wrap64 (Int.tdiv (u : Int) 10) = ((u / 10 : Nat) : Int) := by
        rw [Int.tdiv_eq_ediv_of_nonneg (by omega)]; unfold wrap64; omega
      have h2 : u < 10 ^ (m + 1) * 10 := by rw [← Nat.pow_succ]; exact hu
      have hi := ih k (u / 10) (by omega) (by omega) (by omega)
      rw [e2, hi]
      have hl := dd_len m (u / 10) (by omega)
      simp only [Option.bind_some]
      rw [if_pos (by
        rw [show (⟨(Lib.decDigits (u / 10)).toArray⟩ : ByteArray).size = (Lib.decDigits (u / 10)).length from rfl, show (⟨#[UInt8.ofNat (48 + u % 10)]⟩ : ByteArray).size = 1 from rfl]; omega)]
      exact congrArg some (ByteArray.ext (by simp [ByteArray.data_append]))
theorem dec_f (n : Int) (h0 : -1000000000000000000 < n) (h1 : n < 1000000000000000000) : PRef.tendrilref01_Decimal.f 30 n = some ⟨(Lib.itoa n).toArray⟩ := by
  by_cases hn : n < 0
  · obtain ⟨u, rfl, hu⟩ : ∃ u : Nat, n = -(u : Int) ∧ 1 ≤ u := ⟨n.natAbs, by omega, by omega⟩
    unfold PRef.tendrilref01_Decimal.f
    rw [if_neg (by omega), if_pos hn]
    have e : wrap64 (-(-(u : Int))) = (u : Int) := by unfold wrap64; omega
    rw [e, decp 17 29 u (by omega) (by omega) (by omega), Lib.itoa_neg u hu]
    have hl := dd_len 17 u (by omega)
    simp only [Option.bind_some]
    rw [if_pos (by rw [show (⟨(Lib.decDigits u).toArray⟩ : ByteArray).size = (Lib.decDigits u).length from rfl]; omega)]
    exact congrArg some (ByteArray.ext (by simp [ByteArray.data_append]))
  · obtain ⟨u, rfl⟩ : ∃ u : Nat, n = (u : Int) := ⟨n.natAbs, by omega⟩
    rw [decp 17 30 u (by omega) (by omega) (by omega), Lib.itoa_nonneg]
theorem decimal_any (n : Int) (w : World) (h0 : -1000000000000000000 < n) (h1 : n < 1000000000000000000) : Calls Tryd.prog 38 #[.int .i64 n] w (RetS ⟨(Lib.itoa n).toArray⟩ w) :=
  PRef.tendrilref01_Decimal.calls 30 n _ w (dec_f n h0 h1)
def nameS (t : Int) : ByteArray := if t = 0 then ⟨#[114, 101, 102]⟩ else if t = 1 then ⟨#[97, 116, 111, 109]⟩ else if t = 2 then ⟨#[105, 110, 116]⟩ else if t = 3 then ⟨#[115, 116, 114]⟩ else ⟨#[102, 119, 100]⟩
theorem name_any (t : Int) (w : World) : Calls Tryd.prog 39 #[.int .i64 t] w fun e w' => e = .returned (.string (nameS t)) ∧ w = w' := by
  go_enter Tryd.func39, Tryd.ntmps39
  go_wp2
  all_goals go_ret
  all_goals exact ⟨by unfold nameS; congr 2; first | (simp_all; done) | grind, rfl⟩
theorem nameS_len (t : Int) : (nameS t).size ≤ 4 := by
  unfold nameS
  repeat' split
  all_goals decide
theorem name_label (t : Int) (h0 : 0 ≤ t) (h5 : t ≤ 5) (h4 : t ≠ 4) : nameS t ++ ⟨#[32]⟩ = labelS t := by
  have ht : t = 0 ∨ t = 1 ∨ t = 2 ∨ t = 3 ∨ t = 5 := by omega
  rcases ht with rfl | rfl | rfl | rfl | rfl <;> rfl
set_option maxRecDepth 100000 in
theorem rtext_any (x : Int) (w : World) (h0 : 0 ≤ x) (h1 : x ≤ 18446744073709551615) : Calls Tryd.prog 27 #[.int .u64 x] w (RetS (textS x) w) := by
  have hv := valS_range x h0 h1
  by_cases hg : goodS x = true
  · by_cases hh : headB x = true
    · have hr := head_range hh
      have n0 : 0 ≤ headN x ∧ headN x < 1024 := by unfold headN; rw [if_pos hh]; omega
      have k0 : 0 ≤ headK x ∧ headK x < 16 := by unfold headK; rw [if_pos hh]; omega
      have l1 := itoa_len (headN x) (by omega) (by omega)
      have l2 := itoa_len (headK x) (by omega) (by omega)
      have e : textS x = ((⟨#[102, 117, 110, 32]⟩ ++ (⟨(Lib.itoa (headN x)).toArray⟩ : ByteArray)) ++ ⟨#[47]⟩) ++ ⟨(Lib.itoa (headK x)).toArray⟩ := by unfold textS; rw [if_pos hg, if_pos hh]
      rw [e]
      clear e hr hv
      go_enter Tryd.func27, Tryd.ntmps27
      go_wp2_with (first | (go_at_call 25; refine (rgood_any x _ h0 h1).mono ?_; rintro e w' ⟨rfl, rfl⟩) | (go_at_call 20; refine (rhead_any x _ h0 h1).mono ?_; rintro e w' ⟨rfl, rfl⟩) | (go_at_call 38; fail))
      refine (decimal_any _ _ (by omega) (by omega)).mono ?_; rintro e w1 ⟨rfl, hb1⟩
      go_wp2_with fail
      refine (decimal_any _ _ (by omega) (by omega)).mono ?_; rintro e w2 ⟨rfl, hb2⟩
      go_wp2_with fail
      go_ret
      exact ⟨rfl, below_next hb1 hb2⟩
    · have hh' : headB x = false := by simpa using hh
      obtain ⟨h5, _, _, _⟩ := pack_good h0 h1 hg
      have ht := tagS_range x
      have h4 : tagS x ≠ 4 := fun e => by unfold headB at hh'; simp [e, hg] at hh'
      have l1 := itoa_len (valS x) (by omega) (by omega)
      have l2 := nameS_len (tagS x)
      have e : textS x = (nameS (tagS x) ++ ⟨#[32]⟩) ++ ⟨(Lib.itoa (valS x)).toArray⟩ := by unfold textS; rw [if_pos hg, if_neg hh, name_label _ ht.1 h5 h4]
      rw [e]
      clear e hh h4
      go_enter Tryd.func27, Tryd.ntmps27
      go_wp2_with (first | (go_at_call 25; refine (rgood_any x _ h0 h1).mono ?_; rintro e w' ⟨rfl, rfl⟩) | (go_at_call 20; refine (rhead_any x _ h0 h1).mono ?_; rintro e w' ⟨rfl, rfl⟩) | (go_at_call 23; refine (rtag_any x _ h0 h1).mono ?_; rintro e w' ⟨rfl, rfl⟩) | (go_at_call 24; refine (rval_any x _ h0 h1).mono ?_; rintro e w' ⟨rfl, rfl⟩) | (go_at_call 39; refine (name_any _ _).mono ?_; rintro e w' ⟨rfl, rfl⟩) | (go_at_call 38; fail))
      refine (decimal_any _ _ (by omega) (by omega)).mono ?_; rintro e w1 ⟨rfl, hb1⟩
      go_wp2_with fail
      go_ret
      exact ⟨rfl, hb1⟩
  · have hg' : goodS x = false := by simpa using hg
    have e : textS x = ⟨#[98, 97, 100]⟩ := by unfold textS; rw [if_neg hg]
    rw [e]
    clear e hg
    go_enter Tryd.func27, Tryd.ntmps27
    go_wp2_with (first | (go_at_call 25; refine (rgood_any x _ h0 h1).mono ?_; rintro e w' ⟨rfl, rfl⟩))
    go_ret
    exact ⟨rfl, Below.refl _ _⟩
/- number -/
def numO (l : List UInt8) : Option Nat := if l.length ≤ 18 then Lib.decNat l else none
def RetN (l : List UInt8) (w : World) (e : Ending) (w' : World) : Prop := w = w' ∧ ((∃ n : Nat, numO l = some n ∧ n < 1000000000000000000 ∧ e = .returned (.tuple #[.int .i64 n, .bool true])) ∨ (numO l = none ∧ e = .returned (.tuple #[.int .i64 0, .bool false])))
theorem byte_at (s : ByteArray) (k : Nat) (h : k < s.size) : s.data.toList[k]? = some s[k] := by
  obtain ⟨⟨l⟩⟩ := s
  have h' : k < l.length := h
  show l[k]? = some (l[k]'h')
  exact List.getElem?_eq_getElem h'
theorem num_bad {l : List UInt8} {k : Nat} {b : UInt8} (hb : l[k]? = some b) (hd : ¬ (48 ≤ b.toNat ∧ b.toNat ≤ 57)) : numO l = none := by
  unfold numO
  split
  · unfold Lib.decNat
    split
    · rfl
    · cases h : Lib.decFrom 0 l with
      | none => rfl
      | some n =>
        obtain ⟨d, e⟩ := Lib.digit_of_decFrom l 0 n h k b hb
        have := Lib.digitVal_eq e
        omega
  · rfl
theorem number_any (s : ByteArray) (w : World) (hs : s.size ≤ 1048576) : Calls Tryd.prog 43 #[.string s] w (RetN s.data.toList w) := by
  by_cases h0 : s.size = 0
  · have HN : Hid (numO s.data.toList = none) := Lib.hid (by
      have : s.data.toList = [] := List.length_eq_zero_iff.1 (by rw [← Lib.size_eq]; exact h0)
      rw [this]; rfl)
    go_enter Tryd.func43, Tryd.ntmps43
    go_wp2
    all_goals go_ret2
    all_goals exact ⟨rfl, .inr ⟨HN.out, rfl⟩⟩
  · by_cases h18 : 18 < s.size
    · have HN : Hid (numO s.data.toList = none) := Lib.hid (by unfold numO; rw [← Lib.size_eq, if_neg (by omega)])
      go_enter Tryd.func43, Tryd.ntmps43
      go_wp2
      all_goals go_ret2
      all_goals exact ⟨rfl, .inr ⟨HN.out, rfl⟩⟩
    · have q1 : ((s.size : Int) == 0) = false := by rw [beq_eq_false_iff_ne]; omega
      have q2 : decide ((18 : Int) < s.size) = false := by rw [decide_eq_false_iff_not]; omega
      go_enter Tryd.func43, Tryd.ntmps43
      go_wp2
      go_loop [4, 5] (fun n i => ∃ m k : Nat, k ≤ s.size ∧ i = .int .i64 k ∧ n = .int .i64 m ∧ m < 1000000000000000000 ∧ Hid (Lib.decFrom 0 (s.data.toList.take k) = some m)) (fun n i => s.size - (intOf i).toNat)
      case atStart => exact ⟨0, 0, by omega, rfl, rfl, by omega, Lib.hid rfl⟩
      case round =>
        obtain ⟨m, k, hk, rfl, rfl, hm, HD⟩ := hrel
        by_cases hlt : k < s.size
        · have hb : s.data.toList[k]? = some s[k] := byte_at s k hlt
          have hm17 := Lib.decFrom_take_lt HD.out (by omega)
          by_cases hd : 48 ≤ s[k].toNat ∧ s[k].toNat ≤ 57
          · have hv : Lib.digitVal s[k] = some (s[k].toNat - 48) := by unfold Lib.digitVal; rw [if_pos hd]
            have hn := Lib.decFrom_take _ k 0 m _ _ HD.out hb hv
            have hlt18 := Lib.decFrom_lt18 hn (by rw [List.length_take]; omega)
            have HN := Lib.hid hn; clear hn hv hb HD
            have d1 : decide ((s[k].toNat : Int) < 48) = false := by rw [decide_eq_false_iff_not]; omega
            have d2 : decide ((57 : Int) < s[k].toNat) = false := by rw [decide_eq_false_iff_not]; omega
            go_wp2
            go_round
            case rel => exact ⟨m * 10 + (s[k].toNat - 48), k + 1, by omega, by go_num, by go_num, by omega, HN⟩
            case measure => simp [intOf]; omega
          · have HZ : Hid (numO s.data.toList = none) := Lib.hid (num_bad hb hd)
            clear hb
            by_cases h48 : s[k].toNat < 48
            · have d1 : decide ((s[k].toNat : Int) < 48) = true := by rw [decide_eq_true_iff]; omega
              go_wp2
              all_goals go_ret2
              all_goals exact ⟨rfl, .inr ⟨HZ.out, rfl⟩⟩
            · have d1 : decide ((s[k].toNat : Int) < 48) = false := by rw [decide_eq_false_iff_not]; omega
              have d2 : decide ((57 : Int) < s[k].toNat) = true := by rw [decide_eq_true_iff]; omega
              go_wp2
              all_goals go_ret2
              all_goals exact ⟨rfl, .inr ⟨HZ.out, rfl⟩⟩
        · have HZ : Hid (numO s.data.toList = some m) := Lib.hid (by
            have e : s.data.toList.take k = s.data.toList := List.take_of_length_le (by rw [← Lib.size_eq]; omega)
            have h1 := HD.out
            rw [e] at h1
            unfold numO Lib.decNat
            rw [← Lib.size_eq, if_pos (by omega), if_neg (by simp only [List.isEmpty_iff]; intro e0; apply h0; rw [Lib.size_eq, e0]; rfl), h1])
          go_wp2
          go_ret2
          exact ⟨rfl, .inl ⟨m, HZ.out, hm, rfl⟩⟩
end Go.Proofs.YtpmnkabggljpkaaDoor
