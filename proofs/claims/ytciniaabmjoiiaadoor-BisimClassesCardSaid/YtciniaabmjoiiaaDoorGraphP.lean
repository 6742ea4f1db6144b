import Derived.Test.YtciniaabmjoiiaaDoorPRefx2
import Derived.Test.YtciniaabmjoiiaaDoorPRefx3
import Derived.Test.YtciniaabmjoiiaaDoorNumA
/- What a good graph is, in plain words; and that the printed references tell just that. -/
set_option linter.unusedVariables false
set_option linter.unusedSimpArgs false
namespace Go.Proofs.YtciniaabmjoiiaaDoor
open Go.RowKit Go.Proofs.YtciniaabmjoiiaaDoorW.PrintWords Go.Proofs.YtciniaabmjoiiaaDoorW.PrintLast Go.Proofs.YtciniaabmjoiiaaDoorW.PrintMore Go.Proofs.YtciniaabmjoiiaaDoor.PRef
abbrev Nd := S35
theorem w64 {n : Int} (h0 : -9223372036854775808 ≤ n) (h1 : n ≤ 9223372036854775807) : wrap64 n = n := by unfold wrap64; omega
def byteB (s : ByteArray) (i : Nat) : Bool := decide (33 ≤ bt s i ∧ bt s i ≤ 126)
def nameB (s : ByteArray) : Bool := decide (1 ≤ s.size ∧ s.size ≤ 32) && (List.range' 0 s.size).all (byteB s)
def argsB (n : Int) (l : List Int) : Bool := l.all fun a => decide (0 ≤ a ∧ a < n)
def goodB (kd : Int) (nm : ByteArray) (num : Int) (l : List Int) (n : Int) : Bool :=
  if kd = 1 then decide (l.length = 0 ∧ nm.toList = [] ∧ num = 0)
  else if kd = 2 then decide (l.length = 0) && (nameB nm && decide (num = 0))
  else if kd = 3 then decide (l.length = 0 ∧ nm.toList = [] ∧ -1125899906842624 ≤ num ∧ num ≤ 1125899906842624)
  else if kd = 4 then nameB nm && (decide (num = 0 ∧ 1 ≤ l.length ∧ l.length ≤ 8) && argsB n l)
  else false
def goodN (x : Nd) (n : Int) : Bool := goodB x.f0 x.f1 x.f2 x.f3 n
theorem names_l0 (s : ByteArray) (hs : s.size ≤ 32) (d : Nat) : ∀ (k i : Nat), i + d = s.size → d < k →
    names_Good.l0 k s (s.size : Int) (i : Int) = some ((List.range' i d).all (byteB s)) := by
  induction d with
  | zero =>
    intro k i hi hk
    obtain ⟨k, rfl⟩ : ∃ m, k = m + 1 := ⟨k - 1, by omega⟩
    simp only [names_Good.l0]
    rw [if_neg (by omega)]
    simp
  | succ d ih =>
    intro k i hi hk
    obtain ⟨k, rfl⟩ : ∃ m, k = m + 1 := ⟨k - 1, by omega⟩
    simp only [names_Good.l0, List.range'_succ, List.all_cons]
    rw [if_pos (by omega)]
    have e : wrap64 ((i : Int) + 1) = ((i + 1 : Nat) : Int) := by rw [w64 (by omega) (by omega)]; omega
    have h := ih k (i + 1) (by omega) (by omega)
    rw [← e] at h
    by_cases h1 : bt s i < 33
    · rw [if_pos (by omega), if_pos (by omega), if_pos h1]; simp [byteB]; omega
    · by_cases h2 : bt s i > 126
      · rw [if_pos (by omega), if_pos (by omega), if_neg h1, if_pos h2]; simp [byteB]; omega
      · rw [if_pos (by omega), if_pos (by omega), if_neg h1, if_neg h2, h]
        have : byteB s i = true := by simp [byteB]; omega
        rw [this]; simp
theorem toList_nil (s : ByteArray) : s.toList = [] ↔ s.size = 0 := by
  obtain ⟨⟨l⟩⟩ := s
  simp [ByteArray.size]
theorem names_f (s : ByteArray) (k : Nat) (hk : 40 ≤ k) : names_Good.f k s = some (nameB s) := by
  obtain ⟨k, rfl⟩ : ∃ m, k = m + 1 := ⟨k - 1, by omega⟩
  unfold names_Good.f
  simp only [names_Good.j0]
  by_cases h0 : s.toList = []
  · rw [if_pos h0, if_pos trivial]
    rw [toList_nil] at h0
    simp [nameB, h0]
  · rw [if_neg h0]
    rw [toList_nil] at h0
    by_cases h1 : (s.size : Int) > 32
    · rw [if_pos (by simpa using h1)]
      simp [nameB]; omega
    · rw [if_neg (by simpa using h1)]
      have := names_l0 s (by omega) s.size k 0 (by omega) (by omega)
      simp only [Int.natCast_zero] at this
      rw [this]
      have h2 : decide (1 ≤ s.size ∧ s.size ≤ 32) = true := by simp; omega
      simp only [nameB, h2, Bool.true_and]
theorem ref3_l0 (s : ByteArray) (hs : s.size ≤ 32) (d : Nat) : ∀ (k i : Nat), i + d = s.size → d < k →
    tendrilref03_Good.l0 k s (i : Int) = some ((List.range' i d).all (byteB s)) := by
  induction d with
  | zero =>
    intro k i hi hk
    obtain ⟨k, rfl⟩ : ∃ m, k = m + 1 := ⟨k - 1, by omega⟩
    simp only [tendrilref03_Good.l0]
    rw [if_neg (by omega)]
    simp
  | succ d ih =>
    intro k i hi hk
    obtain ⟨k, rfl⟩ : ∃ m, k = m + 1 := ⟨k - 1, by omega⟩
    simp only [tendrilref03_Good.l0, List.range'_succ, List.all_cons]
    rw [if_pos (by omega)]
    have e : wrap64 ((i : Int) + 1) = ((i + 1 : Nat) : Int) := by rw [w64 (by omega) (by omega)]; omega
    have h := ih k (i + 1) (by omega) (by omega)
    rw [← e] at h
    by_cases h1 : bt s i ≤ 32
    · rw [if_pos (by omega), if_pos h1]; simp [byteB]; omega
    · by_cases h2 : bt s i ≥ 127
      · rw [if_pos (by omega), if_neg h1, if_pos h2]; simp [byteB]; omega
      · rw [if_pos (by omega), if_neg h1, if_neg h2, h]
        have : byteB s i = true := by simp [byteB]; omega
        rw [this]; simp
theorem ref3_f (s : ByteArray) (k : Nat) (hk : 40 ≤ k) : tendrilref03_Good.f k s = some (nameB s) := by
  obtain ⟨k, rfl⟩ : ∃ m, k = m + 1 := ⟨k - 1, by omega⟩
  unfold tendrilref03_Good.f
  simp only [tendrilref03_Good.j0]
  by_cases h0 : (s.size : Int) < 1
  · rw [if_pos h0, if_pos trivial]
    simp [nameB]; omega
  · rw [if_neg h0]
    by_cases h1 : (s.size : Int) > 32
    · rw [if_pos (by simpa using h1)]
      simp [nameB]; omega
    · rw [if_neg (by simpa using h1)]
      have := ref3_l0 s (by omega) s.size k 0 (by omega) (by omega)
      simp only [Int.natCast_zero] at this
      rw [this]
      have h2 : decide (1 ≤ s.size ∧ s.size ≤ 32) = true := by simp; omega
      simp only [nameB, h2, Bool.true_and]
theorem rd_get (l : List Int) (i : Nat) (h : i < l.length) : rd l (i : Int) = l[i] := by
  simp [rd, List.getD_eq_getElem?_getD, h]
theorem drop_all (n : Int) (l : List Int) (i : Nat) (h : i < l.length) : argsB n (l.drop i) = (decide (0 ≤ l[i] ∧ l[i] < n) && argsB n (l.drop (i + 1))) := by
  unfold argsB
  rw [List.drop_eq_getElem_cons h, List.all_cons]
theorem ref4_l0 (kd : Int) (nm : ByteArray) (num : Int) (l : List Int) (n : Int) (hl : l.length ≤ 8) (d : Nat) : ∀ (k i : Nat), i + d = l.length → d + 41 ≤ k →
    tendrilref04_good.l0 k n (i : Int) kd nm num l = some (argsB n (l.drop i) && (nameB nm && decide (num = 0))) := by
  induction d with
  | zero =>
    intro k i hi hk
    obtain ⟨k, rfl⟩ : ∃ m, k = m + 1 := ⟨k - 1, by omega⟩
    simp only [tendrilref04_good.l0]
    rw [if_neg (by omega), ref3_f nm k (by omega)]
    have : l.drop i = [] := List.drop_eq_nil_of_le (by omega)
    rw [this]
    cases nameB nm <;> simp [argsB]
    rw [Bool.eq_iff_iff]; simp
  | succ d ih =>
    intro k i hi hk
    obtain ⟨k, rfl⟩ : ∃ m, k = m + 1 := ⟨k - 1, by omega⟩
    simp only [tendrilref04_good.l0]
    rw [if_pos (by omega), if_pos (by omega), drop_all n l i (by omega), rd_get l i (by omega)]
    have e : wrap64 ((i : Int) + 1) = ((i + 1 : Nat) : Int) := by rw [w64 (by omega) (by omega)]; omega
    have h := ih k (i + 1) (by omega) (by omega)
    rw [e, h]
    have hlt : i < l.length := by omega
    by_cases h1 : l[i] < 0
    · rw [if_pos h1]; have : decide (0 ≤ l[i] ∧ l[i] < n) = false := by simp; omega
      rw [this]; simp
    · by_cases h2 : l[i] ≥ n
      · rw [if_neg h1, if_pos h2]; have : decide (0 ≤ l[i] ∧ l[i] < n) = false := by simp; omega
        rw [this]; simp
      · rw [if_neg h1, if_neg h2]; have : decide (0 ≤ l[i] ∧ l[i] < n) = true := by simp; omega
        rw [this]; simp
theorem ref4_f (kd : Int) (nm : ByteArray) (num : Int) (l : List Int) (n : Int) (k : Nat) (hk : 60 ≤ k) : tendrilref04_good.f k kd nm num l n = some (goodB kd nm num l n) := by
  obtain ⟨k, rfl⟩ : ∃ m, k = m + 1 := ⟨k - 1, by omega⟩
  unfold tendrilref04_good.f goodB
  by_cases h4 : kd = 4
  · rw [if_pos h4]
    subst h4
    simp only [tendrilref04_good.j0]
    by_cases h0 : (l.length : Int) < 1
    · rw [if_pos h0, if_pos trivial]
      have : decide (num = 0 ∧ 1 ≤ l.length ∧ l.length ≤ 8) = false := by simp; omega
      simp [this]
    · rw [if_neg h0]
      by_cases h1 : (l.length : Int) > 8
      · rw [if_pos (by simpa using h1)]
        have : decide (num = 0 ∧ 1 ≤ l.length ∧ l.length ≤ 8) = false := by simp; omega
        simp [this]
      · rw [if_neg (by simpa using h1)]
        have := ref4_l0 4 nm num l n (by omega) l.length k 0 (by omega) (by omega)
        simp only [Int.natCast_zero, List.drop_zero] at this
        rw [this]
        have h2 : decide (num = 0 ∧ 1 ≤ l.length ∧ l.length ≤ 8) = decide (num = 0) := by
          rw [Bool.eq_iff_iff]; simp; omega
        rw [h2]
        simp
        cases nameB nm <;> cases argsB n l <;> simp
  · rw [if_neg h4]
    by_cases hl : (l.length : Int) > 0
    · rw [if_pos hl]
      by_cases a1 : kd = 1
      · rw [if_pos a1]; simp; intro h; simp [h] at hl
      · rw [if_neg a1]
        by_cases a2 : kd = 2
        · rw [if_pos a2]; simp; intro h; simp [h] at hl
        · rw [if_neg a2]
          by_cases a3 : kd = 3
          · rw [if_pos a3]; simp; intro h; simp [h] at hl
          · rw [if_neg a3, if_neg h4]
    · rw [if_neg hl]
      have hl0 : l.length = 0 := by omega
      by_cases a1 : kd = 1
      · rw [if_pos a1, if_pos a1]
        by_cases hn : nm.toList = []
        · rw [if_pos hn]; simp [hl0, hn]; rw [Bool.eq_iff_iff]; simp
        · rw [if_neg hn]; simp [hn]
      · rw [if_neg a1, if_neg a1]
        by_cases a2 : kd = 2
        · rw [if_pos a2, if_pos a2, ref3_f nm (k + 1) (by omega)]
          cases nameB nm <;> simp [hl0]
          rw [Bool.eq_iff_iff]; simp
        · rw [if_neg a2, if_neg a2]
          by_cases a3 : kd = 3
          · rw [if_pos a3, if_pos a3]
            by_cases hn : nm.toList = []
            · rw [if_pos hn]
              by_cases hb : num ≤ 1125899906842624
              · rw [if_pos hb]; simp [hl0, hn, hb]
              · rw [if_neg hb]; simp [hl0, hn, hb]; try omega
            · rw [if_neg hn]; simp [hn]
          · rw [if_neg a3, if_neg a3, if_neg h4]
def outB (n : Int) (a : Int) : Bool := decide (a < 0) || decide (n ≤ a)
def badN (n : Int) : List Nd → Nat → Option Nat
  | [], _ => none
  | x :: r, i => if goodN x n = true then badN n r (i + 1) else some i
def badR (n : Int) : List Int → Nat → Option Nat
  | [], _ => none
  | x :: r, i => if outB n x = true then some i else badR n r (i + 1)
/-- The first fault of a graph: its code and its place; (0, 0): it is good. -/
def chk (nodes : List Nd) (roots : List Int) : Int × Int :=
  if nodes.length > 4096 then (41, nodes.length) else if roots.length > 4096 then (42, roots.length) else
    match badN nodes.length nodes 0 with
    | some i => (40, i)
    | none => match badR nodes.length roots 0 with
      | some i => (43, i)
      | none => (0, 0)
def chainOf (p : Int × Int) : Chain := if p.1 = 0 then [] else [(p.1, p.2, ⟨#[]⟩)]
def chkC (nodes : List Nd) (roots : List Int) : Chain := chainOf (chk nodes roots)
theorem rdT_get (l : List Nd) (i : Nat) (h : i < l.length) : rd_T35 l (i : Int) = l[i] := by
  simp [rd_T35, List.getD_eq_getElem?_getD, h]
theorem chk_l1 (nodes : List Nd) (roots : List Int) (hr : roots.length ≤ 4096) (d : Nat) : ∀ (k i : Nat), i + d = roots.length → d < k →
    tendrilref04_Check.l1 k (i : Int) nodes roots = some (match badR nodes.length (roots.drop i) i with | some i => (43, (i : Int), ⟨#[]⟩, []) | none => (0, 0, ⟨#[]⟩, [])) := by
  induction d with
  | zero =>
    intro k i hi hk
    obtain ⟨k, rfl⟩ : ∃ m, k = m + 1 := ⟨k - 1, by omega⟩
    simp only [tendrilref04_Check.l1]
    rw [if_neg (by omega)]
    have : roots.drop i = [] := List.drop_eq_nil_of_le (by omega)
    rw [this]; simp [badR, tendrilnum_No.f]
  | succ d ih =>
    intro k i hi hk
    obtain ⟨k, rfl⟩ : ∃ m, k = m + 1 := ⟨k - 1, by omega⟩
    simp only [tendrilref04_Check.l1]
    have hlt : i < roots.length := by omega
    rw [if_pos (by omega), if_pos (by omega), rd_get roots i hlt, List.drop_eq_getElem_cons hlt]
    have e : wrap64 ((i : Int) + 1) = ((i + 1 : Nat) : Int) := by rw [w64 (by omega) (by omega)]; omega
    have h := ih k (i + 1) (by omega) (by omega)
    rw [e, h]
    simp only [badR]
    by_cases h1 : roots[i] < 0
    · rw [if_pos h1, if_pos (by simp [outB, h1])]; simp [tendrilnum_At.f]
    · by_cases h2 : roots[i] ≥ nodes.length
      · rw [if_neg h1, if_pos h2, if_pos (by simp [outB]; omega)]; simp [tendrilnum_At.f]
      · rw [if_neg h1, if_neg h2, if_neg (by simp [outB]; omega)]
theorem chk_l0 (nodes : List Nd) (roots : List Int) (hn : nodes.length ≤ 4096) (hr : roots.length ≤ 4096) (d : Nat) : ∀ (k i : Nat), i + d = nodes.length → d + 5000 < k →
    tendrilref04_Check.l0 k (i : Int) nodes roots = some (match badN nodes.length (nodes.drop i) i with | some i => (40, (i : Int), ⟨#[]⟩, []) | none => (match badR nodes.length roots 0 with | some i => (43, (i : Int), ⟨#[]⟩, []) | none => (0, 0, ⟨#[]⟩, []))) := by
  induction d with
  | zero =>
    intro k i hi hk
    obtain ⟨k, rfl⟩ : ∃ m, k = m + 1 := ⟨k - 1, by omega⟩
    simp only [tendrilref04_Check.l0]
    rw [if_neg (by omega)]
    have : nodes.drop i = [] := List.drop_eq_nil_of_le (by omega)
    rw [this]
    have := chk_l1 nodes roots hr roots.length k 0 (by omega) (by omega)
    simp only [Int.natCast_zero, List.drop_zero] at this
    rw [this]; simp [badN]
  | succ d ih =>
    intro k i hi hk
    obtain ⟨k, rfl⟩ : ∃ m, k = m + 1 := ⟨k - 1, by omega⟩
    simp only [tendrilref04_Check.l0]
    have hlt : i < nodes.length := by omega
    rw [if_pos (by omega), if_pos (by omega), rdT_get nodes i hlt, List.drop_eq_getElem_cons hlt, ref4_f _ _ _ _ _ _ (by omega)]
    have e : wrap64 ((i : Int) + 1) = ((i + 1 : Nat) : Int) := by rw [w64 (by omega) (by omega)]; omega
    have h := ih k (i + 1) (by omega) (by omega)
    rw [e, h]
    simp only [badN, goodN, Option.bind_some]
    by_cases h1 : goodB nodes[i].f0 nodes[i].f1 nodes[i].f2 nodes[i].f3 nodes.length = true
    · simp [h1]
    · simp [h1, tendrilnum_At.f]
theorem chk_f (nodes : List Nd) (roots : List Int) (k : Nat) (hk : 10000 ≤ k) : tendrilref04_Check.f k nodes roots = some ((chk nodes roots).1, (chk nodes roots).2, ⟨#[]⟩, []) := by
  unfold tendrilref04_Check.f chk
  by_cases h1 : nodes.length > 4096
  · rw [if_pos (by omega), if_pos h1]; simp [tendrilnum_At.f]
  · rw [if_neg (by omega), if_neg h1]
    by_cases h2 : roots.length > 4096
    · rw [if_pos (by omega), if_pos h2]; simp [tendrilnum_At.f]
    · rw [if_neg (by omega), if_neg h2]
      have := chk_l0 nodes roots (by omega) (by omega) nodes.length k 0 (by omega) (by omega)
      simp only [Int.natCast_zero, List.drop_zero] at this
      rw [this]
      cases badN nodes.length nodes 0 <;> simp
      cases badR nodes.length roots 0 <;> simp
end Go.Proofs.YtciniaabmjoiiaaDoor
