/- tendrilref01.Read: it reads as word.Read does. -/
import Derived.Test.YtpmnkabggljpkaaDoorWordD
set_option linter.unusedVariables false
set_option linter.unusedSimpArgs false
namespace Go.Proofs.YtpmnkabggljpkaaDoor
open Go.RowKit Go.Shelf
def idxO (c : UInt8) : List UInt8 → Nat
  | [] => 0
  | b :: r => if b = c then 0 else idxO c r + 1
theorem idxO_le (c : UInt8) (l : List UInt8) : idxO c l ≤ l.length := by
  induction l with
  | nil => simp [idxO]
  | cons b r ih => simp only [idxO]; split <;> simp; omega
theorem idxO_drop (c : UInt8) (l : List UInt8) (k : Nat) (b : UInt8) (h : l[k]? = some b) : idxO c (l.drop k) = if b = c then 0 else idxO c (l.drop (k + 1)) + 1 := by
  have hk : k < l.length := (List.getElem?_eq_some_iff.1 h).1
  have e : l.drop k = b :: l.drop (k + 1) := by
    rw [← (List.getElem?_eq_some_iff.1 h).2]; exact (List.getElem_cons_drop hk).symm
  rw [e]; rfl
theorem idxO_app {c : UInt8} {l r : List UInt8} (h : ∀ b ∈ l, b ≠ c) : idxO c (l ++ c :: r) = l.length := by
  induction l with
  | nil => simp [idxO]
  | cons b l ih => simp only [List.cons_append, idxO]; rw [if_neg (h b (by simp)), ih (fun x hx => h x (by simp [hx]))]; simp
theorem idxO_no {c : UInt8} {l : List UInt8} (h : ∀ b ∈ l, b ≠ c) : idxO c l = l.length := by
  induction l with
  | nil => rfl
  | cons b l ih => simp only [idxO]; rw [if_neg (h b (by simp)), ih (fun x hx => h x (by simp [hx]))]; simp
def refTail (sg : Int) (r : List UInt8) : Option Int :=
  match numO (r.take (idxO 47 r)) with
  | none => none
  | some n => if idxO 47 r < r.length then
      match numO (r.drop (idxO 47 r + 1)) with
      | none => none
      | some k => if n < 1024 ∧ k < 16 then some (sg * (16 * n + k)) else none
    else some (sg * n)
def refRest (r : List UInt8) : Option Int := if r.head? = some 45 then refTail (-1) (r.drop 1) else refTail 1 r
def refNum (l : List UInt8) : Option Int := if idxO 32 l < l.length then refRest (l.drop (idxO 32 l + 1)) else none
theorem numO_dec (u : Nat) (h : u < 1000000000000000000) : numO (Lib.decDigits u) = some u := by
  unfold numO
  rw [if_pos (dd_len 17 u (by omega))]
  unfold Lib.decNat
  rw [if_neg (by simp [dec_ne]), decFrom_dec]
theorem tail_dec (sg : Int) (u : Nat) (h : u < 1000000000000000000) : refTail sg (Lib.decDigits u) = some (sg * u) := by
  have e : idxO 47 (Lib.decDigits u) = (Lib.decDigits u).length := idxO_no (fun b hb e => by have := (dec_digits u b hb).1; subst e; revert this; decide)
  unfold refTail
  rw [e, List.take_length, numO_dec u h]
  simp
theorem rest_itoa (n : Int) (h0 : -1000000000000000000 < n) (h1 : n < 1000000000000000000) : refRest (Lib.itoa n) = some n := by
  unfold refRest Lib.itoa
  split
  · rename_i hn
    simp only [List.head?_cons, if_true, List.drop_one, List.tail_cons]
    rw [tail_dec _ _ (by omega)]
    congr 1; omega
  · rename_i hn
    have hh : (Lib.decDigits n.toNat).head? ≠ some 45 := fun e => by
      have hm : (45 : UInt8) ∈ Lib.decDigits n.toNat := List.mem_of_head? e
      have := (dec_digits _ _ hm).1; revert this; decide
    rw [if_neg hh, tail_dec _ _ (by omega)]
    congr 1; omega
theorem rest_two (n k : Nat) (h0 : n < 1024) (h1 : k < 16) : refRest (Lib.decDigits n ++ 47 :: Lib.decDigits k) = some (16 * n + k) := by
  have hh : (Lib.decDigits n ++ 47 :: Lib.decDigits k).head? ≠ some 45 := fun e => by
    cases hd : Lib.decDigits n with
    | nil => exact dec_ne n hd
    | cons b r =>
      rw [hd] at e
      simp at e
      have := (dec_digits n b (by rw [hd]; simp)).1; subst e; revert this; decide
  have e : idxO 47 (Lib.decDigits n ++ 47 :: Lib.decDigits k) = (Lib.decDigits n).length := idxO_app (fun b hb e => by have := (dec_digits n b hb).1; subst e; revert this; decide)
  unfold refRest
  rw [if_neg hh]
  unfold refTail
  rw [e, List.take_left, numO_dec n (by omega)]
  simp only
  rw [if_pos (by simp)]
  have e2 : (Lib.decDigits n ++ 47 :: Lib.decDigits k).drop ((Lib.decDigits n).length + 1) = Lib.decDigits k := by
    rw [← List.drop_drop, List.drop_left]; rfl
  rw [e2, numO_dec k (by omega)]
  simp only
  rw [if_pos ⟨h0, h1⟩]
  congr 1; omega
theorem label_space (t : Int) (r : List UInt8) : ∃ p : List UInt8, (∀ b ∈ p, b ≠ 32) ∧ (labelS t).data.toList ++ r = p ++ 32 :: r := by
  unfold labelS
  repeat' split
  · exact ⟨[114, 101, 102], by decide, rfl⟩
  · exact ⟨[97, 116, 111, 109], by decide, rfl⟩
  · exact ⟨[105, 110, 116], by decide, rfl⟩
  · exact ⟨[115, 116, 114], by decide, rfl⟩
  · exact ⟨[102, 117, 110], by decide, rfl⟩
  · exact ⟨[102, 119, 100], by decide, rfl⟩
theorem refNum_label (t : Int) (r : List UInt8) : refNum ((labelS t).data.toList ++ r) = refRest r := by
  obtain ⟨p, hp, e⟩ := label_space t r
  rw [e]
  unfold refNum
  rw [idxO_app hp, if_pos (by simp)]
  rw [← List.drop_drop, List.drop_left]; rfl
theorem refNum_text {x : Int} (h0 : 0 ≤ x) (h1 : x ≤ 18446744073709551615) (h : goodS x = true) : refNum (textS x).data.toList = some (valS x) := by
  have ht := tagS_range x
  obtain ⟨h5, hp, hx, hv⟩ := pack_good h0 h1 h
  by_cases hh : headB x = true
  · have hr := head_range hh
    have t4 : tagS x = 4 := by unfold headB at hh; simp at hh; exact hh.1
    obtain ⟨n, en⟩ : ∃ n : Nat, headN x = n := ⟨(headN x).toNat, by unfold headN; rw [if_pos hh]; omega⟩
    obtain ⟨k, ek⟩ : ∃ k : Nat, headK x = k := ⟨(headK x).toNat, by unfold headK; rw [if_pos hh]; omega⟩
    have e1 : valS x / 16 = n := by rw [← en]; unfold headN; rw [if_pos hh]
    have e2 : valS x % 16 = k := by rw [← ek]; unfold headK; rw [if_pos hh]
    have e : (textS x).data.toList = (labelS 4).data.toList ++ (Lib.decDigits n ++ 47 :: Lib.decDigits k) := by
      unfold textS; rw [if_pos h, if_pos hh, en, ek, Lib.itoa_nonneg, Lib.itoa_nonneg]; simp [bnil, labelS]
    rw [e, refNum_label, rest_two n k (by omega) (by omega)]
    exact congrArg some (by omega)
  · have e : (textS x).data.toList = (labelS (tagS x)).data.toList ++ Lib.itoa (valS x) := by
      unfold textS; rw [if_pos h, if_neg hh]; simp [bnil]
    rw [e, refNum_label, rest_itoa _ (by omega) (by omega)]
/-- A reading that fails where a number fails. -/
theorem readS_refnone {s : ByteArray} (h : refNum s.data.toList = none) : readS s = none := by
  cases hr : readS s with
  | none => rfl
  | some x =>
    obtain ⟨g, ht, x0, x1⟩ := readS_good hr
    have := refNum_text x0 x1 g
    rw [ht, h] at this; cases this
theorem readS_tried {s : ByteArray} {v : Int} (h : refNum s.data.toList = some v) (hall : ∀ j, 0 ≤ j → j < 6 → ¬ (packC j v = [] ∧ textS (packS j v) = s)) : readS s = none := by
  cases hr : readS s with
  | none => rfl
  | some x =>
    obtain ⟨g, ht, x0, x1⟩ := readS_good hr
    have e := refNum_text x0 x1 g
    rw [ht, h] at e
    obtain ⟨h5, hp, hx, _⟩ := pack_good x0 x1 g
    have hv : v = valS x := Option.some.inj e
    exact absurd ⟨by rw [hv]; exact hp, by rw [hv, hx]; exact ht⟩ (hall (tagS x) (tagS_range x).1 (by omega))
theorem readS_hit {s : ByteArray} {v j : Int} (hp : packC j v = []) (ht : textS (packS j v) = s) : readS s = some (packS j v) := by
  obtain ⟨_, _, g, p0, p1⟩ := pack_back hp
  rw [← ht]; exact readS_text p0 p1 g
theorem bad_any (c a : Int) (n : ByteArray) (A : Option Addr) (m k : Nat) (w : World) : Calls Tryd.prog 44 #[.agg #[.int .i64 c, .int .i64 a, .string n, .slice A m k]] w fun e w' => e = .returned (.bool (c != 0)) ∧ Below w.heap.size w w' := by
  go_enter Tryd.func44, Tryd.ntmps44
  go_wp2
  go_ret
  exact ⟨rfl, (Below.refl _ _).alloc (Nat.le_refl _) _⟩
def RfP (s : ByteArray) (w : World) (e : Ending) (w' : World) : Prop := RetF (.int .u64 ((readS s).getD 0)) (if readS s = none then code1 12 else []) w e w'
end Go.Proofs.YtpmnkabggljpkaaDoor
