/- What word.Read reads, in plain words; it reads back what word.Text writes. No walk. -/
import Derived.Test.YtpmnkabggljpkaaDoorWordT
import Derived.Lib.IndexMore
set_option linter.unusedVariables false
set_option linter.unusedSimpArgs false
namespace Go.Proofs.YtpmnkabggljpkaaDoor
open Go.RowKit
def pre (s : ByteArray) (t : Int) : Bool := Lib.hasPrefix s.data.toList (labelS t).data.toList
def restL (s : ByteArray) (t : Int) : List UInt8 := Lib.trimPrefix s.data.toList (labelS t).data.toList
def okO {α : Type} : Lib.NumEnd α → Option α
  | .ok v => some v
  | _ => none
def atoiO (l : List UInt8) : Option Int := okO (Lib.atoiAll l)
def numT (l : List UInt8) : Option Int :=
  match atoiO (Lib.cut l [47]).1 with
  | none => none
  | some n => if (Lib.cut l [47]).2.2 = true then
      match atoiO (Lib.cut l [47]).2.1 with
      | none => none
      | some k => if k < 0 ∨ 15 < k ∨ n < 0 ∨ 1024 ≤ n then none else some (n * 16 + k)
    else some n
def tryS (t : Int) (s : ByteArray) : Option Int :=
  match numT (restL s t) with
  | none => none
  | some n => if packC t n = [] ∧ textS (packS t n) = s then some (packS t n) else none
def readS (s : ByteArray) : Option Int :=
  if pre s 0 = true then tryS 0 s else if pre s 1 = true then tryS 1 s else if pre s 2 = true then tryS 2 s else if pre s 3 = true then tryS 3 s else if pre s 4 = true then tryS 4 s else if pre s 5 = true then tryS 5 s else none
theorem readS_at {s : ByteArray} {k : Int} (h0 : 0 ≤ k) (h5 : k ≤ 5) (hb : ∀ j, 0 ≤ j → j < k → pre s j = false) (h : pre s k = true) : readS s = tryS k s := by
  unfold readS
  have hk : k = 0 ∨ k = 1 ∨ k = 2 ∨ k = 3 ∨ k = 4 ∨ k = 5 := by omega
  rcases hk with rfl | rfl | rfl | rfl | rfl | rfl
  · rw [if_pos h]
  · simp only [hb 0 (by omega) (by omega), h]; rfl
  · simp only [hb 0 (by omega) (by omega), hb 1 (by omega) (by omega), h]; rfl
  · simp only [hb 0 (by omega) (by omega), hb 1 (by omega) (by omega), hb 2 (by omega) (by omega), h]; rfl
  · simp only [hb 0 (by omega) (by omega), hb 1 (by omega) (by omega), hb 2 (by omega) (by omega), hb 3 (by omega) (by omega), h]; rfl
  · simp only [hb 0 (by omega) (by omega), hb 1 (by omega) (by omega), hb 2 (by omega) (by omega), hb 3 (by omega) (by omega), hb 4 (by omega) (by omega), h]; rfl
theorem readS_no {s : ByteArray} (hb : ∀ j, 0 ≤ j → j < 6 → pre s j = false) : readS s = none := by
  unfold readS
  simp [hb 0 (by omega) (by omega), hb 1 (by omega) (by omega), hb 2 (by omega) (by omega), hb 3 (by omega) (by omega), hb 4 (by omega) (by omega), hb 5 (by omega) (by omega)]
theorem tryS_some {t : Int} {s : ByteArray} {x : Int} (h : tryS t s = some x) : ∃ n, packC t n = [] ∧ x = packS t n ∧ textS x = s := by
  unfold tryS at h
  split at h
  · cases h
  · rename_i n hn
    split at h
    · rename_i hc
      cases h
      exact ⟨n, hc.1, rfl, hc.2⟩
    · cases h
theorem readS_some {s : ByteArray} {x : Int} (h : readS s = some x) : ∃ t n, packC t n = [] ∧ x = packS t n ∧ textS x = s := by
  unfold readS at h
  repeat' split at h
  all_goals first | (cases h; done) | (obtain ⟨n, h1, h2, h3⟩ := tryS_some h; exact ⟨_, n, h1, h2, h3⟩)
/- the numerals -/
theorem digitVal_of (d : Nat) (h : d < 10) : Lib.digitVal (UInt8.ofNat (48 + d)) = some d := by
  unfold Lib.digitVal
  have e : (UInt8.ofNat (48 + d)).toNat = 48 + d := by simp; omega
  rw [e, if_pos (by omega)]
  congr 1; omega
theorem decFrom_snoc (l : List UInt8) (b : UInt8) (d : Nat) (hb : Lib.digitVal b = some d) : ∀ acc n, Lib.decFrom acc l = some n → Lib.decFrom acc (l ++ [b]) = some (n * 10 + d) := by
  induction l with
  | nil => intro acc n h; simp only [Lib.decFrom, Option.some.injEq] at h; subst h; simp [Lib.decFrom, hb]
  | cons a r ih =>
    intro acc n h
    simp only [Lib.decFrom] at h
    cases ha : Lib.digitVal a with
    | none => simp [ha] at h
    | some e =>
      simp only [ha] at h
      simp only [List.cons_append, Lib.decFrom, ha]
      exact ih _ _ h
theorem decFrom_dec (u : Nat) : Lib.decFrom 0 (Lib.decDigits u) = some u := by
  induction u using Nat.strongRecOn with
  | ind u ih =>
    rw [Lib.decDigits]
    by_cases h : u < 10
    · rw [dif_pos h]; simp only [Lib.decFrom]; rw [digitVal_of u h]; simp
    · rw [dif_neg h, decFrom_snoc _ _ _ (digitVal_of (u % 10) (by omega)) 0 _ (ih (u / 10) (by omega))]
      congr 1; omega
theorem dec_ne (u : Nat) : Lib.decDigits u ≠ [] := by
  rw [Lib.decDigits]; split <;> simp
theorem dec_digits (u : Nat) : ∀ c ∈ Lib.decDigits u, 48 ≤ c.toNat ∧ c.toNat ≤ 57 := by
  induction u using Nat.strongRecOn with
  | ind u ih =>
    rw [Lib.decDigits]
    by_cases h : u < 10
    · rw [dif_pos h]; intro c hc; simp at hc; subst hc; simp; omega
    · rw [dif_neg h]; intro c hc
      rw [List.mem_append] at hc
      rcases hc with hc | hc
      · exact ih _ (by omega) c hc
      · simp at hc; subst hc; simp; omega
theorem itoa_noslash (n : Int) : ∀ c ∈ Lib.itoa n, c ≠ 47 := by
  intro c hc e
  subst e
  unfold Lib.itoa at hc
  split at hc
  · rw [List.mem_cons] at hc
    rcases hc with hc | hc
    · exact absurd hc (by decide)
    · have := (dec_digits _ _ hc).1; revert this; decide
  · have := (dec_digits _ _ hc).1; revert this; decide
theorem atoi_itoa (n : Int) : Lib.atoi (Lib.itoa n) = some n := by
  unfold Lib.itoa
  split
  · rename_i h
    have hd : Lib.decNat (Lib.decDigits n.natAbs) = some n.natAbs := by
      unfold Lib.decNat
      rw [if_neg (by simp [dec_ne]), decFrom_dec]
    simp only [Lib.atoi]
    rw [if_pos (by decide), hd]
    simp; omega
  · rename_i h
    cases hl : Lib.decDigits n.toNat with
    | nil => exact absurd hl (dec_ne _)
    | cons b r =>
      have hb := dec_digits n.toNat b (by rw [hl]; simp)
      have h45 : (b == 45) = false := by
        rw [beq_eq_false_iff_ne]; intro e; subst e; revert hb; decide
      have h43 : (b == 43) = false := by
        rw [beq_eq_false_iff_ne]; intro e; subst e; revert hb; decide
      have hd : Lib.decNat (b :: r) = some n.toNat := by
        rw [← hl]
        unfold Lib.decNat
        rw [if_neg (by simp [dec_ne]), decFrom_dec]
      simp only [Lib.atoi, h45, h43, hd]
      simp; omega
theorem dd_len' (n u : Nat) (h : u < 10 ^ (n + 1)) : (Lib.decDigits u).length ≤ n + 1 := dd_len n u h
theorem atoiO_itoa (n : Int) (h0 : -10000000000000000 < n) (h1 : n < 10000000000000000) : atoiO (Lib.itoa n) = some n := by
  unfold atoiO
  rw [Lib.atoiAll_short, atoi_itoa]
  · rfl
  · unfold Lib.itoa
    split
    · have := dd_len 15 n.natAbs (by omega); simp; omega
    · have := dd_len 15 n.toNat (by omega); omega
theorem no_occ {l : List UInt8} (h : ∀ c ∈ l, c ≠ 47) (j : Nat) (hj : j < l.length) (r : List UInt8) : Lib.occAt (l ++ r) [47] j = false := by
  unfold Lib.occAt
  rw [List.drop_append_of_le_length (by omega)]
  have e : l.drop j = l[j] :: l.drop (j + 1) := (List.getElem_cons_drop hj).symm
  rw [e]
  have := h l[j] (List.getElem_mem hj)
  have h2 : ((47 : UInt8) == l[j]) = false := by rw [beq_eq_false_iff_ne]; exact fun e => this e.symm
  simp only [List.cons_append, List.isPrefixOf, h2]
  rfl
theorem cut_no {l : List UInt8} (h : ∀ c ∈ l, c ≠ 47) : Lib.cut l [47] = (l, [], false) := by
  have e : Lib.index l [47] = -1 := Lib.index_none (fun j hj => by
    by_cases hj' : j < l.length
    · have := no_occ h j hj' []; rwa [List.append_nil] at this
    · have : j = l.length := by omega
      subst this
      unfold Lib.occAt; simp [List.isPrefixOf])
  unfold Lib.cut
  rw [e, if_neg (by omega)]
theorem cut_at {l r : List UInt8} (h : ∀ c ∈ l, c ≠ 47) : Lib.cut (l ++ 47 :: r) [47] = (l, r, true) := by
  have e : Lib.index (l ++ 47 :: r) [47] = (l.length : Nat) := Lib.index_first (by simp) (by unfold Lib.occAt; simp [List.isPrefixOf]) (fun j hj => no_occ h j hj _)
  unfold Lib.cut
  rw [e, if_pos (by omega)]
  simp
theorem restL_of (t : Int) (l : List UInt8) (s : ByteArray) (h : s.data.toList = (labelS t).data.toList ++ l) : pre s t = true ∧ restL s t = l := by
  have hp : Lib.hasPrefix s.data.toList (labelS t).data.toList = true := by
    unfold Lib.hasPrefix; rw [h, List.isPrefixOf_iff_prefix]; exact List.prefix_append _ _
  refine ⟨hp, ?_⟩
  unfold restL Lib.trimPrefix
  rw [if_pos hp, h]; simp
theorem pre_other (t j : Int) (t0 : 0 ≤ t) (t5 : t ≤ 5) (j0 : 0 ≤ j) (jt : j < t) (l : List UInt8) (s : ByteArray) (h : s.data.toList = (labelS t).data.toList ++ l) : pre s j = false := by
  unfold pre Lib.hasPrefix
  rw [h]
  have ht : t = 0 ∨ t = 1 ∨ t = 2 ∨ t = 3 ∨ t = 4 ∨ t = 5 := by omega
  have hj : j = 0 ∨ j = 1 ∨ j = 2 ∨ j = 3 ∨ j = 4 := by omega
  rcases ht with rfl | rfl | rfl | rfl | rfl | rfl <;> rcases hj with rfl | rfl | rfl | rfl | rfl <;> first | (exfalso; omega) | (simp [labelS, List.isPrefixOf])
theorem bnil (a b : ByteArray) : (a ++ b).data.toList = a.data.toList ++ b.data.toList := by simp [ByteArray.data_append]
theorem pack_good {x : Int} (h0 : 0 ≤ x) (h1 : x ≤ 18446744073709551615) (h : goodS x = true) : tagS x ≤ 5 ∧ packC (tagS x) (valS x) = [] ∧ packS (tagS x) (valS x) = x ∧ -1125899906842624 ≤ valS x ∧ valS x ≤ 1125899906842624 := by
  have ht := tagS_range x
  have hf : fitsS (tagS x) (valS x) = true := h
  have h5 : tagS x ≤ 5 := by
    unfold fitsS at hf
    repeat' split at hf
    all_goals first | omega | (simp at hf)
  have hv : -1125899906842624 ≤ valS x ∧ valS x ≤ 1125899906842624 := by
    unfold fitsS at hf
    repeat' split at hf
    all_goals simp at hf
    all_goals omega
  refine ⟨h5, ?_, ?_, hv⟩
  · unfold packC; rw [if_neg (by omega), if_pos hf]
  · unfold packS; rw [if_neg (by omega), if_pos hf]
    unfold joinS valS tagS; split <;> omega
theorem readS_text {x : Int} (h0 : 0 ≤ x) (h1 : x ≤ 18446744073709551615) (h : goodS x = true) : readS (textS x) = some x := by
  have ht := tagS_range x
  obtain ⟨h5, hp, hx, hv⟩ := pack_good h0 h1 h
  have key : ∃ l, (textS x).data.toList = (labelS (tagS x)).data.toList ++ l ∧ numT l = some (valS x) := by
    by_cases hh : headB x = true
    · have hr := head_range hh
      have t4 : tagS x = 4 := by unfold headB at hh; simp at hh; exact hh.1
      have en : headN x = valS x / 16 := by unfold headN; rw [if_pos hh]
      have ek : headK x = valS x % 16 := by unfold headK; rw [if_pos hh]
      refine ⟨Lib.itoa (headN x) ++ 47 :: Lib.itoa (headK x), ?_, ?_⟩
      · unfold textS; rw [if_pos h, if_pos hh, t4]; simp [bnil, labelS]
      · unfold numT
        rw [cut_at (itoa_noslash _)]
        simp only [if_true]
        rw [atoiO_itoa _ (by omega) (by omega), atoiO_itoa _ (by omega) (by omega)]
        simp only
        rw [if_neg (by omega)]
        congr 1; omega
    · refine ⟨Lib.itoa (valS x), ?_, ?_⟩
      · unfold textS; rw [if_pos h, if_neg hh]; simp [bnil]
      · unfold numT
        rw [cut_no (itoa_noslash _)]
        simp only [Bool.false_eq_true, if_false]
        rw [atoiO_itoa _ (by omega) (by omega)]
  obtain ⟨l, hl, hn⟩ := key
  obtain ⟨p1, p2⟩ := restL_of _ _ _ hl
  rw [readS_at ht.1 h5 (fun j j0 jt => pre_other (tagS x) j ht.1 h5 j0 jt l _ hl) p1]
  unfold tryS
  rw [p2, hn]
  simp only
  rw [hp, hx, if_pos ⟨rfl, rfl⟩]
theorem readS_bad : readS ⟨#[98, 97, 100]⟩ = none := readS_no (fun j h0 h6 => by
  have hj : j = 0 ∨ j = 1 ∨ j = 2 ∨ j = 3 ∨ j = 4 ∨ j = 5 := by omega
  rcases hj with rfl | rfl | rfl | rfl | rfl | rfl <;> decide)
theorem readS_text_bad {x : Int} (h : goodS x = false) : readS (textS x) = none := by
  unfold textS; rw [if_neg (by simp [h])]; exact readS_bad
/- the contracts as the walk of Read wants them -/
theorem okO_some {α : Type} {r : Lib.NumEnd α} {v : α} (h : r = .ok v) : okO r = some v := by rw [h]; rfl
theorem okO_none {α : Type} {r : Lib.NumEnd α} (h : ∀ v, r ≠ .ok v) : okO r = none := by
  cases r with
  | ok v => exact absurd rfl (h v)
  | _ => rfl
theorem atoiO_range {l : List UInt8} {v : Int} (h : atoiO l = some v) : -9223372036854775808 ≤ v ∧ v ≤ 9223372036854775807 := by
  unfold atoiO at h
  have h' : Lib.atoiAll l = .ok v := by
    cases hr : Lib.atoiAll l with
    | ok u => rw [hr] at h; simp only [okO, Option.some.injEq] at h; rw [h]
    | _ => rw [hr] at h; cases h
  unfold Lib.atoiAll at h'
  split at h'
  · cases h'
  · simp only at h'
    split at h'
    · cases h'
    · cases h'
    · repeat' split at h'
      all_goals first | (cases h'; done) | (injection h' with h'; omega)
def RetA' (l : List UInt8) (w : World) (e : Ending) (w' : World) : Prop :=
  (∃ v, Hid (atoiO l = some v) ∧ -9223372036854775808 ≤ v ∧ v ≤ 9223372036854775807 ∧ e = .returned (.tuple #[.int .i64 v, .nilIface]) ∧ Hid (Below w.heap.size w w')) ∨
  (∃ n t p, Hid (atoiO l = none) ∧ e = .returned (.tuple #[.int .i64 n, .iface t p]) ∧ Hid (Below w.heap.size w w'))
theorem atoi_c (s : ByteArray) (w : World) (hs : s.size ≤ 1048576) (E : LibEnv w) : Calls Tryd.prog 42 #[.string s] w (RetA' s.data.toList w) :=
  (atoi_any s w (by omega) E).mono fun e w' h => by
    rcases h with ⟨v, hv, he, hb⟩ | ⟨hv, n, t, p, he, hb⟩
    · have hv' : atoiO s.data.toList = some v := okO_some hv
      exact .inl ⟨v, Lib.hid hv', (atoiO_range hv').1, (atoiO_range hv').2, he, Lib.hid hb⟩
    · exact .inr ⟨n, t, p, Lib.hid (okO_none hv), he, Lib.hid hb⟩
theorem cp_c (s : ByteArray) (k : Int) (w : World) (hs : s.size ≤ 1048576) : Calls Tryd.prog 40 #[.string s, .string (labelS k)] w fun e w' => ∃ r ok, e = .returned (.tuple #[.string r, .bool ok]) ∧ w = w' ∧ Hid (r.data.toList = restL s k) ∧ Hid (pre s k = ok) ∧ r.size ≤ 1048576 :=
  (Tryd.strings_CutPrefix s (labelS k) w).mono fun e w' ⟨he, hw⟩ => ⟨_, _, he, hw.symm, Lib.hid (by simp [restL]), Lib.hid rfl, by
    have hs' := hs
    rw [Lib.size_eq] at hs' ⊢
    simp only [Lib.trimPrefix]
    split
    · rw [List.length_drop]; omega
    · exact hs'⟩
theorem cut_len (l : List UInt8) : (Lib.cut l [47]).1.length ≤ l.length ∧ (Lib.cut l [47]).2.1.length ≤ l.length := by
  unfold Lib.cut; split
  · simp; omega
  · simp
theorem cut_c (s : ByteArray) (w : World) (hs : s.size ≤ 1048576) (E : LibEnv w) : Calls Tryd.prog 41 #[.string s, .string ⟨#[47]⟩] w fun e w' => ∃ l r two n, e = .returned (.tuple #[.string l, .string r, .bool two]) ∧ w' = w.drewN n ∧ Hid (Lib.cut s.data.toList [47] = (l.data.toList, r.data.toList, two)) ∧ l.size ≤ 1048576 ∧ r.size ≤ 1048576 := by
  obtain ⟨m, hm⟩ := E.cut
  refine (Tryd.strings_Cut s ⟨#[47]⟩ m w (by omega) hm).mono fun e w' ⟨he, n, hw⟩ => ⟨_, _, _, n, he, hw, Lib.hid (by simp), ?_, ?_⟩
  all_goals
    have hs' := hs
    rw [Lib.size_eq] at hs' ⊢
    have := cut_len s.data.toList
    simp only
    omega
end Go.Proofs.YtpmnkabggljpkaaDoor
