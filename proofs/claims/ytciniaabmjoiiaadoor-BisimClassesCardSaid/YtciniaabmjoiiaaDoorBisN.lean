import Derived.Test.YtciniaabmjoiiaaDoorBisM
import Derived.Lib.Atoi
/- The texts of labels and signs tell labels and classes apart; what the loops of a round answer. No walk. -/
set_option linter.unusedVariables false
set_option linter.unusedSimpArgs false
namespace Go.Proofs.YtciniaabmjoiiaaDoor
open Go.RowKit Go.Proofs.YtciniaabmjoiiaaDoorW.PrintWords Go.Proofs.YtciniaabmjoiiaaDoorW.PrintLast Go.Proofs.YtciniaabmjoiiaaDoorW.PrintMore Go.Proofs.YtciniaabmjoiiaaDoor.PRef
theorem digitVal_of (d : Nat) (h : d < 10) : Lib.digitVal (UInt8.ofNat (48 + d)) = some d := by
  unfold Lib.digitVal
  have e : (UInt8.ofNat (48 + d)).toNat = 48 + d := by simp; omega
  rw [e, if_pos (by omega)]
  congr 1; omega
theorem decFrom_snoc (l : List UInt8) (b : UInt8) (d : Nat) (hb : Lib.digitVal b = some d) : ∀ acc n, Lib.decFrom acc l = some n → Lib.decFrom acc (l ++ [b]) = some (n * 10 + d) := by
  induction l with
  | nil => intro acc n h; simp only [Lib.decFrom, Option.some.injEq] at h; subst h; simp [Lib.decFrom, hb]
  | cons a r ih =>
    intro acc n h
    simp only [Lib.decFrom] at h
    cases ha : Lib.digitVal a with
    | none => simp [ha] at h
    | some e =>
      simp only [ha] at h
      simp only [List.cons_append, Lib.decFrom, ha]
      exact ih _ _ h
theorem decFrom_dec (u : Nat) : Lib.decFrom 0 (Lib.decDigits u) = some u := by
  induction u using Nat.strongRecOn with
  | ind u ih =>
    rw [Lib.decDigits]
    by_cases h : u < 10
    · rw [dif_pos h]; simp only [Lib.decFrom]; rw [digitVal_of u h]; simp
    · rw [dif_neg h, decFrom_snoc _ _ _ (digitVal_of (u % 10) (by omega)) 0 _ (ih (u / 10) (by omega))]
      congr 1; omega
theorem dec_ne (u : Nat) : Lib.decDigits u ≠ [] := by
  rw [Lib.decDigits]; split <;> simp
theorem dec_digits (u : Nat) : ∀ c ∈ Lib.decDigits u, 48 ≤ c.toNat ∧ c.toNat ≤ 57 := by
  induction u using Nat.strongRecOn with
  | ind u ih =>
    rw [Lib.decDigits]
    by_cases h : u < 10
    · rw [dif_pos h]; intro c hc; simp at hc; subst hc; simp; omega
    · rw [dif_neg h]; intro c hc
      rw [List.mem_append] at hc
      rcases hc with hc | hc
      · exact ih _ (by omega) c hc
      · simp at hc; subst hc; simp; omega
theorem dec_inj {u v : Nat} (h : Lib.decDigits u = Lib.decDigits v) : u = v := by
  have h1 := decFrom_dec u
  rw [h, decFrom_dec v] at h1
  exact (Option.some.inj h1).symm
theorem itoa_chars (n : Int) : ∀ c ∈ Lib.itoa n, c.toNat = 45 ∨ (48 ≤ c.toNat ∧ c.toNat ≤ 57) := by
  intro c hc
  unfold Lib.itoa at hc
  split at hc
  · rw [List.mem_cons] at hc
    rcases hc with hc | hc
    · left; subst hc; rfl
    · right; exact dec_digits _ _ hc
  · right; exact dec_digits _ _ hc
theorem dec_no45 (u : Nat) (r : List UInt8) : Lib.decDigits u ≠ 45 :: r := by
  intro h
  have := dec_digits u 45 (by rw [h]; simp)
  revert this; decide
theorem itoa_inj {a b : Int} (h : Lib.itoa a = Lib.itoa b) : a = b := by
  unfold Lib.itoa at h
  split at h
  · split at h
    · injection h with _ h; have := dec_inj h; omega
    · exact absurd h.symm (dec_no45 _ _)
  · split at h
    · exact absurd h (dec_no45 _ _)
    · have := dec_inj h; omega
/-- Two texts without a mark, each ended or followed by the mark. -/
theorem cut_mark (m : UInt8) : ∀ (d1 d2 r1 r2 : List UInt8), (∀ c ∈ d1, c ≠ m) → (∀ c ∈ d2, c ≠ m) → (r1 = [] ∨ ∃ t, r1 = m :: t) → (r2 = [] ∨ ∃ t, r2 = m :: t) → d1 ++ r1 = d2 ++ r2 → d1 = d2 ∧ r1 = r2 := by
  intro d1
  induction d1 with
  | nil =>
    intro d2 r1 r2 h1 h2 e1 e2 h
    cases d2 with
    | nil => exact ⟨rfl, by simpa using h⟩
    | cons b t =>
      simp at h
      rcases e1 with rfl | ⟨t1, rfl⟩
      · simp at h
      · injection h with hb _
        exact absurd hb.symm (h2 b (by simp))
  | cons a s ih =>
    intro d2 r1 r2 h1 h2 e1 e2 h
    cases d2 with
    | nil =>
      simp at h
      rcases e2 with rfl | ⟨t2, rfl⟩
      · simp at h
      · injection h with hb _
        exact absurd hb (h1 a (by simp))
    | cons b t =>
      simp only [List.cons_append] at h
      injection h with hb ht
      have := ih t r1 r2 (fun c hc => h1 c (by simp [hc])) (fun c hc => h2 c (by simp [hc])) e1 e2 ht
      exact ⟨by rw [hb, this.1], this.2⟩
def numsL (l : List Int) : List UInt8 := l.flatMap fun x => 32 :: Lib.itoa x
theorem numsL_form (l : List Int) : numsL l = [] ∨ ∃ t, numsL l = 32 :: t := by
  cases l with
  | nil => left; rfl
  | cons a r => right; exact ⟨Lib.itoa a ++ numsL r, by simp [numsL]⟩
theorem itoa_noblank (n : Int) : ∀ c ∈ Lib.itoa n, c ≠ 32 := by
  intro c hc e; subst e
  have := itoa_chars n _ hc
  revert this; decide
theorem numsL_inj : ∀ l1 l2 : List Int, numsL l1 = numsL l2 → l1 = l2 := by
  intro l1
  induction l1 with
  | nil =>
    intro l2 h
    cases l2 with
    | nil => rfl
    | cons b t => simp [numsL] at h
  | cons a s ih =>
    intro l2 h
    cases l2 with
    | nil => simp [numsL] at h
    | cons b t =>
      have e1 : numsL (a :: s) = 32 :: (Lib.itoa a ++ numsL s) := by simp [numsL]
      have e2 : numsL (b :: t) = 32 :: (Lib.itoa b ++ numsL t) := by simp [numsL]
      rw [e1, e2] at h
      injection h with _ h
      have := cut_mark 32 _ _ _ _ (itoa_noblank a) (itoa_noblank b) (numsL_form s) (numsL_form t) h
      rw [itoa_inj this.1, ih t this.2]
theorem signL_eq (cl l : List Int) (n : Int) : signL cl l n = Lib.itoa (rd cl n) ++ numsL (l.map (rd cl)) := by
  unfold signL numsL; congr 1; induction l with
  | nil => rfl
  | cons a r ih => simp [List.flatMap_cons, ih]
theorem bytes_inj {l m : List UInt8} (h : (⟨l.toArray⟩ : ByteArray) = ⟨m.toArray⟩) : l = m := by
  injection h with h
  simpa using congrArg Array.toList h
theorem sgn_iff (nodes : List Nd) (cl : List Int) (i j : Int) : sgn nodes cl i = sgn nodes cl j ↔ rd cl i = rd cl j ∧ (argsN nodes i).map (rd cl) = (argsN nodes j).map (rd cl) := by
  constructor
  · intro h
    unfold sgn at h
    have h := bytes_inj h
    rw [signL_eq, signL_eq] at h
    have := cut_mark 32 _ _ _ _ (itoa_noblank _) (itoa_noblank _) (numsL_form _) (numsL_form _) h
    exact ⟨itoa_inj this.1, numsL_inj _ _ this.2⟩
  · intro h
    unfold sgn
    rw [signL_eq, signL_eq, h.1, h.2]
/- labels -/
def ndT (nodes : List Nd) (i : Int) : Nd := rd_T35 nodes i
def labT (nodes : List Nd) (i : Int) : ByteArray := labelB (ndT nodes i).f0 (ndT nodes i).f1 (ndT nodes i).f2 (ndT nodes i).f3.length i
/-- Labelled alike. -/
def Lab (nodes : List Nd) (i j : Int) : Prop := (ndT nodes i).f0 = (ndT nodes j).f0 ∧ (ndT nodes i).f1 = (ndT nodes j).f1 ∧ (ndT nodes i).f2 = (ndT nodes j).f2 ∧ (argsN nodes i).length = (argsN nodes j).length ∧ ((ndT nodes i).f0 = 1 → i = j)
/-- A graph whose nodes are good. -/
def GoodG (nodes : List Nd) : Prop := nodes.length ≤ 4096 ∧ ∀ i : Int, 0 ≤ i → i < nodes.length → goodN (ndT nodes i) nodes.length = true
theorem ba_ext {a b : ByteArray} (h : a.data.toList = b.data.toList) : a = b := str_lit h
theorem nil_eq {a b : ByteArray} (h1 : a.toList = []) (h2 : b.toList = []) : a = b := by
  rw [toList_nil] at h1 h2
  apply ba_ext
  have e1 : a.data.toList.length = 0 := by simpa using h1
  have e2 : b.data.toList.length = 0 := by simpa using h2
  rw [List.eq_nil_of_length_eq_zero e1, List.eq_nil_of_length_eq_zero e2]
def labelD (kd : Int) (nm : ByteArray) (num : Int) (k : Nat) (i : Int) : List UInt8 :=
  if kd = 1 then 118 :: Lib.itoa i else if kd = 3 then 105 :: Lib.itoa num else if kd = 2 then 97 :: nm.data.toList else Lib.itoa k ++ 99 :: nm.data.toList
theorem labelD_eq (kd : Int) (nm : ByteArray) (num : Int) (k : Nat) (i : Int) : (labelB kd nm num k i).data.toList = labelD kd nm num k i := by
  unfold labelB labelD
  repeat' split
  all_goals simp
theorem numk_head (k : Nat) (r : List UInt8) (c : UInt8) (t : List UInt8) (hc : ¬ (48 ≤ c.toNat ∧ c.toNat ≤ 57)) : Lib.itoa k ++ r ≠ c :: t := by
  intro h
  rw [Lib.itoa, if_neg (by omega)] at h
  cases hd : Lib.decDigits (k : Int).toNat with
  | nil => exact dec_ne _ hd
  | cons a s =>
    rw [hd] at h
    injection h with h _
    subst h
    exact hc (dec_digits _ _ (by rw [hd]; simp))
theorem kind_cases {kd : Int} {nm : ByteArray} {num : Int} {l : List Int} {n : Int} (h : goodB kd nm num l n = true) : (kd = 1 ∧ l.length = 0 ∧ nm.toList = [] ∧ num = 0) ∨ (kd = 2 ∧ l.length = 0 ∧ num = 0) ∨ (kd = 3 ∧ l.length = 0 ∧ nm.toList = [] ∧ -1125899906842624 ≤ num ∧ num ≤ 1125899906842624) ∨ (kd = 4 ∧ num = 0 ∧ 1 ≤ l.length ∧ l.length ≤ 8 ∧ argsB n l = true) := by
  unfold goodB at h
  repeat' split at h
  · left; simp at h; exact ⟨by assumption, by simp [h.1], by simpa using h.2.1, h.2.2⟩
  · right; left; simp at h; exact ⟨by assumption, by simp [h.1], h.2.2⟩
  · right; right; left; simp at h; exact ⟨by assumption, by simp [h.1], by simpa using h.2.1, h.2.2⟩
  · right; right; right; simp at h; exact ⟨by assumption, h.2.1.1, by omega, by omega, h.2.2⟩
  · cases h
theorem good_args {nodes : List Nd} (H : GoodG nodes) (i : Int) (h0 : 0 ≤ i) (h1 : i < nodes.length) : (argsN nodes i).length ≤ 8 ∧ ∀ a ∈ argsN nodes i, 0 ≤ a ∧ a < nodes.length := by
  have := H.2 i h0 h1
  unfold goodN at this
  show (ndT nodes i).f3.length ≤ 8 ∧ ∀ a ∈ (ndT nodes i).f3, _
  rcases kind_cases this with h | h | h | h
  · have e := List.eq_nil_of_length_eq_zero h.2.1; rw [e]; simp
  · have e := List.eq_nil_of_length_eq_zero h.2.1; rw [e]; simp
  · have e := List.eq_nil_of_length_eq_zero h.2.1; rw [e]; simp
  · refine ⟨h.2.2.2.1, fun a ha => ?_⟩
    have := h.2.2.2.2
    unfold argsB at this
    rw [List.all_eq_true] at this
    simpa using this a ha
theorem labT_iff {nodes : List Nd} (H : GoodG nodes) (i j : Int) (i0 : 0 ≤ i) (i1 : i < nodes.length) (j0 : 0 ≤ j) (j1 : j < nodes.length) : labT nodes i = labT nodes j ↔ Lab nodes i j := by
  have h1 := H.2 i i0 i1
  have h2 := H.2 j j0 j1
  have e : labT nodes i = labT nodes j ↔ labelD (ndT nodes i).f0 (ndT nodes i).f1 (ndT nodes i).f2 (ndT nodes i).f3.length i = labelD (ndT nodes j).f0 (ndT nodes j).f1 (ndT nodes j).f2 (ndT nodes j).f3.length j := by
    rw [← labelD_eq, ← labelD_eq]
    constructor
    · intro h; unfold labT at h; rw [h]
    · intro h; exact ba_ext h
  rw [e]
  unfold Lab
  show _ ↔ _ ∧ _ ∧ _ ∧ (ndT nodes i).f3.length = (ndT nodes j).f3.length ∧ _
  unfold goodN at h1 h2
  generalize ndT nodes i = x at *
  generalize ndT nodes j = y at *
  obtain ⟨k1, n1, m1, l1⟩ := x
  obtain ⟨k2, n2, m2, l2⟩ := y
  simp only at *
  rcases kind_cases h1 with a | a | a | a <;> rcases kind_cases h2 with b | b | b | b
  all_goals (obtain ⟨rfl, a⟩ := a; obtain ⟨rfl, b⟩ := b)
  all_goals simp only [labelD, reduceIte, Int.reduceEq, if_true, if_false]
  -- var, var
  · constructor
    · intro h; injection h with _ h
      exact ⟨trivial, nil_eq a.2.1 b.2.1, by omega, by omega, fun _ => itoa_inj h⟩
    · intro h; rw [h.2.2.2.2 trivial]
  · simp
  · simp
  · constructor
    · intro h; exact absurd h.symm (numk_head _ _ _ _ (by decide))
    · intro h; exact absurd h.1 (by decide)
  -- atom
  · simp
  · constructor
    · intro h; injection h with _ h
      exact ⟨trivial, ba_ext h, by omega, by omega, fun h => absurd h (by decide)⟩
    · intro h; rw [h.2.1]
  · simp
  · constructor
    · intro h; exact absurd h.symm (numk_head _ _ _ _ (by decide))
    · intro h; exact absurd h.1 (by decide)
  -- int
  · simp
  · simp
  · constructor
    · intro h; injection h with _ h
      exact ⟨trivial, nil_eq a.2.1 b.2.1, itoa_inj h, by omega, fun h => absurd h (by decide)⟩
    · intro h; rw [h.2.2.1]
  · constructor
    · intro h; exact absurd h.symm (numk_head _ _ _ _ (by decide))
    · intro h; exact absurd h.1 (by decide)
  -- comp
  · constructor
    · intro h; exact absurd h (numk_head _ _ _ _ (by decide))
    · intro h; exact absurd h.1 (by decide)
  · constructor
    · intro h; exact absurd h (numk_head _ _ _ _ (by decide))
    · intro h; exact absurd h.1 (by decide)
  · constructor
    · intro h; exact absurd h (numk_head _ _ _ _ (by decide))
    · intro h; exact absurd h.1 (by decide)
  · have nb : ∀ n : Int, ∀ c ∈ Lib.itoa n, c ≠ 99 := by
      intro n c hc e; subst e
      have := itoa_chars n _ hc
      revert this; decide
    constructor
    · intro h
      have := cut_mark 99 _ _ _ _ (nb _) (nb _) (.inr ⟨_, rfl⟩) (.inr ⟨_, rfl⟩) h
      have e2 := itoa_inj this.1
      have e3 := this.2
      injection e3 with _ e3
      exact ⟨trivial, ba_ext e3, by omega, by omega, fun h => absurd h (by decide)⟩
    · intro h; rw [h.2.1, h.2.2.2.1]
end Go.Proofs.YtciniaabmjoiiaaDoor
set_option linter.unusedVariables false
set_option linter.unusedSimpArgs false
namespace Go.Proofs.YtciniaabmjoiiaaDoor
open Go.RowKit Go.Proofs.YtciniaabmjoiiaaDoorW.PrintWords Go.Proofs.YtciniaabmjoiiaaDoorW.PrintLast Go.Proofs.YtciniaabmjoiiaaDoorW.PrintMore Go.Proofs.YtciniaabmjoiiaaDoor.PRef
/-- All of a class are looked at. -/
def fullC (cl sz look : List Int) (c : Int) : Prop := (lookedS cl look c).getD 0 = rd sz c
theorem rd_snocZ (l : List Int) (i : Int) : rd (l ++ [0]) i = rd l i := by
  unfold rd
  simp only [List.getD_eq_getElem?_getD]
  by_cases h : i.toNat < l.length
  · rw [List.getElem?_append_left h]
  · rw [List.getElem?_append_right (by omega), List.getElem?_eq_none (by omega : l.length ≤ i.toNat)]
    cases hi : i.toNat - l.length with
    | zero => rfl
    | succ j => rfl
theorem updF_same {K V : Type} [DecidableEq K] (f : K → Option V) (x : K) (v : V) : updF f x v x = some v := by simp [updF]
theorem updF_ne {K V : Type} [DecidableEq K] (f : K → Option V) {x y : K} (v : V) (h : y ≠ x) : updF f x v y = f y := by simp [updF, h]
structure J2 (nodes : List Nd) (cl sz look : List Int) (done : List Int) (s : S2) : Prop where
  ln : sz.length ≤ s.sz.length
  rz : ∀ i, rd s.sz i = rd sz i
  a : ∀ n u, s.fresh n = some u → n ∈ done ∧ s.known (sgn nodes cl n) = some u
  b : ∀ n ∈ done, s.fresh n = none → fullC cl sz look (rd cl n) ∧ s.keeps (rd cl n) = some (sgn nodes cl n)
  b1 : ∀ n u, s.fresh n = some u → fullC cl sz look (rd cl n) → ∃ key, s.keeps (rd cl n) = some key ∧ key ≠ sgn nodes cl n
  c : ∀ k u, s.known k = some u → (sz.length : Int) ≤ u ∧ u < s.sz.length ∧ ∃ n ∈ done, sgn nodes cl n = k ∧ s.fresh n = some u
  d : ∀ k k' u, s.known k = some u → s.known k' = some u → k = k'
  e : ∀ u : Int, sz.length ≤ u → u < s.sz.length → ∃ k, s.known k = some u
  f : ∀ c key, s.keeps c = some key → fullC cl sz look c ∧ ∃ n ∈ done, rd cl n = c ∧ sgn nodes cl n = key ∧ s.fresh n = none
section
variable {nodes : List Nd} {cl sz look done : List Int} {s : S2}
theorem J2.unset (h : J2 nodes cl sz look done s) {n : Int} (hn : n ∉ done) : s.fresh n = none := by
  cases hf : s.fresh n with
  | none => rfl
  | some u => exact absurd (h.a n u hf).1 hn
theorem J2.assign (h : J2 nodes cl sz look done s) {n : Int} (hn : n ∉ done) (hfull : fullC cl sz look (rd cl n) → ∃ key, s.keeps (rd cl n) = some key ∧ key ≠ sgn nodes cl n) : J2 nodes cl sz look (done ++ [n]) (s.assign n (sgn nodes cl n)) := by
  have ne : ∀ {m : Int}, m ∈ done → m ≠ n := fun hm e => hn (e ▸ hm)
  cases hk : s.known (sgn nodes cl n) with
  | some u =>
    have e : s.assign n (sgn nodes cl n) = { s with fresh := updF s.fresh n u } := by unfold S2.assign; rw [hk]
    rw [e]
    refine ⟨h.ln, h.rz, fun m v hm => ?_, fun m hm hf => ?_, fun m v hm hf => ?_, fun k v hv => ?_, h.d, h.e, fun c key hc => ?_⟩
    · show m ∈ done ++ [n] ∧ s.known _ = _
      by_cases e : m = n
      · subst e; have : some u = some v := by rw [← hm]; exact (updF_same _ _ _).symm
        cases this; exact ⟨by simp, hk⟩
      · have := h.a m v (by rw [← hm]; exact (updF_ne _ _ e).symm)
        exact ⟨by simp [this.1], this.2⟩
    · by_cases e : m = n
      · subst e; have : (some u : Option Int) = none := by rw [← hf]; exact (updF_same _ _ _).symm
        cases this
      · have hm' : m ∈ done := by simpa [e] using hm
        exact h.b m hm' (by rw [← hf]; exact (updF_ne _ _ e).symm)
    · by_cases e : m = n
      · subst e; exact hfull hf
      · exact h.b1 m v (by rw [← hm]; exact (updF_ne _ _ e).symm) hf
    · obtain ⟨h1, h2, m, hm, h3, h4⟩ := h.c k v hv
      exact ⟨h1, h2, m, by simp [hm], h3, by rw [← h4]; exact updF_ne _ _ (ne hm)⟩
    · obtain ⟨h1, m, hm, h2, h3, h4⟩ := h.f c key hc
      exact ⟨h1, m, by simp [hm], h2, h3, by rw [← h4]; exact updF_ne _ _ (ne hm)⟩
  | none =>
    have e : s.assign n (sgn nodes cl n) = { s with sz := s.sz ++ [0], known := updF s.known (sgn nodes cl n) s.sz.length, fresh := updF s.fresh n s.sz.length } := by unfold S2.assign; rw [hk]
    rw [e]
    have hl : (s.sz ++ [0]).length = s.sz.length + 1 := by simp
    have hln := h.ln
    have old : ∀ {k v}, s.known k = some v → k ≠ sgn nodes cl n := fun hv e => by rw [e, hk] at hv; cases hv
    refine ⟨by show _ ≤ (s.sz ++ [0]).length; omega, fun i => by show rd (s.sz ++ [0]) i = _; rw [rd_snocZ, h.rz], fun m v hm => ?_, fun m hm hf => ?_, fun m v hm hf => ?_, fun k v hv => ?_, fun k k' v hv hv' => ?_, fun u h0 h1 => ?_, fun c key hc => ?_⟩
    · show m ∈ done ++ [n] ∧ updF s.known _ _ _ = _
      by_cases e : m = n
      · subst e
        have : some (s.sz.length : Int) = some v := by rw [← hm]; exact (updF_same _ _ _).symm
        exact ⟨by simp, by rw [updF_same]; exact this⟩
      · have := h.a m v (by rw [← hm]; exact (updF_ne _ _ e).symm)
        exact ⟨by simp [this.1], by rw [updF_ne _ _ (old this.2)]; exact this.2⟩
    · by_cases e : m = n
      · subst e; have : (some (s.sz.length : Int) : Option Int) = none := by rw [← hf]; exact (updF_same _ _ _).symm
        cases this
      · have hm' : m ∈ done := by simpa [e] using hm
        exact h.b m hm' (by rw [← hf]; exact (updF_ne _ _ e).symm)
    · by_cases e : m = n
      · subst e; exact hfull hf
      · exact h.b1 m v (by rw [← hm]; exact (updF_ne _ _ e).symm) hf
    · show _ ≤ v ∧ v < ((s.sz ++ [0]).length : Int) ∧ _
      by_cases e : k = sgn nodes cl n
      · subst e
        have : some (s.sz.length : Int) = some v := by rw [← hv]; exact (updF_same _ _ _).symm
        cases this
        exact ⟨by omega, by omega, n, by simp, rfl, updF_same _ _ _⟩
      · obtain ⟨h1, h2, m, hm, h3, h4⟩ := h.c k v (by rw [← hv]; exact (updF_ne _ _ e).symm)
        exact ⟨h1, by omega, m, by simp [hm], h3, by rw [← h4]; exact updF_ne _ _ (ne hm)⟩
    · have key : ∀ k, updF s.known (sgn nodes cl n) (s.sz.length : Int) k = some v → (k = sgn nodes cl n ∧ v = s.sz.length) ∨ (s.known k = some v ∧ v < s.sz.length) := by
        intro k hv
        by_cases e : k = sgn nodes cl n
        · subst e; rw [updF_same] at hv; cases hv; exact .inl ⟨rfl, rfl⟩
        · rw [updF_ne _ _ e] at hv; exact .inr ⟨hv, (h.c k v hv).2.1⟩
      rcases key k hv with ⟨a1, a2⟩ | ⟨a1, a2⟩ <;> rcases key k' hv' with ⟨b1, b2⟩ | ⟨b1, b2⟩
      · rw [a1, b1]
      · omega
      · omega
      · exact h.d k k' v a1 b1
    · have h1 : u < ((s.sz ++ [0]).length : Int) := h1
      by_cases e : u = s.sz.length
      · subst e; exact ⟨_, updF_same _ _ _⟩
      · obtain ⟨k, hkk⟩ := h.e u h0 (by omega)
        exact ⟨k, by show updF _ _ _ _ = _; rw [updF_ne _ _ (old hkk)]; exact hkk⟩
    · obtain ⟨h1, m, hm, h2, h3, h4⟩ := h.f c key hc
      exact ⟨h1, m, by simp [hm], h2, h3, by rw [← h4]; exact updF_ne _ _ (ne hm)⟩
theorem J2.step (h : J2 nodes cl sz look done s) {n : Int} (hn : n ∉ done) : J2 nodes cl sz look (done ++ [n]) (step2 nodes cl (lookedS cl look) s n) := by
  have ne : ∀ {m : Int}, m ∈ done → m ≠ n := fun hm e => hn (e ▸ hm)
  have hz := h.rz (rd cl n)
  unfold step2
  by_cases hf : (lookedS cl look (rd cl n)).getD 0 = rd s.sz (rd cl n)
  · have hfull : fullC cl sz look (rd cl n) := by unfold fullC; rw [hf, hz]
    rw [if_pos hf]
    cases hk : s.keeps (rd cl n) with
    | none =>
      simp only
      refine ⟨h.ln, h.rz, fun m v hm => ?_, fun m hm hfm => ?_, fun m v hm hfm => ?_, fun k v hv => ?_, h.d, h.e, fun c key hc => ?_⟩
      · have := h.a m v hm; exact ⟨by simp [this.1], this.2⟩
      · show fullC _ _ _ _ ∧ updF _ _ _ _ = _
        by_cases e : m = n
        · subst e; exact ⟨hfull, updF_same _ _ _⟩
        · have := h.b m (by simpa [e] using hm) hfm
          refine ⟨this.1, ?_⟩
          rw [updF_ne]; exact this.2
          intro e2; rw [e2, hk] at this; cases this.2
      · obtain ⟨key, h1, h2⟩ := h.b1 m v hm hfm
        refine ⟨key, ?_, h2⟩
        show updF _ _ _ _ = _
        rw [updF_ne]; exact h1
        intro e2; rw [e2, hk] at h1; cases h1
      · obtain ⟨h1, h2, m, hm, h3, h4⟩ := h.c k v hv
        exact ⟨h1, h2, m, by simp [hm], h3, h4⟩
      · have hc : updF s.keeps (rd cl n) (sgn nodes cl n) c = some key := hc
        by_cases e : c = rd cl n
        · subst e; rw [updF_same] at hc; cases hc
          exact ⟨hfull, n, by simp, rfl, rfl, h.unset hn⟩
        · rw [updF_ne _ _ e] at hc
          obtain ⟨h1, m, hm, h2, h3, h4⟩ := h.f c key hc
          exact ⟨h1, m, by simp [hm], h2, h3, h4⟩
    | some first =>
      simp only
      by_cases hs : first = sgn nodes cl n
      · rw [if_pos hs]
        refine ⟨h.ln, h.rz, fun m v hm => ?_, fun m hm hfm => ?_, h.b1, fun k v hv => ?_, h.d, h.e, fun c key hc => ?_⟩
        · have := h.a m v hm; exact ⟨by simp [this.1], this.2⟩
        · by_cases e : m = n
          · subst e; exact ⟨hfull, by rw [hk, hs]⟩
          · exact h.b m (by simpa [e] using hm) hfm
        · obtain ⟨h1, h2, m, hm, h3, h4⟩ := h.c k v hv
          exact ⟨h1, h2, m, by simp [hm], h3, h4⟩
        · obtain ⟨h1, m, hm, h2, h3, h4⟩ := h.f c key hc
          exact ⟨h1, m, by simp [hm], h2, h3, h4⟩
      · rw [if_neg hs]
        exact h.assign hn fun _ => ⟨first, hk, hs⟩
  · rw [if_neg hf]
    exact h.assign hn fun h2 => absurd (h2.trans hz.symm) hf
end
theorem J2.start (nodes : List Nd) (cl sz look : List Int) : J2 nodes cl sz look [] (s20 sz) :=
  ⟨Nat.le_refl _, fun _ => rfl, fun n u h => (by cases h), fun n h => (by cases h), fun n u h => (by cases h), fun k u h => (by cases h), fun k k' u h => (by cases h), fun u h0 h1 => (by simp [s20] at h1; omega), fun c k h => (by cases h)⟩
theorem J2.all (nodes : List Nd) (cl sz look : List Int) : ∀ (l done : List Int) (s : S2), J2 nodes cl sz look done s → (done ++ l).Nodup → J2 nodes cl sz look (done ++ l) (l.foldl (step2 nodes cl (lookedS cl look)) s) := by
  intro l
  induction l with
  | nil => intro done s h _; simpa using h
  | cons n r ih =>
    intro done s h hd
    have hn : n ∉ done := fun hm => by
      rw [List.nodup_append] at hd
      exact hd.2.2 n hm n (by simp) rfl
    have := ih (done ++ [n]) _ (h.step hn) (by simpa using hd)
    simpa using this
theorem J2.look {nodes : List Nd} {cl sz look : List Int} (h : look.Nodup) : J2 nodes cl sz look look (loop2 nodes cl sz look) := by
  have := J2.all nodes cl sz look look [] _ (J2.start nodes cl sz look) (by simpa using h)
  simpa [loop2] using this
/- The third loop. -/
structure J3 (N : Nat) (ab : List (List Int)) (fresh : Int → Option Int) (cl : List Int) (done : List Int) (s : S3) : Prop where
  lc : s.cl.length = N
  c1 : ∀ i : Int, 0 ≤ i → i < N → rd s.cl i = if i ∈ done then (fresh i).getD (rd cl i) else rd cl i
  ct : ∀ k : Int, 0 ≤ k → k < s.sz.length → rd s.sz k = (s.cl.count k : Int)
  nd : s.out.Nodup
  nx : ∀ a, (s.next a).getD 0 ≠ 0 ↔ a ∈ s.out
  mo : ∀ a, a ∈ s.out ↔ ∃ n ∈ done, fresh n ≠ none ∧ a ∈ ab.getD n.toNat []
theorem mark_all (l : List Int) : ∀ p : (Int → Option Int) × List Int, p.2.Nodup → (∀ a, (p.1 a).getD 0 ≠ 0 ↔ a ∈ p.2) → (l.foldl mark p).2.Nodup ∧ (∀ a, ((l.foldl mark p).1 a).getD 0 ≠ 0 ↔ a ∈ (l.foldl mark p).2) ∧ ∀ a, a ∈ (l.foldl mark p).2 ↔ a ∈ p.2 ∨ a ∈ l := by
  induction l with
  | nil => intro p h1 h2; exact ⟨h1, h2, fun a => by simp⟩
  | cons x r ih =>
    intro p h1 h2
    have key : (mark p x).2.Nodup ∧ (∀ a, ((mark p x).1 a).getD 0 ≠ 0 ↔ a ∈ (mark p x).2) ∧ ∀ a, a ∈ (mark p x).2 ↔ a ∈ p.2 ∨ a = x := by
      unfold mark
      by_cases hx : (p.1 x).getD 0 = 0
      · rw [if_pos hx]
        have hni : x ∉ p.2 := fun hm => (h2 x).2 hm hx
        refine ⟨?_, fun a => ?_, fun a => by simp⟩
        · rw [List.nodup_append]
          exact ⟨h1, by simp, fun a ha b hb e => by simp at hb; subst hb; subst e; exact hni ha⟩
        · show ((updF p.1 x 1) a).getD 0 ≠ 0 ↔ a ∈ p.2 ++ [x]
          by_cases e : a = x
          · subst e; rw [updF_same]; simp
          · rw [updF_ne _ _ e]; simp [e]; simpa using h2 a
      · rw [if_neg hx]
        refine ⟨h1, h2, fun a => ?_⟩
        constructor
        · exact .inl
        · rintro (h | h)
          · exact h
          · subst h; exact (h2 _).1 hx
    obtain ⟨r1, r2, r3⟩ := ih (mark p x) key.1 key.2.1
    refine ⟨r1, r2, fun a => ?_⟩
    rw [List.foldl_cons, r3, key.2.2]
    simp only [List.mem_cons]
    constructor
    · rintro ((h | h) | h)
      · exact .inl h
      · exact .inr (.inl h)
      · exact .inr (.inr h)
    · rintro (h | h | h)
      · exact .inl (.inl h)
      · exact .inl (.inr h)
      · exact .inr h
theorem setI_len (l : List Int) (i x : Int) : (setI l i x).length = l.length := by unfold setI; simp
theorem count_setI (l : List Int) (i x k : Int) (h0 : 0 ≤ i) (h1 : i < l.length) : ((setI l i x).count k : Int) = (l.count k : Int) - (if rd l i = k then 1 else 0) + (if x = k then 1 else 0) := by
  have hi : i.toNat < l.length := by omega
  have e : rd l i = l[i.toNat] := by unfold rd; simp [List.getD_eq_getElem?_getD, hi]
  unfold setI
  rw [List.count_set hi, e]
  have hpos : l[i.toNat] = k → 1 ≤ l.count k := fun h => by
    have : k ∈ l := by rw [← h]; exact List.getElem_mem hi
    exact List.count_pos_iff.2 this
  by_cases e1 : l[i.toNat] = k <;> by_cases e2 : x = k
  · have := hpos e1; simp [e1, e2]; omega
  · have := hpos e1; simp [e1, e2]; omega
  · simp [e1, e2]
  · simp [e1, e2]
theorem J3.step {N : Nat} {ab : List (List Int)} {fresh : Int → Option Int} {cl done : List Int} {s : S3} (h : J3 N ab fresh cl done s) {n : Int} (hn : n ∉ done) (n0 : 0 ≤ n) (n1 : n < N) (hc : 0 ≤ rd cl n ∧ rd cl n < s.sz.length) (hu : ∀ u, fresh n = some u → 0 ≤ u ∧ u < s.sz.length) :
    J3 N ab fresh cl (done ++ [n]) (step3 ab fresh s n) := by
  cases hf : fresh n with
  | none =>
    rw [step3_none hf]
    refine ⟨h.lc, fun i i0 i1 => ?_, h.ct, h.nd, h.nx, fun a => ?_⟩
    · rw [h.c1 i i0 i1]
      by_cases e : i = n
      · subst e; simp [hn, hf]
      · simp [e]
    · rw [h.mo]
      constructor
      · rintro ⟨m, hm, h2⟩; exact ⟨m, by simp [hm], h2⟩
      · rintro ⟨m, hm, h2⟩
        have e : m ≠ n := fun e => h2.1 (by rw [e, hf])
        exact ⟨m, by simpa [e] using hm, h2⟩
  | some u =>
    rw [step3_some hf]
    have hcn := h.c1 n n0 n1
    rw [if_neg hn] at hcn
    obtain ⟨m1, m2, m3⟩ := mark_all (ab.getD n.toNat []) (s.next, s.out) h.nd h.nx
    have hl := h.lc
    refine ⟨by show (setI s.cl n u).length = N; rw [setI_len, hl], fun i i0 i1 => ?_, fun k k0 k1 => ?_, m1, m2, fun a => ?_⟩
    · show rd (setI s.cl n u) i = _
      rw [rd_setI]
      by_cases e : i = n
      · subst e; rw [if_pos ⟨rfl, by omega⟩]; simp [hf]
      · rw [if_neg (by omega), h.c1 i i0 i1]; simp [e]
    · have k1 : k < (setI (setI s.sz _ _) _ _).length := k1
      rw [setI_len, setI_len] at k1
      show rd (setI (setI s.sz _ _) _ _) k = ((setI s.cl n u).count k : Int)
      rw [count_setI _ _ _ _ n0 (by omega), hcn, rd_setI, rd_setI]
      obtain ⟨u0, u1⟩ := hu u hf
      rw [rd_setI, setI_len]
      have h1 := h.ct k k0 k1
      have h2 := h.ct u u0 u1
      have h3 := h.ct (rd cl n) hc.1 hc.2
      generalize rd cl n = c at *
      by_cases e1 : u = k
      · subst e1
        rw [if_pos ⟨rfl, by omega⟩]
        by_cases e2 : c = u
        · subst e2
          rw [if_pos ⟨rfl, by omega⟩]; simp; omega
        · rw [if_neg (by omega)]; simp [e2]; omega
      · rw [if_neg (by omega)]
        by_cases e2 : c = k
        · subst e2
          rw [if_pos ⟨rfl, by omega⟩]; simp [e1]; omega
        · rw [if_neg (by omega)]; simp [e1, e2]; omega
    · show a ∈ (List.foldl mark (s.next, s.out) _).2 ↔ _
      rw [m3]
      show a ∈ s.out ∨ _ ↔ _
      rw [h.mo]
      constructor
      · rintro (⟨m, hm, h2⟩ | h2)
        · exact ⟨m, by simp [hm], h2⟩
        · exact ⟨n, by simp, by rw [hf]; simp, h2⟩
      · rintro ⟨m, hm, h2⟩
        by_cases e : m = n
        · subst e; exact .inr h2.2
        · exact .inl ⟨m, by simpa [e] using hm, h2⟩
theorem step3_szlen (ab : List (List Int)) (fresh : Int → Option Int) (s : S3) (n : Int) : (step3 ab fresh s n).sz.length = s.sz.length := by
  cases hf : fresh n with
  | none => rw [step3_none hf]
  | some u => rw [step3_some hf]; show (setI (setI _ _ _) _ _).length = _; rw [setI_len, setI_len]
theorem J3.all {N : Nat} {ab : List (List Int)} {fresh : Int → Option Int} {cl : List Int} (M : Nat) : ∀ (l done : List Int) (s : S3), J3 N ab fresh cl done s → s.sz.length = M → (done ++ l).Nodup → (∀ n ∈ l, (0 ≤ n ∧ n < N) ∧ (0 ≤ rd cl n ∧ rd cl n < M)) → (∀ n u, fresh n = some u → 0 ≤ u ∧ u < M) →
    J3 N ab fresh cl (done ++ l) (l.foldl (step3 ab fresh) s) ∧ (l.foldl (step3 ab fresh) s).sz.length = M := by
  intro l
  induction l with
  | nil => intro done s h hM _ _ _; exact ⟨by simpa using h, hM⟩
  | cons n r ih =>
    intro done s h hM hd hl hu
    have hn : n ∉ done := fun hm => by
      rw [List.nodup_append] at hd
      exact hd.2.2 n hm n (by simp) rfl
    have h1 := (hl n (by simp))
    have hs := h.step hn h1.1.1 h1.1.2 (by rw [hM]; exact h1.2) (fun u hf => by rw [hM]; exact hu n u hf)
    have := ih (done ++ [n]) _ hs (by rw [step3_szlen, hM]) (by simpa using hd) (fun m hm => hl m (by simp [hm])) hu
    simpa using this
end Go.Proofs.YtciniaabmjoiiaaDoor
