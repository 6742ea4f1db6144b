import Derived.Test.YtciniaabmjoiiaaDoorPRefx5
import Derived.Test.YtciniaabmjoiiaaDoorBisF
/- The reference's square of alike pairs says what is alike. Plain law, no walk. -/
set_option linter.unusedVariables false
set_option linter.unusedSimpArgs false
namespace Go.Proofs.YtciniaabmjoiiaaDoor
open Go.RowKit Go.Proofs.YtciniaabmjoiiaaDoorW.PrintWords Go.Proofs.YtciniaabmjoiiaaDoorW.PrintLast Go.Proofs.YtciniaabmjoiiaaDoorW.PrintMore Go.Proofs.YtciniaabmjoiiaaDoor.PRef
def gt (sq : List (List Bool)) (i j : Int) : Bool := rdOf false (rd_L6 sq i) j
def stS (sq : List (List Bool)) (i j : Int) (b : Bool) : List (List Bool) := sq.set i.toNat ((rd_L6 sq i).set j.toNat b)
def Sq (N : Nat) (sq : List (List Bool)) : Prop := sq.length = N ∧ ∀ i : Nat, i < N → (rd_L6 sq i).length = N
theorem rdL_set (sq : List (List Bool)) (i : Int) (r : List Bool) (j : Int) (i0 : 0 ≤ i) (i1 : i < sq.length) (j0 : 0 ≤ j) : rd_L6 (sq.set i.toNat r) j = if j = i then r else rd_L6 sq j := by
  unfold rd_L6
  simp only [List.getD_eq_getElem?_getD, List.getElem?_set]
  by_cases h : j = i
  · subst h; rw [if_pos rfl, if_pos rfl, if_pos (by omega)]; rfl
  · rw [if_neg (by omega), if_neg h]
theorem rdOf_set (r : List Bool) (i : Int) (b : Bool) (j : Int) (i0 : 0 ≤ i) (i1 : i < r.length) (j0 : 0 ≤ j) : rdOf false (r.set i.toNat b) j = if j = i then b else rdOf false r j := by
  unfold rdOf
  simp only [List.getD_eq_getElem?_getD, List.getElem?_set]
  by_cases h : j = i
  · subst h; rw [if_pos rfl, if_pos rfl, if_pos (by omega)]; rfl
  · rw [if_neg (by omega), if_neg h]
theorem gt_st' {sq : List (List Bool)} (i j : Nat) (hl : i < sq.length) (hr : j < (rd_L6 sq i).length) (b : Bool) (a c : Int) (a0 : 0 ≤ a) (c0 : 0 ≤ c) : gt (stS sq i j b) a c = if a = i ∧ c = j then b else gt sq a c := by
  unfold gt stS
  rw [rdL_set sq i _ a (by omega) (by omega) a0]
  by_cases ha : a = i
  · subst ha
    rw [if_pos rfl, rdOf_set _ _ _ _ (by omega) (by omega) c0]
    by_cases hc : c = j
    · subst hc; rw [if_pos rfl, if_pos ⟨rfl, rfl⟩]
    · rw [if_neg hc, if_neg (fun h => hc h.2)]
  · rw [if_neg ha, if_neg (fun h => ha h.1)]
theorem gt_st {N : Nat} {sq : List (List Bool)} (h : Sq N sq) (i j : Nat) (hi : i < N) (hj : j < N) (b : Bool) (a c : Int) (a0 : 0 ≤ a) (c0 : 0 ≤ c) : gt (stS sq i j b) a c = if a = i ∧ c = j then b else gt sq a c :=
  gt_st' i j (by have := h.1; omega) (by have := h.2 i hi; omega) b a c a0 c0
theorem Sq.st {N : Nat} {sq : List (List Bool)} (h : Sq N sq) (i j : Nat) (hi : i < N) (b : Bool) : Sq N (stS sq i j b) := by
  refine ⟨by unfold stS; rw [List.length_set]; exact h.1, fun k hk => ?_⟩
  unfold stS
  rw [rdL_set sq i _ k (by omega) (by have := h.1; omega) (by omega)]
  split
  · rw [List.length_set]; exact h.2 i hi
  · exact h.2 k hk
def pairsN (N : Nat) : List (Int × Int) := (nums N).flatMap fun i => (nums N).map fun j => (i, j)
def cnt (N : Nat) (sq : List (List Bool)) : Nat := ((pairsN N).filter fun x => gt sq x.1 x.2).length
theorem mem_pairs {N : Nat} {i j : Int} : (i, j) ∈ pairsN N ↔ (0 ≤ i ∧ i < N) ∧ (0 ≤ j ∧ j < N) := by
  unfold pairsN
  simp only [List.mem_flatMap, List.mem_map, Prod.mk.injEq]
  constructor
  · rintro ⟨a, ha, b, hb, rfl, rfl⟩; exact ⟨mem_nums.1 ha, mem_nums.1 hb⟩
  · rintro ⟨hi, hj⟩; exact ⟨i, mem_nums.2 hi, j, mem_nums.2 hj, rfl, rfl⟩
theorem filter_le {α : Type} (p q : α → Bool) : ∀ l : List α, (∀ x ∈ l, p x = true → q x = true) → (l.filter p).length ≤ (l.filter q).length := by
  intro l
  induction l with
  | nil => intro _; simp
  | cons a r ih =>
    intro h
    have := ih (fun x hx => h x (by simp [hx]))
    have ha := h a (by simp)
    cases hp : p a <;> cases hq : q a <;> simp [List.filter_cons, hp, hq] <;> first | omega | (rw [hp] at ha; have := ha rfl; rw [hq] at this; cases this)
theorem filter_lt {α : Type} (p q : α → Bool) : ∀ l : List α, (∀ x ∈ l, p x = true → q x = true) → (∃ x ∈ l, p x = false ∧ q x = true) → (l.filter p).length < (l.filter q).length := by
  intro l
  induction l with
  | nil => rintro _ ⟨x, hx, _⟩; cases hx
  | cons a r ih =>
    intro h hx
    have hle := filter_le p q r (fun x hx => h x (by simp [hx]))
    have ha := h a (by simp)
    by_cases hpa : p a = false ∧ q a = true
    · simp [List.filter_cons, hpa.1, hpa.2]; omega
    · obtain ⟨x, hx, h1, h2⟩ := hx
      rw [List.mem_cons] at hx
      rcases hx with rfl | hx
      · exact absurd ⟨h1, h2⟩ hpa
      · have := ih (fun x hx => h x (by simp [hx])) ⟨x, hx, h1, h2⟩
        cases hp : p a <;> cases hq : q a <;> simp [List.filter_cons, hp, hq] <;> first | omega | (rw [hp] at ha; have := ha rfl; rw [hq] at this; cases this)
def labB (nodes : List Nd) (i j : Int) : Bool := decide ((ndT nodes i).f0 = (ndT nodes j).f0 ∧ (ndT nodes i).f1 = (ndT nodes j).f1 ∧ (ndT nodes i).f2 = (ndT nodes j).f2 ∧ (argsN nodes i).length = (argsN nodes j).length ∧ ((ndT nodes i).f0 = 1 → i = j))
theorem labB_iff {nodes : List Nd} {i j : Int} : labB nodes i j = true ↔ Lab nodes i j := by unfold labB; exact decide_eq_true_iff
theorem labels_f (nodes : List Nd) (roots : List Int) (i j : Int) (i0 : 0 ≤ i) (i1 : i < nodes.length) (j0 : 0 ≤ j) (j1 : j < nodes.length) : tendrilref05_labels.f nodes roots i j = some (labB nodes i j) := by
  unfold tendrilref05_labels.f
  rw [if_pos i0, if_pos i1, if_pos j0, if_pos j1]
  have hb : ∀ (b : Bool), (b = true ↔ Lab nodes i j) → some b = some (labB nodes i j) := fun b h => by
    congr 1; rw [Bool.eq_iff_iff, h, labB_iff]
  show (if (ndT nodes i).f0 = 1 then _ else if (ndT nodes j).f0 = 1 then _ else if (ndT nodes i).f0 = (ndT nodes j).f0 then if (ndT nodes i).f1.toList = (ndT nodes j).f1.toList then if (ndT nodes i).f2 = (ndT nodes j).f2 then some (((ndT nodes i).f3.length : Int) == ((ndT nodes j).f3.length : Int)) else _ else _ else _) = _
  have hs : (ndT nodes i).f1.toList = (ndT nodes j).f1.toList ↔ (ndT nodes i).f1 = (ndT nodes j).f1 := ⟨str_inj, fun h => by rw [h]⟩
  have hrefl : i = j → Lab nodes i j := fun h => by subst h; exact ⟨rfl, rfl, rfl, rfl, fun _ => rfl⟩
  by_cases a : (ndT nodes i).f0 = 1
  · rw [if_pos a]
    exact hb _ ⟨fun h => hrefl (beq_iff_eq.1 h), fun h => beq_iff_eq.2 (h.2.2.2.2 a)⟩
  · rw [if_neg a]
    by_cases b : (ndT nodes j).f0 = 1
    · rw [if_pos b]
      exact hb _ ⟨fun h => hrefl (beq_iff_eq.1 h), fun h => absurd (h.1.trans b) a⟩
    · rw [if_neg b]
      by_cases c : (ndT nodes i).f0 = (ndT nodes j).f0
      · rw [if_pos c]
        by_cases d : (ndT nodes i).f1 = (ndT nodes j).f1
        · rw [if_pos (hs.2 d)]
          by_cases e : (ndT nodes i).f2 = (ndT nodes j).f2
          · rw [if_pos e]
            refine hb _ ⟨fun h => ⟨c, d, e, ?_, fun h => absurd h a⟩, fun h => ?_⟩
            · have := beq_iff_eq.1 h; show (ndT nodes i).f3.length = (ndT nodes j).f3.length; omega
            · rw [beq_iff_eq]; have : (ndT nodes i).f3.length = (ndT nodes j).f3.length := h.2.2.2.1; omega
          · rw [if_neg e]; exact hb _ ⟨fun h => (by cases h), fun h => absurd h.2.2.1 e⟩
        · rw [if_neg (fun h => d (hs.1 h))]; exact hb _ ⟨fun h => (by cases h), fun h => absurd h.2.1 d⟩
      · rw [if_neg c]; exact hb _ ⟨fun h => (by cases h), fun h => absurd h.1 c⟩
/-- The square at the end. -/
def Fin (nodes : List Nd) (r : List (List Bool)) : Prop := Sq nodes.length r ∧ ∀ i j : Int, 0 ≤ i → i < nodes.length → 0 ≤ j → j < nodes.length → (gt r i j = true ↔ Alike nodes i j)
structure StA (nodes : List Nd) (sq : List (List Bool)) : Prop where
  s : Sq nodes.length sq
  a : ∀ i j, Alike nodes i j → gt sq i j = true
  l : ∀ i j : Int, 0 ≤ i → i < nodes.length → 0 ≤ j → j < nodes.length → gt sq i j = true → Lab nodes i j
/-- Closed before the pair (i, j), and at it before argument q. -/
def Cl (nodes : List Nd) (sq : List (List Bool)) (i j q : Nat) : Prop := ∀ a b : Int, 0 ≤ a → a < nodes.length → 0 ≤ b → b < nodes.length → gt sq a b = true →
  ((a < i ∨ (a = i ∧ b < j)) → ∀ p : Nat, p < (argsN nodes a).length → gt sq (rd (argsN nodes a) p) (rd (argsN nodes b) p) = true) ∧ (a = i ∧ b = j → ∀ p : Nat, p < q → gt sq (rd (argsN nodes a) p) (rd (argsN nodes b) p) = true)
def StS (nodes : List Nd) (sq0 sq : List (List Bool)) (more : Bool) (i j q : Nat) : Prop := StA nodes sq ∧ ((more = false ∧ sq = sq0 ∧ Cl nodes sq i j q) ∨ (more = true ∧ cnt nodes.length sq < cnt nodes.length sq0))
theorem wsucc (i : Nat) (h : i < 9223372036854775807) : wrap64 ((i : Int) + 1) = ((i + 1 : Nat) : Int) := by rw [w64 (by omega) (by omega)]; omega
theorem strike {nodes : List Nd} (G : GoodG nodes) (roots : List Int) : ∀ (n : Nat) (sq : List (List Bool)), StA nodes sq → cnt nodes.length sq ≤ n → ∃ k r, tendrilref05_Pairs.l2 k (nodes.length : Int) sq true nodes roots = some r ∧ Fin nodes r := by
  have g1 := G.1
  intro n
  induction n using Nat.strongRecOn with
  | ind n ihn =>
  intro sq0 hA0 hn
  have finish : ∀ sq more, StS nodes sq0 sq more nodes.length 0 0 → ∃ k r, tendrilref05_Pairs.l2 k (nodes.length : Int) sq more nodes roots = some r ∧ Fin nodes r := by
    rintro sq more ⟨hA, ⟨rfl, rfl, hc⟩ | ⟨rfl, hlt⟩⟩
    · refine ⟨1, sq, by simp [tendrilref05_Pairs.l2], hA.s, fun i j i0 i1 j0 j1 => ⟨fun h => ?_, hA.a i j⟩⟩
      refine ⟨fun a b => ((0 ≤ a ∧ a < nodes.length) ∧ (0 ≤ b ∧ b < nodes.length)) ∧ gt sq a b = true, ⟨⟨⟨i0, i1⟩, ⟨j0, j1⟩⟩, h⟩, fun a b hab => ?_⟩
      obtain ⟨⟨⟨a0, a1⟩, ⟨b0, b1⟩⟩, hg⟩ := hab
      have hl := hA.l a b a0 a1 b0 b1 hg
      refine ⟨⟨a0, a1⟩, ⟨b0, b1⟩, hl, fun p hp => ?_⟩
      have hlen := hl.2.2.2.1
      have r1 := (good_args G a a0 a1).2 _ (List.getElem_mem hp)
      have r2 := (good_args G b b0 b1).2 _ (List.getElem_mem (by omega : p < (argsN nodes b).length))
      have := (hc a b a0 a1 b0 b1 hg).1 (.inl a1) p hp
      rw [rd_get _ p hp, rd_get _ p (by omega)] at this ⊢
      exact ⟨⟨r1, r2⟩, this⟩
    · exact ihn (cnt nodes.length sq) (by omega) sq hA (Nat.le_refl _)
  have L3 : ∀ d i : Nat, i + d = nodes.length → ∀ sq more, StS nodes sq0 sq more i 0 0 → ∃ k r, tendrilref05_Pairs.l3 k (nodes.length : Int) sq more (i : Int) nodes roots = some r ∧ Fin nodes r := by
    intro d
    induction d with
    | zero =>
      intro i hi sq more h
      obtain rfl : i = nodes.length := by omega
      obtain ⟨k, r, h1, h2⟩ := finish sq more h
      exact ⟨k + 1, r, by simp only [tendrilref05_Pairs.l3]; rw [if_neg (by omega)]; exact h1, h2⟩
    | succ d ihd =>
      intro i hi sq more h
      have hilt : i < nodes.length := by omega
      have L4 : ∀ e j : Nat, j + e = nodes.length → ∀ sq more, StS nodes sq0 sq more i j 0 → ∃ k r, tendrilref05_Pairs.l4 k (nodes.length : Int) sq more (i : Int) (j : Int) nodes roots = some r ∧ Fin nodes r := by
        intro e
        induction e with
        | zero =>
          intro j hj sq more h
          have h2 : StS nodes sq0 sq more (i + 1) 0 0 := by
            refine ⟨h.1, h.2.imp (fun ⟨a, b, hc⟩ => ⟨a, b, fun x y x0 x1 y0 y1 hg => ⟨fun hx p hp => (hc x y x0 x1 y0 y1 hg).1 (by omega) p hp, fun _ p hp => by omega⟩⟩) id⟩
          obtain ⟨k, r, h1, h3⟩ := ihd (i + 1) (by omega) sq more h2
          exact ⟨k + 1, r, by simp only [tendrilref05_Pairs.l4]; rw [if_neg (by omega), wsucc i (by omega)]; exact h1, h3⟩
        | succ e ihe =>
          intro j hj sq more h
          have hjlt : j < nodes.length := by omega
          have hsl := h.1.s.1
          have hrl := h.1.s.2 i hilt
          by_cases hg : gt sq i j = true
          · have hl := h.1.l i j (by omega) (by omega) (by omega) (by omega) hg
            have hlen := hl.2.2.2.1
            have hai := (good_args G (i : Int) (by omega) (by omega))
            have haj := (good_args G (j : Int) (by omega) (by omega))
            have L5 : ∀ f q : Nat, q + f = (argsN nodes i).length → ∀ sq more, StS nodes sq0 sq more i j q → (more = false → gt sq i j = true) → ∃ k r, tendrilref05_Pairs.l5 k (nodes.length : Int) sq more (i : Int) (j : Int) (q : Int) nodes roots = some r ∧ Fin nodes r := by
              intro f
              induction f with
              | zero =>
                intro q hq sq more h hm
                have h2 : StS nodes sq0 sq more i (j + 1) 0 := by
                  refine ⟨h.1, h.2.imp (fun ⟨a, b, hc⟩ => ⟨a, b, fun x y x0 x1 y0 y1 hg => ⟨fun hx p hp => ?_, fun _ p hp => by omega⟩⟩) id⟩
                  by_cases hxy : x = i ∧ y = j
                  · exact (hc x y x0 x1 y0 y1 hg).2 hxy p (by obtain ⟨rfl, rfl⟩ := hxy; omega)
                  · exact (hc x y x0 x1 y0 y1 hg).1 (by omega) p hp
                obtain ⟨k, r, h1, h3⟩ := ihe (j + 1) (by omega) sq more h2
                refine ⟨k + 1, r, ?_, h3⟩
                simp only [tendrilref05_Pairs.l5]
                rw [if_pos (by omega), if_pos (by omega), if_neg (by show ¬ (q : Int) < ((argsN nodes i).length : Int); omega), wsucc j (by omega)]
                exact h1
              | succ f ihf =>
                intro q hq sq more h hm
                have hsl := h.1.s.1
                have hq1 : q < (argsN nodes i).length := by omega
                have hq2 : q < (argsN nodes j).length := by omega
                have r1 := hai.2 _ (List.getElem_mem hq1)
                have r2 := haj.2 _ (List.getElem_mem hq2)
                rw [← rd_get _ q hq1] at r1
                rw [← rd_get _ q hq2] at r2
                have hrow := h.1.s.2 (rd (argsN nodes i) q).toNat (by omega)
                rw [show (((rd (argsN nodes i) q).toNat : Nat) : Int) = rd (argsN nodes i) q from by omega] at hrow
                have hrow2 := h.1.s.2 i hilt
                have eqn : ∀ k, tendrilref05_Pairs.l5 (k + 1) (nodes.length : Int) sq more (i : Int) (j : Int) (q : Int) nodes roots = if gt sq (rd (argsN nodes i) q) (rd (argsN nodes j) q) = true then tendrilref05_Pairs.l5 k (nodes.length : Int) sq more (i : Int) (j : Int) ((q + 1 : Nat) : Int) nodes roots else tendrilref05_Pairs.l5 k (nodes.length : Int) (stS sq i j false) true (i : Int) (j : Int) ((q + 1 : Nat) : Int) nodes roots := by
                  intro k
                  simp only [tendrilref05_Pairs.l5]
                  rw [show (rd_T35 nodes (i : Int)).f3 = argsN nodes i from rfl, show (rd_T35 nodes (j : Int)).f3 = argsN nodes j from rfl]
                  rw [if_pos (by omega), if_pos (by omega), if_pos (show (q : Int) < ((argsN nodes i).length : Int) by omega), if_pos (by omega), if_pos (show 0 ≤ rd (argsN nodes i) q from r1.1), if_pos (show rd (argsN nodes i) q < (sq.length : Int) by omega), if_pos (by omega), if_pos (by omega), if_pos (show (q : Int) < ((argsN nodes j).length : Int) by omega), if_pos (show 0 ≤ rd (argsN nodes j) q from r2.1), if_pos (show rd (argsN nodes j) q < ((rd_L6 sq (rd (argsN nodes i) q)).length : Int) by omega), wsucc q (by omega), if_pos (show (i : Int) < (sq.length : Int) by omega), if_pos (show (j : Int) < ((rd_L6 sq i).length : Int) by omega)]
                  rfl
                by_cases hgg : gt sq (rd (argsN nodes i) q) (rd (argsN nodes j) q) = true
                · have h2 : StS nodes sq0 sq more i j (q + 1) := by
                    refine ⟨h.1, h.2.imp (fun ⟨a, b, hc⟩ => ⟨a, b, fun x y x0 x1 y0 y1 hg => ⟨(hc x y x0 x1 y0 y1 hg).1, fun hxy p hp => ?_⟩⟩) id⟩
                    by_cases hpq : p = q
                    · subst hpq; obtain ⟨rfl, rfl⟩ := hxy; exact hgg
                    · exact (hc x y x0 x1 y0 y1 hg).2 hxy p (by omega)
                  obtain ⟨k, r, h1, h3⟩ := ihf (q + 1) (by omega) sq more h2 hm
                  exact ⟨k + 1, r, by rw [eqn, if_pos hgg]; exact h1, h3⟩
                · have hst : ∀ a c : Int, 0 ≤ a → 0 ≤ c → gt (stS sq i j false) a c = if a = i ∧ c = j then false else gt sq a c := fun a c a0 c0 => gt_st h.1.s i j hilt hjlt false a c a0 c0
                  have hle : cnt nodes.length (stS sq i j false) ≤ cnt nodes.length sq := filter_le _ _ _ (fun x hx hp => by
                    have hx2 := (mem_pairs (i := x.1) (j := x.2)).1 hx
                    simp only [hst x.1 x.2 hx2.1.1 hx2.2.1] at hp
                    split at hp
                    · cases hp
                    · exact hp)
                  have h2 : StS nodes sq0 (stS sq i j false) true i j (q + 1) := by
                    refine ⟨⟨h.1.s.st i j hilt false, fun a b hab => ?_, fun a b a0 a1 b0 b1 hg2 => ?_⟩, .inr ⟨rfl, ?_⟩⟩
                    · obtain ⟨ha, hb, _, harg⟩ := hab.out
                      rw [hst a b ha.1 hb.1]
                      by_cases hxy : a = i ∧ b = j
                      · obtain ⟨rfl, rfl⟩ := hxy
                        exact absurd (h.1.a _ _ (harg q hq1)) hgg
                      · rw [if_neg hxy]; exact h.1.a a b hab
                    · rw [hst a b a0 b0] at hg2
                      split at hg2
                      · cases hg2
                      · exact h.1.l a b a0 a1 b0 b1 hg2
                    · rcases h.2 with ⟨hmf, hs0, _⟩ | ⟨_, hlt⟩
                      · have hgij := hm hmf
                        rw [← hs0]
                        refine filter_lt _ _ _ (fun x hx hp => ?_) ⟨((i : Int), (j : Int)), mem_pairs.2 ⟨⟨by omega, by omega⟩, ⟨by omega, by omega⟩⟩, ?_, hgij⟩
                        · have hx2 := (mem_pairs (i := x.1) (j := x.2)).1 hx
                          simp only [hst x.1 x.2 hx2.1.1 hx2.2.1] at hp
                          split at hp
                          · cases hp
                          · exact hp
                        · show gt (stS sq i j false) i j = false
                          rw [hst i j (by omega) (by omega), if_pos ⟨rfl, rfl⟩]
                      · omega
                  obtain ⟨k, r, h1, h3⟩ := ihf (q + 1) (by omega) _ true h2 (fun h => by cases h)
                  exact ⟨k + 1, r, by rw [eqn, if_neg hgg]; exact h1, h3⟩
            obtain ⟨k, r, h1, h2⟩ := L5 (argsN nodes i).length 0 (by omega) sq more h (fun _ => hg)
            refine ⟨k + 1, r, ?_, h2⟩
            simp only [tendrilref05_Pairs.l4]
            rw [if_pos (by omega), if_pos (by omega), if_pos (by omega), if_pos (by omega), if_pos (by omega), if_pos (show rdOf false (rd_L6 sq i) j = true from hg)]
            exact h1
          · have h2 : StS nodes sq0 sq more i (j + 1) 0 := by
              refine ⟨h.1, h.2.imp (fun ⟨a, b, hc⟩ => ⟨a, b, fun x y x0 x1 y0 y1 hg2 => ⟨fun hx p hp => ?_, fun _ p hp => by omega⟩⟩) id⟩
              by_cases hxy : x = i ∧ y = j
              · obtain ⟨rfl, rfl⟩ := hxy; exact absurd hg2 hg
              · exact (hc x y x0 x1 y0 y1 hg2).1 (by omega) p hp
            obtain ⟨k, r, h1, h3⟩ := ihe (j + 1) (by omega) sq more h2
            refine ⟨k + 1, r, ?_, h3⟩
            simp only [tendrilref05_Pairs.l4]
            rw [if_pos (by omega), if_pos (by omega), if_pos (by omega), if_pos (by omega), if_pos (by omega), if_neg (show ¬ rdOf false (rd_L6 sq i) j = true from hg), wsucc j (by omega)]
            exact h1
      obtain ⟨k, r, h1, h2⟩ := L4 nodes.length 0 (by omega) sq more h
      exact ⟨k + 1, r, by simp only [tendrilref05_Pairs.l3]; rw [if_pos (by omega)]; exact h1, h2⟩
  have h0 : StS nodes sq0 sq0 false 0 0 0 := ⟨hA0, .inl ⟨rfl, rfl, fun x y x0 x1 y0 y1 _ => ⟨fun hx p _ => by omega, fun _ p hp => by omega⟩⟩⟩
  obtain ⟨k, r, h1, h2⟩ := L3 nodes.length 0 (by omega) sq0 false h0
  exact ⟨k + 1, r, by simp only [tendrilref05_Pairs.l2]; exact h1, h2⟩
def RowsTo (nodes : List Nd) (i : Nat) (sq : List (List Bool)) : Prop := sq.length = nodes.length ∧ ∀ p : Nat, p < i → (rd_L6 sq p).length = nodes.length ∧ ∀ q : Nat, q < nodes.length → gt sq p q = labB nodes p q
def InRow (nodes : List Nd) (i j : Nat) (sq : List (List Bool)) : Prop := RowsTo nodes i sq ∧ (rd_L6 sq i).length = nodes.length ∧ ∀ q : Nat, q < j → gt sq i q = labB nodes i q
theorem pairs_f {nodes : List Nd} (G : GoodG nodes) (roots : List Int) : ∃ k r, tendrilref05_Pairs.f k nodes roots = some r ∧ Fin nodes r := by
  have g1 := G.1
  have L0 : ∀ d i : Nat, i + d = nodes.length → ∀ sq, RowsTo nodes i sq → ∃ k r, tendrilref05_Pairs.l0 k (nodes.length : Int) sq (i : Int) nodes roots = some r ∧ Fin nodes r := by
    intro d
    induction d with
    | zero =>
      intro i hi sq h
      obtain rfl : i = nodes.length := by omega
      have hgt : ∀ a b : Int, 0 ≤ a → a < nodes.length → 0 ≤ b → b < nodes.length → gt sq a b = labB nodes a b := fun a b a0 a1 b0 b1 => by
        have := (h.2 a.toNat (by omega)).2 b.toNat (by omega)
        rw [show ((a.toNat : Nat) : Int) = a from by omega, show ((b.toNat : Nat) : Int) = b from by omega] at this
        exact this
      have hA : StA nodes sq := ⟨⟨h.1, fun p hp => (h.2 p hp).1⟩, fun a b hab => by
        obtain ⟨ha, hb, hl, _⟩ := hab.out
        rw [hgt a b ha.1 ha.2 hb.1 hb.2]; exact labB_iff.2 hl, fun a b a0 a1 b0 b1 hg => by
        rw [hgt a b a0 a1 b0 b1] at hg; exact labB_iff.1 hg⟩
      obtain ⟨k, r, h1, h2⟩ := strike G roots _ sq hA (Nat.le_refl _)
      exact ⟨k + 1, r, by simp only [tendrilref05_Pairs.l0]; rw [if_neg (by omega)]; exact h1, h2⟩
    | succ d ihd =>
      intro i hi sq h
      have hilt : i < nodes.length := by omega
      have L1 : ∀ e j : Nat, j + e = nodes.length → ∀ sq, InRow nodes i j sq → ∃ k r, tendrilref05_Pairs.l1 k (nodes.length : Int) sq (i : Int) (j : Int) nodes roots = some r ∧ Fin nodes r := by
        intro e
        induction e with
        | zero =>
          intro j hj sq h
          have h2 : RowsTo nodes (i + 1) sq := ⟨h.1.1, fun p hp => by
            by_cases hpi : p = i
            · subst hpi; exact ⟨h.2.1, fun q hq => h.2.2 q (by omega)⟩
            · exact h.1.2 p (by omega)⟩
          obtain ⟨k, r, h1, h3⟩ := ihd (i + 1) (by omega) sq h2
          exact ⟨k + 1, r, by simp only [tendrilref05_Pairs.l1]; rw [if_neg (by omega), wsucc i (by omega)]; exact h1, h3⟩
        | succ e ihe =>
          intro j hj sq h
          have hsl := h.1.1
          have hrl := h.2.1
          have hst : ∀ a c : Int, 0 ≤ a → 0 ≤ c → gt (stS sq i j (labB nodes i j)) a c = if a = i ∧ c = j then labB nodes i j else gt sq a c := fun a c a0 c0 => gt_st' i j (by omega) (by omega) _ a c a0 c0
          have hrow : ∀ a : Int, 0 ≤ a → rd_L6 (stS sq i j (labB nodes i j)) a = if a = i then (rd_L6 sq i).set j (labB nodes i j) else rd_L6 sq a := fun a a0 => by
            unfold stS
            rw [rdL_set sq i _ a (by omega) (by omega) a0]
            simp
          have h2 : InRow nodes i (j + 1) (stS sq i j (labB nodes i j)) := by
            refine ⟨⟨by unfold stS; rw [List.length_set]; exact hsl, fun p hp => ⟨?_, fun q hq => ?_⟩⟩, ?_, fun q hq => ?_⟩
            · rw [hrow p (by omega), if_neg (by omega)]; exact (h.1.2 p hp).1
            · rw [hst p q (by omega) (by omega), if_neg (by omega)]; exact (h.1.2 p hp).2 q hq
            · rw [hrow i (by omega), if_pos rfl, List.length_set]; exact hrl
            · rw [hst i q (by omega) (by omega)]
              by_cases hqj : q = j
              · subst hqj; rw [if_pos ⟨rfl, rfl⟩]
              · rw [if_neg (by omega)]; exact h.2.2 q (by omega)
          obtain ⟨k, r, h1, h3⟩ := ihe (j + 1) (by omega) _ h2
          refine ⟨k + 1, r, ?_, h3⟩
          simp only [tendrilref05_Pairs.l1]
          rw [if_pos (by omega), if_pos (by omega), if_pos (by omega), labels_f nodes roots i j (by omega) (by omega) (by omega) (by omega)]
          simp only [Option.bind_some]
          rw [if_pos (by omega), if_pos (by omega), wsucc j (by omega)]
          exact h1
      have h2 : InRow nodes i 0 (sq.set i (List.replicate nodes.length false)) := by
        have hr : ∀ a : Int, 0 ≤ a → rd_L6 (sq.set i (List.replicate nodes.length false)) a = if a = i then List.replicate nodes.length false else rd_L6 sq a := fun a a0 => by
          have := rdL_set sq (i : Int) (List.replicate nodes.length false) a (by omega) (by have := h.1; omega) a0
          simpa using this
        refine ⟨⟨by rw [List.length_set]; exact h.1, fun p hp => ⟨?_, fun q hq => ?_⟩⟩, ?_, fun q hq => by omega⟩
        · rw [hr p (by omega), if_neg (by omega)]; exact (h.2 p hp).1
        · unfold gt; rw [hr p (by omega), if_neg (by omega)]; exact (h.2 p hp).2 q hq
        · rw [hr i (by omega), if_pos rfl]; simp
      obtain ⟨k, r, h1, h3⟩ := L1 nodes.length 0 (by omega) _ h2
      have hsl := h.1
      refine ⟨k + 1, r, ?_, h3⟩
      simp only [tendrilref05_Pairs.l0]
      rw [if_pos (by omega), if_pos (by omega), if_pos (by simp; omega), if_pos (by omega), if_pos (by omega)]
      simp only [Int.toNat_natCast]
      exact h1
  obtain ⟨k, r, h1, h2⟩ := L0 nodes.length 0 (by omega) (List.replicate nodes.length []) ⟨by simp, fun p hp => by omega⟩
  refine ⟨k, r, ?_, h2⟩
  unfold tendrilref05_Pairs.f
  rw [if_pos (by omega), if_pos (by simp; omega)]
  simp only [Int.toNat_natCast]
  exact h1
theorem pairs_up {nodes : List Nd} {roots : List Int} {r : List (List Bool)} {k : Nat} (h : tendrilref05_Pairs.f k nodes roots = some r) : ∀ d, tendrilref05_Pairs.f (k + d) nodes roots = some r := by
  intro d
  induction d with
  | zero => exact h
  | succ d ih => exact tendrilref05_Pairs.mono nodes roots (k + d) r ih
theorem cl0_up {sq : List (List Bool)} {cl least : List Int} {i : Int} {nodes : List Nd} {roots : List Int} {r : List Int × List Int} {k : Nat} (h : tendrilref05_Classes.l0 k sq cl least i nodes roots = some r) : ∀ d, tendrilref05_Classes.l0 (k + d) sq cl least i nodes roots = some r := by
  intro d
  induction d with
  | zero => exact h
  | succ d ih => exact (tendrilref05_Classes.mono_l (k + d)).1 sq cl least i nodes roots r ih
/-- The reference's classes while they are written. -/
structure CI (nodes : List Nd) (L : List Int) (m : Nat → Nat) (i : Nat) (cl least : List Int) : Prop where
  len : cl.length = nodes.length
  v : ∀ p : Nat, p < i → rd cl p = rd L p
  ln : least.length = m i
  le : ∀ c : Nat, c < m i → 0 ≤ rd least c ∧ rd least c < i ∧ rd L (rd least c) = c
theorem list_rd {l m : List Int} (hl : l.length = m.length) (h : ∀ p : Nat, p < l.length → rd l p = rd m p) : l = m := by
  apply List.ext_getElem hl
  intro i h1 h2
  have := h i h1
  rw [rd_get l i h1, rd_get m i h2] at this
  exact this
theorem rd_snoc (l : List Int) (x : Int) (c : Nat) : rd (l ++ [x]) c = if c = l.length then x else rd l c := by
  unfold rd
  simp only [List.getD_eq_getElem?_getD, Int.toNat_natCast]
  by_cases h : c < l.length
  · rw [List.getElem?_append_left h, if_neg (by omega)]
  · by_cases h2 : c = l.length
    · subst h2; rw [if_pos rfl]; simp
    · rw [if_neg h2, List.getElem?_eq_none (by simp; omega), List.getElem?_eq_none (by omega)]
theorem num_le2 {N : Nat} {L : List Int} {m : Nat → Nat} (m0 : m 0 = 0) (hm : ∀ i : Nat, i < N → (0 ≤ rd L i ∧ rd L i < m i ∧ m (i + 1) = m i) ∨ (rd L i = m i ∧ m (i + 1) = m i + 1)) : ∀ k, k ≤ N → m k ≤ k := by
  intro k
  induction k with
  | zero => intro _; omega
  | succ k ih => intro hk; have := ih (by omega); rcases hm k (by omega) with h | h <;> omega
theorem classes_f {nodes : List Nd} {L : List Int} (G : GoodG nodes) (S : Spec nodes L) (roots : List Int) : ∃ k l, tendrilref05_Classes.f k nodes roots = some (L, l) := by
  have g1 := G.1
  have hL := S.len
  obtain ⟨k1, sq, hp, hS, hF⟩ := pairs_f G roots
  obtain ⟨m, m0, hm⟩ := S.num
  have hml := num_le2 m0 hm
  have Main : ∀ d i : Nat, i + d = nodes.length → ∀ cl least, CI nodes L m i cl least → ∃ k l, tendrilref05_Classes.l0 k sq cl least (i : Int) nodes roots = some (L, l) := by
    intro d
    induction d with
    | zero =>
      intro i hi cl least h
      have e : cl = L := list_rd (by rw [h.len, hL]) (fun p hp => h.v p (by have := h.len; omega))
      refine ⟨1, least, ?_⟩
      simp only [tendrilref05_Classes.l0]
      rw [if_neg (by omega), e]
    | succ d ihd =>
      intro i hi cl least h
      have hilt : i < nodes.length := by omega
      have hmi := hml i (by omega)
      have hmi1 := hml (i + 1) (by omega)
      have hln := h.ln
      have hlen := h.len
      have Inner : ∀ e c : Nat, c + e = m i → ∀ cl' : List Int, cl'.length = nodes.length → (∀ p : Nat, p < i → rd cl' p = rd L p) → rd cl' i = (if 0 ≤ rd L i ∧ rd L i < c then rd L i else (m i : Int)) → ∃ k l, tendrilref05_Classes.l1 k sq cl' least (i : Int) (c : Int) nodes roots = some (L, l) := by
        intro e
        induction e with
        | zero =>
          intro c hc cl' hl' hv' hi'
          have hcm : c = m i := by omega
          subst hcm
          rcases hm i hilt with ⟨a1, a2, a3⟩ | ⟨b1, b2⟩
          · rw [if_pos ⟨a1, a2⟩] at hi'
            have h2 : CI nodes L m (i + 1) cl' least := ⟨hl', fun p hp => by
              by_cases hpi : p = i
              · subst hpi; exact hi'
              · exact hv' p (by omega), by rw [a3]; exact hln, fun c hc => by
              rw [a3] at hc
              obtain ⟨q1, q2, q3⟩ := h.le c hc
              exact ⟨q1, by omega, q3⟩⟩
            obtain ⟨k, l, hk⟩ := ihd (i + 1) (by omega) cl' least h2
            refine ⟨k + 1, l, ?_⟩
            simp only [tendrilref05_Classes.l1]
            rw [if_neg (by omega), if_pos (by omega), if_pos (by omega), if_neg (by rw [hi']; omega), wsucc i (by omega)]
            exact hk
          · rw [if_neg (by omega)] at hi'
            have h2 : CI nodes L m (i + 1) cl' (least ++ [(i : Int)]) := ⟨hl', fun p hp => by
              by_cases hpi : p = i
              · subst hpi; rw [hi', b1]
              · exact hv' p (by omega), by rw [b2]; simp [hln], fun c hc => by
              rw [rd_snoc]
              by_cases hcl : c = least.length
              · rw [if_pos hcl]; exact ⟨by omega, by omega, by rw [b1]; omega⟩
              · rw [if_neg hcl]
                obtain ⟨q1, q2, q3⟩ := h.le c (by omega)
                exact ⟨q1, by omega, q3⟩⟩
            obtain ⟨k, l, hk⟩ := ihd (i + 1) (by omega) cl' _ h2
            refine ⟨k + 1, l, ?_⟩
            simp only [tendrilref05_Classes.l1]
            rw [if_neg (by omega), if_pos (by omega), if_pos (by omega), if_pos (by rw [hi']; omega), if_pos (by omega), wsucc i (by omega)]
            exact hk
        | succ e ihe =>
          intro c hc cl' hl' hv' hi'
          obtain ⟨q1, q2, q3⟩ := h.le c (by omega)
          have hsl := hS.1
          have hrl := hS.2 i hilt
          have hal := hF i (rd least c) (by omega) (by omega) q1 (by omega)
          have hsi := S.iff i (rd least c) (by omega) (by omega) q1 (by omega)
          by_cases hg : gt sq i (rd least c) = true
          · have hLi : rd L i = c := by rw [hsi.2 (hal.1 hg), q3]
            have hset : ∀ p : Nat, rd (cl'.set i (c : Int)) p = if p = i then (c : Int) else rd cl' p := fun p => by
              have := rd_setI cl' (i : Int) (c : Int) (p : Int)
              unfold setI at this
              simp only [Int.toNat_natCast] at this
              rw [this]
              by_cases hpi : p = i
              · subst hpi; rw [if_pos ⟨rfl, by omega⟩, if_pos rfl]
              · rw [if_neg (by omega), if_neg hpi]
            obtain ⟨k, l, hk⟩ := ihe (c + 1) (by omega) (cl'.set i (c : Int)) (by rw [List.length_set]; exact hl') (fun p hp => by rw [hset p, if_neg (by omega)]; exact hv' p hp) (by rw [hset i, if_pos rfl, if_pos (by omega), hLi])
            refine ⟨k + 1, l, ?_⟩
            simp only [tendrilref05_Classes.l1]
            rw [if_pos (by omega), if_pos (by omega), if_pos (by omega), if_pos (by omega), if_pos q1, if_pos (by omega), if_pos (show rdOf false (rd_L6 sq i) (rd least c) = true from hg), if_pos (by omega), wsucc c (by omega)]
            simp only [Int.toNat_natCast]
            exact hk
          · have hLi : rd L i ≠ c := fun hx => hg (hal.2 (hsi.1 (by rw [hx, q3])))
            obtain ⟨k, l, hk⟩ := ihe (c + 1) (by omega) cl' hl' hv' (by
              rw [hi']
              by_cases hx : 0 ≤ rd L i ∧ rd L i < c
              · rw [if_pos hx, if_pos (by omega)]
              · rw [if_neg hx, if_neg (by omega)])
            refine ⟨k + 1, l, ?_⟩
            simp only [tendrilref05_Classes.l1]
            rw [if_pos (by omega), if_pos (by omega), if_pos (by omega), if_pos (by omega), if_pos q1, if_pos (by omega), if_neg (show ¬ rdOf false (rd_L6 sq i) (rd least c) = true from hg), wsucc c (by omega)]
            exact hk
      have hset : ∀ p : Nat, rd (cl.set i (least.length : Int)) p = if p = i then (least.length : Int) else rd cl p := fun p => by
        have := rd_setI cl (i : Int) (least.length : Int) (p : Int)
        unfold setI at this
        simp only [Int.toNat_natCast] at this
        rw [this]
        by_cases hpi : p = i
        · subst hpi; rw [if_pos ⟨rfl, by omega⟩, if_pos rfl]
        · rw [if_neg (by omega), if_neg hpi]
      obtain ⟨k, l, hk⟩ := Inner (m i) 0 (by omega) (cl.set i (least.length : Int)) (by rw [List.length_set]; exact hlen) (fun p hp => by rw [hset p, if_neg (by omega)]; exact h.v p hp) (by rw [hset i, if_pos rfl, if_neg (by omega), hln])
      refine ⟨k + 1, l, ?_⟩
      simp only [tendrilref05_Classes.l0]
      rw [if_pos (by omega), if_pos (by omega), if_pos (by omega)]
      simp only [Int.toNat_natCast]
      exact hk
  obtain ⟨k2, l, h2⟩ := Main nodes.length 0 (by omega) (List.replicate nodes.length 0) [] ⟨by simp, fun p hp => by omega, by simp [m0], fun c hc => by omega⟩
  refine ⟨k1 + k2, l, ?_⟩
  unfold tendrilref05_Classes.f
  rw [pairs_up hp k2]
  simp only [Option.bind_some]
  rw [if_pos (by omega), if_pos (by simp; omega)]
  simp only [Int.toNat_natCast]
  have := cl0_up h2 k1
  rw [Nat.add_comm k2 k1] at this
  exact this
theorem ints_f (l : List Int) (h : l.length ≤ 9223372036854775807) : ∃ k, tendrilref04_Ints.f k l l = some true := by
  have key : ∀ d i : Nat, i + d = l.length → ∃ k, tendrilref04_Ints.l0 k l l (i : Int) = some true := by
    intro d
    induction d with
    | zero => intro i hi; exact ⟨1, by simp only [tendrilref04_Ints.l0]; rw [if_neg (by omega)]⟩
    | succ d ih =>
      intro i hi
      obtain ⟨k, hk⟩ := ih (i + 1) (by omega)
      refine ⟨k + 1, ?_⟩
      simp only [tendrilref04_Ints.l0]
      rw [if_pos (by omega), if_pos (by omega), if_pos (by omega), if_pos trivial, wsucc i (by omega)]
      exact hk
  obtain ⟨k, hk⟩ := key l.length 0 (by omega)
  exact ⟨k, by unfold tendrilref04_Ints.f; rw [if_pos rfl]; exact hk⟩
end Go.Proofs.YtciniaabmjoiiaaDoor
