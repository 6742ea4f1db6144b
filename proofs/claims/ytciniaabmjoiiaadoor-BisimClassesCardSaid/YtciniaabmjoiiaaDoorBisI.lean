import Derived.Test.YtciniaabmjoiiaaDoorBisN
import Derived.Test.YtciniaabmjoiiaaDoorBisR
/- What stays true from round to round, and what the last one leaves; begin as a plain function, and its state in memory. No walk. -/
set_option linter.unusedVariables false
set_option linter.unusedSimpArgs false
namespace Go.Proofs.YtciniaabmjoiiaaDoor
open Go.RowKit Go.Proofs.YtciniaabmjoiiaaDoorW.PrintWords Go.Proofs.YtciniaabmjoiiaaDoorW.PrintLast Go.Proofs.YtciniaabmjoiiaaDoorW.PrintMore Go.Proofs.YtciniaabmjoiiaaDoor.PRef
theorem nodup_len {α : Type} [DecidableEq α] : ∀ (l m : List α), l.Nodup → (∀ x ∈ l, x ∈ m) → l.length ≤ m.length := by
  intro l
  induction l with
  | nil => intro m _ _; simp
  | cons a r ih =>
    intro m hd hm
    rw [List.nodup_cons] at hd
    have ha : a ∈ m := hm a (by simp)
    have := ih (m.erase a) hd.2 (fun x hx => (List.mem_erase_of_ne (fun e => hd.1 (by subst e; exact hx))).2 (hm x (by simp [hx])))
    rw [List.length_erase_of_mem ha] at this
    have := List.length_pos_of_mem ha
    simp only [List.length_cons]; omega
def nums (N : Nat) : List Int := (List.range N).map Int.ofNat
theorem mem_nums {N : Nat} {i : Int} : i ∈ nums N ↔ 0 ≤ i ∧ i < N := by
  unfold nums
  simp only [List.mem_map, List.mem_range]
  constructor
  · rintro ⟨k, hk, rfl⟩; exact ⟨Int.natCast_nonneg k, by show (k : Int) < N; omega⟩
  · rintro ⟨h0, h1⟩; exact ⟨i.toNat, by omega, by show ((i.toNat : Nat) : Int) = i; omega⟩
theorem nums_nodup (N : Nat) : (nums N).Nodup := by
  unfold nums
  exact List.Pairwise.map _ (fun a b h e => h (by injection e)) List.nodup_range
def ofC (cl : List Int) (c : Int) (l : List Int) : List Int := l.filter fun n => decide (rd cl n = c)
theorem cl_nums (cl : List Int) : cl = (nums cl.length).map (rd cl) := by
  apply List.ext_getElem
  · simp [nums]
  · intro i h1 h2
    simp [nums]
    have := rd_get cl i h1
    exact this.symm
theorem cl_count (cl : List Int) (c : Int) : cl.count c = (ofC cl c (nums cl.length)).length := by
  conv => lhs; rw [cl_nums cl]
  unfold ofC
  rw [List.count, List.countP_map, ← List.countP_eq_length_filter]
  congr 1
theorem looked_count (cl : List Int) (c : Int) : ∀ (l : List Int) (f : Int → Option Int), (l.foldl (looked1 cl) f c).getD 0 = (f c).getD 0 + ((ofC cl c l).length : Int) := by
  intro l
  induction l with
  | nil => intro f; simp [ofC]
  | cons n r ih =>
    intro f
    rw [List.foldl_cons, ih]
    unfold ofC looked1
    rw [List.filter_cons]
    by_cases e : rd cl n = c
    · subst e; rw [updF_same]; simp; omega
    · rw [updF_ne _ _ (Ne.symm e)]; simp [e]
theorem ofC_mem {cl : List Int} {c : Int} {l : List Int} {n : Int} : n ∈ ofC cl c l ↔ n ∈ l ∧ rd cl n = c := by unfold ofC; simp
theorem ofC_nodup {cl : List Int} {c : Int} {l : List Int} (h : l.Nodup) : (ofC cl c l).Nodup := h.sublist List.filter_sublist
theorem full_iff {cl sz look : List Int} (hd : look.Nodup) (hm : ∀ n ∈ look, 0 ≤ n ∧ n < cl.length) (c : Int) (hc : rd sz c = (cl.count c : Int)) : fullC cl sz look c ↔ ∀ i : Int, 0 ≤ i → i < cl.length → rd cl i = c → i ∈ look := by
  have h1 := looked_count cl c look (fun _ => none)
  have h2 := cl_count cl c
  unfold fullC lookedS
  rw [h1, hc, h2]
  have hsub : ∀ x ∈ ofC cl c look, x ∈ ofC cl c (nums cl.length) := fun x hx => by
    rw [ofC_mem] at hx ⊢; exact ⟨mem_nums.2 (hm x hx.1), hx.2⟩
  constructor
  · intro he i i0 i1 hi
    refine Decidable.byContradiction fun hni => ?_
    have hn : i ∉ ofC cl c look := fun h => hni (ofC_mem.1 h).1
    have := nodup_len (i :: ofC cl c look) (ofC cl c (nums cl.length)) (List.nodup_cons.2 ⟨hn, ofC_nodup hd⟩) (fun x hx => by
      rw [List.mem_cons] at hx
      rcases hx with rfl | hx
      · exact ofC_mem.2 ⟨mem_nums.2 ⟨i0, i1⟩, hi⟩
      · exact hsub x hx)
    simp at this he; omega
  · intro h
    have a := nodup_len _ _ (ofC_nodup (cl := cl) (c := c) hd) hsub
    have b := nodup_len _ (ofC cl c look) (ofC_nodup (cl := cl) (c := c) (nums_nodup cl.length)) (fun x hx => by
      rw [ofC_mem] at hx ⊢
      have := mem_nums.1 hx.1
      exact ⟨h x this.1 this.2 hx.2, hx.2⟩)
    simp; omega
/-- Two nodes unfold alike. -/
def Alike (nodes : List Nd) (i j : Int) : Prop :=
  ∃ R : Int → Int → Prop, R i j ∧ ∀ a b, R a b → (0 ≤ a ∧ a < nodes.length) ∧ (0 ≤ b ∧ b < nodes.length) ∧ Lab nodes a b ∧ ∀ k : Nat, k < (argsN nodes a).length → R (rd (argsN nodes a) k) (rd (argsN nodes b) k)
theorem Alike.out {nodes : List Nd} {i j : Int} (h : Alike nodes i j) : (0 ≤ i ∧ i < nodes.length) ∧ (0 ≤ j ∧ j < nodes.length) ∧ Lab nodes i j ∧ ∀ k : Nat, k < (argsN nodes i).length → Alike nodes (rd (argsN nodes i) k) (rd (argsN nodes j) k) := by
  obtain ⟨R, h, hR⟩ := h
  obtain ⟨h1, h2, h3, h4⟩ := hR i j h
  exact ⟨h1, h2, h3, fun k hk => ⟨R, h4 k hk, hR⟩⟩
def sigA (nodes : List Nd) (cl : List Int) (i : Int) : List Int := (argsN nodes i).map (rd cl)
theorem sig_ext {nodes : List Nd} {cl cl' : List Int} {i j : Int} (hl : (argsN nodes i).length = (argsN nodes j).length) (h : ∀ k : Nat, k < (argsN nodes i).length → rd cl (rd (argsN nodes i) k) = rd cl' (rd (argsN nodes j) k)) : (argsN nodes i).map (rd cl) = (argsN nodes j).map (rd cl') := by
  apply List.ext_getElem
  · simpa using hl
  · intro k h1 h2
    rw [List.length_map] at h1 h2
    have := h k h1
    rw [rd_get _ k h1, rd_get _ k h2] at this
    simpa using this
theorem sig_at {nodes : List Nd} {cl cl' : List Int} {i j : Int} (h : (argsN nodes i).map (rd cl) = (argsN nodes j).map (rd cl')) : (argsN nodes i).length = (argsN nodes j).length ∧ ∀ k : Nat, k < (argsN nodes i).length → rd cl (rd (argsN nodes i) k) = rd cl' (rd (argsN nodes j) k) := by
  have hl : (argsN nodes i).length = (argsN nodes j).length := by simpa using congrArg List.length h
  refine ⟨hl, fun k hk => ?_⟩
  rw [rd_get _ k hk, rd_get _ k (by omega)]
  have := congrArg (fun l => l[k]?) h
  simpa [hk, (by omega : k < (argsN nodes j).length)] using this
/-- What stays true. -/
structure Rv (nodes : List Nd) (ab : List (List Int)) (cl sz look : List Int) : Prop where
  lc : cl.length = nodes.length
  la : ab.length = nodes.length
  cr : ∀ i : Int, 0 ≤ i → i < nodes.length → 0 ≤ rd cl i ∧ rd cl i < sz.length
  ct : ∀ k : Int, 0 ≤ k → k < sz.length → rd sz k = (cl.count k : Int)
  po : ∀ k : Int, 0 ≤ k → k < sz.length → ∃ i : Int, (0 ≤ i ∧ i < nodes.length) ∧ rd cl i = k
  ld : look.Nodup
  lm : ∀ n ∈ look, 0 ≤ n ∧ n < nodes.length
  am : ∀ n a : Int, 0 ≤ n → n < nodes.length → (a ∈ ab.getD n.toNat [] ↔ (0 ≤ a ∧ a < nodes.length) ∧ n ∈ argsN nodes a)
  al : ∀ n : Nat, (ab.getD n []).length ≤ 40000
  i2 : ∀ i j, Alike nodes i j → rd cl i = rd cl j
  i3 : ∀ i j : Int, 0 ≤ i → i < nodes.length → 0 ≤ j → j < nodes.length → rd cl i = rd cl j → Lab nodes i j
  i4 : ∀ i j : Int, 0 ≤ i → i < nodes.length → 0 ≤ j → j < nodes.length → i ∉ look → j ∉ look → rd cl i = rd cl j → sigA nodes cl i = sigA nodes cl j
  i5 : ∀ i j : Int, 0 ≤ i → i < nodes.length → 0 ≤ j → j < nodes.length → i ∈ look → j ∉ look → rd cl i = rd cl j → sigA nodes cl i ≠ sigA nodes cl j
theorem Rv.few {nodes : List Nd} {ab : List (List Int)} {cl sz look : List Int} (h : Rv nodes ab cl sz look) : sz.length ≤ nodes.length := by
  have hm : ∀ x ∈ nums sz.length, x ∈ cl := fun x hx => by
    obtain ⟨h0, h1⟩ := mem_nums.1 hx
    obtain ⟨i, hi, he⟩ := h.po x h0 h1
    have hlt : i.toNat < cl.length := by have := h.lc; omega
    have e := rd_get cl i.toNat hlt
    rw [show ((i.toNat : Nat) : Int) = i from by omega, he] at e
    rw [e]; exact List.getElem_mem hlt
  have := nodup_len (nums sz.length) cl (nums_nodup _) hm
  have e : (nums sz.length).length = sz.length := by simp [nums]
  have := h.lc
  omega
theorem rd_out (l : List Int) (i : Int) (h : ¬ i.toNat < l.length) : rd l i = 0 := by
  unfold rd; rw [List.getD_eq_getElem?_getD, List.getElem?_eq_none (by omega)]; rfl
theorem Rv.rok {nodes : List Nd} {ab : List (List Int)} {cl sz look : List Int} (G : GoodG nodes) (h : Rv nodes ab cl sz look) (hne : 0 < look.length) : ROk nodes cl sz look ab := by
  have hf := h.few
  have hlc := h.lc
  have g1 := G.1
  have hlk : look.length ≤ nodes.length := by
    have := nodup_len look (nums nodes.length) h.ld (fun x hx => mem_nums.2 (h.lm x hx))
    simpa [nums] using this
  have hpos : 0 < sz.length := by
    have h1 := h.lm look[0] (List.getElem_mem hne)
    have := h.cr _ h1.1 h1.2; omega
  refine ⟨g1, hlc, h.la, by omega, by omega, fun i hi => ?_, fun i => ?_, fun i => ?_, fun n hn => ?_, fun n hn => ⟨h.al n, fun a ha => ?_⟩⟩
  · rw [rd_get look i hi]; exact h.lm _ (List.getElem_mem hi)
  · by_cases hi : i.toNat < cl.length
    · have e : rd cl i = rd cl ((i.toNat : Nat) : Int) := rfl
      rw [e]; exact h.cr _ (by omega) (by omega)
    · rw [rd_out _ _ hi]; omega
  · by_cases hi : i.toNat < sz.length
    · have e : rd sz i = rd sz ((i.toNat : Nat) : Int) := rfl
      rw [e, h.ct _ (by omega) (by omega)]
      have : cl.count ((i.toNat : Nat) : Int) ≤ cl.length := List.count_le_length
      omega
    · rw [rd_out _ _ hi]; omega
  · have := good_args G (n : Int) (by omega) (by omega)
    refine ⟨this.1, fun j hj => ?_⟩
    have e := rd_get _ j hj
    rw [e]; exact this.2 _ (List.getElem_mem hj)
  · have := (h.am (n : Int) a (by omega) (by omega)).1 (by simpa using ha)
    exact this.1
theorem Rv.round {nodes : List Nd} {ab : List (List Int)} {cl sz look : List Int} (G : GoodG nodes) (h : Rv nodes ab cl sz look) :
    Rv nodes ab (roundS nodes ab cl sz look).cl (roundS nodes ab cl sz look).sz (roundS nodes ab cl sz look).out ∧ sz.length ≤ (roundS nodes ab cl sz look).sz.length ∧ ((roundS nodes ab cl sz look).sz.length = sz.length → (roundS nodes ab cl sz look).out = []) := by
  have hlc := h.lc
  have J := J2.look (nodes := nodes) (cl := cl) (sz := sz) h.ld
  have F := fun c hc0 hc1 => full_iff (cl := cl) (sz := sz) h.ld (fun n hn => by rw [hlc]; exact h.lm n hn) c (h.ct c hc0 hc1)
  have K := J3.all (N := nodes.length) (ab := ab) (fresh := (loop2 nodes cl sz look).fresh) (cl := cl) (loop2 nodes cl sz look).sz.length look [] ⟨cl, (loop2 nodes cl sz look).sz, fun _ => none, []⟩
    ⟨hlc, fun i i0 i1 => by simp, fun k k0 k1 => by
      show rd (loop2 nodes cl sz look).sz k = (cl.count k : Int)
      rw [J.rz]
      by_cases hk : k < sz.length
      · exact h.ct k k0 hk
      · rw [rd_out _ _ (by omega)]
        have : cl.count k = 0 := by
          rw [List.count_eq_zero]
          intro hm
          obtain ⟨i, hi, e⟩ := List.getElem_of_mem hm
          have := h.cr (i : Int) (by omega) (by omega)
          rw [rd_get cl i hi, e] at this; omega
        omega, by simp, fun a => by simp, fun a => by simp⟩ rfl (by simpa using h.ld)
    (fun n hn => ⟨h.lm n hn, by have := h.cr n (h.lm n hn).1 (h.lm n hn).2; have := J.ln; omega⟩)
    (fun n u hf => by have := J.c _ _ (J.a n u hf).2; omega)
  obtain ⟨K, KL⟩ := K
  have hR : look.foldl (step3 ab (loop2 nodes cl sz look).fresh) ⟨cl, (loop2 nodes cl sz look).sz, fun _ => none, []⟩ = roundS nodes ab cl sz look := rfl
  rw [hR] at K KL
  simp only [List.nil_append] at K
  generalize roundS nodes ab cl sz look = r at *
  clear hR
  generalize loop2 nodes cl sz look = s at *
  -- the new class of a node
  have C : ∀ i : Int, 0 ≤ i → i < nodes.length → (s.fresh i = none ∧ rd r.cl i = rd cl i) ∨ (∃ u, s.fresh i = some u ∧ rd r.cl i = u ∧ i ∈ look ∧ (sz.length : Int) ≤ u ∧ u < s.sz.length ∧ s.known (sgn nodes cl i) = some u) := by
    intro i i0 i1
    have e := K.c1 i i0 i1
    cases hf : s.fresh i with
    | none => left; refine ⟨rfl, ?_⟩; rw [e, hf]; simp
    | some u =>
      right
      obtain ⟨ha, hk⟩ := J.a i u hf
      obtain ⟨h1, h2, _⟩ := J.c _ u hk
      exact ⟨u, rfl, by rw [e, if_pos ha, hf]; rfl, ha, h1, h2, hk⟩
  have ln := J.ln
  have CR : ∀ i : Int, 0 ≤ i → i < nodes.length → 0 ≤ rd r.cl i ∧ rd r.cl i < r.sz.length := by
    intro i i0 i1
    rw [KL]
    rcases C i i0 i1 with ⟨_, e⟩ | ⟨u, _, e, _, h1, h2, _⟩
    · rw [e]; have := h.cr i i0 i1; omega
    · rw [e]; omega
  -- one new class: one old class, one sign
  have R2 : ∀ i j : Int, 0 ≤ i → i < nodes.length → 0 ≤ j → j < nodes.length → rd r.cl i = rd r.cl j → rd cl i = rd cl j ∧ sigA nodes cl i = sigA nodes cl j := by
    intro i j i0 i1 j0 j1 e
    have ci := h.cr i i0 i1
    have cj := h.cr j j0 j1
    rcases C i i0 i1 with ⟨fi, ei⟩ | ⟨u, fi, ei, li, ui, ui', ki⟩ <;> rcases C j j0 j1 with ⟨fj, ej⟩ | ⟨v, fj, ej, lj, vj, vj', kj⟩
    · have e' : rd cl i = rd cl j := by rw [← ei, ← ej, e]
      refine ⟨e', ?_⟩
      by_cases li : i ∈ look
      · obtain ⟨f1, f2⟩ := J.b i li fi
        have lj : j ∈ look := (F _ ci.1 ci.2).1 f1 j j0 (by omega) e'.symm
        obtain ⟨g1, g2⟩ := J.b j lj fj
        rw [e', g2] at f2
        injection f2 with f2
        exact ((sgn_iff nodes cl i j).1 f2.symm).2
      · by_cases lj : j ∈ look
        · obtain ⟨f1, f2⟩ := J.b j lj fj
          exact absurd ((F _ cj.1 cj.2).1 f1 i i0 (by omega) e') li
        · exact h.i4 i j i0 i1 j0 j1 li lj e'
    · omega
    · omega
    · have : u = v := by omega
      subst this
      have := J.d _ _ u ki kj
      exact (sgn_iff nodes cl i j).1 this
  -- one old class, one sign: one new class
  have R4 : ∀ i j : Int, 0 ≤ i → i < nodes.length → 0 ≤ j → j < nodes.length → rd cl i = rd cl j → sigA nodes cl i = sigA nodes cl j → rd r.cl i = rd r.cl j := by
    intro i j i0 i1 j0 j1 e es
    have hs : sgn nodes cl i = sgn nodes cl j := (sgn_iff nodes cl i j).2 ⟨e, es⟩
    have ci := h.cr i i0 i1
    have cj := h.cr j j0 j1
    have key : ∀ i j : Int, 0 ≤ i → i < nodes.length → 0 ≤ j → j < nodes.length → rd cl i = rd cl j → sigA nodes cl i = sigA nodes cl j → sgn nodes cl i = sgn nodes cl j → s.fresh i = none → ∀ v, s.fresh j = some v → j ∈ look → False := by
      intro i j i0 i1 j0 j1 e es hs fi v fj lj
      by_cases li : i ∈ look
      · obtain ⟨f1, f2⟩ := J.b i li fi
        obtain ⟨key, k1, k2⟩ := J.b1 j v fj (by rw [← e]; exact f1)
        rw [← e, f2] at k1
        injection k1 with k1
        exact k2 (by rw [← k1, hs])
      · exact h.i5 j i j0 j1 i0 i1 lj li e.symm es.symm
    rcases C i i0 i1 with ⟨fi, ei⟩ | ⟨u, fi, ei, li, ui, ui', ki⟩ <;> rcases C j j0 j1 with ⟨fj, ej⟩ | ⟨v, fj, ej, lj, vj, vj', kj⟩
    · rw [ei, ej, e]
    · exact (key i j i0 i1 j0 j1 e es hs fi v fj lj).elim
    · exact (key j i j0 j1 i0 i1 e.symm es.symm hs.symm fj u fi li).elim
    · rw [hs, kj] at ki; injection ki with ki; rw [ei, ej, ki]
  have hout : ∀ a, a ∈ r.out ↔ ∃ n ∈ look, s.fresh n ≠ none ∧ (0 ≤ a ∧ a < nodes.length) ∧ n ∈ argsN nodes a := by
    intro a
    rw [K.mo a]
    constructor
    · rintro ⟨n, hn, h1, h2⟩
      have := h.lm n hn
      exact ⟨n, hn, h1, (h.am n a this.1 this.2).1 h2⟩
    · rintro ⟨n, hn, h1, h2⟩
      have := h.lm n hn
      exact ⟨n, hn, h1, (h.am n a this.1 this.2).2 h2⟩
  -- outside: no argument's class changed
  have hkeep : ∀ a : Int, 0 ≤ a → a < nodes.length → a ∉ r.out → ∀ n ∈ argsN nodes a, rd r.cl n = rd cl n ∧ 0 ≤ n ∧ n < nodes.length := by
    intro a a0 a1 ha n hn
    have hna := (good_args G a a0 a1).2 n hn
    rcases C n hna.1 hna.2 with ⟨_, e⟩ | ⟨u, fu, e, ln, _⟩
    · exact ⟨e, hna⟩
    · exact absurd ((hout a).2 ⟨n, ln, by rw [fu]; simp, ⟨a0, a1⟩, hn⟩) ha
  have hsame : ∀ a : Int, 0 ≤ a → a < nodes.length → a ∉ r.out → sigA nodes r.cl a = sigA nodes cl a := by
    intro a a0 a1 ha
    unfold sigA
    exact List.map_congr_left fun n hn => (hkeep a a0 a1 ha n hn).1
  refine ⟨⟨K.lc, h.la, CR, fun k k0 k1 => K.ct k k0 k1, fun k k0 k1 => ?_, K.nd, fun n hn => ?_, h.am, h.al, fun i j hij => ?_, fun i j i0 i1 j0 j1 e => h.i3 i j i0 i1 j0 j1 (R2 i j i0 i1 j0 j1 e).1, fun i j i0 i1 j0 j1 li lj e => ?_, fun i j i0 i1 j0 j1 li lj e => ?_⟩, by rw [KL]; exact ln, fun hl => ?_⟩
  · -- every number has a member
    rw [KL] at k1
    by_cases hk : k < sz.length
    · by_cases hfull : fullC cl sz look k
      · obtain ⟨i, hi, he⟩ := h.po k k0 hk
        have li := (F k k0 hk).1 hfull i hi.1 (by omega) he
        have : ∃ key, s.keeps k = some key := by
          cases hf : s.fresh i with
          | none => have := J.b i li hf; rw [he] at this; exact ⟨_, this.2⟩
          | some u => obtain ⟨key, h1, _⟩ := J.b1 i u hf (by rw [he]; exact hfull); rw [he] at h1; exact ⟨key, h1⟩
        obtain ⟨key, hkey⟩ := this
        obtain ⟨_, m, hm, h2, _, h4⟩ := J.f k key hkey
        have hmr := h.lm m hm
        refine ⟨m, hmr, ?_⟩
        rcases C m hmr.1 hmr.2 with ⟨_, e⟩ | ⟨u, fu, _⟩
        · rw [e, h2]
        · rw [h4] at fu; cases fu
      · have : ∃ i : Int, (0 ≤ i ∧ i < cl.length ∧ rd cl i = k) ∧ i ∉ look := by
          refine Classical.byContradiction fun hno => hfull ((F k k0 hk).2 fun i i0 i1 e => ?_)
          exact Decidable.byContradiction fun hni => hno ⟨i, ⟨i0, i1, e⟩, hni⟩
        obtain ⟨i, ⟨i0, i1, e⟩, hni⟩ := this
        refine ⟨i, ⟨i0, by omega⟩, ?_⟩
        rcases C i i0 (by omega) with ⟨_, e2⟩ | ⟨u, fu, _, li, _⟩
        · rw [e2, e]
        · exact absurd li hni
    · obtain ⟨key, hkey⟩ := J.e k (by omega) k1
      obtain ⟨_, _, m, hm, h2, h4⟩ := J.c key k hkey
      have hmr := h.lm m hm
      refine ⟨m, hmr, ?_⟩
      rcases C m hmr.1 hmr.2 with ⟨fn, _⟩ | ⟨u, fu, e, _⟩
      · rw [h4] at fn; cases fn
      · rw [h4] at fu; injection fu with fu; rw [e, fu]
  · obtain ⟨m, _, _, h2, _⟩ := (hout n).1 hn
    exact h2
  · -- what is alike stays together
    obtain ⟨hi, hj, hlab, harg⟩ := hij.out
    exact R4 i j hi.1 hi.2 hj.1 hj.2 (h.i2 i j hij) (sig_ext hlab.2.2.2.1 fun k hk => h.i2 _ _ (harg k hk))
  · rw [hsame i i0 i1 li, hsame j j0 j1 lj]
    exact (R2 i j i0 i1 j0 j1 e).2
  · intro es
    obtain ⟨n, ln', hf, _, hn⟩ := (hout i).1 li
    obtain ⟨p, hp, rfl⟩ := List.getElem_of_mem hn
    obtain ⟨hl, hat⟩ := sig_at es
    have hpj : p < (argsN nodes j).length := by omega
    have h1 := hat p hp
    rw [rd_get _ p hp, rd_get _ p hpj] at h1
    have hk := hkeep j j0 j1 lj _ (List.getElem_mem hpj)
    have hc := h.cr _ hk.2.1 hk.2.2
    have hi := (good_args G i i0 i1).2 _ (List.getElem_mem hp)
    rcases C _ hi.1 hi.2 with ⟨fn, _⟩ | ⟨u, fu, e2, _, hu, _⟩
    · exact hf fn
    · omega
  · -- no new class: nothing moved
    refine List.eq_nil_iff_forall_not_mem.2 fun a ha => ?_
    obtain ⟨n, hn, hf, _⟩ := (hout a).1 ha
    cases hfr : s.fresh n with
    | none => exact hf hfr
    | some u =>
      have := J.c _ u (J.a n u hfr).2
      omega
/-- With nothing left to look at the classes are just what is alike. -/
theorem Rv.done {nodes : List Nd} {ab : List (List Int)} {cl sz : List Int} (G : GoodG nodes) (h : Rv nodes ab cl sz []) (i j : Int) (i0 : 0 ≤ i) (i1 : i < nodes.length) (j0 : 0 ≤ j) (j1 : j < nodes.length) : rd cl i = rd cl j ↔ Alike nodes i j := by
  constructor
  · intro e
    refine ⟨fun a b => ((0 ≤ a ∧ a < nodes.length) ∧ (0 ≤ b ∧ b < nodes.length)) ∧ rd cl a = rd cl b, ⟨⟨⟨i0, i1⟩, ⟨j0, j1⟩⟩, e⟩, fun a b hab => ?_⟩
    obtain ⟨⟨⟨a0, a1⟩, ⟨b0, b1⟩⟩, e⟩ := hab
    have hl := h.i3 a b a0 a1 b0 b1 e
    refine ⟨⟨a0, a1⟩, ⟨b0, b1⟩, hl, fun k hk => ?_⟩
    have hs := h.i4 a b a0 a1 b0 b1 (by simp) (by simp) e
    obtain ⟨hlen, hat⟩ := sig_at hs
    have e2 := hat k hk
    have r1 := (good_args G a a0 a1).2 _ (List.getElem_mem hk)
    have r2 := (good_args G b b0 b1).2 _ (List.getElem_mem (by omega : k < (argsN nodes b).length))
    rw [rd_get _ k hk, rd_get _ k (by omega)] at e2 ⊢
    exact ⟨⟨r1, r2⟩, e2⟩
  · exact h.i2 i j
end Go.Proofs.YtciniaabmjoiiaaDoor
set_option linter.unusedVariables false
set_option linter.unusedSimpArgs false
namespace Go.Proofs.YtciniaabmjoiiaaDoor
open Go.RowKit Go.Proofs.YtciniaabmjoiiaaDoorW.PrintWords Go.Proofs.YtciniaabmjoiiaaDoorW.PrintLast Go.Proofs.YtciniaabmjoiiaaDoorW.PrintMore Go.Proofs.YtciniaabmjoiiaaDoor.PRef
structure SB where
  cl : List Int
  sz : List Int
  ab : List (List Int)
  known : ByteArray → Option Int
def pushA (i : Int) (ab : List (List Int)) (a : Int) : List (List Int) := ab.set a.toNat (ab.getD a.toNat [] ++ [i])
def cB (s : SB) (key : ByteArray) : Int := (s.known key).getD s.sz.length
def szB (s : SB) (key : ByteArray) : List Int := if (s.known key).isSome = true then s.sz else s.sz ++ [0]
def knB (s : SB) (key : ByteArray) : ByteArray → Option Int := if (s.known key).isSome = true then s.known else updF s.known key s.sz.length
def stepB (nodes : List Nd) (s : SB) (i : Int) : SB :=
  ⟨setI s.cl i (cB s (labT nodes i)), setI (szB s (labT nodes i)) (cB s (labT nodes i)) (rd (szB s (labT nodes i)) (cB s (labT nodes i)) + 1), (argsN nodes i).foldl (pushA i) s.ab, knB s (labT nodes i)⟩
def sB0 (N : Nat) : SB := ⟨List.replicate N 0, [], List.replicate N [], fun _ => none⟩
def sBk (nodes : List Nd) (k : Nat) : SB := (nums k).foldl (stepB nodes) (sB0 nodes.length)
theorem nums_succ (k : Nat) : nums (k + 1) = nums k ++ [(k : Int)] := by unfold nums; rw [List.range_succ, List.map_append]; rfl
theorem sBk_succ (nodes : List Nd) (k : Nat) : sBk nodes (k + 1) = stepB nodes (sBk nodes k) k := by unfold sBk; rw [nums_succ, List.foldl_append]; rfl
structure IB (nodes : List Nd) (k : Nat) (s : SB) : Prop where
  lc : s.cl.length = nodes.length
  la : s.ab.length = nodes.length
  ls : s.sz.length ≤ k
  cr : ∀ i : Int, 0 ≤ i → i < k → 0 ≤ rd s.cl i ∧ rd s.cl i < s.sz.length
  ct : ∀ c : Int, 0 ≤ c → c < s.sz.length → rd s.sz c = ((s.cl.take k).count c : Int)
  po : ∀ c : Int, 0 ≤ c → c < s.sz.length → ∃ i : Int, (0 ≤ i ∧ i < k) ∧ rd s.cl i = c
  kn : ∀ i : Int, 0 ≤ i → i < k → s.known (labT nodes i) = some (rd s.cl i)
  kr : ∀ key c, s.known key = some c → 0 ≤ c ∧ c < s.sz.length
  kd : ∀ a b c, s.known a = some c → s.known b = some c → a = b
  am : ∀ n a : Int, 0 ≤ n → n < nodes.length → (a ∈ s.ab.getD n.toNat [] ↔ (0 ≤ a ∧ a < k) ∧ n ∈ argsN nodes a)
  al : ∀ n : Nat, (s.ab.getD n []).length ≤ 8 * k
theorem getD_set (l : List (List Int)) (i j : Nat) (x : List Int) : (l.set i x).getD j [] = if i = j ∧ i < l.length then x else l.getD j [] := by
  simp only [List.getD_eq_getElem?_getD, List.getElem?_set]
  by_cases h : i = j
  · subst h
    by_cases h2 : i < l.length
    · simp [h2]
    · simp [h2]
  · simp [h]
theorem push_all (i : Int) (N : Nat) : ∀ (l : List Int) (ab : List (List Int)), ab.length = N → (∀ a ∈ l, 0 ≤ a ∧ a < N) → (l.foldl (pushA i) ab).length = N ∧ ∀ n : Int, 0 ≤ n → n < N → (∀ a : Int, a ∈ (l.foldl (pushA i) ab).getD n.toNat [] ↔ a ∈ ab.getD n.toNat [] ∨ (a = i ∧ n ∈ l)) := by
  intro l
  induction l with
  | nil => intro ab h _; exact ⟨h, fun n _ _ a => by simp⟩
  | cons b r ih =>
    intro ab h hl
    have hb := hl b (by simp)
    have e : (pushA i ab b).length = N := by unfold pushA; simp [h]
    obtain ⟨h1, h2⟩ := ih (pushA i ab b) e (fun a ha => hl a (by simp [ha]))
    refine ⟨h1, fun n n0 n1 a => ?_⟩
    rw [List.foldl_cons, h2 n n0 n1]
    have e2 : (pushA i ab b).getD n.toNat [] = if b = n then ab.getD n.toNat [] ++ [i] else ab.getD n.toNat [] := by
      unfold pushA
      rw [getD_set]
      by_cases hbn : b = n
      · subst hbn; rw [if_pos ⟨rfl, by omega⟩, if_pos rfl]
      · rw [if_neg (by omega), if_neg hbn]
    rw [e2]
    by_cases hbn : b = n
    · subst hbn
      rw [if_pos rfl]
      rw [List.mem_append, List.mem_singleton, List.mem_cons]
      constructor
      · rintro ((h | h) | h)
        · exact .inl h
        · exact .inr ⟨h, .inl rfl⟩
        · exact .inr ⟨h.1, .inr h.2⟩
      · rintro (h | h)
        · exact .inl (.inl h)
        · exact .inl (.inr h.1)
    · rw [if_neg hbn]
      simp only [List.mem_cons]
      constructor
      · rintro (h | h)
        · exact .inl h
        · exact .inr ⟨h.1, .inr h.2⟩
      · rintro (h | ⟨h, h' | h'⟩)
        · exact .inl h
        · exact absurd h'.symm hbn
        · exact .inr ⟨h, h'⟩
theorem push_len (i : Int) : ∀ (l : List Int) (ab : List (List Int)) (n : Nat), ((l.foldl (pushA i) ab).getD n []).length ≤ (ab.getD n []).length + l.length := by
  intro l
  induction l with
  | nil => intro ab n; simp
  | cons b r ih =>
    intro ab n
    have h1 := ih (pushA i ab b) n
    have h2 : ((pushA i ab b).getD n []).length ≤ (ab.getD n []).length + 1 := by
      unfold pushA
      rw [getD_set]
      split
      · rename_i h; rw [← h.1]; simp
      · omega
    rw [List.foldl_cons, List.length_cons]; omega
theorem take_setI (l : List Int) (k : Nat) (h : k < l.length) (x : Int) : (setI l (k : Int) x).take (k + 1) = l.take k ++ [x] := by
  unfold setI
  simp only [Int.toNat_natCast]
  rw [List.take_succ_eq_append_getElem (by simpa using h), List.take_set]
  simp
  rw [List.set_eq_of_length_le (by simp; omega)]
theorem mid_cases (s : SB) (key : ByteArray) : (∃ c, s.known key = some c ∧ cB s key = c ∧ szB s key = s.sz ∧ knB s key = s.known) ∨ (s.known key = none ∧ cB s key = s.sz.length ∧ szB s key = s.sz ++ [0] ∧ knB s key = updF s.known key s.sz.length) := by
  unfold cB szB knB
  cases h : s.known key with
  | none => right; simp
  | some c => left; exact ⟨c, rfl, by simp⟩
theorem IB.step {nodes : List Nd} (G : GoodG nodes) {k : Nat} {s : SB} (h : IB nodes k s) (hk : k < nodes.length) : IB nodes (k + 1) (stepB nodes s k) := by
  have hlc := h.lc
  have hargs := good_args G (k : Int) (by omega) (by omega)
  obtain ⟨p1, p2⟩ := push_all (k : Int) nodes.length (argsN nodes k) s.ab h.la hargs.2
  have C := mid_cases s (labT nodes k)
  have hc : 0 ≤ cB s (labT nodes k) ∧ cB s (labT nodes k) < (szB s (labT nodes k)).length := by
    rcases C with ⟨c, h1, h2, h3, _⟩ | ⟨h1, h2, h3, _⟩
    · rw [h2, h3]; exact h.kr _ _ h1
    · rw [h2, h3]; simp; omega
  have hzl : s.sz.length ≤ (szB s (labT nodes k)).length ∧ (szB s (labT nodes k)).length ≤ s.sz.length + 1 := by
    rcases C with ⟨c, _, _, h3, _⟩ | ⟨_, _, h3, _⟩ <;> rw [h3] <;> simp
  have hrz : ∀ i, rd (szB s (labT nodes k)) i = rd s.sz i := by
    intro i
    rcases C with ⟨c, _, _, h3, _⟩ | ⟨_, _, h3, _⟩ <;> rw [h3]
    rw [rd_snocZ]
  have hkn : knB s (labT nodes k) (labT nodes k) = some (cB s (labT nodes k)) := by
    rcases C with ⟨c, h1, h2, _, h4⟩ | ⟨_, h2, _, h4⟩
    · rw [h4, h2, h1]
    · rw [h4, h2, updF_same]
  have hko : ∀ key, key ≠ labT nodes k → knB s (labT nodes k) key = s.known key := by
    intro key hne
    rcases C with ⟨c, _, _, _, h4⟩ | ⟨_, _, _, h4⟩
    · rw [h4]
    · rw [h4, updF_ne _ _ hne]
  have hks : ∀ key c, s.known key = some c → knB s (labT nodes k) key = some c := by
    intro key c hs
    rcases C with ⟨c', _, _, _, h4⟩ | ⟨hn, _, _, h4⟩
    · rw [h4]; exact hs
    · rw [h4, updF_ne]; exact hs
      intro e; rw [e, hn] at hs; cases hs
  have hrc : ∀ i : Int, 0 ≤ i → rd (setI s.cl (k : Int) (cB s (labT nodes k))) i = if i = k then cB s (labT nodes k) else rd s.cl i := by
    intro i i0
    rw [rd_setI]
    by_cases e : i = k
    · subst e; rw [if_pos ⟨rfl, by simp; omega⟩, if_pos rfl]
    · rw [if_neg (by omega), if_neg e]
  have hout : ∀ c : Int, s.sz.length ≤ c → (s.cl.take k).count c = 0 := by
    intro c hc0
    rw [List.count_eq_zero]
    intro hm
    obtain ⟨i, hi, e⟩ := List.getElem_of_mem hm
    rw [List.length_take] at hi
    rw [List.getElem_take] at e
    have h1 := h.cr (i : Int) (by omega) (by omega)
    rw [rd_get s.cl i (by omega), e] at h1
    omega
  refine ⟨by show (setI _ _ _).length = _; rw [setI_len, hlc], p1, by show (setI _ _ _).length ≤ _; rw [setI_len]; have := h.ls; omega, fun i i0 i1 => ?_, fun c c0 c1 => ?_, fun c c0 c1 => ?_, fun i i0 i1 => ?_, fun key c hkc => ?_, fun a b c ha hb => ?_, fun n a n0 n1 => ?_, fun n => ?_⟩
  · show 0 ≤ rd (setI s.cl _ _) i ∧ rd (setI s.cl _ _) i < ((setI _ _ _).length : Int)
    rw [setI_len, hrc i i0]
    split
    · omega
    · have := h.cr i i0 (by omega); omega
  · have c1 : c < ((setI (szB s (labT nodes k)) _ _).length : Int) := c1
    rw [setI_len] at c1
    show rd (setI (szB s (labT nodes k)) _ _) c = (((setI s.cl (k : Int) _).take (k + 1)).count c : Int)
    rw [take_setI _ _ (by omega), List.count_append, rd_setI, hrz, hrz]
    have key : ∀ c : Int, 0 ≤ c → rd s.sz c = ((s.cl.take k).count c : Int) := by
      intro c c0
      by_cases hcz : c < s.sz.length
      · exact h.ct c c0 hcz
      · rw [rd_out _ _ (by omega), hout c (by omega)]; rfl
    rw [key c c0, key _ hc.1]
    by_cases e : cB s (labT nodes k) = c
    · rw [e, if_pos ⟨rfl, by omega⟩]; simp
    · rw [if_neg (by omega)]; simp [e]
  · have c1 : c < ((setI (szB s (labT nodes k)) _ _).length : Int) := c1
    rw [setI_len] at c1
    by_cases hcz : c < s.sz.length
    · obtain ⟨i, hi, he⟩ := h.po c c0 hcz
      refine ⟨i, ⟨hi.1, by omega⟩, ?_⟩
      show rd (setI s.cl _ _) i = c
      rw [hrc i hi.1, if_neg (by omega), he]
    · refine ⟨k, ⟨by omega, by omega⟩, ?_⟩
      show rd (setI s.cl _ _) _ = c
      rw [hrc _ (by omega), if_pos rfl]
      rcases C with ⟨c', h1, h2, h3, _⟩ | ⟨h1, h2, h3, _⟩
      · rw [h3] at c1; omega
      · rw [h3] at c1; simp at c1; rw [h2]; omega
  · show knB s (labT nodes k) (labT nodes i) = some (rd (setI s.cl _ _) i)
    rw [hrc i i0]
    by_cases e : i = k
    · subst e; rw [if_pos rfl, hkn]
    · rw [if_neg e]
      exact hks _ _ (h.kn i i0 (by omega))
  · have hkc : knB s (labT nodes k) key = some c := hkc
    show 0 ≤ c ∧ c < ((setI _ _ _).length : Int)
    rw [setI_len]
    by_cases e : key = labT nodes k
    · subst e; rw [hkn] at hkc; injection hkc with hkc; rw [← hkc]; exact hc
    · rw [hko key e] at hkc; have := h.kr _ _ hkc; omega
  · have ha : knB s (labT nodes k) a = some c := ha
    have hb : knB s (labT nodes k) b = some c := hb
    rcases C with ⟨c', _, _, _, h4⟩ | ⟨hn, h2, _, h4⟩
    · rw [h4] at ha hb; exact h.kd a b c ha hb
    · rw [h4] at ha hb
      by_cases ea : a = labT nodes k <;> by_cases eb : b = labT nodes k
      · rw [ea, eb]
      · subst ea; rw [updF_same] at ha; rw [updF_ne _ _ eb] at hb
        injection ha with ha; have := h.kr _ _ hb; omega
      · subst eb; rw [updF_same] at hb; rw [updF_ne _ _ ea] at ha
        injection hb with hb; have := h.kr _ _ ha; omega
      · rw [updF_ne _ _ ea] at ha; rw [updF_ne _ _ eb] at hb; exact h.kd a b c ha hb
  · show a ∈ ((argsN nodes k).foldl (pushA k) s.ab).getD n.toNat [] ↔ _
    rw [p2 n n0 n1, h.am n a n0 n1]
    constructor
    · rintro (⟨h1, h2⟩ | ⟨h1, h2⟩)
      · exact ⟨⟨h1.1, by omega⟩, h2⟩
      · subst h1; exact ⟨⟨by omega, by omega⟩, h2⟩
    · rintro ⟨h1, h2⟩
      by_cases e : a = k
      · subst e; exact .inr ⟨rfl, h2⟩
      · exact .inl ⟨⟨h1.1, by omega⟩, h2⟩
  · show (((argsN nodes k).foldl (pushA k) s.ab).getD n []).length ≤ _
    have h1 := push_len (k : Int) (argsN nodes k) s.ab n
    have h2 := h.al n
    have h3 := hargs.1
    omega
theorem IB.start (nodes : List Nd) : IB nodes 0 (sB0 nodes.length) := by
  refine ⟨by simp [sB0], by simp [sB0], by simp [sB0], fun i i0 i1 => by omega, fun c c0 c1 => by simp [sB0] at c1; omega, fun c c0 c1 => by simp [sB0] at c1; omega, fun i i0 i1 => by omega, fun key c h => by simp [sB0] at h, fun a b c h => by simp [sB0] at h, fun n a n0 n1 => ?_, fun n => ?_⟩
  · constructor
    · intro hm
      simp [sB0, List.getD_eq_getElem?_getD, List.getElem?_replicate] at hm
      split at hm <;> simp at hm
    · intro h; omega
  · simp [sB0, List.getD_eq_getElem?_getD, List.getElem?_replicate]
    split <;> simp
theorem IB.at {nodes : List Nd} (G : GoodG nodes) : ∀ k, k ≤ nodes.length → IB nodes k (sBk nodes k) := by
  intro k
  induction k with
  | zero => intro _; exact IB.start nodes
  | succ k ih => intro hk; rw [sBk_succ]; exact (ih (by omega)).step G (by omega)
theorem begin_rv {nodes : List Nd} (G : GoodG nodes) : Rv nodes (sBk nodes nodes.length).ab (sBk nodes nodes.length).cl (sBk nodes nodes.length).sz (nums nodes.length) := by
  have h := IB.at G nodes.length (Nat.le_refl _)
  generalize sBk nodes nodes.length = s at *
  have g1 := G.1
  refine ⟨h.lc, h.la, h.cr, fun k k0 k1 => ?_, h.po, nums_nodup _, fun n hn => mem_nums.1 hn, h.am, fun n => by have := h.al n; omega, fun i j hij => ?_, fun i j i0 i1 j0 j1 e => ?_, fun i j i0 i1 j0 j1 li => absurd (mem_nums.2 ⟨i0, i1⟩) li, fun i j i0 i1 j0 j1 _ lj => absurd (mem_nums.2 ⟨j0, j1⟩) lj⟩
  · rw [h.ct k k0 k1, ← h.lc, List.take_length]
  · obtain ⟨hi, hj, hlab, _⟩ := hij.out
    have e := (labT_iff G i j hi.1 hi.2 hj.1 hj.2).2 hlab
    have h1 := h.kn i hi.1 hi.2
    rw [e, h.kn j hj.1 hj.2] at h1
    injection h1 with h1
    exact h1.symm
  · have h1 := h.kn i i0 i1
    rw [e] at h1
    exact (labT_iff G i j i0 i1 j0 j1).1 (h.kd _ _ _ h1 (h.kn j j0 j1))
end Go.Proofs.YtciniaabmjoiiaaDoor
set_option linter.unusedVariables false
set_option linter.unusedSimpArgs false
namespace Go.Proofs.YtciniaabmjoiiaaDoor
open Go.RowKit Go.Shelf Go.Maps Go.Proofs.YtciniaabmjoiiaaDoorW.PrintWords Go.Proofs.YtciniaabmjoiiaaDoorW.PrintLast Go.Proofs.YtciniaabmjoiiaaDoorW.PrintMore Go.Proofs.YtciniaabmjoiiaaDoor.PRef
abbrev okB (vC vS : Value) (k : Nat) : Prop := some k ≠ vC.ownBlock ∧ some k ≠ vS.ownBlock
structure BSt (w0 w : World) (pb : Nat) (A : Option Addr) (c : Nat) (nodes : List Nd) (vB vC vS vA : Value) (cl sz : List Int) (ab : List (List Int)) : Prop where
  p : PSt w0 w pb A c nodes vB vC vS vA cl sz ab
  s : Kd.S (Kd.slice 3 (Kd.int .i64)) 23 w w0.heap.size (okB vC vS) vA ab
section
variable {w0 w : World} {pb : Nat} {A : Option Addr} {c : Nat} {nodes : List Nd} {vB vC vS vA vL : Value} {cl sz l : List Int} {ab : List (List Int)} {g n cap : Nat}
theorem BSt.below (h : BSt w0 w pb A c nodes vB vC vS vA cl sz ab) {w1 : World} (hb : Below w.heap.size w w1) : BSt w0 w1 pb A c nodes vB vC vS vA cl sz ab := ⟨h.p.below hb, Kd.S_below h.s hb⟩
theorem BSt.mapped (h : BSt w0 w pb A c nodes vB vC vS vA cl sz ab) {w1 : World} {b : Nat} (hg : w.grownBy w1 (some b)) (hm : ∃ es ck, w.heap[b]? = some (.map es ck)) (hb : w0.heap.size ≤ b) : BSt w0 w1 pb A c nodes vB vC vS vA cl sz ab := by
  refine ⟨h.p.mapped hg hm hb, ?_⟩
  obtain ⟨es, ck, hm⟩ := hm
  exact Kd.S_mono (Kd.S_grown (Kd.S_bound h.s) hg (fun k hk he => by
      obtain ⟨_, _, _, q, hq, cells, hc⟩ := hk
      injection he with he
      subst he
      rw [hm] at hc; cases hc)) (fun _ hk => hk.1)
theorem BSt.grow (h : BSt w0 w pb A c nodes vB vC vS vA cl sz ab) {w1 : World} {v1 : Value} {sz1 : List Int} (hr : (Kd.int .i64).R 3 w1 w0.heap.size (fun k => some k ≠ vC.ownBlock) v1 sz1)
    (hg : w.grownBy w1 vS.ownBlock) (hat : v1.ownBlock = vS.ownBlock ∨ ∃ b, v1.ownBlock = some b ∧ w.heap.size ≤ b) : BSt w0 (w1.setCell ⟨pb, 3, none⟩ v1) pb A c nodes vB vC v1 vA cl sz1 ab := by
  have hne : some pb ≠ vS.ownBlock := Kd.R_ne h.p.rs h.p.blk (by decide)
  exact ⟨h.p.grow hr hg hat, Kd.S_set (Kd.S_after h.s hg hat) (blk_grown h.p.blk hg hne) (by decide) 3 v1⟩
theorem BSt.setC (h : BSt w0 w pb A c nodes vB (.slice (some ⟨g, 0, none⟩) n cap) vS vA cl sz ab) (i x : Int) : BSt w0 (w.setCell ⟨g, i.toNat, none⟩ (.int .i64 x)) pb A c nodes vB (.slice (some ⟨g, 0, none⟩) n cap) vS vA (setI cl i x) sz ab :=
  ⟨h.p.setC i x, Kd.S_grown h.s (Kd.R_putg h.p.rc i x).2 (fun k hk => hk.1)⟩
theorem BSt.setS (h : BSt w0 w pb A c nodes vB vC (.slice (some ⟨g, 0, none⟩) n cap) vA cl sz ab) (i x : Int) : BSt w0 (w.setCell ⟨g, i.toNat, none⟩ (.int .i64 x)) pb A c nodes vB vC (.slice (some ⟨g, 0, none⟩) n cap) vA cl (setI sz i x) ab :=
  ⟨h.p.setS i x, Kd.S_grown h.s (Kd.R_putg h.p.rs i x).2 (fun k hk => hk.2)⟩
/-- A row above, as it is appended to; and the state behind. -/
theorem BSt.push (h : BSt w0 w pb A c nodes vB vC vS (.slice (some ⟨g, 0, none⟩) n cap) cl sz ab) (a : Int) (h0 : 0 ≤ a) (h1 : a < n) :
    ∃ (va : Value) (oki : Nat → Prop), w.cell? ⟨g, a.toNat, none⟩ = some va ∧ w.frozen? ⟨g, a.toNat, none⟩ = false ∧ (Kd.int .i64).R 3 w w0.heap.size oki va (ab.getD a.toNat []) ∧ (∀ k, oki k → okB vC vS k ∧ k ≠ g) ∧
      ∀ (w' w1 : World) (v1 : Value) (row : List Int), Below w.heap.size w w' → (Kd.int .i64).R 3 w1 w0.heap.size (fun k => oki k ∨ okB vC vS k ∧ w.heap.size ≤ k) v1 row → w'.grownBy w1 va.ownBlock →
        BSt w0 (w1.setCell ⟨g, a.toNat, none⟩ v1) pb A c nodes vB vC vS (.slice (some ⟨g, 0, none⟩) n cap) cl sz (ab.set a.toNat row) := by
  obtain ⟨oki, cs, hcl, hM, hcc, hfr, hoki, hH⟩ := Kd.S_elem h.s [] a h0 h1
  obtain ⟨va, rfl, hR⟩ := hM
  have e1 : a.toNat * (Kd.slice 3 (Kd.int .i64)).sz + 0 = a.toNat := by show a.toNat * 1 + 0 = _; omega
  have hcell := hcc 0 va rfl
  have hfz := hfr 0
  rw [e1] at hcell hfz
  refine ⟨va, oki, hcell, hfz, hR, hoki, fun w' w1 v1 row hbb hr hg => ?_⟩
  have hgC := h.s
  have hg0 : okB vC vS g := (Kd.S_R h.s).1 g (by simp [Value.ownBlock])
  have hgb : w0.heap.size ≤ g := Kd.S_base h.s g (by simp [Value.ownBlock])
  have hva : ∀ k, va.ownBlock = some k → oki k := hR.1
  have H1 := Kd.H_widen hH
  have H2 := Kd.H_below H1 hbb
  have H3 := Kd.H_grown H2 hg (fun k hk => .inl (hva k hk))
  have hlt : g < w.heap.size := Kd.S_lt h.s g (by simp [Value.ownBlock])
  have hone : v1.oneCell' = true := by obtain ⟨A9, c9, e9⟩ := Kd.R_slice hr; rw [e9]; rfl
  obtain ⟨H4, hg4⟩ := Kd.H_seg (seg := [v1]) (j := 0) H3 h0 h1 (by show 0 + 1 ≤ 1; omega) (by simpa using hone)
  have e2 : w1.setCells g (a.toNat * (Kd.slice 3 (Kd.int .i64)).sz + 0) [v1] = w1.setCell ⟨g, a.toNat, none⟩ v1 := by rw [e1]; rfl
  have e3 : (([va] : List Value).take 0 ++ [v1] ++ ([va] : List Value).drop (0 + [v1].length)) = [v1] := by simp
  rw [e2] at H4 hg4
  rw [e3] at H4
  have hokw : ∀ k, (oki k ∨ okB vC vS k ∧ w.heap.size ≤ k) → okB vC vS k ∧ k ≠ g := fun k hk => hk.elim (hoki k) (fun h2 => ⟨h2.1, by omega⟩)
  have hr4 : (Kd.int .i64).R 3 (w1.setCell ⟨g, a.toNat, none⟩ v1) w0.heap.size (fun k => oki k ∨ okB vC vS k ∧ w.heap.size ≤ k) v1 row := Kd.R_grown hr hg4 (fun k hk he => (hokw k hk).2 (by injection he))
  have hS := Kd.H_back (x' := row) H4 ⟨v1, rfl, hr4⟩ (fun _ hk => hk)
  -- what lies elsewhere
  have hb2 : Below w0.heap.size w0 (w1.setCell ⟨g, a.toNat, none⟩ v1) := by
    have b1 : Below w0.heap.size w0 w' := h.p.hb.trans ⟨hbb.os, hbb.tape, hbb.output, hbb.size, fun i hi => hbb.block i (Nat.lt_of_lt_of_le hi h.p.hb.size)⟩
    have b2 := b1.grown hg b1.size (fun k hk => Kd.R_base hR k hk)
    exact b2.grown hg4 b2.size (fun k hk => by injection hk with hk; omega)
  have far : ∀ k, k < w.heap.size → some k ≠ va.ownBlock → k ≠ g → (w1.setCell ⟨g, a.toNat, none⟩ v1).heap[k]? = w.heap[k]? := fun k hk n1 n2 => by
    have s1 := hbb.size
    have s2 := hg.size
    rw [hg4.block k (by omega) (fun he => n2 (by injection he)), hg.block k (by omega) n1, hbb.block k hk]
  have hpv : some pb ≠ va.ownBlock := Kd.R_ne hR h.p.blk (by decide)
  have hpg : pb ≠ g := fun he => (Kd.R_ne (Kd.S_R h.s) h.p.blk (by decide)) (by rw [he]; simp [Value.ownBlock])
  have mv : ∀ {v : Value} {xs : List Int} {ok : Nat → Prop}, (Kd.int .i64).R 3 w w0.heap.size ok v xs → (∀ k, v.ownBlock = some k → ¬ okB vC vS k) → (Kd.int .i64).R 3 (w1.setCell ⟨g, a.toNat, none⟩ v1) w0.heap.size ok v xs := fun {v xs ok} hv hn => by
    have ht := Kd.R_tight rfl hv
    refine Kd.R_mono (Kd.R_move (Kd.R_bound ht) (fun k hk => far k hk.2.2.1 (fun he => hn k hk.1.symm (hoki k (hva k he.symm)).1) (fun he => hn k hk.1.symm (he ▸ hg0)))) (fun k hk => hv.1 k hk.1.symm)
  refine ⟨⟨(far pb (blk_lt h.p.blk) hpv hpg).trans h.p.blk, hb2, h.p.le, mv h.p.rc (fun k hk h => h.1 hk.symm), mv h.p.rs (fun k hk h => h.2 hk.symm), Kd.S_R hS⟩, hS⟩
end
/-- With the node that is looked at, in its box. -/
structure BN (w0 w : World) (pb : Nat) (A : Option Addr) (c : Nat) (nodes : List Nd) (vB vC vS vA : Value) (cl sz : List Int) (ab : List (List Int)) (bk : Nat) (cs : Array Value) : Prop where
  b : BSt w0 w pb A c nodes vB vC vS vA cl sz ab
  x : w.heap[bk]? = some (.cells cs 35 (0, 0))
section
variable {w0 w : World} {pb bk : Nat} {cs : Array Value} {A : Option Addr} {c : Nat} {nodes : List Nd} {vB vC vS vA vL : Value} {cl sz l : List Int} {ab : List (List Int)} {g n cap : Nat}
theorem BN.below (h : BN w0 w pb A c nodes vB vC vS vA cl sz ab bk cs) {w1 : World} (hb : Below w.heap.size w w1) : BN w0 w1 pb A c nodes vB vC vS vA cl sz ab bk cs := ⟨h.b.below hb, (hb.block bk (blk_lt h.x)).trans h.x⟩
theorem BN.mapped (h : BN w0 w pb A c nodes vB vC vS vA cl sz ab bk cs) {w1 : World} {b : Nat} (hg : w.grownBy w1 (some b)) (hm : ∃ es ck, w.heap[b]? = some (.map es ck)) (hb : w0.heap.size ≤ b) : BN w0 w1 pb A c nodes vB vC vS vA cl sz ab bk cs := by
  refine ⟨h.b.mapped hg hm hb, ?_⟩
  obtain ⟨es, ck, hm⟩ := hm
  refine (hg.block bk (blk_lt h.x) (fun he => ?_)).trans h.x
  injection he with he
  have := h.x; rw [he, hm] at this; cases this
theorem BN.grow (h : BN w0 w pb A c nodes vB vC vS vA cl sz ab bk cs) {w1 : World} {v1 : Value} {sz1 : List Int} (hr : (Kd.int .i64).R 3 w1 w0.heap.size (fun k => some k ≠ vC.ownBlock) v1 sz1)
    (hg : w.grownBy w1 vS.ownBlock) (hat : v1.ownBlock = vS.ownBlock ∨ ∃ b, v1.ownBlock = some b ∧ w.heap.size ≤ b) : BN w0 (w1.setCell ⟨pb, 3, none⟩ v1) pb A c nodes vB vC v1 vA cl sz1 ab bk cs := by
  refine ⟨h.b.grow hr hg hat, ?_⟩
  have hne : bk ≠ pb := by
    intro he; have h1 := h.x; have h2 := h.b.p.blk; rw [he, h2] at h1; injection h1 with h1; injection h1 with _ h1 _; exact absurd h1 (by decide)
  exact (Below.heap_setCell w1 ⟨pb, 3, none⟩ v1 bk hne).trans (blk_grown h.x hg (Kd.R_ne h.b.p.rs h.x (by decide)))
theorem BN.setC (h : BN w0 w pb A c nodes vB (.slice (some ⟨g, 0, none⟩) n cap) vS vA cl sz ab bk cs) (i x : Int) : BN w0 (w.setCell ⟨g, i.toNat, none⟩ (.int .i64 x)) pb A c nodes vB (.slice (some ⟨g, 0, none⟩) n cap) vS vA (setI cl i x) sz ab bk cs :=
  ⟨h.b.setC i x, blk_grown h.x (Kd.R_putg h.b.p.rc i x).2 (Kd.R_ne h.b.p.rc h.x (by decide))⟩
theorem BN.setS (h : BN w0 w pb A c nodes vB vC (.slice (some ⟨g, 0, none⟩) n cap) vA cl sz ab bk cs) (i x : Int) : BN w0 (w.setCell ⟨g, i.toNat, none⟩ (.int .i64 x)) pb A c nodes vB vC (.slice (some ⟨g, 0, none⟩) n cap) vA cl (setI sz i x) ab bk cs :=
  ⟨h.b.setS i x, blk_grown h.x (Kd.R_putg h.b.p.rs i x).2 (Kd.R_ne h.b.p.rs h.x (by decide))⟩
end
/-- The map of the labels while the rows are written. -/
theorem MapF.rows {K V : Type} {L : KVL K V} {w w1 : World} {b n m : Nat} {f : K → Option V} (h : MapF L w b n m f) {g : Nat} (hg : w.grownBy w1 (some g)) {cells : Array Value} {t : TypeId} {fr : Nat × Nat} (hc : w.heap[g]? = some (.cells cells t fr)) : MapF L w1 b n m f := by
  refine h.grown hg (fun he => ?_)
  injection he with he
  exact h.ne hc he
theorem name_size {kd : Int} {nm : ByteArray} {num : Int} {l : List Int} {n : Int} (h : goodB kd nm num l n = true) : nm.size ≤ 32 := by
  have key : nameB nm = true → nm.size ≤ 32 := fun h => by unfold nameB at h; simp at h; omega
  unfold goodB at h
  repeat' split at h
  · simp at h; have := (toList_nil nm).1 (by simpa using h.2.1); omega
  · simp at h; exact key h.2.1
  · simp at h; have := (toList_nil nm).1 (by simpa using h.2.1); omega
  · simp at h; exact key h.1
  · cases h
theorem labT_size {nodes : List Nd} (G : GoodG nodes) (k : Nat) (hk : k < nodes.length) : (labT nodes k).size ≤ 100 := by
  have h1 := G.2 (k : Int) (by omega) (by omega)
  have h2 := good_args G (k : Int) (by omega) (by omega)
  have h3 := G.1
  unfold goodN at h1
  have h4 := name_size h1
  have hk2 := kind_cases h1
  have e1 := itoa_len (k : Int) (by omega) (by omega)
  have e3 := itoa_len ((ndT nodes k).f3.length : Int) (by omega) (by have := h2.1; unfold argsN at this; show ((rd_T35 nodes k).f3.length : Int) ≤ _; omega)
  have e : (labT nodes k).size = (labelD (ndT nodes k).f0 (ndT nodes k).f1 (ndT nodes k).f2 (ndT nodes k).f3.length k).length := by
    rw [← labelD_eq]; rfl
  have e4 : (ndT nodes k).f1.data.toList.length ≤ 32 := by simpa using h4
  rw [e]
  unfold labelD
  split
  · simp; omega
  · split
    · rename_i h
      have e2 := itoa_len (ndT nodes k).f2 (by rcases hk2 with a | a | a | a <;> omega) (by rcases hk2 with a | a | a | a <;> omega)
      simp; omega
    · split
      · simp at e4 ⊢; omega
      · simp at e4 ⊢; omega
/-- What make leaves: the row of its zeros. -/
theorem R_made {α : Type} (d : Kd α) (base e : Nat) (W : World) (z : Value) (m : Nat) (z0 : α) {ok okp : Nat → Prop} (hz : z.cells.size = d.sz) (hs0 : 0 < d.sz) (hzero : d.M W base okp z0 z.cells.toList) (hok : ∀ k, okp k → ok k) (hfresh : ok W.heap.size) (hbase : base ≤ W.heap.size) (hm : m ≤ 9223372036854775807) :
    d.R e (W.alloc (.cells (madeCells z.cells (m * d.sz)) e)) base ok (.slice (some ⟨W.heap.size, 0, none⟩) m m) (List.replicate m z0) := by
  refine ⟨fun k hk => ?_, (madeCells z.cells (m * d.sz)).toList, ?_, ?_⟩
  · have : W.heap.size = k := by simpa [Value.ownBlock] using hk
    subst this
    exact hfresh
  · have h2 := World.ownsRow_lit (base := base) (e := e) (size := d.sz) W (madeCells z.cells (m * d.sz)) m hbase (by simpa [maxLen] using hm) (by simpa using (Kd.reps_made hz hs0 hzero m).1)
    simpa using h2
  · refine (Kd.reps_made hz hs0 hzero m).imp_ (fun p c hp => d.M_mono (fun k hk => ⟨hok k hk.1, fun he => ?_⟩) (Kd.M_below (d.M_bound hp) (below_alloc (Below.refl _ _) _)))
    have h3 : k = W.heap.size := by simpa [Value.ownBlock] using he
    have := hk.2.2.1
    omega
end Go.Proofs.YtciniaabmjoiiaaDoor
