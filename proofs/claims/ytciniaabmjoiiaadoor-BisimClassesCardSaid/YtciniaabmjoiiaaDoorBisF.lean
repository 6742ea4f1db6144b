import Derived.Test.YtciniaabmjoiiaaDoorBisI
import Derived.Test.YtciniaabmjoiiaaDoorBisE
/- Classes are numbered by their least nodes; the walk of bisim.refined. -/
set_option linter.unusedVariables false
set_option linter.unusedSimpArgs false
namespace Go.Proofs.YtciniaabmjoiiaaDoor
open Go.RowKit Go.Proofs.YtciniaabmjoiiaaDoorW.PrintWords Go.Proofs.YtciniaabmjoiiaaDoorW.PrintLast Go.Proofs.YtciniaabmjoiiaaDoorW.PrintMore Go.Proofs.YtciniaabmjoiiaaDoor.PRef
def stepN (p : (Int → Option Int) × Nat) (c : Int) : (Int → Option Int) × Nat := if (p.1 c).isSome = true then p else (updF p.1 c p.2, p.2 + 1)
def numK (cl : List Int) (k : Nat) : (Int → Option Int) × Nat := (cl.take k).foldl stepN (fun _ => none, 0)
def numV (cl : List Int) (k : Nat) : Int := ((numK cl k).1 (rd cl k)).getD (numK cl k).2
theorem numK_succ (cl : List Int) (k : Nat) (h : k < cl.length) : numK cl (k + 1) = stepN (numK cl k) (rd cl k) := by
  unfold numK; rw [foldl_take _ _ _ _ h, rd_get cl k h]
structure NumI (cl : List Int) (k : Nat) : Prop where
  lt : ∀ c n, (numK cl k).1 c = some n → 0 ≤ n ∧ n < (numK cl k).2
  inj : ∀ c c' n, (numK cl k).1 c = some n → (numK cl k).1 c' = some n → c = c'
  at_ : ∀ i : Nat, i < k → (numK cl k).1 (rd cl i) = some (numV cl i)
  few : (numK cl k).2 ≤ k
theorem NumI.step {cl : List Int} {k : Nat} (h : NumI cl k) (hk : k < cl.length) : NumI cl (k + 1) := by
  have e := numK_succ cl k hk
  have hv : numV cl k = ((numK cl k).1 (rd cl k)).getD (numK cl k).2 := rfl
  unfold stepN at e
  cases hf : (numK cl k).1 (rd cl k) with
  | some n =>
    rw [hf] at e hv
    simp at e hv
    have e1 : (numK cl (k + 1)).1 = (numK cl k).1 := by rw [e]
    have e2 : (numK cl (k + 1)).2 = (numK cl k).2 := by rw [e]
    refine ⟨by rw [e1, e2]; exact h.lt, by rw [e1]; exact h.inj, fun i hi => ?_, by rw [e2]; have := h.few; omega⟩
    rw [e1]
    by_cases hik : i = k
    · subst hik; rw [hf, hv]
    · exact h.at_ i (by omega)
  | none =>
    rw [hf] at e hv
    simp at e hv
    have e1 : (numK cl (k + 1)).1 = updF (numK cl k).1 (rd cl k) (numK cl k).2 := by rw [e]
    have e2 : (numK cl (k + 1)).2 = (numK cl k).2 + 1 := by rw [e]
    refine ⟨fun c n hc => ?_, fun c c' n hc hc' => ?_, fun i hi => ?_, by rw [e2]; have := h.few; omega⟩
    · rw [e1] at hc; rw [e2]
      by_cases ec : c = rd cl k
      · subst ec; rw [updF_same] at hc; injection hc with hc; omega
      · rw [updF_ne _ _ ec] at hc; have := h.lt c n hc; omega
    · rw [e1] at hc hc'
      by_cases ec : c = rd cl k <;> by_cases ec' : c' = rd cl k
      · rw [ec, ec']
      · subst ec; rw [updF_same] at hc; rw [updF_ne _ _ ec'] at hc'; injection hc with hc; have := h.lt c' n hc'; omega
      · subst ec'; rw [updF_same] at hc'; rw [updF_ne _ _ ec] at hc; injection hc' with hc'; have := h.lt c n hc; omega
      · rw [updF_ne _ _ ec] at hc; rw [updF_ne _ _ ec'] at hc'; exact h.inj c c' n hc hc'
    · rw [e1]
      by_cases hik : i = k
      · subst hik; rw [updF_same, hv]
      · have h1 := h.at_ i (by omega)
        rw [updF_ne]; exact h1
        intro e3; rw [e3, hf] at h1; cases h1
theorem NumI.all (cl : List Int) : ∀ k, k ≤ cl.length → NumI cl k := by
  intro k
  induction k with
  | zero => intro _; exact ⟨fun c n h => by simp [numK] at h, fun c c' n h => by simp [numK] at h, fun i hi => by omega, by simp [numK]⟩
  | succ k ih => intro hk; exact (ih (by omega)).step (by omega)
/-- What the classes of a graph are: alike nodes, numbered by the least of each class. -/
structure Spec (nodes : List Nd) (L : List Int) : Prop where
  len : L.length = nodes.length
  iff : ∀ i j : Int, 0 ≤ i → i < nodes.length → 0 ≤ j → j < nodes.length → (rd L i = rd L j ↔ Alike nodes i j)
  num : ∃ m : Nat → Nat, m 0 = 0 ∧ ∀ i : Nat, i < nodes.length → (0 ≤ rd L i ∧ rd L i < m i ∧ m (i + 1) = m i) ∨ (rd L i = m i ∧ m (i + 1) = m i + 1)
theorem spec_of {nodes : List Nd} {ab : List (List Int)} {cl sz L : List Int} (G : GoodG nodes) (h : Rv nodes ab cl sz []) (hl : L.length = nodes.length) (hv : ∀ i : Nat, i < nodes.length → rd L i = numV cl i) : Spec nodes L := by
  have hlc := h.lc
  refine ⟨hl, fun i j i0 i1 j0 j1 => ?_, fun k => (numK cl k).2, by simp [numK], fun i hi => ?_⟩
  · rw [← h.done G i j i0 i1 j0 j1]
    have N := NumI.all cl cl.length (Nat.le_refl _)
    have ei : i = ((i.toNat : Nat) : Int) := by omega
    have ej : j = ((j.toNat : Nat) : Int) := by omega
    have hi := N.at_ i.toNat (by omega)
    have hj := N.at_ j.toNat (by omega)
    rw [ei, ej, hv i.toNat (by omega), hv j.toNat (by omega)]
    constructor
    · intro e; rw [← e] at hj; exact N.inj _ _ _ hi hj
    · intro e; rw [e, hj] at hi; injection hi with hi; exact hi.symm
  · rw [hv i hi]
    have N := NumI.all cl i (by omega)
    have e := numK_succ cl i (by omega)
    unfold stepN at e
    unfold numV
    cases hf : (numK cl i).1 (rd cl i) with
    | some n =>
      left
      rw [hf] at e; simp at e
      have := N.lt _ _ hf
      exact ⟨by simpa using this.1, by simpa using this.2, by show (numK cl (i + 1)).2 = _; rw [e]⟩
    | none =>
      right
      rw [hf] at e; simp at e
      exact ⟨rfl, by show (numK cl (i + 1)).2 = _; rw [e]⟩
end Go.Proofs.YtciniaabmjoiiaaDoor
set_option linter.unusedVariables false
set_option linter.unusedSimpArgs false
namespace Go.Proofs.YtciniaabmjoiiaaDoor
open Go.RowKit Go.Shelf Go.Maps Go.Proofs.YtciniaabmjoiiaaDoorW.PrintWords Go.Proofs.YtciniaabmjoiiaaDoorW.PrintLast Go.Proofs.YtciniaabmjoiiaaDoorW.PrintMore Go.Proofs.YtciniaabmjoiiaaDoor.PRef
/-- The partition, and a row beside it that is appended to. -/
structure PL (w0 w : World) (pb : Nat) (A : Option Addr) (c : Nat) (nodes : List Nd) (vB vC vS vA vL : Value) (cl sz look : List Int) (ab : List (List Int)) : Prop where
  p : PSt w0 w pb A c nodes vB vC vS vA cl sz ab
  a : (Kd.slice 3 (Kd.int .i64)).R 23 w w0.heap.size (fun k => (some k ≠ vC.ownBlock ∧ some k ≠ vS.ownBlock) ∧ some k ≠ vL.ownBlock) vA ab
  o : Beside w0 w vC vS vL look
theorem PL.new {w0 w : World} {pb : Nat} {A : Option Addr} {c : Nat} {nodes : List Nd} {vB vC vS vA : Value} {cl sz : List Int} {ab : List (List Int)} (h : PSt w0 w pb A c nodes vB vC vS vA cl sz ab) : PL w0 w pb A c nodes vB vC vS vA (.slice none 0 0) cl sz [] ab := ⟨h, Kd.R_apart_nil h.ra, Kd.R_nil _ _ _ _ _⟩
theorem PL.grow {w0 w : World} {pb : Nat} {A : Option Addr} {c : Nat} {nodes : List Nd} {vB vC vS vA vo : Value} {cl sz out : List Int} {ab : List (List Int)} (h : PL w0 w pb A c nodes vB vC vS vA vo cl sz out ab) {w1 : World} {v1 : Value} {out1 : List Int} (hr : Beside w0 w1 vC vS v1 out1) (hg : w.grownBy w1 vo.ownBlock) (hat : v1.ownBlock = vo.ownBlock ∨ ∃ b, v1.ownBlock = some b ∧ w.heap.size ≤ b) : PL w0 w1 pb A c nodes vB vC vS vA v1 cl sz out1 ab := by
  have hne : some pb ≠ vo.ownBlock := Kd.R_ne h.o h.p.blk (by decide)
  have rc1 : (Kd.int .i64).R 3 w1 w0.heap.size (fun _ => True) vC cl := by
    have h2 : (Kd.int .i64).R 3 w w0.heap.size (fun k => some k ≠ vo.ownBlock) vC cl := by
      obtain ⟨h0, inner, ho, hi⟩ := h.p.rc
      exact ⟨fun k hk he => (h.o.1 k he.symm).1 hk.symm, inner, ho, hi.imp_ (fun _ _ hp => hp)⟩
    exact Kd.R_mono (Kd.R_grown h2 hg (fun k hk => hk)) (fun _ _ => trivial)
  have rs1 : (Kd.int .i64).R 3 w1 w0.heap.size (fun k => some k ≠ vC.ownBlock) vS sz := by
    have h2 : (Kd.int .i64).R 3 w w0.heap.size (fun k => some k ≠ vC.ownBlock ∧ some k ≠ vo.ownBlock) vS sz := by
      obtain ⟨h0, inner, ho, hi⟩ := h.p.rs
      exact ⟨fun k hk => ⟨h0 k hk, fun he => (h.o.1 k he.symm).2 hk.symm⟩, inner, ho, hi.imp_ (fun _ _ hp => hp)⟩
    exact Kd.R_mono (Kd.R_grown h2 hg (fun k hk => hk.2)) (fun _ hk => hk.1)
  have a1 := Kd.R_after h.a hg hat
  exact ⟨⟨blk_grown h.p.blk hg hne, h.p.hb.grown hg h.p.hb.size (fun k hk => Kd.R_base h.o k hk), h.p.le, rc1, rs1, Kd.R_mono a1 (fun _ hk => hk.1)⟩, a1, hr⟩
def szIn (w : World) (pb : Nat) : Nat := match w.cell? ⟨pb, 3, none⟩ with
  | some (.slice _ n _) => n
  | _ => 0
def lenV (v : Value) : Nat := match v with
  | .slice _ n _ => n
  | _ => 0
theorem PSt.szIn {w0 w : World} {pb : Nat} {A : Option Addr} {c : Nat} {nodes : List Nd} {vB vC vS vA : Value} {cl sz : List Int} {ab : List (List Int)} (h : PSt w0 w pb A c nodes vB vC vS vA cl sz ab) : szIn w pb = sz.length := by
  obtain ⟨As, cs, rfl⟩ := Kd.R_slice h.rs
  have : w.cell? ⟨pb, 3, none⟩ = some (.slice As sz.length cs) := blk_cell h.blk 3
  unfold Go.Proofs.YtciniaabmjoiiaaDoor.szIn
  rw [this]
/-- The numbered classes while they are written. -/
structure NumS (w0 w : World) (vC vO : Value) (bn : Nat) (N k : Nat) (cl L : List Int) : Prop where
  hb : Below w0.heap.size w0 w
  c : (Kd.int .i64).R 3 w w0.heap.size (fun q => some q ≠ vO.ownBlock) vC cl
  o : (Kd.int .i64).R 3 w w0.heap.size (fun q => some q ≠ vC.ownBlock) vO L
  m : MapF LII w bn k (numK cl k).2 (numK cl k).1
  len : L.length = N
  v : ∀ i : Nat, i < k → rd L i = numV cl i
theorem NumS.store {w0 w : World} {vC : Value} {g n cap bn N k : Nat} {cl L : List Int} (hb : Below w0.heap.size w0 w) (hc : (Kd.int .i64).R 3 w w0.heap.size (fun q => some q ≠ (Value.slice (some ⟨g, 0, none⟩) n cap).ownBlock) vC cl) (ho : (Kd.int .i64).R 3 w w0.heap.size (fun q => some q ≠ vC.ownBlock) (.slice (some ⟨g, 0, none⟩) n cap) L)
    (hm : MapF LII w bn (k + 1) (numK cl (k + 1)).2 (numK cl (k + 1)).1) (hl : L.length = N) (hv : ∀ i : Nat, i < k → rd L i = numV cl i) (hk : k < N) : NumS w0 (w.setCell ⟨g, k, none⟩ (.int .i64 (numV cl k))) vC (.slice (some ⟨g, 0, none⟩) n cap) bn N (k + 1) cl (setI L k (numV cl k)) := by
  obtain ⟨r1, hg⟩ := Kd.R_putg ho (k : Int) (numV cl k)
  simp only [Int.toNat_natCast] at r1 hg
  refine ⟨hb.grown hg hb.size (fun q hq => Kd.R_base ho q hq), Kd.R_grown hc hg (fun q hq => hq), r1, hm.over ho hg, by rw [setI_len, hl], fun i hi => ?_⟩
  rw [rd_setI]
  by_cases e : i = k
  · subst e; rw [if_pos ⟨rfl, by simp; omega⟩]
  · rw [if_neg (by simp; omega)]; exact hv i (by omega)
theorem R_mapped {α : Type} {d : Kd α} {e base : Nat} {ok : Nat → Prop} {v : Value} {xs : List α} {w w1 : World} (hr : d.R e w base ok v xs) {b : Nat} (hg : w.grownBy w1 (some b)) (hm : ∃ es ck, w.heap[b]? = some (.map es ck)) : d.R e w1 base ok v xs := by
  obtain ⟨es, ck, hm⟩ := hm
  exact Kd.R_mono (Kd.R_grown (Kd.R_bound hr) hg (fun k hk he => by
      obtain ⟨_, _, _, q, hq, cells, hc⟩ := hk
      injection he with he
      subst he
      rw [hm] at hc; cases hc)) (fun _ hk => hk.1)
set_option maxRecDepth 100000 in
set_option maxHeartbeats 4000000 in
theorem refined_any (w : World) (A B : Option Addr) (c d m : Nat) (nodes : List Nd) (G : GoodG nodes) (HN : Kd.C k35 w A nodes.length nodes) (E : TabE w) :
    Calls Tryd.prog 42 #[.agg #[.slice A nodes.length c, .slice B m d]] w fun e w' => ∃ v L, e = .returned v ∧ Below w.heap.size w w' ∧ (Kd.int .i64).R 3 w' w.heap.size (fun _ => True) v L ∧ Spec nodes L := by
  have hN := G.1
  have HG := Lib.hid G
  have HB : Hid (Below w.heap.size w (w.alloc (.cells #[.slice A nodes.length c, .slice B m d] 25))) := Lib.hid ((Below.refl _ _).alloc (Nat.le_refl _) _)
  have HNn := Lib.hid (Kd.C_below HN HB.out)
  have HE := Lib.hid (E.keep HB.out)
  clear G HN E
  have hmm := @run_makeMap Tryd.prog
  have hm1 := print_make_of (P := Tryd.prog) 23 3 (.int .i64 0) 8 Tryd.underlying23 intInfo rfl (by decide) nodes.length (by omega)
  go_enter Tryd.func42, Tryd.ntmps42
  have c0 : (w.alloc (.cells #[.slice A nodes.length c, .slice B m d] 25)).cell? ⟨w.heap.size, 0, none⟩ = some (.slice A nodes.length c) := by simp [go_sem]
  have c1 : (w.alloc (.cells #[.slice A nodes.length c, .slice B m d] 25)).cell? ⟨w.heap.size, 1, none⟩ = some (.slice B m d) := by simp [go_sem]
  go_upto_region 1 with fail
  generalize hW : w.alloc (.cells #[.slice A nodes.length c, .slice B m d] 25) = W at *
  clear hW
  generalize hgb : w.heap.size = gb at *
  have Hgb := Lib.hid hgb; clear hgb
  go_wp2_with fail
  refine (begin_any W A B c d m nodes HG.out HNn.out HE.out).mono ?_; rintro e w1 ⟨pb, vC, vS, vA, rfl, hp⟩
  have hbc := World.block_lt_of_cell? W _ c0
  have d0 := (hp.hb.cell (p := ⟨gb, 0, none⟩) hbc).trans c0
  have HL1 := Lib.hid (PL.new hp)
  have HR := Lib.hid (begin_rv HG.out)
  generalize sBk nodes nodes.length = s at *
  clear c0 c1 hp
  go_upto_region 3 with fail
  go_wp2_with fail
  go_loopw [4, 17] (fun v4 i wr => ∃ k : Nat, k ≤ nodes.length ∧ i = .int .i64 k ∧ Hid (PL W wr pb A c nodes (.slice B m d) vC vS vA v4 s.cl s.sz (nums k) s.ab)) (fun _ i _ => nodes.length - (intOf i).toNat)
  case atStart => exact ⟨0, Nat.zero_le _, rfl, HL1⟩
  case round =>
    obtain ⟨k, hk, rfl, HL⟩ := hrel
    clear HL1 d0
    obtain ⟨A4, c4, e4⟩ := Kd.R_slice HL.out.o
    have hnk : (nums k).length = k := by simp [nums]
    rw [hnk] at e4
    subst e4
    clear hnk
    by_cases hlt : k < nodes.length
    · have HNS := Lib.hid (nums_succ k)
      go_wp2_with (first | (at_builtin; refine Kd.R_append (Kd.int .i64) (w0 := W) W.heap.size rfl _ _ 23 3 (.int .i64 0) 8 rfl Tryd.underlying23 intInfo rfl (by decide) (by omega) (.slice A4 k c4) (nums k) (k : Int) [.int .i64 k] (fun k_ => some k_ ≠ vC.ownBlock ∧ some k_ ≠ vS.ownBlock) (fun _ => False) rfl rfl ?aP (fun _ hk => hk.elim) ?aF HL.out.o HL.out.p.hb HL.out.p.hb.size ?aL ?_))
      case aP => exact rfl
      case aF => exact fun k_ hk => ⟨fun he => by have := Kd.R_lt HL.out.p.rc k_ he.symm; omega, fun he => by have := Kd.R_lt HL.out.p.rs k_ he.symm; omega⟩
      case aL => simp [nums]; omega
      intro v5 w5 hr5 hb5 hg5 hat5
      have HL5 := Lib.hid (HL.out.grow hr5 hg5 hat5)
      clear hr5 hb5 hg5 hat5
      go_wp2_with fail
      go_roundw
      case rel => exact ⟨k + 1, by omega, by go_num, Lib.hid (by rw [HNS.out]; exact HL5.out)⟩
      case measure => simp [intOf]; omega
    · have hk' : k = nodes.length := by omega
      have HK := Lib.hid hk'; clear hk'
      have HR1 : Hid (Rv nodes s.ab s.cl s.sz (nums k)) := Lib.hid (by rw [HK.out]; exact HR.out)
      have HP1 := Lib.hid HL.out.p
      have HL1 := Lib.hid HL.out.o
      have hkl : Hid ((nums k).length = k) := Lib.hid (by simp [nums])
      clear HL HK
      go_wp2_with fail
      go_loopw [4] (fun v4 wr => ∃ (cl sz look : List Int) (vS' : Value) (A9 : Option Addr) (c9 : Nat), v4 = .slice A9 look.length c9 ∧ Hid (PSt W wr pb A c nodes (.slice B m d) vC vS' vA cl sz s.ab) ∧ Hid (Beside W wr vC vS' v4 look) ∧ Hid (Rv nodes s.ab cl sz look)) (fun v4 wr => 2 * (nodes.length - szIn wr pb) + min 1 (lenV v4))
      case atStart => exact ⟨s.cl, s.sz, nums k, vS, A4, c4, by rw [hkl.out], HP1, HL1, HR1⟩
      case round =>
        obtain ⟨cl, sz, look, vS', A9, c9, rfl, HP, HL, HR⟩ := hrel
        clear HP1 HL1 HR1 hkl
        by_cases hne : 0 < look.length
        · have HO := Lib.hid (HR.out.rok HG.out hne)
          have hfew := HR.out.few
          have hlk := HO.out.ll
          go_wp2_with fail
          refine (round_any W _ pb A c nodes (.slice B m d) vC vS' vA (.slice A9 look.length c9) cl sz look s.ab HP.out HL.out HE.out HNn.out HO.out hne).mono ?_; rintro e w6 ⟨vS6, vO, rfl, hp6, hl6⟩
          obtain ⟨hr6, hz6, hn6⟩ := HR.out.round HG.out
          obtain ⟨A6, c6, rfl⟩ := Kd.R_slice hl6
          have hm1 := HP.out.szIn
          have hm2 := hp6.szIn
          have hfew6 := hr6.few
          generalize roundS nodes s.ab cl sz look = r at *
          have hme : 2 * (nodes.length - r.sz.length) + min 1 r.out.length < 2 * (nodes.length - sz.length) + min 1 look.length := by
            by_cases hq : r.sz.length = sz.length
            · rw [hn6 hq, hq]; simp; omega
            · omega
          have HME : Hid (2 * (nodes.length - szIn w6 pb) + min 1 (lenV (.slice A6 r.out.length c6)) < 2 * (nodes.length - szIn wr pb) + min 1 (lenV (.slice A9 look.length c9))) := Lib.hid (by rw [hm1, hm2]; exact hme)
          have HP6 := Lib.hid hp6
          have HL6 := Lib.hid hl6
          have HR6 := Lib.hid hr6
          clear hp6 hl6 hr6 hm1 hm2 hme hfew hfew6 hz6 hn6 hlk HP HL HR HO
          go_wp2_with fail
          go_roundw
          case rel => exact ⟨r.cl, r.sz, r.out, vS6, A6, c6, rfl, HP6, HL6, HR6⟩
          case measure => exact HME.out
        · have hl0 : look = [] := List.eq_nil_of_length_eq_zero (by omega)
          have HL0 : Hid (look = []) := Lib.hid hl0
          clear hl0
          have HR2 : Hid (Rv nodes s.ab cl sz []) := Lib.hid (by rw [← HL0.out]; exact HR.out)
          have hlc := HR.out.lc
          have hfew := HR.out.few
          obtain ⟨AC, cC, rfl⟩ := Kd.R_slice HP.out.rc
          have HLC := Lib.hid hlc
          clear hlc HR HL HL0 hm1
          go_upto_region 11 with fail
          have HP2 := Lib.hid (HP.out.below ((Below.refl _ _).alloc (Nat.le_refl _) (.map #[] 0)))
          have HM2 : Hid (MapF LII (wr.alloc (.map #[] 0)) wr.heap.size 0 (numK cl 0).2 (numK cl 0).1) := Lib.hid (MapF.made LII wr)
          have hbn : W.heap.size ≤ wr.heap.size := HP.out.hb.size
          clear HP
          generalize wr.alloc (.map #[] 0) = W2 at *
          generalize wr.heap.size = bn at *
          have hm1 := print_make_of (P := Tryd.prog) 23 3 (.int .i64 0) 8 Tryd.underlying23 intInfo rfl (by decide) cl.length (by have := HLC.out; omega)
          have y2 := blk_cell HP2.out.blk 2
          go_upto_region 12 with fail
          have HS2 : Hid (NumS W (W2.alloc (.cells (madeCells #[.int .i64 0] cl.length) 3)) (.slice AC cl.length cC) (.slice (some ⟨W2.heap.size, 0, none⟩) cl.length cl.length) bn cl.length 0 cl (List.replicate cl.length 0)) := Lib.hid ⟨HP2.out.hb.alloc HP2.out.hb.size _, Kd.R_reok rfl (Kd.R_alloc HP2.out.rc _) (fun q hq he => by have h1 := Kd.R_lt HP2.out.rc q hq; simp [Value.ownBlock] at he; omega), rinfo1 W2 cl.length W.heap.size HP2.out.hb.size (by have := HLC.out; omega) _ (fun he => by have h1 := Kd.R_lt HP2.out.rc _ he.symm; omega), HM2.out.below ((Below.refl _ _).alloc (Nat.le_refl _) _), by simp, fun i hi => by omega⟩
          have y3 := (((Below.refl W2.heap.size W2).alloc (Nat.le_refl _) (.cells (madeCells #[.int .i64 0] cl.length) 3)).cell (p := ⟨pb, 2, none⟩) (blk_lt HP2.out.blk)).trans y2
          clear HP2 HM2 y2 hm1
          generalize W2.alloc (.cells (madeCells #[.int .i64 0] cl.length) 3) = W3 at *
          generalize W2.heap.size = go at *
          go_wp2_with fail
          go_loopw [43] (fun i wr => ∃ (k : Nat) (L : List Int), k ≤ cl.length ∧ i = .int .i64 k ∧ Hid (NumS W wr (.slice AC cl.length cC) (.slice (some ⟨go, 0, none⟩) cl.length cl.length) bn cl.length k cl L)) (fun i _ => cl.length - (intOf i).toNat)
          case atStart => exact ⟨0, _, Nat.zero_le _, rfl, HS2⟩
          case round =>
            obtain ⟨q, L, hq, rfl, HS⟩ := hrel
            clear HS2 y3
            by_cases hql : q < cl.length
            · obtain ⟨gc, capc, e, _, _, _, _⟩ := Kd.R_form HS.out.c (by omega)
              injection e with e1 e2 e3
              subst e1
              clear e2
              subst e3
              have x0 := (Kd.R_celln 0 HS.out.c (q : Int) (by omega) (by omega)).1
              obtain ⟨x1, x2⟩ := Kd.R_celln 0 HS.out.o (q : Int) (by omega) (by omega)
              simp only [Int.toNat_natCast] at x0 x1 x2
              have e0 : rdOf 0 cl (q : Int) = rd cl q := rfl
              rw [e0] at x0
              clear e0
              have hcr := HR2.out.cr (q : Int) (by omega) (by have := HLC.out; omega)
              have hnv : numV cl q = ((numK cl q).1 (rd cl q)).getD (numK cl q).2 := rfl
              have hns := numK_succ cl q hql
              have hnf := (NumI.all cl q hq).few
              have hlo := (NumI.all cl q hq).lt
              unfold stepN at hns
              have hrunL := ii_look HS.out.m (rd cl q) (wfi (by omega) (by have := HLC.out; omega))
              have hcl4 : cl.length ≤ 4096 := by have := HLC.out; omega
              have HLN := HLC.out
              cases hf : (numK cl q).1 (rd cl q) with
              | some n =>
                rw [hf] at hns hnv hrunL
                have hn := hlo _ _ hf
                simp at hns
                have HNV : Hid (numV cl q = n) := Lib.hid (by rw [hnv]; rfl)
                have HST : Hid (NumS W (wr.setCell ⟨go, q, none⟩ (.int .i64 n)) (.slice (some ⟨gc, 0, none⟩) cl.length cC) (.slice (some ⟨go, 0, none⟩) cl.length cl.length) bn cl.length (q + 1) cl (setI L q n)) := Lib.hid (by
                  have := NumS.store HS.out.hb HS.out.c HS.out.o (by rw [hns]; exact HS.out.m.upto (by omega)) HS.out.len HS.out.v hql
                  rw [HNV.out] at this
                  exact this)
                clear hns hnv hlo hf HLN
                go_wp2_with fail
                go_roundw
                case rel => exact ⟨q + 1, _, by omega, by go_num, HST⟩
                case measure => simp [intOf]; omega
              | none =>
                rw [hf] at hns hnv hrunL
                simp at hns
                have HNV : Hid (numV cl q = (numK cl q).2) := Lib.hid (by rw [hnv]; rfl)
                have HNS := Lib.hid hns
                have HF := Lib.hid hf
                have hfew2 : (numK cl q).2 ≤ 4096 := by have := HLC.out; omega
                have hlenM : (Builtin.len_ #[83] 3 #[.map (some bn)]).run Tryd.prog wr = .ok (.int .i64 (numK cl q).2) wr := by
                  obtain ⟨D, h0, hs, _⟩ := HS.out.m
                  have := h0.len LII.ht 3
                  rw [hs] at this
                  exact this
                have hsz3 : sz.length ≤ 4096 := by omega
                clear hns hnv hlo hf HLN
                go_wp2_with (first | (at_mapUpdate; refine at_put LII HS.out.m (rd cl q) ((numK cl q).2 : Int) (wfi (by omega) (by omega)) (wfi (by omega) (by omega)) (by unfold maxLen; omega) rfl _ _ _ rfl rfl rfl rfl ?_; intro w6 hM6 hg6; have hc6 := R_mapped HS.out.c hg6 HS.out.m.map_block; have ho6 := R_mapped HS.out.o hg6 HS.out.m.map_block; have x1' := Kd.R_celln 0 ho6 (q : Int) (by omega) (by omega); simp only [Int.toNat_natCast] at x1'; have x3 := x1'.1; have x4 := x1'.2))
                have HST : Hid (NumS W (w6.setCell ⟨go, q, none⟩ (.int .i64 (numK cl q).2)) (.slice (some ⟨gc, 0, none⟩) cl.length cC) (.slice (some ⟨go, 0, none⟩) cl.length cl.length) bn cl.length (q + 1) cl (setI L q (numK cl q).2)) := Lib.hid (by
                  have hmq : MapF LII w6 bn (q + 1) (numK cl (q + 1)).2 (numK cl (q + 1)).1 := by
                    rw [HNS.out]
                    have := hM6
                    rw [HF.out] at this
                    exact this
                  have := NumS.store (HS.out.hb.grown hg6 HS.out.hb.size (fun b hb => by injection hb with hb; omega)) hc6 ho6 hmq HS.out.len HS.out.v hql
                  rw [HNV.out] at this
                  exact this)
                clear x1' hc6 ho6 hM6 hg6
                go_roundw
                case rel => exact ⟨q + 1, _, by omega, by go_num, HST⟩
                case measure => simp [intOf]; omega
            · have hqe : q = cl.length := by omega
              have HQ := Lib.hid hqe
              clear hqe
              go_wp2_with fail
              go_ret
              refine ⟨_, L, rfl, ?_, Kd.R_mono (Kd.R_lower HS.out.o ?_) (fun _ _ => trivial), spec_of HG.out HR2.out (by rw [HS.out.len, HLC.out]) (fun i hi => HS.out.v i (by have := HQ.out; have := HLC.out; omega))⟩
              · have h1 := HB.out
                rw [← Hgb.out] at h1
                have h2 := HS.out.hb
                exact h1.trans ⟨h2.os, h2.tape, h2.output, h2.size, fun i hi => h2.block i (Nat.lt_of_lt_of_le hi h1.size)⟩
              · exact HB.out.size
end Go.Proofs.YtciniaabmjoiiaaDoor
