/- The law BisimWays. -/
import Derived.Test.YtciniaabmjoiiaaDoorBisJ
set_option maxRecDepth 100000
set_option linter.unusedVariables false
set_option linter.unusedSimpArgs false
namespace Go.Proofs.YtciniaabmjoiiaaDoor
open Go.RowKit Go.Shelf Go.Maps Go.Proofs.YtciniaabmjoiiaaDoorW.PrintWords Go.Proofs.YtciniaabmjoiiaaDoorW.PrintLast Go.Proofs.YtciniaabmjoiiaaDoorW.PrintMore Go.Proofs.YtciniaabmjoiiaaDoor.PRef
/-- Where a path leads. -/
def atS (nodes : List Nd) : Int → List Int → Option Int
  | n, [] => some n
  | n, k :: r => if 0 ≤ k ∧ k < (argsN nodes n).length then atS nodes (rd (argsN nodes n) k) r else none
theorem atS_drop (nodes : List Nd) (n : Int) (l : List Int) (q : Nat) (h : q < l.length) : atS nodes n (l.drop q) = if 0 ≤ rd l q ∧ rd l q < (argsN nodes n).length then atS nodes (rd (argsN nodes n) (rd l q)) (l.drop (q + 1)) else none := by
  rw [List.drop_eq_getElem_cons h, rd_get l q h]; rfl
theorem rd_in {l : List Int} {P : Int → Prop} (h : ∀ a ∈ l, P a) (k : Int) (k0 : 0 ≤ k) (k1 : k < l.length) : P (rd l k) := by
  have e := rd_get l k.toNat (by omega)
  rw [show ((k.toNat : Nat) : Int) = k from by omega] at e
  rw [e]; exact h _ (List.getElem_mem _)
/-- From alike nodes every path leads to alike nodes, or from neither. -/
theorem at_alike {nodes : List Nd} : ∀ (l : List Int) (i j : Int), Alike nodes i j → (atS nodes i l = none ∧ atS nodes j l = none) ∨ ∃ x y, atS nodes i l = some x ∧ atS nodes j l = some y ∧ Alike nodes x y := by
  intro l
  induction l with
  | nil => intro i j h; exact .inr ⟨i, j, rfl, rfl, h⟩
  | cons k r ih =>
    intro i j h
    obtain ⟨_, _, hl, ha⟩ := h.out
    have hlen := hl.2.2.2.1
    simp only [atS]
    by_cases hk : 0 ≤ k ∧ k < (argsN nodes i).length
    · rw [if_pos hk, if_pos (by rw [← hlen]; exact hk)]
      have e : k = ((k.toNat : Nat) : Int) := by omega
      have := ha k.toNat (by omega)
      rw [← e] at this
      exact ih _ _ this
    · rw [if_neg hk, if_neg (by rw [← hlen]; exact hk)]
      exact .inl ⟨rfl, rfl⟩
theorem at_in {nodes : List Nd} (G : GoodG nodes) : ∀ (l : List Int) (i x : Int), 0 ≤ i → i < nodes.length → atS nodes i l = some x → 0 ≤ x ∧ x < nodes.length := by
  intro l
  induction l with
  | nil => intro i x i0 i1 h; simp only [atS, Option.some.injEq] at h; subst h; exact ⟨i0, i1⟩
  | cons k r ih =>
    intro i x i0 i1 h
    simp only [atS] at h
    split at h
    · rename_i hk
      have := rd_in (good_args G i i0 i1).2 k hk.1 hk.2
      exact ih _ _ this.1 this.2 h
    · cases h
/-- What At answers. -/
def AtPost (o : Option Int) (w : World) (e : Ending) (w' : World) : Prop := e = .returned (.tuple #[.int .i64 (o.getD 0), .bool o.isSome]) ∧ Hid (Below w.heap.size w w')
set_option maxHeartbeats 4000000 in
theorem at_any (w : World) (A B P : Option Addr) (c d pc : Nat) (nodes : List Nd) (roots path : List Int) (n : Int) (HN : Kd.C k35 w A nodes.length nodes) (HR : Kd.C (Kd.int .i64) w B roots.length roots) (HP : Kd.C (Kd.int .i64) w P path.length path) (hpw : ∀ x ∈ path, wfI x) (hck : chkC nodes roots = []) (n0 : 0 ≤ n) (n1 : n < nodes.length) :
    Calls Tryd.prog 49 #[.agg #[.slice A nodes.length c, .slice B roots.length d], .int .i64 n, .slice P path.length pc] w (AtPost (atS nodes n path) w) := by
  have HB : Hid (Below w.heap.size w (w.alloc (.cells #[.slice A nodes.length c, .slice B roots.length d] 25))) := Lib.hid ((Below.refl _ _).alloc (Nat.le_refl _) _)
  have HNn := Lib.hid (Kd.C_below HN HB.out)
  have HRn := Lib.hid (Kd.C_below HR HB.out)
  have HPn := Lib.hid (Kd.C_below HP HB.out)
  have hG := goodG_of hck
  have HG := Lib.hid hG
  have hNs := hG.1
  have HCk := Lib.hid hck
  have HPW := Lib.hid hpw
  have hm1 := HN.2.1
  have hm2 := HR.2.1
  have hm3 : path.length ≤ 9223372036854775807 := HP.2.1
  have hsz : w.heap.size < (w.alloc (.cells #[.slice A nodes.length c, .slice B roots.length d] 25)).heap.size := by simp
  clear HN HR HP hG hck hpw
  go_enter Tryd.func49, Tryd.ntmps49
  have c0 : (w.alloc (.cells #[.slice A nodes.length c, .slice B roots.length d] 25)).cell? ⟨w.heap.size, 0, none⟩ = some (.slice A nodes.length c) := by simp [go_sem]
  have c1 : (w.alloc (.cells #[.slice A nodes.length c, .slice B roots.length d] 25)).cell? ⟨w.heap.size, 1, none⟩ = some (.slice B roots.length d) := by simp [go_sem]
  go_upto_region 1 with fail
  generalize hW : w.alloc (.cells #[.slice A nodes.length c, .slice B roots.length d] 25) = W at *
  clear hW
  generalize hgb : w.heap.size = gb at *
  have Hgb := Lib.hid hgb; clear hgb
  go_wp2_with fail
  refine (check_any A B c d nodes roots W HNn.out HRn.out hm1 hm2).mono ?_; rintro e w1 ⟨v1, rfl, hv1, hb1⟩
  have HB1 := Lib.hid hb1
  have d0 := (hb1.cell (p := ⟨gb, 0, none⟩) hsz).trans c0
  have key := EV_cases hv1
  clear hv1 hb1 c0 c1
  rcases key with ⟨_, rfl⟩ | ⟨hc, _⟩
  · have HQ : Hid (Below W.heap.size W w1) := HB1
    have HA0 : Hid (atS nodes n path = atS nodes n (path.drop 0)) := Lib.hid rfl
    clear HB1
    go_wp2_with fail
    go_loopw [1, 27] (fun v1 i wr => ∃ (q : Nat) (x : Int), q ≤ path.length ∧ i = .int .i64 q ∧ v1 = .int .i64 x ∧ 0 ≤ x ∧ x < nodes.length ∧ Hid (atS nodes n path = atS nodes x (path.drop q)) ∧ Hid (Below W.heap.size W wr) ∧ wr.cell? ⟨gb, 0, none⟩ = some (.slice A nodes.length c)) (fun _ i _ => path.length - (intOf i).toNat)
    case atStart => exact ⟨0, n, Nat.zero_le _, rfl, rfl, n0, n1, HA0, HQ, d0⟩
    case round =>
      obtain ⟨q, x, hq, rfl, rfl, x0, x1, HA, HQ2, g0⟩ := hrel
      clear HQ HA0 d0
      by_cases hql : q < path.length
      · obtain ⟨qd, e1, z0⟩ := Kd.at_int (Kd.C_below HPn.out HQ2.out) (q : Int) (by omega) (by omega)
        subst e1
        simp only [Int.toNat_natCast] at z0
        have hw := HPW.out (rd path q) (by rw [rd_get path q hql]; exact List.getElem_mem hql)
        unfold wfI at hw
        have hs := atS_drop nodes x path q hql
        obtain ⟨ad, A3, c3, e2, p0, p1, p2, p3, l3, g3⟩ := at_T35 (Kd.C_below HNn.out HQ2.out) x x0 x1
        subst e2
        have harg := good_args HG.out x x0 x1
        have HARG := Lib.hid harg
        have e3 : (rd_T35 nodes x).f3 = argsN nodes x := rfl
        rw [e3] at p3 l3 g3
        have G3 := Lib.hid g3
        have hl8 := harg.1
        clear e3 g3 harg p0 p1 p2
        generalize rd path (q : Int) = k at *
        by_cases hk : 0 ≤ k ∧ k < (argsN nodes x).length
        · rw [if_pos hk] at hs
          have HS := Lib.hid hs
          have hnx := rd_in HARG.out.2 k hk.1 hk.2
          obtain ⟨k0, k1⟩ := hk
          obtain ⟨rd3, e4, y0⟩ := Kd.at_int G3.out k k0 k1
          subst e4
          clear hs
          generalize argsN nodes x = args at *
          generalize hnode : rd args k = nx at *
          have HND := Lib.hid hnode; clear hnode
          obtain ⟨nx0, nx1⟩ := hnx
          go_wp2_with fail
          go_roundw
          case rel => exact ⟨q + 1, nx, by omega, by go_num, rfl, nx0, nx1, Lib.hid (by rw [HA.out, HS.out]), HQ2, g0⟩
          case measure => simp [intOf]; omega
        · rw [if_neg hk] at hs
          have HS := Lib.hid hs
          clear hs
          have HBo : Hid (Below w.heap.size w wr) := Lib.hid (by have h0 := HB.out; rw [← Hgb.out] at h0; exact below_next h0 HQ2.out)
          have HO : Hid (atS nodes n path = none) := Lib.hid (by rw [HA.out, HS.out])
          by_cases k0 : k < 0
          · go_wp2_with fail
            go_ret2
            exact ⟨by rw [HO.out]; rfl, HBo⟩
          · have k1 : ((argsN nodes x).length : Int) ≤ k := by omega
            go_wp2_with fail
            go_ret2
            exact ⟨by rw [HO.out]; rfl, HBo⟩
      · have hqe : path.drop q = [] := List.drop_eq_nil_of_le (by omega)
        have HO : Hid (atS nodes n path = some x) := Lib.hid (by rw [HA.out, hqe]; rfl)
        clear hqe
        have HBo : Hid (Below w.heap.size w wr) := Lib.hid (by have h0 := HB.out; rw [← Hgb.out] at h0; exact below_next h0 HQ2.out)
        go_wp2_with fail
        go_ret2
        exact ⟨by rw [HO.out]; rfl, HBo⟩
  · exact absurd HCk.out hc
/-- What the last statement of 'paths' reads, in a world. -/
def S14 (gb : Nat) (A : Option Addr) (c : Nat) (nodes : List Nd) (L : List Int) (g3 : Nat) (p q : Addr) (k j : Int) (A5 A6 : Option Addr) (c5 c6 : Nat) (wr w' : World) : Prop :=
  w'.cell? ⟨g3, k.toNat, none⟩ = some (.int .i64 (rd L k)) ∧ w'.cell? ⟨g3, j.toNat, none⟩ = some (.int .i64 (rd L j)) ∧ S19 gb A c nodes p q k j A5 A6 c5 c6 wr w'
theorem S14.of {gb : Nat} {A : Option Addr} {c : Nat} {nodes : List Nd} {L : List Int} {g3 : Nat} {p q : Addr} {k j : Int} {A5 A6 : Option Addr} {c5 c6 : Nat} {wr w' : World} (h : S14 gb A c nodes L g3 p q k j A5 A6 c5 c6 wr wr) (hb : Below wr.heap.size wr w') : S14 gb A c nodes L g3 p q k j A5 A6 c5 c6 wr w' := by
  obtain ⟨h0, h1, h2⟩ := h
  have f : ∀ {x : Addr} {u : Value}, wr.cell? x = some u → w'.cell? x = some u := fun hx => (hb.cell (World.block_lt_of_cell? wr _ hx)).trans hx
  exact ⟨f h0, f h1, h2.of hb⟩
theorem al_st14 {wr : World} {gb : Nat} {A : Option Addr} {c : Nat} {nodes : List Nd} {L : List Int} {g3 : Nat} {p q : Addr} {i j : Int} {A3 A4 : Option Addr} {c3 c4 : Nat} (h : S14 gb A c nodes L g3 p q i j A3 A4 c3 c4 wr wr) (W : World) (hW : Hid (Below wr.heap.size wr W))
    (h3 : (Kd.int .i64).C wr A3 (ndT nodes i).f3.length (ndT nodes i).f3) (l3 : (ndT nodes i).f3.length ≤ c3) (h4 : (Kd.int .i64).C wr A4 (ndT nodes j).f3.length (ndT nodes j).f3) (l4 : (ndT nodes j).f3.length ≤ c4) {b : Bool} (hal : alB nodes i j = b) :
    Calls Tryd.prog 15 #[.agg #[.int .i64 (ndT nodes i).f0, .string (ndT nodes i).f1, .int .i64 (ndT nodes i).f2, .slice A3 (ndT nodes i).f3.length c3], .agg #[.int .i64 (ndT nodes j).f0, .string (ndT nodes j).f1, .int .i64 (ndT nodes j).f2, .slice A4 (ndT nodes j).f3.length c4]] W
      fun e w' => e = .returned (.bool b) ∧ S14 gb A c nodes L g3 p q i j A3 A4 c3 c4 wr w' :=
  (tendrillaw05_alike.calls _ _ _ A3 c3 _ _ _ _ A4 c4 _ (alB nodes i j) W (Kd.C_below h3 hW.out) l3 (Kd.C_below h4 hW.out) l4 (al_f nodes i j)).mono fun e w' ⟨he, hb⟩ => ⟨by rw [he, hal], h.of (below_next hW.out hb)⟩
set_option maxHeartbeats 8000000 in
theorem paths_any (w : World) (A B P : Option Addr) (c d pc : Nat) (nodes : List Nd) (roots path : List Int) (i j : Int) (hg : GIn w (.agg #[.slice A nodes.length c, .slice B roots.length d]) A B c d nodes roots) (HPp : Kd.C (Kd.int .i64) w P path.length path) (hpw : ∀ x ∈ path, wfI x) (hi : wfI i) (hj : wfI j) (E : TabE w) :
    Calls Tryd.prog 24 #[.agg #[.slice A nodes.length c, .slice B roots.length d], .int .i64 i, .int .i64 j, .slice P path.length pc] w (LawT w) := by
  have HB : Hid (Below w.heap.size w (w.alloc (.cells #[.slice A nodes.length c, .slice B roots.length d] 25))) := Lib.hid ((Below.refl _ _).alloc (Nat.le_refl _) _)
  have HE := Lib.hid (E.keep HB.out)
  have hnc := hg.nc
  have hrc := hg.rc
  have hm1 : nodes.length ≤ 9223372036854775807 := hg.n.2.1
  have hm3 : path.length ≤ 9223372036854775807 := HPp.2.1
  have hsz : w.heap.size < (w.alloc (.cells #[.slice A nodes.length c, .slice B roots.length d] 25)).heap.size := by simp
  obtain ⟨ks, bs, hsm⟩ := small_some nodes roots 400 hm1
  have HSm := Lib.hid hsm
  have HN := Lib.hid (Kd.C_below hg.n HB.out)
  have HR := Lib.hid (Kd.C_below hg.r HB.out)
  have HP := Lib.hid (Kd.C_below HPp HB.out)
  have HPW := Lib.hid hpw
  unfold wfI at hi hj
  clear hg E hsm HPp hpw
  go_enter Tryd.func24, Tryd.ntmps24
  have c0 : (w.alloc (.cells #[.slice A nodes.length c, .slice B roots.length d] 25)).cell? ⟨w.heap.size, 0, none⟩ = some (.slice A nodes.length c) := by simp [go_sem]
  have c1 : (w.alloc (.cells #[.slice A nodes.length c, .slice B roots.length d] 25)).cell? ⟨w.heap.size, 1, none⟩ = some (.slice B roots.length d) := by simp [go_sem]
  go_upto_region 1 with fail
  generalize hW : w.alloc (.cells #[.slice A nodes.length c, .slice B roots.length d] 25) = W at *
  clear hW
  generalize hgb : w.heap.size = gb at *
  have Hgb := Lib.hid hgb; clear hgb
  go_wp2_with fail
  refine (lives_any W HE.out).mono ?_; rintro e w1 ⟨rfl, hb1⟩
  have d0 := (hb1.out.cell (p := ⟨gb, 0, none⟩) hsz).trans c0
  have d1 := (hb1.out.cell (p := ⟨gb, 1, none⟩) hsz).trans c1
  have hl1 := Nat.lt_of_lt_of_le hsz hb1.out.size
  go_wp2_with fail
  refine (tendrilhand_Small.calls ks A c nodes B d roots 400 bs w1 (Kd.C_below HN.out hb1.out) hnc (Kd.C_below HR.out hb1.out) hrc HSm.out).mono ?_; rintro e w2 ⟨rfl, hb2⟩
  have HB2 := Lib.hid (below_next hb1.out hb2)
  have e0 := (hb2.cell (p := ⟨gb, 0, none⟩) hl1).trans d0
  have e1 := (hb2.cell (p := ⟨gb, 1, none⟩) hl1).trans d1
  have hl2 := Nat.lt_of_lt_of_le hl1 hb2.size
  clear d0 d1 hb2 hb1 c0 c1
  cases bs with
  | false =>
    go_wp2_with fail
    refine (lives_any w2 (HE.out.keep HB2.out)).mono ?_; rintro e w3 ⟨rfl, hb3⟩
    go_wp2_with fail
    go_ret
    exact ⟨rfl, by have h0 := HB.out; rw [← Hgb.out] at h0; exact below_next (below_next h0 HB2.out) hb3.out⟩
  | true =>
    by_cases hpl : 2000 < path.length
    · have hpl2 : (2000 : Int) < path.length := by omega
      go_wp2_with fail
      refine (lives_any w2 (HE.out.keep HB2.out)).mono ?_; rintro e w3 ⟨rfl, hb3⟩
      go_wp2_with fail
      go_ret
      exact ⟨rfl, by have h0 := HB.out; rw [← Hgb.out] at h0; exact below_next (below_next h0 HB2.out) hb3.out⟩
    · have hpl2 : ¬ (2000 : Int) < path.length := by omega
      go_wp2_with fail
      refine (classes_any w2 A B c d nodes roots (Kd.C_below HN.out HB2.out) (Kd.C_below HR.out HB2.out) (HE.out.keep HB2.out)).mono ?_; rintro e w3 ⟨hb3, h3⟩
      have f0 := (hb3.out.cell (p := ⟨gb, 0, none⟩) hl2).trans e0
      have f1 := (hb3.out.cell (p := ⟨gb, 1, none⟩) hl2).trans e1
      have HB3 := Lib.hid (below_next HB2.out hb3.out)
      have hl3 := Nat.lt_of_lt_of_le hl2 hb3.out.size
      clear e0 e1
      rcases h3 with ⟨hck, A3, L, c3, rfl, HL⟩ | ⟨hck, b3, rfl, _⟩
      · have hG := goodG_of hck
        have HCk := Lib.hid hck
        have hlen := HL.out.2.len
        have hNs := hG.1
        have HG := Lib.hid hG
        have HS := Lib.hid HL.out.2
        have hr0 := HL.out.1
        rw [hlen] at hr0 ⊢
        have HR0 := Lib.hid hr0
        have HBo : Hid (Below w.heap.size w w3) := Lib.hid (by have h0 := HB.out; rw [← Hgb.out] at h0; exact below_next h0 HB3.out)
        have HL3 := Lib.hid HS.out.len
        clear hG hlen hr0 HL hck hb3 HB2
        have hfin : ∀ e, e = Ending.returned (.bool true) → ∀ n, LawT w e (w3.drewN n) := fun e he n => ⟨he, below_drewN HBo.out n⟩
        have HFin := Lib.hid hfin; clear hfin
        go_upto_region 8 with fail
        by_cases i0 : i < 0
        · go_quiet (fail)
          go_wp2_with fail
          go_ret
          exact HFin.out _ rfl _
        · by_cases j0 : j < 0
          · go_quiet (fail)
            go_wp2_with fail
            go_ret
            exact HFin.out _ rfl _
          · by_cases i1 : (nodes.length : Int) ≤ i
            · go_quiet (fail)
              go_wp2_with fail
              go_ret
              exact HFin.out _ rfl _
            · by_cases j1 : (nodes.length : Int) ≤ j
              · go_quiet (fail)
                go_wp2_with fail
                go_ret
                exact HFin.out _ rfl _
              · have i0' : 0 ≤ i := by omega
                have j0' : 0 ≤ j := by omega
                have i1' : i < nodes.length := by omega
                have j1' : j < nodes.length := by omega
                obtain ⟨g3, cap3, e3, _, _, _, _⟩ := Kd.R_form HR0.out (by have := HL3.out; omega)
                injection e3 with e4 e5 e6
                subst e4
                clear e5 e6
                have x1 := (Kd.R_celln 0 HR0.out i i0' i1').1
                have x2 := (Kd.R_celln 0 HR0.out j j0' j1').1
                rw [show rdOf 0 L i = rd L i from rfl] at x1
                rw [show rdOf 0 L j = rd L j from rfl] at x2
                by_cases hc : rd L i = rd L j
                · have hne : (rd L i != rd L j) = false := by simp [hc]
                  have HAL : Hid (Alike nodes i j) := Lib.hid ((HS.out.iff i j i0' i1' j0' j1').1 hc)
                  clear hc
                  go_quiet (fail)
                  clear x1 x2 hne
                  have q0 : (w3.drewN nq).cell? ⟨gb, 0, none⟩ = some (.slice A nodes.length c) := ((below_drewN (Below.refl w3.heap.size w3) nq).cell (p := ⟨gb, 0, none⟩) hl3).trans f0
                  have q1 : (w3.drewN nq).cell? ⟨gb, 1, none⟩ = some (.slice B roots.length d) := ((below_drewN (Below.refl w3.heap.size w3) nq).cell (p := ⟨gb, 1, none⟩) hl3).trans f1
                  have HBq : Hid (Below W.heap.size W (w3.drewN nq)) := Lib.hid (below_drewN HB3.out nq)
                  have HRq := Lib.hid (Kd.R_below HR0.out (below_drewN (Below.refl w3.heap.size w3) nq))
                  have hl4 : gb < (w3.drewN nq).heap.size := Nat.lt_of_lt_of_le hl3 (below_drewN (Below.refl w3.heap.size w3) nq).size
                  clear HFin HB3 HR0 HBo f0 f1 hl3
                  generalize w3.drewN nq = w4 at *
                  go_wp2_with fail
                  refine (at_any w4 A B P c d pc nodes roots path i (Kd.C_below HN.out HBq.out) (Kd.C_below HR.out HBq.out) (Kd.C_below HP.out HBq.out) HPW.out HCk.out i0' i1').mono ?_; rintro e w5 ⟨rfl, hb5⟩
                  have r0 := (hb5.out.cell (p := ⟨gb, 0, none⟩) hl4).trans q0
                  have r1 := (hb5.out.cell (p := ⟨gb, 1, none⟩) hl4).trans q1
                  have HB5 := Lib.hid (below_next HBq.out hb5.out)
                  have HR5 := Lib.hid (Kd.R_below HRq.out hb5.out)
                  have hl5 := Nat.lt_of_lt_of_le hl4 hb5.out.size
                  clear q0 q1 HBq HRq hb5
                  go_wp2_with fail
                  refine (at_any w5 A B P c d pc nodes roots path j (Kd.C_below HN.out HB5.out) (Kd.C_below HR.out HB5.out) (Kd.C_below HP.out HB5.out) HPW.out HCk.out j0' j1').mono ?_; rintro e w6 ⟨rfl, hb6⟩
                  have y0 := (hb6.out.cell (p := ⟨gb, 0, none⟩) hl5).trans r0
                  have HB6 := Lib.hid (below_next HB5.out hb6.out)
                  have HR6 := Lib.hid (Kd.R_below HR5.out hb6.out)
                  have HBo : Hid (Below w.heap.size w w6) := Lib.hid (by have h0 := HB.out; rw [← Hgb.out] at h0; exact below_next h0 HB6.out)
                  clear r0 r1 HB5 HR5 hb6
                  rcases at_alike path i j HAL.out with ⟨o1, o2⟩ | ⟨x, y, o1, o2, hxy⟩
                  · rw [o1, o2]
                    clear o1 o2
                    go_wp2_with fail
                    go_ret
                    exact ⟨rfl, HBo.out⟩
                  · have hxin := at_in HG.out path i x i0' i1' o1
                    have hyin := at_in HG.out path j y j0' j1' o2
                    rw [o1, o2]
                    clear o1 o2
                    have HXY := Lib.hid hxy
                    obtain ⟨x0, x9⟩ := hxin
                    obtain ⟨yy0, yy9⟩ := hyin
                    have hlab := hxy.out.2.2.1
                    have hLL : (rd L x == rd L y) = true := by rw [beq_iff_eq]; exact (HS.out.iff x y x0 x9 yy0 yy9).2 hxy
                    have HALB : Hid (alB nodes x y = true) := Lib.hid (by unfold alB; exact decide_eq_true ⟨hlab.1, hlab.2.1, hlab.2.2.1, hlab.2.2.2.1⟩)
                    have hvar : (ndT nodes x).f0 = 1 → x = y := hlab.2.2.2.2
                    have HVAR := Lib.hid hvar
                    clear hxy hlab hvar
                    have x1 := (Kd.R_celln 0 HR6.out x x0 x9).1
                    have x2 := (Kd.R_celln 0 HR6.out y yy0 yy9).1
                    rw [show rdOf 0 L x = rd L x from rfl] at x1
                    rw [show rdOf 0 L y = rd L y from rfl] at x2
                    obtain ⟨ad, A5, c5, ea, p0, p1, p2, p3, l5, g5⟩ := at_T35 (Kd.C_below HN.out HB6.out) x x0 x9
                    subst ea
                    obtain ⟨ad', A6, c6, eb, q0, q1, q2, q3, l6, g6⟩ := at_T35 (Kd.C_below HN.out HB6.out) y yy0 yy9
                    cases eb
                    have HS9 : Hid (S14 gb (some ad) c nodes L g3 (ad.add (x.toNat * 4)) (ad.add (y.toNat * 4)) x y A5 A6 c5 c6 w6 w6) := Lib.hid ⟨x1, x2, y0, p0, p1, p2, p3, q0, q1, q2, q3, Lib.hid (Below.refl _ _)⟩
                    have G5 : Hid ((Kd.int .i64).C w6 A5 (ndT nodes x).f3.length (ndT nodes x).f3) := Lib.hid g5
                    have G6 : Hid ((Kd.int .i64).C w6 A6 (ndT nodes y).f3.length (ndT nodes y).f3) := Lib.hid g6
                    have L5 : Hid ((ndT nodes x).f3.length ≤ c5) := Lib.hid l5
                    have L6 : Hid ((ndT nodes y).f3.length ≤ c6) := Lib.hid l6
                    clear g5 g6 l5 l6 x1 x2 p0 p1 p2 p3 q0 q1 q2 q3 y0
                    go_upto_region 14 with fail
                    obtain ⟨x1, x2, y0, p0, p1, p2, p3, q0, q1, q2, q3, hbb⟩ := HS9.out
                    by_cases hv : (ndT nodes x).f0 = 1
                    · have hv2 : ((ndT nodes x).f0 != 1) = false := by simp [hv]
                      have hxy2 : (x == y) = true := by rw [beq_iff_eq]; exact HVAR.out hv
                      clear hv
                      refine start_ (n := 37) (S := fun w' => w'.cell? ⟨g3, x.toNat, none⟩ = some (.int .i64 (rd L x)) ∧ w'.cell? ⟨g3, y.toNat, none⟩ = some (.int .i64 (rd L y)) ∧ w'.cell? ⟨gb, 0, none⟩ = some (.slice (some ad) nodes.length c) ∧ w'.cell? (ad.add (x.toNat * 4)) = some (.int .i64 (ndT nodes x).f0) ∧ w'.cell? ⟨(ad.add (x.toNat * 4)).block, (ad.add (x.toNat * 4)).off + 1, none⟩ = some (.string (ndT nodes x).f1) ∧ w'.cell? ⟨(ad.add (x.toNat * 4)).block, (ad.add (x.toNat * 4)).off + 2, none⟩ = some (.int .i64 (ndT nodes x).f2) ∧ w'.cell? ⟨(ad.add (x.toNat * 4)).block, (ad.add (x.toNat * 4)).off + 3, none⟩ = some (.slice A5 (ndT nodes x).f3.length c5) ∧ w'.cell? (ad.add (y.toNat * 4)) = some (.int .i64 (ndT nodes y).f0) ∧ w'.cell? ⟨(ad.add (y.toNat * 4)).block, (ad.add (y.toNat * 4)).off + 1, none⟩ = some (.string (ndT nodes y).f1) ∧ w'.cell? ⟨(ad.add (y.toNat * 4)).block, (ad.add (y.toNat * 4)).off + 2, none⟩ = some (.int .i64 (ndT nodes y).f2) ∧ w'.cell? ⟨(ad.add (y.toNat * 4)).block, (ad.add (y.toNat * 4)).off + 3, none⟩ = some (.slice A6 (ndT nodes y).f3.length c6) ∧ Hid (Below w6.heap.size w6 w')) (ds := []) #[false, false, false, false, false, false, false, false, false, false, false, false, false, false, false, false, false, false, false, false, false, false, false, false, false, false, false, false, false, false, false, false, false, false, false, false, false] (by kernel_rfl) rfl rfl ⟨x1, x2, y0, p0, p1, p2, p3, q0, q1, q2, q3, Lib.hid (Below.refl _ _).drew⟩ (fun hHeld => ?_)
                      refine pure_ (i := 0) (N := some 96) (v := ?_) (a' := ?_) #[true, false, false, false, false, false, false, false, false, false, false, false, false, false, false, false, false, false, false, false, false, false, false, false, false, false, false, false, false, false, false, false, false, false, false, false, false] rfl rfl (by kernel_rfl) (fun _ _ _ h => h) (Or.inl ⟨by rfl, ?_⟩) ?_ ?_
                      rotate_left
                      · intro w'
                        go_simp
                        with_reducible rfl
                      rotate_left
                      · simp only [Act.put, List.setIfInBounds_toArray, List.set_cons_zero, List.set_cons_succ, i64_w, i32_w]
                        rfl
                      refine pure_ (i := 1) (N := some 97) (v := ?_) (a' := ?_) #[true, true, false, false, false, false, false, false, false, false, false, false, false, false, false, false, false, false, false, false, false, false, false, false, false, false, false, false, false, false, false, false, false, false, false, false, false] rfl rfl (by kernel_rfl) (fun _ _ _ h => h) (Or.inl ⟨by rfl, ?_⟩) ?_ ?_
                      rotate_left
                      · intro w'
                        go_simp
                        with_reducible rfl
                      rotate_left
                      · simp only [Act.put, List.setIfInBounds_toArray, List.set_cons_zero, List.set_cons_succ, i64_w, i32_w]
                        rfl
                      refine pure_ (i := 2) (N := some 98) (v := ?_) (a' := ?_) #[true, true, true, false, false, false, false, false, false, false, false, false, false, false, false, false, false, false, false, false, false, false, false, false, false, false, false, false, false, false, false, false, false, false, false, false, false] rfl rfl (by kernel_rfl) (fun _ _ _ h => h) (Or.inl ⟨by rfl, ?_⟩) ?_ ?_
                      rotate_left
                      · intro w'
                        go_simp
                        with_reducible rfl
                      rotate_left
                      · simp only [Act.put, List.setIfInBounds_toArray, List.set_cons_zero, List.set_cons_succ, i64_w, i32_w]
                        rfl
                      refine pure_ (i := 4) (N := some 100) (v := ?_) (a' := ?_) #[true, true, true, false, true, false, false, false, false, false, false, false, false, false, false, false, false, false, false, false, false, false, false, false, false, false, false, false, false, false, false, false, false, false, false, false, false] rfl rfl (by kernel_rfl) (fun _ _ _ h => h) (Or.inl ⟨by rfl, ?_⟩) ?_ ?_
                      rotate_left
                      · intro w'
                        go_simp
                        with_reducible rfl
                      rotate_left
                      · simp only [Act.put, List.setIfInBounds_toArray, List.set_cons_zero, List.set_cons_succ, i64_w, i32_w]
                        rfl
                      refine pure_ (i := 5) (N := some 101) (v := ?_) (a' := ?_) #[true, true, true, false, true, true, false, false, false, false, false, false, false, false, false, false, false, false, false, false, false, false, false, false, false, false, false, false, false, false, false, false, false, false, false, false, false] rfl rfl (by kernel_rfl) (fun _ _ _ h => h) (Or.inl ⟨by rfl, ?_⟩) ?_ ?_
                      rotate_left
                      · intro w'
                        go_simp
                        with_reducible rfl
                      rotate_left
                      · simp only [Act.put, List.setIfInBounds_toArray, List.set_cons_zero, List.set_cons_succ, i64_w, i32_w]
                        rfl
                      refine pure_ (i := 6) (N := some 102) (v := ?_) (a' := ?_) #[true, true, true, false, true, true, true, false, false, false, false, false, false, false, false, false, false, false, false, false, false, false, false, false, false, false, false, false, false, false, false, false, false, false, false, false, false] rfl rfl (by kernel_rfl) (fun _ _ _ h => h) (Or.inl ⟨by rfl, ?_⟩) ?_ ?_
                      rotate_left
                      · intro w'
                        go_simp
                        with_reducible rfl
                      rotate_left
                      · simp only [Act.put, List.setIfInBounds_toArray, List.set_cons_zero, List.set_cons_succ, i64_w, i32_w]
                        rfl
                      refine take_ (i := 3) (N := some 99) (v := ?_) (a' := ?_) #[true, true, true, true, true, true, true, false, false, false, false, false, false, false, false, false, false, false, false, false, false, false, false, false, false, false, false, false, false, false, false, false, false, false, false, false, false] rfl rfl (by kernel_rfl) (fun _ _ _ h => h) (Or.inl ⟨by rfl, ?_⟩) hHeld ?_ ?_
                      rotate_left
                      · rintro w' ⟨s0, s1, s2, s3, s4, s5, s6, s7, s8, s9, s10, s11⟩
                        go_simp
                        with_reducible rfl
                      rotate_left
                      · simp only [Act.put, List.setIfInBounds_toArray, List.set_cons_zero, List.set_cons_succ, i64_w, i32_w]
                        rfl
                      refine take_ (i := 7) (N := some 103) (v := ?_) (a' := ?_) #[true, true, true, true, true, true, true, true, false, false, false, false, false, false, false, false, false, false, false, false, false, false, false, false, false, false, false, false, false, false, false, false, false, false, false, false, false] rfl rfl (by kernel_rfl) (fun _ _ _ h => h) (Or.inl ⟨by rfl, ?_⟩) hHeld ?_ ?_
                      rotate_left
                      · rintro w' ⟨s0, s1, s2, s3, s4, s5, s6, s7, s8, s9, s10, s11⟩
                        go_simp
                        with_reducible rfl
                      rotate_left
                      · simp only [Act.put, List.setIfInBounds_toArray, List.set_cons_zero, List.set_cons_succ, i64_w, i32_w]
                        rfl
                      refine pure_ (i := 8) (N := some 104) (v := ?_) (a' := ?_) #[true, true, true, true, true, true, true, true, true, false, false, false, false, false, false, false, false, false, false, false, false, false, false, false, false, false, false, false, false, false, false, false, false, false, false, false, false] rfl rfl (by kernel_rfl) (fun _ _ _ h => h) (Or.inl ⟨by rfl, ?_⟩) ?_ ?_
                      rotate_left
                      · intro w'
                        go_simp
                        with_reducible rfl
                      rotate_left
                      · simp only [Act.put, List.setIfInBounds_toArray, List.set_cons_zero, List.set_cons_succ, i64_w, i32_w]
                        rfl
                      refine pure_ (i := 9) (N := some 105) (v := ?_) (a' := ?_) #[true, true, true, true, true, true, true, true, true, true, false, false, false, false, false, false, false, false, false, false, false, false, false, false, false, false, false, false, false, false, false, false, false, false, false, false, false] rfl rfl (by kernel_rfl) (fun _ _ _ h => h) (Or.inl ⟨by rfl, ?_⟩) ?_ ?_
                      rotate_left
                      · intro w'
                        go_simp
                        with_reducible rfl
                      rotate_left
                      · simp only [Act.put, List.setIfInBounds_toArray, List.set_cons_zero, List.set_cons_succ, i64_w, i32_w]
                        rfl
                      refine pure_ (i := 10) (N := some 106) (v := ?_) (a' := ?_) #[true, true, true, true, true, true, true, true, true, true, true, false, false, false, false, false, false, false, false, false, false, false, false, false, false, false, false, false, false, false, false, false, false, false, false, false, false] rfl rfl (by kernel_rfl) (fun _ _ _ h => h) (Or.inl ⟨by rfl, ?_⟩) ?_ ?_
                      rotate_left
                      · intro w'
                        go_simp
                        with_reducible rfl
                      rotate_left
                      · simp only [Act.put, List.setIfInBounds_toArray, List.set_cons_zero, List.set_cons_succ, i64_w, i32_w]
                        rfl
                      refine pure_ (i := 12) (N := some 108) (v := ?_) (a' := ?_) #[true, true, true, true, true, true, true, true, true, true, true, false, true, false, false, false, false, false, false, false, false, false, false, false, false, false, false, false, false, false, false, false, false, false, false, false, false] rfl rfl (by kernel_rfl) (fun _ _ _ h => h) (Or.inl ⟨by rfl, ?_⟩) ?_ ?_
                      rotate_left
                      · intro w'
                        go_simp
                        with_reducible rfl
                      rotate_left
                      · simp only [Act.put, List.setIfInBounds_toArray, List.set_cons_zero, List.set_cons_succ, i64_w, i32_w]
                        rfl
                      refine pure_ (i := 15) (N := some 111) (v := ?_) (a' := ?_) #[true, true, true, true, true, true, true, true, true, true, true, false, true, false, false, true, false, false, false, false, false, false, false, false, false, false, false, false, false, false, false, false, false, false, false, false, false] rfl rfl (by kernel_rfl) (fun _ _ _ h => h) (Or.inl ⟨by rfl, ?_⟩) ?_ ?_
                      rotate_left
                      · intro w'
                        go_simp
                        with_reducible rfl
                      rotate_left
                      · simp only [Act.put, List.setIfInBounds_toArray, List.set_cons_zero, List.set_cons_succ, i64_w, i32_w]
                        rfl
                      refine pure_ (i := 17) (N := some 113) (v := ?_) (a' := ?_) #[true, true, true, true, true, true, true, true, true, true, true, false, true, false, false, true, false, true, false, false, false, false, false, false, false, false, false, false, false, false, false, false, false, false, false, false, false] rfl rfl (by kernel_rfl) (fun _ _ _ h => h) (Or.inl ⟨by rfl, ?_⟩) ?_ ?_
                      rotate_left
                      · intro w'
                        go_simp
                        with_reducible rfl
                      rotate_left
                      · simp only [Act.put, List.setIfInBounds_toArray, List.set_cons_zero, List.set_cons_succ, i64_w, i32_w]
                        rfl
                      refine take_ (i := 11) (N := some 107) (v := ?_) (a' := ?_) #[true, true, true, true, true, true, true, true, true, true, true, true, true, false, false, true, false, true, false, false, false, false, false, false, false, false, false, false, false, false, false, false, false, false, false, false, false] rfl rfl (by kernel_rfl) (fun _ _ _ h => h) (Or.inl ⟨by rfl, ?_⟩) hHeld ?_ ?_
                      rotate_left
                      · rintro w' ⟨s0, s1, s2, s3, s4, s5, s6, s7, s8, s9, s10, s11⟩
                        go_simp
                        with_reducible rfl
                      rotate_left
                      · simp only [Act.put, List.setIfInBounds_toArray, List.set_cons_zero, List.set_cons_succ, i64_w, i32_w]
                        rfl
                      refine pure_ (i := 13) (N := some 109) (v := ?_) (a' := ?_) #[true, true, true, true, true, true, true, true, true, true, true, true, true, true, false, true, false, true, false, false, false, false, false, false, false, false, false, false, false, false, false, false, false, false, false, false, false] rfl rfl (by kernel_rfl) (fun _ _ _ h => h) (Or.inl ⟨by rfl, ?_⟩) ?_ ?_
                      rotate_left
                      · intro w'
                        go_simp
                        with_reducible rfl
                      rotate_left
                      · simp only [Act.put, List.setIfInBounds_toArray, List.set_cons_zero, List.set_cons_succ, i64_w, i32_w]
                        rfl
                      refine take_ (i := 14) (N := some 110) (v := ?_) (a' := ?_) #[true, true, true, true, true, true, true, true, true, true, true, true, true, true, true, true, false, true, false, false, false, false, false, false, false, false, false, false, false, false, false, false, false, false, false, false, false] rfl rfl (by kernel_rfl) (fun _ _ _ h => h) (Or.inl ⟨by rfl, ?_⟩) hHeld ?_ ?_
                      rotate_left
                      · rintro w' ⟨s0, s1, s2, s3, s4, s5, s6, s7, s8, s9, s10, s11⟩
                        go_simp
                        with_reducible rfl
                      rotate_left
                      · simp only [Act.put, List.setIfInBounds_toArray, List.set_cons_zero, List.set_cons_succ, i64_w, i32_w]
                        rfl
                      refine take_ (i := 16) (N := some 112) (v := ?_) (a' := ?_) #[true, true, true, true, true, true, true, true, true, true, true, true, true, true, true, true, true, true, false, false, false, false, false, false, false, false, false, false, false, false, false, false, false, false, false, false, false] rfl rfl (by kernel_rfl) (fun _ _ _ h => h) (Or.inl ⟨by rfl, ?_⟩) hHeld ?_ ?_
                      rotate_left
                      · rintro w' ⟨s0, s1, s2, s3, s4, s5, s6, s7, s8, s9, s10, s11⟩
                        go_simp
                        with_reducible rfl
                      rotate_left
                      · simp only [Act.put, List.setIfInBounds_toArray, List.set_cons_zero, List.set_cons_succ, i64_w, i32_w]
                        rfl
                      refine pure_ (i := 18) (N := some 114) (v := ?_) (a' := ?_) #[true, true, true, true, true, true, true, true, true, true, true, true, true, true, true, true, true, true, true, false, false, false, false, false, false, false, false, false, false, false, false, false, false, false, false, false, false] rfl rfl (by kernel_rfl) (fun _ _ _ h => h) (Or.inl ⟨by rfl, ?_⟩) ?_ ?_
                      rotate_left
                      · intro w'
                        go_simp
                        with_reducible rfl
                      rotate_left
                      · simp only [Act.put, List.setIfInBounds_toArray, List.set_cons_zero, List.set_cons_succ, i64_w, i32_w]
                        rfl
                      refine take_ (i := 19) (N := some 115) (v := ?_) (a' := ?_) #[true, true, true, true, true, true, true, true, true, true, true, true, true, true, true, true, true, true, true, true, false, false, false, false, false, false, false, false, false, false, false, false, false, false, false, false, false] rfl rfl (by kernel_rfl) (fun _ _ _ h => h) (Or.inl ⟨by rfl, ?_⟩) hHeld ?_ ?_
                      rotate_left
                      · rintro w' ⟨s0, s1, s2, s3, s4, s5, s6, s7, s8, s9, s10, s11⟩
                        go_simp
                        with_reducible rfl
                      rotate_left
                      · simp only [Act.put, List.setIfInBounds_toArray, List.set_cons_zero, List.set_cons_succ, i64_w, i32_w]
                        rfl
                      refine one_ (i := 20) (N := some 116) #[true, true, true, true, true, true, true, true, true, true, true, true, true, true, true, true, true, true, true, true, true, false, false, false, false, false, false, false, false, false, false, false, false, false, false, false, false] rfl rfl (by kernel_rfl) (by decide) (fun K hK => ?_)
                      refine goes_ Tryd.func15 (by kernel_rfl) rfl #[.agg #[.int .i64 (ndT nodes x).f0, .string (ndT nodes x).f1, .int .i64 (ndT nodes x).f2, .slice A5 (ndT nodes x).f3.length c5], .agg #[.int .i64 (ndT nodes y).f0, .string (ndT nodes y).f1, .int .i64 (ndT nodes y).f2, .slice A6 (ndT nodes y).f3.length c6]] (by rfl) rfl rfl (by simp only [List.map_toArray, List.map_cons, List.map_nil]; rfl) ?_
                      with_reducible refine (al_st14 HS9.out _ hHeld.2.2.2.2.2.2.2.2.2.2.2 G5.out L5.out G6.out L6.out HALB.out).mono ?_
                      rintro e w3 ⟨rfl, z5⟩
                      refine ⟨_, rfl, ?_⟩
                      refine hK.out _ _ ⟨z5.1, z5.2.1, z5.2.2.1, z5.2.2.2.1, z5.2.2.2.2.1, z5.2.2.2.2.2.1, z5.2.2.2.2.2.2.1, z5.2.2.2.2.2.2.2.1, z5.2.2.2.2.2.2.2.2.1, z5.2.2.2.2.2.2.2.2.2.1, z5.2.2.2.2.2.2.2.2.2.2.1, z5.2.2.2.2.2.2.2.2.2.2.2⟩ (fun hHeld => ?_)
                      clear hK K
                      refine norm_ (a' := ?_) ?_ ?_
                      rotate_left
                      · show Act.put _ (some 116) _ = _
                        simp only [Act.put, List.setIfInBounds_toArray, List.set_cons_zero, List.set_cons_succ, i64_w, i32_w]
                        rfl
                      refine pure_ (i := 21) (N := some 117) (v := ?_) (a' := ?_) #[true, true, true, true, true, true, true, true, true, true, true, true, true, true, true, true, true, true, true, true, true, true, false, false, false, false, false, false, false, false, false, false, false, false, false, false, false] rfl rfl (by kernel_rfl) (fun _ _ _ h => h) (Or.inl ⟨by rfl, ?_⟩) ?_ ?_
                      rotate_left
                      · intro w'
                        go_simp
                        with_reducible rfl
                      rotate_left
                      · simp only [Act.put, List.setIfInBounds_toArray, List.set_cons_zero, List.set_cons_succ, i64_w, i32_w]
                        rfl
                      refine pure_ (i := 22) (N := some 118) (v := ?_) (a' := ?_) #[true, true, true, true, true, true, true, true, true, true, true, true, true, true, true, true, true, true, true, true, true, true, true, false, false, false, false, false, false, false, false, false, false, false, false, false, false] rfl rfl (by kernel_rfl) (fun _ _ _ h => h) (Or.inl ⟨by rfl, ?_⟩) ?_ ?_
                      rotate_left
                      · intro w'
                        go_simp
                        with_reducible rfl
                      rotate_left
                      · simp only [Act.put, List.setIfInBounds_toArray, List.set_cons_zero, List.set_cons_succ, i64_w, i32_w]
                        rfl
                      refine pure_ (i := 23) (N := some 119) (v := ?_) (a' := ?_) #[true, true, true, true, true, true, true, true, true, true, true, true, true, true, true, true, true, true, true, true, true, true, true, true, false, false, false, false, false, false, false, false, false, false, false, false, false] rfl rfl (by kernel_rfl) (fun _ _ _ h => h) (Or.inl ⟨by rfl, ?_⟩) ?_ ?_
                      rotate_left
                      · intro w'
                        go_simp
                        with_reducible rfl
                      rotate_left
                      · simp only [Act.put, List.setIfInBounds_toArray, List.set_cons_zero, List.set_cons_succ, i64_w, i32_w]
                        rfl
                      refine pure_ (i := 25) (N := some 121) (v := ?_) (a' := ?_) #[true, true, true, true, true, true, true, true, true, true, true, true, true, true, true, true, true, true, true, true, true, true, true, true, false, true, false, false, false, false, false, false, false, false, false, false, false] rfl rfl (by kernel_rfl) (fun _ _ _ h => h) (Or.inl ⟨by rfl, ?_⟩) ?_ ?_
                      rotate_left
                      · intro w'
                        go_simp
                        with_reducible rfl
                      rotate_left
                      · simp only [Act.put, List.setIfInBounds_toArray, List.set_cons_zero, List.set_cons_succ, i64_w, i32_w]
                        rfl
                      refine take_ (i := 24) (N := some 120) (v := ?_) (a' := ?_) #[true, true, true, true, true, true, true, true, true, true, true, true, true, true, true, true, true, true, true, true, true, true, true, true, true, true, false, false, false, false, false, false, false, false, false, false, false] rfl rfl (by kernel_rfl) (fun _ _ _ h => h) (Or.inl ⟨by rfl, ?_⟩) hHeld ?_ ?_
                      rotate_left
                      · rintro w' ⟨s0, s1, s2, s3, s4, s5, s6, s7, s8, s9, s10, s11⟩
                        go_simp
                        with_reducible rfl
                      rotate_left
                      · simp only [Act.put, List.setIfInBounds_toArray, List.set_cons_zero, List.set_cons_succ, i64_w, i32_w]
                        rfl
                      refine pure_ (i := 26) (N := some 122) (v := ?_) (a' := ?_) #[true, true, true, true, true, true, true, true, true, true, true, true, true, true, true, true, true, true, true, true, true, true, true, true, true, true, true, false, false, false, false, false, false, false, false, false, false] rfl rfl (by kernel_rfl) (fun _ _ _ h => h) (Or.inl ⟨by rfl, ?_⟩) ?_ ?_
                      rotate_left
                      · intro w'
                        go_simp
                        with_reducible rfl
                      rotate_left
                      · simp only [Act.put, List.setIfInBounds_toArray, List.set_cons_zero, List.set_cons_succ, i64_w, i32_w]
                        rfl
                      refine pure_ (i := 27) (N := some 123) (v := ?_) (a' := ?_) #[true, true, true, true, true, true, true, true, true, true, true, true, true, true, true, true, true, true, true, true, true, true, true, true, true, true, true, true, false, false, false, false, false, false, false, false, false] rfl rfl (by kernel_rfl) (fun _ _ _ h => h) (Or.inl ⟨by rfl, ?_⟩) ?_ ?_
                      rotate_left
                      · intro w'
                        go_simp
                        with_reducible rfl
                      rotate_left
                      · simp only [Act.put, List.setIfInBounds_toArray, List.set_cons_zero, List.set_cons_succ, i64_w, i32_w]
                        rfl
                      refine take_ (i := 28) (N := some 124) (v := ?_) (a' := ?_) #[true, true, true, true, true, true, true, true, true, true, true, true, true, true, true, true, true, true, true, true, true, true, true, true, true, true, true, true, true, false, false, false, false, false, false, false, false] rfl rfl (by kernel_rfl) (fun _ _ _ h => h) (Or.inl ⟨by rfl, ?_⟩) hHeld ?_ ?_
                      rotate_left
                      · rintro w' ⟨s0, s1, s2, s3, s4, s5, s6, s7, s8, s9, s10, s11⟩
                        go_simp
                        with_reducible rfl
                      rotate_left
                      · simp only [Act.put, List.setIfInBounds_toArray, List.set_cons_zero, List.set_cons_succ, i64_w, i32_w]
                        rfl
                      refine pure_ (i := 29) (N := some 125) (v := ?_) (a' := ?_) #[true, true, true, true, true, true, true, true, true, true, true, true, true, true, true, true, true, true, true, true, true, true, true, true, true, true, true, true, true, true, false, false, false, false, false, false, false] rfl rfl (by kernel_rfl) (fun _ _ _ h => h) (Or.inl ⟨by rfl, ?_⟩) ?_ ?_
                      rotate_left
                      · intro w'
                        go_simp
                        with_reducible rfl
                      rotate_left
                      · simp only [Act.put, List.setIfInBounds_toArray, List.set_cons_zero, List.set_cons_succ, i64_w, i32_w]
                        rfl
                      refine pure_ (i := 30) (N := some 126) (v := ?_) (a' := ?_) #[true, true, true, true, true, true, true, true, true, true, true, true, true, true, true, true, true, true, true, true, true, true, true, true, true, true, true, true, true, true, true, false, false, false, false, false, false] rfl rfl (by kernel_rfl) (fun _ _ _ h => h) (Or.inl ⟨by rfl, ?_⟩) ?_ ?_
                      rotate_left
                      · intro w'
                        go_simp
                        with_reducible rfl
                      rotate_left
                      · simp only [Act.put, List.setIfInBounds_toArray, List.set_cons_zero, List.set_cons_succ, i64_w, i32_w]
                        rfl
                      refine pure_ (i := 31) (N := some 127) (v := ?_) (a' := ?_) #[true, true, true, true, true, true, true, true, true, true, true, true, true, true, true, true, true, true, true, true, true, true, true, true, true, true, true, true, true, true, true, true, false, false, false, false, false] rfl rfl (by kernel_rfl) (fun _ _ _ h => h) (Or.inl ⟨by rfl, ?_⟩) ?_ ?_
                      rotate_left
                      · intro w'
                        go_simp
                        with_reducible rfl
                      rotate_left
                      · simp only [Act.put, List.setIfInBounds_toArray, List.set_cons_zero, List.set_cons_succ, i64_w, i32_w]
                        rfl
                      refine pure_ (i := 32) (N := some 128) (v := ?_) (a' := ?_) #[true, true, true, true, true, true, true, true, true, true, true, true, true, true, true, true, true, true, true, true, true, true, true, true, true, true, true, true, true, true, true, true, true, false, false, false, false] rfl rfl (by kernel_rfl) (fun _ _ _ h => h) (Or.inl ⟨by rfl, ?_⟩) ?_ ?_
                      rotate_left
                      · intro w'
                        go_simp
                        with_reducible rfl
                      rotate_left
                      · simp only [Act.put, List.setIfInBounds_toArray, List.set_cons_zero, List.set_cons_succ, i64_w, i32_w]
                        rfl
                      refine pure_ (i := 33) (N := some 129) (v := ?_) (a' := ?_) #[true, true, true, true, true, true, true, true, true, true, true, true, true, true, true, true, true, true, true, true, true, true, true, true, true, true, true, true, true, true, true, true, true, true, false, false, false] rfl rfl (by kernel_rfl) (fun _ _ _ h => h) (Or.inl ⟨by rfl, ?_⟩) ?_ ?_
                      rotate_left
                      · intro w'
                        go_simp
                        with_reducible rfl
                      rotate_left
                      · simp only [Act.put, List.setIfInBounds_toArray, List.set_cons_zero, List.set_cons_succ, i64_w, i32_w]
                        rfl
                      refine pure_ (i := 34) (N := some 130) (v := ?_) (a' := ?_) #[true, true, true, true, true, true, true, true, true, true, true, true, true, true, true, true, true, true, true, true, true, true, true, true, true, true, true, true, true, true, true, true, true, true, true, false, false] rfl rfl (by kernel_rfl) (fun _ _ _ h => h) (Or.inl ⟨by rfl, ?_⟩) ?_ ?_
                      rotate_left
                      · intro w'
                        go_simp
                        with_reducible rfl
                      rotate_left
                      · simp only [Act.put, List.setIfInBounds_toArray, List.set_cons_zero, List.set_cons_succ, i64_w, i32_w]
                        rfl
                      refine pure_ (i := 35) (N := some 131) (v := ?_) (a' := ?_) #[true, true, true, true, true, true, true, true, true, true, true, true, true, true, true, true, true, true, true, true, true, true, true, true, true, true, true, true, true, true, true, true, true, true, true, true, false] rfl rfl (by kernel_rfl) (fun _ _ _ h => h) (Or.inl ⟨by rfl, ?_⟩) ?_ ?_
                      rotate_left
                      · intro w'
                        go_simp
                        with_reducible rfl
                      rotate_left
                      · simp only [Act.put, List.setIfInBounds_toArray, List.set_cons_zero, List.set_cons_succ, i64_w, i32_w]
                        rfl
                      refine pure_ (i := 36) (N := some 8) (v := ?_) (a' := ?_) #[true, true, true, true, true, true, true, true, true, true, true, true, true, true, true, true, true, true, true, true, true, true, true, true, true, true, true, true, true, true, true, true, true, true, true, true, true] rfl rfl (by kernel_rfl) (fun _ _ _ h => h) (Or.inl ⟨by rfl, ?_⟩) ?_ ?_
                      rotate_left
                      · intro w'
                        go_simp
                        with_reducible rfl
                      rotate_left
                      · simp only [Act.put, List.setIfInBounds_toArray, List.set_cons_zero, List.set_cons_succ, i64_w, i32_w]
                        rfl
                      refine done_ (by kernel_rfl) ?_
                      go_wp2_with fail
                      go_ret
                      exact ⟨by first | rfl | simp [hv2, hxy2, hLL], below_next HBo.out z5.2.2.2.2.2.2.2.2.2.2.2.out⟩
                    · have hv2 : ((ndT nodes x).f0 != 1) = true := by simp [hv]
                      clear hv
                      refine start_ (n := 37) (S := fun w' => w'.cell? ⟨g3, x.toNat, none⟩ = some (.int .i64 (rd L x)) ∧ w'.cell? ⟨g3, y.toNat, none⟩ = some (.int .i64 (rd L y)) ∧ w'.cell? ⟨gb, 0, none⟩ = some (.slice (some ad) nodes.length c) ∧ w'.cell? (ad.add (x.toNat * 4)) = some (.int .i64 (ndT nodes x).f0) ∧ w'.cell? ⟨(ad.add (x.toNat * 4)).block, (ad.add (x.toNat * 4)).off + 1, none⟩ = some (.string (ndT nodes x).f1) ∧ w'.cell? ⟨(ad.add (x.toNat * 4)).block, (ad.add (x.toNat * 4)).off + 2, none⟩ = some (.int .i64 (ndT nodes x).f2) ∧ w'.cell? ⟨(ad.add (x.toNat * 4)).block, (ad.add (x.toNat * 4)).off + 3, none⟩ = some (.slice A5 (ndT nodes x).f3.length c5) ∧ w'.cell? (ad.add (y.toNat * 4)) = some (.int .i64 (ndT nodes y).f0) ∧ w'.cell? ⟨(ad.add (y.toNat * 4)).block, (ad.add (y.toNat * 4)).off + 1, none⟩ = some (.string (ndT nodes y).f1) ∧ w'.cell? ⟨(ad.add (y.toNat * 4)).block, (ad.add (y.toNat * 4)).off + 2, none⟩ = some (.int .i64 (ndT nodes y).f2) ∧ w'.cell? ⟨(ad.add (y.toNat * 4)).block, (ad.add (y.toNat * 4)).off + 3, none⟩ = some (.slice A6 (ndT nodes y).f3.length c6) ∧ Hid (Below w6.heap.size w6 w')) (ds := []) #[false, false, false, false, false, false, false, false, false, false, false, false, false, false, false, false, false, false, false, false, false, false, false, false, false, false, false, false, false, false, false, false, false, false, false, false, false] (by kernel_rfl) rfl rfl ⟨x1, x2, y0, p0, p1, p2, p3, q0, q1, q2, q3, Lib.hid (Below.refl _ _).drew⟩ (fun hHeld => ?_)
                      refine pure_ (i := 0) (N := some 96) (v := ?_) (a' := ?_) #[true, false, false, false, false, false, false, false, false, false, false, false, false, false, false, false, false, false, false, false, false, false, false, false, false, false, false, false, false, false, false, false, false, false, false, false, false] rfl rfl (by kernel_rfl) (fun _ _ _ h => h) (Or.inl ⟨by rfl, ?_⟩) ?_ ?_
                      rotate_left
                      · intro w'
                        go_simp
                        with_reducible rfl
                      rotate_left
                      · simp only [Act.put, List.setIfInBounds_toArray, List.set_cons_zero, List.set_cons_succ, i64_w, i32_w]
                        rfl
                      refine pure_ (i := 1) (N := some 97) (v := ?_) (a' := ?_) #[true, true, false, false, false, false, false, false, false, false, false, false, false, false, false, false, false, false, false, false, false, false, false, false, false, false, false, false, false, false, false, false, false, false, false, false, false] rfl rfl (by kernel_rfl) (fun _ _ _ h => h) (Or.inl ⟨by rfl, ?_⟩) ?_ ?_
                      rotate_left
                      · intro w'
                        go_simp
                        with_reducible rfl
                      rotate_left
                      · simp only [Act.put, List.setIfInBounds_toArray, List.set_cons_zero, List.set_cons_succ, i64_w, i32_w]
                        rfl
                      refine pure_ (i := 2) (N := some 98) (v := ?_) (a' := ?_) #[true, true, true, false, false, false, false, false, false, false, false, false, false, false, false, false, false, false, false, false, false, false, false, false, false, false, false, false, false, false, false, false, false, false, false, false, false] rfl rfl (by kernel_rfl) (fun _ _ _ h => h) (Or.inl ⟨by rfl, ?_⟩) ?_ ?_
                      rotate_left
                      · intro w'
                        go_simp
                        with_reducible rfl
                      rotate_left
                      · simp only [Act.put, List.setIfInBounds_toArray, List.set_cons_zero, List.set_cons_succ, i64_w, i32_w]
                        rfl
                      refine pure_ (i := 4) (N := some 100) (v := ?_) (a' := ?_) #[true, true, true, false, true, false, false, false, false, false, false, false, false, false, false, false, false, false, false, false, false, false, false, false, false, false, false, false, false, false, false, false, false, false, false, false, false] rfl rfl (by kernel_rfl) (fun _ _ _ h => h) (Or.inl ⟨by rfl, ?_⟩) ?_ ?_
                      rotate_left
                      · intro w'
                        go_simp
                        with_reducible rfl
                      rotate_left
                      · simp only [Act.put, List.setIfInBounds_toArray, List.set_cons_zero, List.set_cons_succ, i64_w, i32_w]
                        rfl
                      refine pure_ (i := 5) (N := some 101) (v := ?_) (a' := ?_) #[true, true, true, false, true, true, false, false, false, false, false, false, false, false, false, false, false, false, false, false, false, false, false, false, false, false, false, false, false, false, false, false, false, false, false, false, false] rfl rfl (by kernel_rfl) (fun _ _ _ h => h) (Or.inl ⟨by rfl, ?_⟩) ?_ ?_
                      rotate_left
                      · intro w'
                        go_simp
                        with_reducible rfl
                      rotate_left
                      · simp only [Act.put, List.setIfInBounds_toArray, List.set_cons_zero, List.set_cons_succ, i64_w, i32_w]
                        rfl
                      refine pure_ (i := 6) (N := some 102) (v := ?_) (a' := ?_) #[true, true, true, false, true, true, true, false, false, false, false, false, false, false, false, false, false, false, false, false, false, false, false, false, false, false, false, false, false, false, false, false, false, false, false, false, false] rfl rfl (by kernel_rfl) (fun _ _ _ h => h) (Or.inl ⟨by rfl, ?_⟩) ?_ ?_
                      rotate_left
                      · intro w'
                        go_simp
                        with_reducible rfl
                      rotate_left
                      · simp only [Act.put, List.setIfInBounds_toArray, List.set_cons_zero, List.set_cons_succ, i64_w, i32_w]
                        rfl
                      refine take_ (i := 3) (N := some 99) (v := ?_) (a' := ?_) #[true, true, true, true, true, true, true, false, false, false, false, false, false, false, false, false, false, false, false, false, false, false, false, false, false, false, false, false, false, false, false, false, false, false, false, false, false] rfl rfl (by kernel_rfl) (fun _ _ _ h => h) (Or.inl ⟨by rfl, ?_⟩) hHeld ?_ ?_
                      rotate_left
                      · rintro w' ⟨s0, s1, s2, s3, s4, s5, s6, s7, s8, s9, s10, s11⟩
                        go_simp
                        with_reducible rfl
                      rotate_left
                      · simp only [Act.put, List.setIfInBounds_toArray, List.set_cons_zero, List.set_cons_succ, i64_w, i32_w]
                        rfl
                      refine take_ (i := 7) (N := some 103) (v := ?_) (a' := ?_) #[true, true, true, true, true, true, true, true, false, false, false, false, false, false, false, false, false, false, false, false, false, false, false, false, false, false, false, false, false, false, false, false, false, false, false, false, false] rfl rfl (by kernel_rfl) (fun _ _ _ h => h) (Or.inl ⟨by rfl, ?_⟩) hHeld ?_ ?_
                      rotate_left
                      · rintro w' ⟨s0, s1, s2, s3, s4, s5, s6, s7, s8, s9, s10, s11⟩
                        go_simp
                        with_reducible rfl
                      rotate_left
                      · simp only [Act.put, List.setIfInBounds_toArray, List.set_cons_zero, List.set_cons_succ, i64_w, i32_w]
                        rfl
                      refine pure_ (i := 8) (N := some 104) (v := ?_) (a' := ?_) #[true, true, true, true, true, true, true, true, true, false, false, false, false, false, false, false, false, false, false, false, false, false, false, false, false, false, false, false, false, false, false, false, false, false, false, false, false] rfl rfl (by kernel_rfl) (fun _ _ _ h => h) (Or.inl ⟨by rfl, ?_⟩) ?_ ?_
                      rotate_left
                      · intro w'
                        go_simp
                        with_reducible rfl
                      rotate_left
                      · simp only [Act.put, List.setIfInBounds_toArray, List.set_cons_zero, List.set_cons_succ, i64_w, i32_w]
                        rfl
                      refine pure_ (i := 9) (N := some 105) (v := ?_) (a' := ?_) #[true, true, true, true, true, true, true, true, true, true, false, false, false, false, false, false, false, false, false, false, false, false, false, false, false, false, false, false, false, false, false, false, false, false, false, false, false] rfl rfl (by kernel_rfl) (fun _ _ _ h => h) (Or.inl ⟨by rfl, ?_⟩) ?_ ?_
                      rotate_left
                      · intro w'
                        go_simp
                        with_reducible rfl
                      rotate_left
                      · simp only [Act.put, List.setIfInBounds_toArray, List.set_cons_zero, List.set_cons_succ, i64_w, i32_w]
                        rfl
                      refine pure_ (i := 10) (N := some 106) (v := ?_) (a' := ?_) #[true, true, true, true, true, true, true, true, true, true, true, false, false, false, false, false, false, false, false, false, false, false, false, false, false, false, false, false, false, false, false, false, false, false, false, false, false] rfl rfl (by kernel_rfl) (fun _ _ _ h => h) (Or.inl ⟨by rfl, ?_⟩) ?_ ?_
                      rotate_left
                      · intro w'
                        go_simp
                        with_reducible rfl
                      rotate_left
                      · simp only [Act.put, List.setIfInBounds_toArray, List.set_cons_zero, List.set_cons_succ, i64_w, i32_w]
                        rfl
                      refine pure_ (i := 12) (N := some 108) (v := ?_) (a' := ?_) #[true, true, true, true, true, true, true, true, true, true, true, false, true, false, false, false, false, false, false, false, false, false, false, false, false, false, false, false, false, false, false, false, false, false, false, false, false] rfl rfl (by kernel_rfl) (fun _ _ _ h => h) (Or.inl ⟨by rfl, ?_⟩) ?_ ?_
                      rotate_left
                      · intro w'
                        go_simp
                        with_reducible rfl
                      rotate_left
                      · simp only [Act.put, List.setIfInBounds_toArray, List.set_cons_zero, List.set_cons_succ, i64_w, i32_w]
                        rfl
                      refine pure_ (i := 15) (N := some 111) (v := ?_) (a' := ?_) #[true, true, true, true, true, true, true, true, true, true, true, false, true, false, false, true, false, false, false, false, false, false, false, false, false, false, false, false, false, false, false, false, false, false, false, false, false] rfl rfl (by kernel_rfl) (fun _ _ _ h => h) (Or.inl ⟨by rfl, ?_⟩) ?_ ?_
                      rotate_left
                      · intro w'
                        go_simp
                        with_reducible rfl
                      rotate_left
                      · simp only [Act.put, List.setIfInBounds_toArray, List.set_cons_zero, List.set_cons_succ, i64_w, i32_w]
                        rfl
                      refine pure_ (i := 17) (N := some 113) (v := ?_) (a' := ?_) #[true, true, true, true, true, true, true, true, true, true, true, false, true, false, false, true, false, true, false, false, false, false, false, false, false, false, false, false, false, false, false, false, false, false, false, false, false] rfl rfl (by kernel_rfl) (fun _ _ _ h => h) (Or.inl ⟨by rfl, ?_⟩) ?_ ?_
                      rotate_left
                      · intro w'
                        go_simp
                        with_reducible rfl
                      rotate_left
                      · simp only [Act.put, List.setIfInBounds_toArray, List.set_cons_zero, List.set_cons_succ, i64_w, i32_w]
                        rfl
                      refine take_ (i := 11) (N := some 107) (v := ?_) (a' := ?_) #[true, true, true, true, true, true, true, true, true, true, true, true, true, false, false, true, false, true, false, false, false, false, false, false, false, false, false, false, false, false, false, false, false, false, false, false, false] rfl rfl (by kernel_rfl) (fun _ _ _ h => h) (Or.inl ⟨by rfl, ?_⟩) hHeld ?_ ?_
                      rotate_left
                      · rintro w' ⟨s0, s1, s2, s3, s4, s5, s6, s7, s8, s9, s10, s11⟩
                        go_simp
                        with_reducible rfl
                      rotate_left
                      · simp only [Act.put, List.setIfInBounds_toArray, List.set_cons_zero, List.set_cons_succ, i64_w, i32_w]
                        rfl
                      refine pure_ (i := 13) (N := some 109) (v := ?_) (a' := ?_) #[true, true, true, true, true, true, true, true, true, true, true, true, true, true, false, true, false, true, false, false, false, false, false, false, false, false, false, false, false, false, false, false, false, false, false, false, false] rfl rfl (by kernel_rfl) (fun _ _ _ h => h) (Or.inl ⟨by rfl, ?_⟩) ?_ ?_
                      rotate_left
                      · intro w'
                        go_simp
                        with_reducible rfl
                      rotate_left
                      · simp only [Act.put, List.setIfInBounds_toArray, List.set_cons_zero, List.set_cons_succ, i64_w, i32_w]
                        rfl
                      refine take_ (i := 14) (N := some 110) (v := ?_) (a' := ?_) #[true, true, true, true, true, true, true, true, true, true, true, true, true, true, true, true, false, true, false, false, false, false, false, false, false, false, false, false, false, false, false, false, false, false, false, false, false] rfl rfl (by kernel_rfl) (fun _ _ _ h => h) (Or.inl ⟨by rfl, ?_⟩) hHeld ?_ ?_
                      rotate_left
                      · rintro w' ⟨s0, s1, s2, s3, s4, s5, s6, s7, s8, s9, s10, s11⟩
                        go_simp
                        with_reducible rfl
                      rotate_left
                      · simp only [Act.put, List.setIfInBounds_toArray, List.set_cons_zero, List.set_cons_succ, i64_w, i32_w]
                        rfl
                      refine take_ (i := 16) (N := some 112) (v := ?_) (a' := ?_) #[true, true, true, true, true, true, true, true, true, true, true, true, true, true, true, true, true, true, false, false, false, false, false, false, false, false, false, false, false, false, false, false, false, false, false, false, false] rfl rfl (by kernel_rfl) (fun _ _ _ h => h) (Or.inl ⟨by rfl, ?_⟩) hHeld ?_ ?_
                      rotate_left
                      · rintro w' ⟨s0, s1, s2, s3, s4, s5, s6, s7, s8, s9, s10, s11⟩
                        go_simp
                        with_reducible rfl
                      rotate_left
                      · simp only [Act.put, List.setIfInBounds_toArray, List.set_cons_zero, List.set_cons_succ, i64_w, i32_w]
                        rfl
                      refine pure_ (i := 18) (N := some 114) (v := ?_) (a' := ?_) #[true, true, true, true, true, true, true, true, true, true, true, true, true, true, true, true, true, true, true, false, false, false, false, false, false, false, false, false, false, false, false, false, false, false, false, false, false] rfl rfl (by kernel_rfl) (fun _ _ _ h => h) (Or.inl ⟨by rfl, ?_⟩) ?_ ?_
                      rotate_left
                      · intro w'
                        go_simp
                        with_reducible rfl
                      rotate_left
                      · simp only [Act.put, List.setIfInBounds_toArray, List.set_cons_zero, List.set_cons_succ, i64_w, i32_w]
                        rfl
                      refine take_ (i := 19) (N := some 115) (v := ?_) (a' := ?_) #[true, true, true, true, true, true, true, true, true, true, true, true, true, true, true, true, true, true, true, true, false, false, false, false, false, false, false, false, false, false, false, false, false, false, false, false, false] rfl rfl (by kernel_rfl) (fun _ _ _ h => h) (Or.inl ⟨by rfl, ?_⟩) hHeld ?_ ?_
                      rotate_left
                      · rintro w' ⟨s0, s1, s2, s3, s4, s5, s6, s7, s8, s9, s10, s11⟩
                        go_simp
                        with_reducible rfl
                      rotate_left
                      · simp only [Act.put, List.setIfInBounds_toArray, List.set_cons_zero, List.set_cons_succ, i64_w, i32_w]
                        rfl
                      refine one_ (i := 20) (N := some 116) #[true, true, true, true, true, true, true, true, true, true, true, true, true, true, true, true, true, true, true, true, true, false, false, false, false, false, false, false, false, false, false, false, false, false, false, false, false] rfl rfl (by kernel_rfl) (by decide) (fun K hK => ?_)
                      refine goes_ Tryd.func15 (by kernel_rfl) rfl #[.agg #[.int .i64 (ndT nodes x).f0, .string (ndT nodes x).f1, .int .i64 (ndT nodes x).f2, .slice A5 (ndT nodes x).f3.length c5], .agg #[.int .i64 (ndT nodes y).f0, .string (ndT nodes y).f1, .int .i64 (ndT nodes y).f2, .slice A6 (ndT nodes y).f3.length c6]] (by rfl) rfl rfl (by simp only [List.map_toArray, List.map_cons, List.map_nil]; rfl) ?_
                      with_reducible refine (al_st14 HS9.out _ hHeld.2.2.2.2.2.2.2.2.2.2.2 G5.out L5.out G6.out L6.out HALB.out).mono ?_
                      rintro e w3 ⟨rfl, z5⟩
                      refine ⟨_, rfl, ?_⟩
                      refine hK.out _ _ ⟨z5.1, z5.2.1, z5.2.2.1, z5.2.2.2.1, z5.2.2.2.2.1, z5.2.2.2.2.2.1, z5.2.2.2.2.2.2.1, z5.2.2.2.2.2.2.2.1, z5.2.2.2.2.2.2.2.2.1, z5.2.2.2.2.2.2.2.2.2.1, z5.2.2.2.2.2.2.2.2.2.2.1, z5.2.2.2.2.2.2.2.2.2.2.2⟩ (fun hHeld => ?_)
                      clear hK K
                      refine norm_ (a' := ?_) ?_ ?_
                      rotate_left
                      · show Act.put _ (some 116) _ = _
                        simp only [Act.put, List.setIfInBounds_toArray, List.set_cons_zero, List.set_cons_succ, i64_w, i32_w]
                        rfl
                      refine pure_ (i := 21) (N := some 117) (v := ?_) (a' := ?_) #[true, true, true, true, true, true, true, true, true, true, true, true, true, true, true, true, true, true, true, true, true, true, false, false, false, false, false, false, false, false, false, false, false, false, false, false, false] rfl rfl (by kernel_rfl) (fun _ _ _ h => h) (Or.inl ⟨by rfl, ?_⟩) ?_ ?_
                      rotate_left
                      · intro w'
                        go_simp
                        with_reducible rfl
                      rotate_left
                      · simp only [Act.put, List.setIfInBounds_toArray, List.set_cons_zero, List.set_cons_succ, i64_w, i32_w]
                        rfl
                      refine pure_ (i := 22) (N := some 118) (v := ?_) (a' := ?_) #[true, true, true, true, true, true, true, true, true, true, true, true, true, true, true, true, true, true, true, true, true, true, true, false, false, false, false, false, false, false, false, false, false, false, false, false, false] rfl rfl (by kernel_rfl) (fun _ _ _ h => h) (Or.inl ⟨by rfl, ?_⟩) ?_ ?_
                      rotate_left
                      · intro w'
                        go_simp
                        with_reducible rfl
                      rotate_left
                      · simp only [Act.put, List.setIfInBounds_toArray, List.set_cons_zero, List.set_cons_succ, i64_w, i32_w]
                        rfl
                      refine pure_ (i := 23) (N := some 119) (v := ?_) (a' := ?_) #[true, true, true, true, true, true, true, true, true, true, true, true, true, true, true, true, true, true, true, true, true, true, true, true, false, false, false, false, false, false, false, false, false, false, false, false, false] rfl rfl (by kernel_rfl) (fun _ _ _ h => h) (Or.inl ⟨by rfl, ?_⟩) ?_ ?_
                      rotate_left
                      · intro w'
                        go_simp
                        with_reducible rfl
                      rotate_left
                      · simp only [Act.put, List.setIfInBounds_toArray, List.set_cons_zero, List.set_cons_succ, i64_w, i32_w]
                        rfl
                      refine pure_ (i := 25) (N := some 121) (v := ?_) (a' := ?_) #[true, true, true, true, true, true, true, true, true, true, true, true, true, true, true, true, true, true, true, true, true, true, true, true, false, true, false, false, false, false, false, false, false, false, false, false, false] rfl rfl (by kernel_rfl) (fun _ _ _ h => h) (Or.inl ⟨by rfl, ?_⟩) ?_ ?_
                      rotate_left
                      · intro w'
                        go_simp
                        with_reducible rfl
                      rotate_left
                      · simp only [Act.put, List.setIfInBounds_toArray, List.set_cons_zero, List.set_cons_succ, i64_w, i32_w]
                        rfl
                      refine take_ (i := 24) (N := some 120) (v := ?_) (a' := ?_) #[true, true, true, true, true, true, true, true, true, true, true, true, true, true, true, true, true, true, true, true, true, true, true, true, true, true, false, false, false, false, false, false, false, false, false, false, false] rfl rfl (by kernel_rfl) (fun _ _ _ h => h) (Or.inl ⟨by rfl, ?_⟩) hHeld ?_ ?_
                      rotate_left
                      · rintro w' ⟨s0, s1, s2, s3, s4, s5, s6, s7, s8, s9, s10, s11⟩
                        go_simp
                        with_reducible rfl
                      rotate_left
                      · simp only [Act.put, List.setIfInBounds_toArray, List.set_cons_zero, List.set_cons_succ, i64_w, i32_w]
                        rfl
                      refine pure_ (i := 26) (N := some 122) (v := ?_) (a' := ?_) #[true, true, true, true, true, true, true, true, true, true, true, true, true, true, true, true, true, true, true, true, true, true, true, true, true, true, true, false, false, false, false, false, false, false, false, false, false] rfl rfl (by kernel_rfl) (fun _ _ _ h => h) (Or.inl ⟨by rfl, ?_⟩) ?_ ?_
                      rotate_left
                      · intro w'
                        go_simp
                        with_reducible rfl
                      rotate_left
                      · simp only [Act.put, List.setIfInBounds_toArray, List.set_cons_zero, List.set_cons_succ, i64_w, i32_w]
                        rfl
                      refine pure_ (i := 27) (N := some 123) (v := ?_) (a' := ?_) #[true, true, true, true, true, true, true, true, true, true, true, true, true, true, true, true, true, true, true, true, true, true, true, true, true, true, true, true, false, false, false, false, false, false, false, false, false] rfl rfl (by kernel_rfl) (fun _ _ _ h => h) (Or.inl ⟨by rfl, ?_⟩) ?_ ?_
                      rotate_left
                      · intro w'
                        go_simp
                        with_reducible rfl
                      rotate_left
                      · simp only [Act.put, List.setIfInBounds_toArray, List.set_cons_zero, List.set_cons_succ, i64_w, i32_w]
                        rfl
                      refine take_ (i := 28) (N := some 124) (v := ?_) (a' := ?_) #[true, true, true, true, true, true, true, true, true, true, true, true, true, true, true, true, true, true, true, true, true, true, true, true, true, true, true, true, true, false, false, false, false, false, false, false, false] rfl rfl (by kernel_rfl) (fun _ _ _ h => h) (Or.inl ⟨by rfl, ?_⟩) hHeld ?_ ?_
                      rotate_left
                      · rintro w' ⟨s0, s1, s2, s3, s4, s5, s6, s7, s8, s9, s10, s11⟩
                        go_simp
                        with_reducible rfl
                      rotate_left
                      · simp only [Act.put, List.setIfInBounds_toArray, List.set_cons_zero, List.set_cons_succ, i64_w, i32_w]
                        rfl
                      refine pure_ (i := 29) (N := some 125) (v := ?_) (a' := ?_) #[true, true, true, true, true, true, true, true, true, true, true, true, true, true, true, true, true, true, true, true, true, true, true, true, true, true, true, true, true, true, false, false, false, false, false, false, false] rfl rfl (by kernel_rfl) (fun _ _ _ h => h) (Or.inl ⟨by rfl, ?_⟩) ?_ ?_
                      rotate_left
                      · intro w'
                        go_simp
                        with_reducible rfl
                      rotate_left
                      · simp only [Act.put, List.setIfInBounds_toArray, List.set_cons_zero, List.set_cons_succ, i64_w, i32_w]
                        rfl
                      refine pure_ (i := 30) (N := some 126) (v := ?_) (a' := ?_) #[true, true, true, true, true, true, true, true, true, true, true, true, true, true, true, true, true, true, true, true, true, true, true, true, true, true, true, true, true, true, true, false, false, false, false, false, false] rfl rfl (by kernel_rfl) (fun _ _ _ h => h) (Or.inl ⟨by rfl, ?_⟩) ?_ ?_
                      rotate_left
                      · intro w'
                        go_simp
                        with_reducible rfl
                      rotate_left
                      · simp only [Act.put, List.setIfInBounds_toArray, List.set_cons_zero, List.set_cons_succ, i64_w, i32_w]
                        rfl
                      refine pure_ (i := 31) (N := some 127) (v := undef) (a' := ?_) #[true, true, true, true, true, true, true, true, true, true, true, true, true, true, true, true, true, true, true, true, true, true, true, true, true, true, true, true, true, true, true, true, false, false, false, false, false] rfl rfl (by kernel_rfl) (fun _ _ _ h => h) (Or.inr ⟨by rfl, rfl⟩) ?_ ?_
                      rotate_left
                      · simp only [Act.put, List.setIfInBounds_toArray, List.set_cons_zero, List.set_cons_succ, i64_w, i32_w]
                        rfl
                      refine pure_ (i := 32) (N := some 128) (v := undef) (a' := ?_) #[true, true, true, true, true, true, true, true, true, true, true, true, true, true, true, true, true, true, true, true, true, true, true, true, true, true, true, true, true, true, true, true, true, false, false, false, false] rfl rfl (by kernel_rfl) (fun _ _ _ h => h) (Or.inr ⟨by rfl, rfl⟩) ?_ ?_
                      rotate_left
                      · simp only [Act.put, List.setIfInBounds_toArray, List.set_cons_zero, List.set_cons_succ, i64_w, i32_w]
                        rfl
                      refine pure_ (i := 33) (N := some 129) (v := undef) (a' := ?_) #[true, true, true, true, true, true, true, true, true, true, true, true, true, true, true, true, true, true, true, true, true, true, true, true, true, true, true, true, true, true, true, true, true, true, false, false, false] rfl rfl (by kernel_rfl) (fun _ _ _ h => h) (Or.inr ⟨by rfl, rfl⟩) ?_ ?_
                      rotate_left
                      · simp only [Act.put, List.setIfInBounds_toArray, List.set_cons_zero, List.set_cons_succ, i64_w, i32_w]
                        rfl
                      refine pure_ (i := 34) (N := some 130) (v := ?_) (a' := ?_) #[true, true, true, true, true, true, true, true, true, true, true, true, true, true, true, true, true, true, true, true, true, true, true, true, true, true, true, true, true, true, true, true, true, true, true, false, false] rfl rfl (by kernel_rfl) (fun _ _ _ h => h) (Or.inl ⟨by rfl, ?_⟩) ?_ ?_
                      rotate_left
                      · intro w'
                        go_simp
                        with_reducible rfl
                      rotate_left
                      · simp only [Act.put, List.setIfInBounds_toArray, List.set_cons_zero, List.set_cons_succ, i64_w, i32_w]
                        rfl
                      refine pure_ (i := 35) (N := some 131) (v := ?_) (a' := ?_) #[true, true, true, true, true, true, true, true, true, true, true, true, true, true, true, true, true, true, true, true, true, true, true, true, true, true, true, true, true, true, true, true, true, true, true, true, false] rfl rfl (by kernel_rfl) (fun _ _ _ h => h) (Or.inl ⟨by rfl, ?_⟩) ?_ ?_
                      rotate_left
                      · intro w'
                        go_simp
                        with_reducible rfl
                      rotate_left
                      · simp only [Act.put, List.setIfInBounds_toArray, List.set_cons_zero, List.set_cons_succ, i64_w, i32_w]
                        rfl
                      refine pure_ (i := 36) (N := some 8) (v := ?_) (a' := ?_) #[true, true, true, true, true, true, true, true, true, true, true, true, true, true, true, true, true, true, true, true, true, true, true, true, true, true, true, true, true, true, true, true, true, true, true, true, true] rfl rfl (by kernel_rfl) (fun _ _ _ h => h) (Or.inl ⟨by rfl, ?_⟩) ?_ ?_
                      rotate_left
                      · intro w'
                        go_simp
                        with_reducible rfl
                      rotate_left
                      · simp only [Act.put, List.setIfInBounds_toArray, List.set_cons_zero, List.set_cons_succ, i64_w, i32_w]
                        rfl
                      refine done_ (by kernel_rfl) ?_
                      go_wp2_with fail
                      go_ret
                      exact ⟨by first | rfl | simp [hv2, hLL], below_next HBo.out z5.2.2.2.2.2.2.2.2.2.2.2.out⟩
                · have hne : (rd L i != rd L j) = true := by simp [hc]
                  go_quiet (fail)
                  go_wp2_with fail
                  go_ret
                  exact HFin.out _ rfl _
      · have HCk := Lib.hid hck; clear hck
        go_wp2_with fail
        refine (check_bad A B c d nodes roots w3 (Kd.C_below HN.out HB3.out) (Kd.C_below HR.out HB3.out) HCk.out).mono ?_; rintro e w4 ⟨⟨b4, rfl⟩, hb4⟩
        go_wp2_with fail
        go_ret
        exact ⟨rfl, by have h0 := HB.out; rw [← Hgb.out] at h0; exact below_next (below_next h0 HB3.out) hb4.out⟩
end Go.Proofs.YtciniaabmjoiiaaDoor
