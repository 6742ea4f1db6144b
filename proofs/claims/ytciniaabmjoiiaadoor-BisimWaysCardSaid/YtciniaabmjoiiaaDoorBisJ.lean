/- The law BisimStable. -/
import Derived.Test.YtciniaabmjoiiaaDoorBisG
import Derived.Deep.RegionHeld3
import Derived.Deep.Cut
set_option maxRecDepth 100000
set_option linter.unusedVariables false
set_option linter.unusedSimpArgs false
namespace Go.Proofs.YtciniaabmjoiiaaDoor
open Go.RowKit Go.Shelf Go.Maps Go.Proofs.YtciniaabmjoiiaaDoorW.PrintWords Go.Proofs.YtciniaabmjoiiaaDoorW.PrintLast Go.Proofs.YtciniaabmjoiiaaDoorW.PrintMore Go.Proofs.YtciniaabmjoiiaaDoor.PRef
/-- Labelled alike, as the law asks. -/
def alB (nodes : List Nd) (i j : Int) : Bool := decide ((ndT nodes i).f0 = (ndT nodes j).f0 ∧ (ndT nodes i).f1 = (ndT nodes j).f1 ∧ (ndT nodes i).f2 = (ndT nodes j).f2 ∧ (argsN nodes i).length = (argsN nodes j).length)
theorem al_f (nodes : List Nd) (i j : Int) : tendrillaw05_alike.f (ndT nodes i).f0 (ndT nodes i).f1 (ndT nodes i).f2 (ndT nodes i).f3 (ndT nodes j).f0 (ndT nodes j).f1 (ndT nodes j).f2 (ndT nodes j).f3 = some (alB nodes i j) := by
  unfold tendrillaw05_alike.f alB argsN
  have hs : (ndT nodes i).f1.toList = (ndT nodes j).f1.toList ↔ (ndT nodes i).f1 = (ndT nodes j).f1 := ⟨str_inj, fun h => by rw [h]⟩
  show _ = some (decide (_ ∧ _ ∧ _ ∧ (ndT nodes i).f3.length = (ndT nodes j).f3.length))
  by_cases a : (ndT nodes i).f0 = (ndT nodes j).f0
  · rw [if_pos a]
    by_cases b : (ndT nodes i).f1 = (ndT nodes j).f1
    · rw [if_pos (hs.2 b)]
      by_cases c : (ndT nodes i).f2 = (ndT nodes j).f2
      · rw [if_pos c]
        congr 1
        rw [Bool.eq_iff_iff]
        simp [a, b, c]
        omega
      · rw [if_neg c]; simp [c]
    · rw [if_neg (fun h => b (hs.1 h))]; simp [b]
  · rw [if_neg a]; simp [a]
theorem stable_alike {nodes : List Nd} {L : List Int} (G : GoodG nodes) (S : Spec nodes L) (i j : Int) (i0 : 0 ≤ i) (i1 : i < nodes.length) (j0 : 0 ≤ j) (j1 : j < nodes.length) (ha : alB nodes i j = true) (hv : (ndT nodes i).f0 ≠ 1)
    (hs : ∀ p : Nat, p < (argsN nodes i).length → rd L (rd (argsN nodes i) p) = rd L (rd (argsN nodes j) p)) : rd L i = rd L j := by
  unfold alB at ha
  obtain ⟨a0, a1, a2, a3⟩ := of_decide_eq_true ha
  refine (S.iff i j i0 i1 j0 j1).2 ⟨fun a b => (a = i ∧ b = j) ∨ Alike nodes a b, .inl ⟨rfl, rfl⟩, fun a b hab => ?_⟩
  rcases hab with ⟨rfl, rfl⟩ | hab
  · refine ⟨⟨i0, i1⟩, ⟨j0, j1⟩, ⟨a0, a1, a2, a3, fun h => absurd h hv⟩, fun k hk => .inr ?_⟩
    have r1 := (good_args G a i0 i1).2 _ (List.getElem_mem hk)
    have r2 := (good_args G b j0 j1).2 _ (List.getElem_mem (by omega : k < (argsN nodes b).length))
    have e := hs k hk
    rw [rd_get _ k hk, rd_get _ k (by omega)] at e ⊢
    exact (S.iff _ _ r1.1 r1.2 r2.1 r2.2).1 e
  · obtain ⟨h1, h2, h3, h4⟩ := hab.out
    exact ⟨h1, h2, h3, fun k hk => .inr (h4 k hk)⟩
/-- The class row while it is read. -/
structure LRd (w wr : World) (base : Nat) (v : Value) (gb : Nat) (A : Option Addr) (c : Nat) (nodes : List Nd) (L : List Int) : Prop where
  hb : Below w.heap.size w wr
  r : (Kd.int .i64).R 3 wr base (fun _ => True) v L
  n : Kd.C k35 wr A nodes.length nodes
  g0 : wr.cell? ⟨gb, 0, none⟩ = some (.slice A nodes.length c)
theorem LRd.below {w wr w1 : World} {base gb : Nat} {v : Value} {A : Option Addr} {c : Nat} {nodes : List Nd} {L : List Int} (h : LRd w wr base v gb A c nodes L) (hb : Below wr.heap.size wr w1) : LRd w w1 base v gb A c nodes L :=
  ⟨below_next h.hb hb, Kd.R_below h.r hb, Kd.C_below h.n hb, (hb.cell (p := ⟨gb, 0, none⟩) (World.block_lt_of_cell? wr _ h.g0)).trans h.g0⟩
/-- What the statement 'same := ..' reads, in a world. -/
def S19 (gb : Nat) (A : Option Addr) (c : Nat) (nodes : List Nd) (p q : Addr) (k j : Int) (A5 A6 : Option Addr) (c5 c6 : Nat) (wr w' : World) : Prop :=
  w'.cell? ⟨gb, 0, none⟩ = some (.slice A nodes.length c) ∧ w'.cell? p = some (.int .i64 (ndT nodes k).f0) ∧ w'.cell? ⟨p.block, p.off + 1, none⟩ = some (.string (ndT nodes k).f1) ∧ w'.cell? ⟨p.block, p.off + 2, none⟩ = some (.int .i64 (ndT nodes k).f2) ∧ w'.cell? ⟨p.block, p.off + 3, none⟩ = some (.slice A5 (ndT nodes k).f3.length c5) ∧
  w'.cell? q = some (.int .i64 (ndT nodes j).f0) ∧ w'.cell? ⟨q.block, q.off + 1, none⟩ = some (.string (ndT nodes j).f1) ∧ w'.cell? ⟨q.block, q.off + 2, none⟩ = some (.int .i64 (ndT nodes j).f2) ∧ w'.cell? ⟨q.block, q.off + 3, none⟩ = some (.slice A6 (ndT nodes j).f3.length c6) ∧ Hid (Below wr.heap.size wr w')
theorem S19.of {gb : Nat} {A : Option Addr} {c : Nat} {nodes : List Nd} {p q : Addr} {k j : Int} {A5 A6 : Option Addr} {c5 c6 : Nat} {wr w' : World} (h : S19 gb A c nodes p q k j A5 A6 c5 c6 wr wr) (hb : Below wr.heap.size wr w') : S19 gb A c nodes p q k j A5 A6 c5 c6 wr w' := by
  obtain ⟨h0, h1, h2, h3, h4, h5, h6, h7, h8, _⟩ := h
  have f : ∀ {x : Addr} {u : Value}, wr.cell? x = some u → w'.cell? x = some u := fun hx => (hb.cell (World.block_lt_of_cell? wr _ hx)).trans hx
  exact ⟨f h0, f h1, f h2, f h3, f h4, f h5, f h6, f h7, f h8, Lib.hid hb⟩
theorem al_st {wr : World} {gb : Nat} {A : Option Addr} {c : Nat} {nodes : List Nd} {p q : Addr} {i j : Int} {A3 A4 : Option Addr} {c3 c4 : Nat} (h : S19 gb A c nodes p q i j A3 A4 c3 c4 wr wr) (W : World) (hW : Hid (Below wr.heap.size wr W))
    (h3 : (Kd.int .i64).C wr A3 (ndT nodes i).f3.length (ndT nodes i).f3) (l3 : (ndT nodes i).f3.length ≤ c3) (h4 : (Kd.int .i64).C wr A4 (ndT nodes j).f3.length (ndT nodes j).f3) (l4 : (ndT nodes j).f3.length ≤ c4) {b : Bool} (hal : alB nodes i j = b) :
    Calls Tryd.prog 15 #[.agg #[.int .i64 (ndT nodes i).f0, .string (ndT nodes i).f1, .int .i64 (ndT nodes i).f2, .slice A3 (ndT nodes i).f3.length c3], .agg #[.int .i64 (ndT nodes j).f0, .string (ndT nodes j).f1, .int .i64 (ndT nodes j).f2, .slice A4 (ndT nodes j).f3.length c4]] W
      fun e w' => e = .returned (.bool b) ∧ S19 gb A c nodes p q i j A3 A4 c3 c4 wr w' :=
  (tendrillaw05_alike.calls _ _ _ A3 c3 _ _ _ _ A4 c4 _ (alB nodes i j) W (Kd.C_below h3 hW.out) l3 (Kd.C_below h4 hW.out) l4 (al_f nodes i j)).mono fun e w' ⟨he, hb⟩ => ⟨by rw [he, hal], h.of (below_next hW.out hb)⟩
theorem num_le {N : Nat} {L : List Int} {m : Nat → Nat} (m0 : m 0 = 0) (hm : ∀ i : Nat, i < N → (0 ≤ rd L i ∧ rd L i < m i ∧ m (i + 1) = m i) ∨ (rd L i = m i ∧ m (i + 1) = m i + 1)) : ∀ k, k ≤ N → m k ≤ k := by
  intro k
  induction k with
  | zero => intro _; omega
  | succ k ih => intro hk; have := ih (by omega); rcases hm k (by omega) with h | h <;> omega
theorem check_bad (A B : Option Addr) (c d : Nat) (nodes : List Nd) (roots : List Int) (w : World) (hn : Kd.C k35 w A nodes.length nodes) (hr : Kd.C (Kd.int .i64) w B roots.length roots) (hbad : chkC nodes roots ≠ []) :
    Calls Tryd.prog 14 #[.agg #[.slice A nodes.length c, .slice B roots.length d]] w fun e w' => (∃ b, e = .returned (.iface 70 (.pointer (some ⟨b, 0, none⟩)))) ∧ Hid (Below w.heap.size w w') :=
  (check_any A B c d nodes roots w hn hr hn.2.1 hr.2.1).mono fun e w' ⟨v, he, hv, hb⟩ => by
    rcases EV_cases hv with ⟨h, _⟩ | ⟨_, b, rfl⟩
    · exact absurd h hbad
    · exact ⟨⟨b, he⟩, Lib.hid hb⟩
set_option maxHeartbeats 8000000 in
theorem BisimStable_walk (w : World) (A B : Option Addr) (c d : Nat) (nodes : List Nd) (roots : List Int) (hg : GIn w (.agg #[.slice A nodes.length c, .slice B roots.length d]) A B c d nodes roots) (E : TabE w) :
    Calls Tryd.prog 3 #[.agg #[.slice A nodes.length c, .slice B roots.length d]] w (LawT w) := by
  have HGr := Lib.hid hg
  have HB : Hid (Below w.heap.size w (w.alloc (.cells #[.slice A nodes.length c, .slice B roots.length d] 25))) := Lib.hid ((Below.refl _ _).alloc (Nat.le_refl _) _)
  have HE := Lib.hid (E.keep HB.out)
  have hnc := hg.nc
  have hrc := hg.rc
  have hm1 : nodes.length ≤ 9223372036854775807 := hg.n.2.1
  have hsz : w.heap.size < (w.alloc (.cells #[.slice A nodes.length c, .slice B roots.length d] 25)).heap.size := by simp
  obtain ⟨ks, bs, hsm⟩ := small_some nodes roots 150 hm1
  have HSm := Lib.hid hsm
  have HN := Lib.hid (Kd.C_below hg.n HB.out)
  have HR := Lib.hid (Kd.C_below hg.r HB.out)
  clear hg E hsm
  go_enter Tryd.func3, Tryd.ntmps3
  have c0 : (w.alloc (.cells #[.slice A nodes.length c, .slice B roots.length d] 25)).cell? ⟨w.heap.size, 0, none⟩ = some (.slice A nodes.length c) := by simp [go_sem]
  have c1 : (w.alloc (.cells #[.slice A nodes.length c, .slice B roots.length d] 25)).cell? ⟨w.heap.size, 1, none⟩ = some (.slice B roots.length d) := by simp [go_sem]
  go_upto_region 1 with fail
  generalize hW : w.alloc (.cells #[.slice A nodes.length c, .slice B roots.length d] 25) = W at *
  clear hW
  generalize hgb : w.heap.size = gb at *
  have Hgb := Lib.hid hgb; clear hgb
  go_wp2_with fail
  refine (lives_any W HE.out).mono ?_; rintro e w1 ⟨rfl, hb1⟩
  have d0 := (hb1.out.cell (p := ⟨gb, 0, none⟩) hsz).trans c0
  have d1 := (hb1.out.cell (p := ⟨gb, 1, none⟩) hsz).trans c1
  have hl1 := Nat.lt_of_lt_of_le hsz hb1.out.size
  go_wp2_with fail
  refine (tendrilhand_Small.calls ks A c nodes B d roots 150 bs w1 (Kd.C_below HN.out hb1.out) hnc (Kd.C_below HR.out hb1.out) hrc HSm.out).mono ?_; rintro e w2 ⟨rfl, hb2⟩
  have HB2 := Lib.hid (below_next hb1.out hb2)
  have e0 := (hb2.cell (p := ⟨gb, 0, none⟩) hl1).trans d0
  have e1 := (hb2.cell (p := ⟨gb, 1, none⟩) hl1).trans d1
  have hl2 := Nat.lt_of_lt_of_le hl1 hb2.size
  clear d0 d1 hb2 hb1 c0 c1
  cases bs with
  | false =>
    go_wp2_with fail
    refine (lives_any w2 (HE.out.keep HB2.out)).mono ?_; rintro e w3 ⟨rfl, hb3⟩
    go_wp2_with fail
    go_ret
    exact ⟨rfl, by have h0 := HB.out; rw [← Hgb.out] at h0; exact below_next (below_next h0 HB2.out) hb3.out⟩
  | true =>
    go_wp2_with fail
    refine (classes_any w2 A B c d nodes roots (Kd.C_below HN.out HB2.out) (Kd.C_below HR.out HB2.out) (HE.out.keep HB2.out)).mono ?_; rintro e w3 ⟨hb3, h3⟩
    have f0 := (hb3.out.cell (p := ⟨gb, 0, none⟩) hl2).trans e0
    have f1 := (hb3.out.cell (p := ⟨gb, 1, none⟩) hl2).trans e1
    have HB3 := Lib.hid (below_next HB2.out hb3.out)
    clear e0 e1
    rcases h3 with ⟨hck, A3, L, c3, rfl, HL⟩ | ⟨hck, b3, rfl, _⟩
    · have hG := goodG_of hck
      have hlen := HL.out.2.len
      have hNs := hG.1
      have HG := Lib.hid hG
      have HS := Lib.hid HL.out.2
      have hr0 := HL.out.1
      rw [hlen] at hr0 ⊢
      obtain ⟨m, m0, hm⟩ := HS.out.num
      have HM := Lib.hid hm
      have HML := Lib.hid (num_le m0 hm)
      have hq0 : Hid (LRd w w3 w2.heap.size (.slice A3 nodes.length c3) gb A c nodes L) := Lib.hid ⟨by
        have h0 := HB.out; rw [← Hgb.out] at h0; exact below_next h0 HB3.out, hr0, Kd.C_below HN.out HB3.out, f0⟩
      have M0 := Lib.hid m0
      clear hm m0 hG hlen hr0 HL hck HN HR HB2 HB3 hb3 f1
      go_wp2_with fail
      clear f0
      go_loopw [5, 36] (fun v5 i wr => ∃ k : Nat, k ≤ nodes.length ∧ i = .int .i64 k ∧ v5 = .int .i64 (m k) ∧ Hid (LRd w wr w2.heap.size (.slice A3 nodes.length c3) gb A c nodes L)) (fun _ i _ => nodes.length - (intOf i).toNat)
      case atStart => exact ⟨0, Nat.zero_le _, rfl, by rw [M0.out]; rfl, hq0⟩
      case round =>
        obtain ⟨k, hk, rfl, rfl, HQ⟩ := hrel
        clear hq0
        by_cases hlt : k < nodes.length
        · have hmk := HML.out k hk
          have hmk1 := HML.out (k + 1) (by omega)
          have hL3 : L.length = nodes.length := HS.out.len
          obtain ⟨g3, cap3, e3, _, _, _, _⟩ := Kd.R_form HQ.out.r (by omega)
          injection e3 with e4 e5 e6
          subst e4
          clear e5 e6 hL3
          have x0 := (Kd.R_celln 0 HQ.out.r (k : Int) (by omega) (by omega)).1
          have ex : rdOf 0 L (k : Int) = rd L k := rfl
          simp only [Int.toNat_natCast] at x0
          rw [ex] at x0
          clear ex
          have hlo : 0 ≤ rd L k ∧ rd L k ≤ (m k : Int) := by
            rcases HM.out k hlt with ⟨a1, a2, a3⟩ | ⟨b1, b2⟩ <;> omega
          have hn1 : ¬ rd L k < 0 := by omega
          have hn2 : ¬ (m k : Int) < rd L k := by omega
          go_upto_if 57 with fail
          clear hn1 hn2 hlo
          go_cut [5] from 52 to 59 (fun s5 wx => s5 = .int .i64 (m (k + 1)) ∧ Hid (LRd w wx w2.heap.size (.slice (some ⟨g3, 0, none⟩) nodes.length c3) gb A c nodes L))
          case first =>
            rcases HM.out k hlt with ⟨a1, a2, a3⟩ | ⟨b1, b2⟩
            · have hne : (rd L k == (m k : Int)) = false := by rw [beq_eq_false_iff_ne]; omega
              rw [hne]
              go_wp2_with fail
              go_meet
              exact ⟨by rw [a3], HQ⟩
            · have hne : (rd L k == (m k : Int)) = true := by rw [beq_iff_eq]; omega
              rw [hne]
              go_wp2_with fail
              go_meet
              exact ⟨by rw [b2]; first | rfl | (congr 1; omega) | omega, HQ⟩
          case rest =>
            obtain ⟨rfl, HQ1⟩ := hcut
            clear HQ x0 hmk hmk1
            go_wp2_with fail
            go_loopw [62] (fun i wr => ∃ j : Nat, j ≤ nodes.length ∧ i = .int .i64 j ∧ Hid (LRd w wr w2.heap.size (.slice (some ⟨g3, 0, none⟩) nodes.length c3) gb A c nodes L)) (fun i _ => nodes.length - (intOf i).toNat)
            case atStart => exact ⟨0, Nat.zero_le _, rfl, HQ1⟩
            case round =>
              obtain ⟨j, hj, rfl, HQ2⟩ := hrel
              clear HQ1
              by_cases hjl : j < nodes.length
              · obtain ⟨ad, A5, c5, ea, p0, p1, p2, p3, l5, g5⟩ := at_T35 HQ2.out.n (k : Int) (by omega) (by omega)
                subst ea
                obtain ⟨ad', A6, c6, eb, q0, q1, q2, q3, l6, g6⟩ := at_T35 HQ2.out.n (j : Int) (by omega) (by omega)
                cases eb
                simp only [Int.toNat_natCast] at p0 p1 p2 p3 q0 q1 q2 q3
                have y0 := HQ2.out.g0
                have HS9 : Hid (S19 gb (some ad) c nodes (ad.add (k * 4)) (ad.add (j * 4)) k j A5 A6 c5 c6 wr wr) := Lib.hid ⟨y0, p0, p1, p2, p3, q0, q1, q2, q3, Lib.hid (Below.refl _ _)⟩
                have G5 : Hid ((Kd.int .i64).C wr A5 (ndT nodes k).f3.length (ndT nodes k).f3) := Lib.hid g5
                have G6 : Hid ((Kd.int .i64).C wr A6 (ndT nodes j).f3.length (ndT nodes j).f3) := Lib.hid g6
                have L5 : Hid ((ndT nodes k).f3.length ≤ c5) := Lib.hid l5
                have L6 : Hid ((ndT nodes j).f3.length ≤ c6) := Lib.hid l6
                have hak := good_args HG.out (k : Int) (by omega) (by omega)
                have haj := good_args HG.out (j : Int) (by omega) (by omega)
                have HAK := Lib.hid hak
                have HAJ := Lib.hid haj
                clear hak haj g5 g6 l5 l6 p0 p1 p2 p3 q0 q1 q2 q3 y0
                go_upto_region 19 with fail
                go_cut [8] from 65 to 84 (fun s8 wx => ∃ b : Bool, s8 = .bool b ∧ Hid (b = true → alB nodes k j = true ∧ (ndT nodes k).f0 ≠ 1) ∧ Hid (S19 gb (some ad) c nodes (ad.add (k * 4)) (ad.add (j * 4)) k j A5 A6 c5 c6 wr wx))
                case first =>
                  obtain ⟨y0, p0, p1, p2, p3, q0, q1, q2, q3, hbb⟩ := HS9.out
                  cases hal : alB nodes k j with
                  | false =>
                    have HAL := Lib.hid hal
                    clear hal
                    refine start_ (n := 21) (S := fun w' => w'.cell? ⟨gb, 0, none⟩ = some (.slice (some ad) nodes.length c) ∧ w'.cell? (ad.add (k * 4)) = some (.int .i64 (ndT nodes k).f0) ∧ w'.cell? ⟨(ad.add (k * 4)).block, (ad.add (k * 4)).off + 1, none⟩ = some (.string (ndT nodes k).f1) ∧ w'.cell? ⟨(ad.add (k * 4)).block, (ad.add (k * 4)).off + 2, none⟩ = some (.int .i64 (ndT nodes k).f2) ∧ w'.cell? ⟨(ad.add (k * 4)).block, (ad.add (k * 4)).off + 3, none⟩ = some (.slice A5 (ndT nodes k).f3.length c5) ∧ w'.cell? (ad.add (j * 4)) = some (.int .i64 (ndT nodes j).f0) ∧ w'.cell? ⟨(ad.add (j * 4)).block, (ad.add (j * 4)).off + 1, none⟩ = some (.string (ndT nodes j).f1) ∧ w'.cell? ⟨(ad.add (j * 4)).block, (ad.add (j * 4)).off + 2, none⟩ = some (.int .i64 (ndT nodes j).f2) ∧ w'.cell? ⟨(ad.add (j * 4)).block, (ad.add (j * 4)).off + 3, none⟩ = some (.slice A6 (ndT nodes j).f3.length c6) ∧ Hid (Below wr.heap.size wr w')) (ds := []) #[false, false, false, false, false, false, false, false, false, false, false, false, false, false, false, false, false, false, false, false, false] (by kernel_rfl) rfl rfl ⟨y0, p0, p1, p2, p3, q0, q1, q2, q3, Lib.hid (Below.refl _ _).drew⟩ (fun hHeld => ?_)
                    refine pure_ (i := 0) (N := some 65) (v := ?_) (a' := ?_) #[true, false, false, false, false, false, false, false, false, false, false, false, false, false, false, false, false, false, false, false, false] rfl rfl (by kernel_rfl) (fun _ _ _ h => h) (Or.inl ⟨by rfl, ?_⟩) ?_ ?_
                    rotate_left
                    · intro w'
                      go_simp
                      with_reducible rfl
                    rotate_left
                    · simp only [Act.put, List.setIfInBounds_toArray, List.set_cons_zero, List.set_cons_succ, i64_w, i32_w]
                      rfl
                    refine pure_ (i := 2) (N := some 67) (v := ?_) (a' := ?_) #[true, false, true, false, false, false, false, false, false, false, false, false, false, false, false, false, false, false, false, false, false] rfl rfl (by kernel_rfl) (fun _ _ _ h => h) (Or.inl ⟨by rfl, ?_⟩) ?_ ?_
                    rotate_left
                    · intro w'
                      go_simp
                      with_reducible rfl
                    rotate_left
                    · simp only [Act.put, List.setIfInBounds_toArray, List.set_cons_zero, List.set_cons_succ, i64_w, i32_w]
                      rfl
                    refine pure_ (i := 5) (N := some 70) (v := ?_) (a' := ?_) #[true, false, true, false, false, true, false, false, false, false, false, false, false, false, false, false, false, false, false, false, false] rfl rfl (by kernel_rfl) (fun _ _ _ h => h) (Or.inl ⟨by rfl, ?_⟩) ?_ ?_
                    rotate_left
                    · intro w'
                      go_simp
                      with_reducible rfl
                    rotate_left
                    · simp only [Act.put, List.setIfInBounds_toArray, List.set_cons_zero, List.set_cons_succ, i64_w, i32_w]
                      rfl
                    refine pure_ (i := 7) (N := some 72) (v := ?_) (a' := ?_) #[true, false, true, false, false, true, false, true, false, false, false, false, false, false, false, false, false, false, false, false, false] rfl rfl (by kernel_rfl) (fun _ _ _ h => h) (Or.inl ⟨by rfl, ?_⟩) ?_ ?_
                    rotate_left
                    · intro w'
                      go_simp
                      with_reducible rfl
                    rotate_left
                    · simp only [Act.put, List.setIfInBounds_toArray, List.set_cons_zero, List.set_cons_succ, i64_w, i32_w]
                      rfl
                    refine take_ (i := 1) (N := some 66) (v := ?_) (a' := ?_) #[true, true, true, false, false, true, false, true, false, false, false, false, false, false, false, false, false, false, false, false, false] rfl rfl (by kernel_rfl) (fun _ _ _ h => h) (Or.inl ⟨by rfl, ?_⟩) hHeld ?_ ?_
                    rotate_left
                    · rintro w' ⟨s0, s1, s2, s3, s4, s5, s6, s7, s8, s9⟩
                      go_simp
                      with_reducible rfl
                    rotate_left
                    · simp only [Act.put, List.setIfInBounds_toArray, List.set_cons_zero, List.set_cons_succ, i64_w, i32_w]
                      rfl
                    refine pure_ (i := 3) (N := some 68) (v := ?_) (a' := ?_) #[true, true, true, true, false, true, false, true, false, false, false, false, false, false, false, false, false, false, false, false, false] rfl rfl (by kernel_rfl) (fun _ _ _ h => h) (Or.inl ⟨by rfl, ?_⟩) ?_ ?_
                    rotate_left
                    · intro w'
                      go_simp
                      with_reducible rfl
                    rotate_left
                    · simp only [Act.put, List.setIfInBounds_toArray, List.set_cons_zero, List.set_cons_succ, i64_w, i32_w]
                      rfl
                    refine take_ (i := 4) (N := some 69) (v := ?_) (a' := ?_) #[true, true, true, true, true, true, false, true, false, false, false, false, false, false, false, false, false, false, false, false, false] rfl rfl (by kernel_rfl) (fun _ _ _ h => h) (Or.inl ⟨by rfl, ?_⟩) hHeld ?_ ?_
                    rotate_left
                    · rintro w' ⟨s0, s1, s2, s3, s4, s5, s6, s7, s8, s9⟩
                      go_simp
                      with_reducible rfl
                    rotate_left
                    · simp only [Act.put, List.setIfInBounds_toArray, List.set_cons_zero, List.set_cons_succ, i64_w, i32_w]
                      rfl
                    refine take_ (i := 6) (N := some 71) (v := ?_) (a' := ?_) #[true, true, true, true, true, true, true, true, false, false, false, false, false, false, false, false, false, false, false, false, false] rfl rfl (by kernel_rfl) (fun _ _ _ h => h) (Or.inl ⟨by rfl, ?_⟩) hHeld ?_ ?_
                    rotate_left
                    · rintro w' ⟨s0, s1, s2, s3, s4, s5, s6, s7, s8, s9⟩
                      go_simp
                      with_reducible rfl
                    rotate_left
                    · simp only [Act.put, List.setIfInBounds_toArray, List.set_cons_zero, List.set_cons_succ, i64_w, i32_w]
                      rfl
                    refine pure_ (i := 8) (N := some 73) (v := ?_) (a' := ?_) #[true, true, true, true, true, true, true, true, true, false, false, false, false, false, false, false, false, false, false, false, false] rfl rfl (by kernel_rfl) (fun _ _ _ h => h) (Or.inl ⟨by rfl, ?_⟩) ?_ ?_
                    rotate_left
                    · intro w'
                      go_simp
                      with_reducible rfl
                    rotate_left
                    · simp only [Act.put, List.setIfInBounds_toArray, List.set_cons_zero, List.set_cons_succ, i64_w, i32_w]
                      rfl
                    refine take_ (i := 9) (N := some 74) (v := ?_) (a' := ?_) #[true, true, true, true, true, true, true, true, true, true, false, false, false, false, false, false, false, false, false, false, false] rfl rfl (by kernel_rfl) (fun _ _ _ h => h) (Or.inl ⟨by rfl, ?_⟩) hHeld ?_ ?_
                    rotate_left
                    · rintro w' ⟨s0, s1, s2, s3, s4, s5, s6, s7, s8, s9⟩
                      go_simp
                      with_reducible rfl
                    rotate_left
                    · simp only [Act.put, List.setIfInBounds_toArray, List.set_cons_zero, List.set_cons_succ, i64_w, i32_w]
                      rfl
                    refine one_ (i := 10) (N := some 75) #[true, true, true, true, true, true, true, true, true, true, true, false, false, false, false, false, false, false, false, false, false] rfl rfl (by kernel_rfl) (by decide) (fun K hK => ?_)
                    refine goes_ Tryd.func15 (by kernel_rfl) rfl #[.agg #[.int .i64 (ndT nodes k).f0, .string (ndT nodes k).f1, .int .i64 (ndT nodes k).f2, .slice A5 (ndT nodes k).f3.length c5], .agg #[.int .i64 (ndT nodes j).f0, .string (ndT nodes j).f1, .int .i64 (ndT nodes j).f2, .slice A6 (ndT nodes j).f3.length c6]] (by rfl) rfl rfl (by simp only [List.map_toArray, List.map_cons, List.map_nil]; rfl) ?_
                    with_reducible refine (al_st HS9.out _ hHeld.2.2.2.2.2.2.2.2.2 G5.out L5.out G6.out L6.out HAL.out).mono ?_
                    rintro e w3 ⟨rfl, z5⟩
                    refine ⟨_, rfl, ?_⟩
                    refine hK.out _ _ ⟨z5.1, z5.2.1, z5.2.2.1, z5.2.2.2.1, z5.2.2.2.2.1, z5.2.2.2.2.2.1, z5.2.2.2.2.2.2.1, z5.2.2.2.2.2.2.2.1, z5.2.2.2.2.2.2.2.2.1, z5.2.2.2.2.2.2.2.2.2⟩ (fun hHeld => ?_)
                    clear hK K
                    refine norm_ (a' := ?_) ?_ ?_
                    rotate_left
                    · show Act.put _ (some 75) _ = _
                      simp only [Act.put, List.setIfInBounds_toArray, List.set_cons_zero, List.set_cons_succ, i64_w, i32_w]
                      rfl
                    refine pure_ (i := 11) (N := some 76) (v := ?_) (a' := ?_) #[true, true, true, true, true, true, true, true, true, true, true, true, false, false, false, false, false, false, false, false, false] rfl rfl (by kernel_rfl) (fun _ _ _ h => h) (Or.inl ⟨by rfl, ?_⟩) ?_ ?_
                    rotate_left
                    · intro w'
                      go_simp
                      with_reducible rfl
                    rotate_left
                    · simp only [Act.put, List.setIfInBounds_toArray, List.set_cons_zero, List.set_cons_succ, i64_w, i32_w]
                      rfl
                    refine pure_ (i := 12) (N := some 77) (v := undef) (a' := ?_) #[true, true, true, true, true, true, true, true, true, true, true, true, true, false, false, false, false, false, false, false, false] rfl rfl (by kernel_rfl) (fun _ _ _ h => h) (Or.inr ⟨by rfl, rfl⟩) ?_ ?_
                    rotate_left
                    · simp only [Act.put, List.setIfInBounds_toArray, List.set_cons_zero, List.set_cons_succ, i64_w, i32_w]
                      rfl
                    refine pure_ (i := 13) (N := some 78) (v := undef) (a' := ?_) #[true, true, true, true, true, true, true, true, true, true, true, true, true, true, false, false, false, false, false, false, false] rfl rfl (by kernel_rfl) (fun _ _ _ h => h) (Or.inr ⟨by rfl, rfl⟩) ?_ ?_
                    rotate_left
                    · simp only [Act.put, List.setIfInBounds_toArray, List.set_cons_zero, List.set_cons_succ, i64_w, i32_w]
                      rfl
                    refine pure_ (i := 14) (N := some 79) (v := undef) (a' := ?_) #[true, true, true, true, true, true, true, true, true, true, true, true, true, true, true, false, false, false, false, false, false] rfl rfl (by kernel_rfl) (fun _ _ _ h => h) (Or.inr ⟨by rfl, rfl⟩) ?_ ?_
                    rotate_left
                    · simp only [Act.put, List.setIfInBounds_toArray, List.set_cons_zero, List.set_cons_succ, i64_w, i32_w]
                      rfl
                    refine pure_ (i := 15) (N := some 80) (v := undef) (a' := ?_) #[true, true, true, true, true, true, true, true, true, true, true, true, true, true, true, true, false, false, false, false, false] rfl rfl (by kernel_rfl) (fun _ _ _ h => h) (Or.inr ⟨by rfl, rfl⟩) ?_ ?_
                    rotate_left
                    · simp only [Act.put, List.setIfInBounds_toArray, List.set_cons_zero, List.set_cons_succ, i64_w, i32_w]
                      rfl
                    refine pure_ (i := 16) (N := some 81) (v := undef) (a' := ?_) #[true, true, true, true, true, true, true, true, true, true, true, true, true, true, true, true, true, false, false, false, false] rfl rfl (by kernel_rfl) (fun _ _ _ h => h) (Or.inr ⟨by rfl, rfl⟩) ?_ ?_
                    rotate_left
                    · simp only [Act.put, List.setIfInBounds_toArray, List.set_cons_zero, List.set_cons_succ, i64_w, i32_w]
                      rfl
                    refine pure_ (i := 17) (N := some 82) (v := undef) (a' := ?_) #[true, true, true, true, true, true, true, true, true, true, true, true, true, true, true, true, true, true, false, false, false] rfl rfl (by kernel_rfl) (fun _ _ _ h => h) (Or.inr ⟨by rfl, rfl⟩) ?_ ?_
                    rotate_left
                    · simp only [Act.put, List.setIfInBounds_toArray, List.set_cons_zero, List.set_cons_succ, i64_w, i32_w]
                      rfl
                    refine pure_ (i := 18) (N := some 83) (v := undef) (a' := ?_) #[true, true, true, true, true, true, true, true, true, true, true, true, true, true, true, true, true, true, true, false, false] rfl rfl (by kernel_rfl) (fun _ _ _ h => h) (Or.inr ⟨by rfl, rfl⟩) ?_ ?_
                    rotate_left
                    · simp only [Act.put, List.setIfInBounds_toArray, List.set_cons_zero, List.set_cons_succ, i64_w, i32_w]
                      rfl
                    refine pure_ (i := 19) (N := some 84) (v := ?_) (a' := ?_) #[true, true, true, true, true, true, true, true, true, true, true, true, true, true, true, true, true, true, true, true, false] rfl rfl (by kernel_rfl) (fun _ _ _ h => h) (Or.inl ⟨by rfl, ?_⟩) ?_ ?_
                    rotate_left
                    · intro w'
                      go_simp
                      with_reducible rfl
                    rotate_left
                    · simp only [Act.put, List.setIfInBounds_toArray, List.set_cons_zero, List.set_cons_succ, i64_w, i32_w]
                      rfl
                    refine pure_ (i := 20) (N := some 8) (v := ?_) (a' := ?_) #[true, true, true, true, true, true, true, true, true, true, true, true, true, true, true, true, true, true, true, true, true] rfl rfl (by kernel_rfl) (fun _ _ _ h => h) (Or.inl ⟨by rfl, ?_⟩) ?_ ?_
                    rotate_left
                    · intro w'
                      go_simp
                      with_reducible rfl
                    rotate_left
                    · simp only [Act.put, List.setIfInBounds_toArray, List.set_cons_zero, List.set_cons_succ, i64_w, i32_w]
                      rfl
                    refine done_ (by kernel_rfl) ?_
                    go_wp2_with fail
                    go_meet
                    exact ⟨false, rfl, Lib.hid (fun h => by cases h), Lib.hid z5⟩
                  | true =>
                    have HAL := Lib.hid hal
                    clear hal
                    refine start_ (n := 21) (S := fun w' => w'.cell? ⟨gb, 0, none⟩ = some (.slice (some ad) nodes.length c) ∧ w'.cell? (ad.add (k * 4)) = some (.int .i64 (ndT nodes k).f0) ∧ w'.cell? ⟨(ad.add (k * 4)).block, (ad.add (k * 4)).off + 1, none⟩ = some (.string (ndT nodes k).f1) ∧ w'.cell? ⟨(ad.add (k * 4)).block, (ad.add (k * 4)).off + 2, none⟩ = some (.int .i64 (ndT nodes k).f2) ∧ w'.cell? ⟨(ad.add (k * 4)).block, (ad.add (k * 4)).off + 3, none⟩ = some (.slice A5 (ndT nodes k).f3.length c5) ∧ w'.cell? (ad.add (j * 4)) = some (.int .i64 (ndT nodes j).f0) ∧ w'.cell? ⟨(ad.add (j * 4)).block, (ad.add (j * 4)).off + 1, none⟩ = some (.string (ndT nodes j).f1) ∧ w'.cell? ⟨(ad.add (j * 4)).block, (ad.add (j * 4)).off + 2, none⟩ = some (.int .i64 (ndT nodes j).f2) ∧ w'.cell? ⟨(ad.add (j * 4)).block, (ad.add (j * 4)).off + 3, none⟩ = some (.slice A6 (ndT nodes j).f3.length c6) ∧ Hid (Below wr.heap.size wr w')) (ds := []) #[false, false, false, false, false, false, false, false, false, false, false, false, false, false, false, false, false, false, false, false, false] (by kernel_rfl) rfl rfl ⟨y0, p0, p1, p2, p3, q0, q1, q2, q3, Lib.hid (Below.refl _ _).drew⟩ (fun hHeld => ?_)
                    refine pure_ (i := 0) (N := some 65) (v := ?_) (a' := ?_) #[true, false, false, false, false, false, false, false, false, false, false, false, false, false, false, false, false, false, false, false, false] rfl rfl (by kernel_rfl) (fun _ _ _ h => h) (Or.inl ⟨by rfl, ?_⟩) ?_ ?_
                    rotate_left
                    · intro w'
                      go_simp
                      with_reducible rfl
                    rotate_left
                    · simp only [Act.put, List.setIfInBounds_toArray, List.set_cons_zero, List.set_cons_succ, i64_w, i32_w]
                      rfl
                    refine pure_ (i := 2) (N := some 67) (v := ?_) (a' := ?_) #[true, false, true, false, false, false, false, false, false, false, false, false, false, false, false, false, false, false, false, false, false] rfl rfl (by kernel_rfl) (fun _ _ _ h => h) (Or.inl ⟨by rfl, ?_⟩) ?_ ?_
                    rotate_left
                    · intro w'
                      go_simp
                      with_reducible rfl
                    rotate_left
                    · simp only [Act.put, List.setIfInBounds_toArray, List.set_cons_zero, List.set_cons_succ, i64_w, i32_w]
                      rfl
                    refine pure_ (i := 5) (N := some 70) (v := ?_) (a' := ?_) #[true, false, true, false, false, true, false, false, false, false, false, false, false, false, false, false, false, false, false, false, false] rfl rfl (by kernel_rfl) (fun _ _ _ h => h) (Or.inl ⟨by rfl, ?_⟩) ?_ ?_
                    rotate_left
                    · intro w'
                      go_simp
                      with_reducible rfl
                    rotate_left
                    · simp only [Act.put, List.setIfInBounds_toArray, List.set_cons_zero, List.set_cons_succ, i64_w, i32_w]
                      rfl
                    refine pure_ (i := 7) (N := some 72) (v := ?_) (a' := ?_) #[true, false, true, false, false, true, false, true, false, false, false, false, false, false, false, false, false, false, false, false, false] rfl rfl (by kernel_rfl) (fun _ _ _ h => h) (Or.inl ⟨by rfl, ?_⟩) ?_ ?_
                    rotate_left
                    · intro w'
                      go_simp
                      with_reducible rfl
                    rotate_left
                    · simp only [Act.put, List.setIfInBounds_toArray, List.set_cons_zero, List.set_cons_succ, i64_w, i32_w]
                      rfl
                    refine take_ (i := 1) (N := some 66) (v := ?_) (a' := ?_) #[true, true, true, false, false, true, false, true, false, false, false, false, false, false, false, false, false, false, false, false, false] rfl rfl (by kernel_rfl) (fun _ _ _ h => h) (Or.inl ⟨by rfl, ?_⟩) hHeld ?_ ?_
                    rotate_left
                    · rintro w' ⟨s0, s1, s2, s3, s4, s5, s6, s7, s8, s9⟩
                      go_simp
                      with_reducible rfl
                    rotate_left
                    · simp only [Act.put, List.setIfInBounds_toArray, List.set_cons_zero, List.set_cons_succ, i64_w, i32_w]
                      rfl
                    refine pure_ (i := 3) (N := some 68) (v := ?_) (a' := ?_) #[true, true, true, true, false, true, false, true, false, false, false, false, false, false, false, false, false, false, false, false, false] rfl rfl (by kernel_rfl) (fun _ _ _ h => h) (Or.inl ⟨by rfl, ?_⟩) ?_ ?_
                    rotate_left
                    · intro w'
                      go_simp
                      with_reducible rfl
                    rotate_left
                    · simp only [Act.put, List.setIfInBounds_toArray, List.set_cons_zero, List.set_cons_succ, i64_w, i32_w]
                      rfl
                    refine take_ (i := 4) (N := some 69) (v := ?_) (a' := ?_) #[true, true, true, true, true, true, false, true, false, false, false, false, false, false, false, false, false, false, false, false, false] rfl rfl (by kernel_rfl) (fun _ _ _ h => h) (Or.inl ⟨by rfl, ?_⟩) hHeld ?_ ?_
                    rotate_left
                    · rintro w' ⟨s0, s1, s2, s3, s4, s5, s6, s7, s8, s9⟩
                      go_simp
                      with_reducible rfl
                    rotate_left
                    · simp only [Act.put, List.setIfInBounds_toArray, List.set_cons_zero, List.set_cons_succ, i64_w, i32_w]
                      rfl
                    refine take_ (i := 6) (N := some 71) (v := ?_) (a' := ?_) #[true, true, true, true, true, true, true, true, false, false, false, false, false, false, false, false, false, false, false, false, false] rfl rfl (by kernel_rfl) (fun _ _ _ h => h) (Or.inl ⟨by rfl, ?_⟩) hHeld ?_ ?_
                    rotate_left
                    · rintro w' ⟨s0, s1, s2, s3, s4, s5, s6, s7, s8, s9⟩
                      go_simp
                      with_reducible rfl
                    rotate_left
                    · simp only [Act.put, List.setIfInBounds_toArray, List.set_cons_zero, List.set_cons_succ, i64_w, i32_w]
                      rfl
                    refine pure_ (i := 8) (N := some 73) (v := ?_) (a' := ?_) #[true, true, true, true, true, true, true, true, true, false, false, false, false, false, false, false, false, false, false, false, false] rfl rfl (by kernel_rfl) (fun _ _ _ h => h) (Or.inl ⟨by rfl, ?_⟩) ?_ ?_
                    rotate_left
                    · intro w'
                      go_simp
                      with_reducible rfl
                    rotate_left
                    · simp only [Act.put, List.setIfInBounds_toArray, List.set_cons_zero, List.set_cons_succ, i64_w, i32_w]
                      rfl
                    refine take_ (i := 9) (N := some 74) (v := ?_) (a' := ?_) #[true, true, true, true, true, true, true, true, true, true, false, false, false, false, false, false, false, false, false, false, false] rfl rfl (by kernel_rfl) (fun _ _ _ h => h) (Or.inl ⟨by rfl, ?_⟩) hHeld ?_ ?_
                    rotate_left
                    · rintro w' ⟨s0, s1, s2, s3, s4, s5, s6, s7, s8, s9⟩
                      go_simp
                      with_reducible rfl
                    rotate_left
                    · simp only [Act.put, List.setIfInBounds_toArray, List.set_cons_zero, List.set_cons_succ, i64_w, i32_w]
                      rfl
                    refine one_ (i := 10) (N := some 75) #[true, true, true, true, true, true, true, true, true, true, true, false, false, false, false, false, false, false, false, false, false] rfl rfl (by kernel_rfl) (by decide) (fun K hK => ?_)
                    refine goes_ Tryd.func15 (by kernel_rfl) rfl #[.agg #[.int .i64 (ndT nodes k).f0, .string (ndT nodes k).f1, .int .i64 (ndT nodes k).f2, .slice A5 (ndT nodes k).f3.length c5], .agg #[.int .i64 (ndT nodes j).f0, .string (ndT nodes j).f1, .int .i64 (ndT nodes j).f2, .slice A6 (ndT nodes j).f3.length c6]] (by rfl) rfl rfl (by simp only [List.map_toArray, List.map_cons, List.map_nil]; rfl) ?_
                    with_reducible refine (al_st HS9.out _ hHeld.2.2.2.2.2.2.2.2.2 G5.out L5.out G6.out L6.out HAL.out).mono ?_
                    rintro e w3 ⟨rfl, z5⟩
                    refine ⟨_, rfl, ?_⟩
                    refine hK.out _ _ ⟨z5.1, z5.2.1, z5.2.2.1, z5.2.2.2.1, z5.2.2.2.2.1, z5.2.2.2.2.2.1, z5.2.2.2.2.2.2.1, z5.2.2.2.2.2.2.2.1, z5.2.2.2.2.2.2.2.2.1, z5.2.2.2.2.2.2.2.2.2⟩ (fun hHeld => ?_)
                    clear hK K
                    refine norm_ (a' := ?_) ?_ ?_
                    rotate_left
                    · show Act.put _ (some 75) _ = _
                      simp only [Act.put, List.setIfInBounds_toArray, List.set_cons_zero, List.set_cons_succ, i64_w, i32_w]
                      rfl
                    refine pure_ (i := 11) (N := some 76) (v := ?_) (a' := ?_) #[true, true, true, true, true, true, true, true, true, true, true, true, false, false, false, false, false, false, false, false, false] rfl rfl (by kernel_rfl) (fun _ _ _ h => h) (Or.inl ⟨by rfl, ?_⟩) ?_ ?_
                    rotate_left
                    · intro w'
                      go_simp
                      with_reducible rfl
                    rotate_left
                    · simp only [Act.put, List.setIfInBounds_toArray, List.set_cons_zero, List.set_cons_succ, i64_w, i32_w]
                      rfl
                    refine pure_ (i := 12) (N := some 77) (v := ?_) (a' := ?_) #[true, true, true, true, true, true, true, true, true, true, true, true, true, false, false, false, false, false, false, false, false] rfl rfl (by kernel_rfl) (fun _ _ _ h => h) (Or.inl ⟨by rfl, ?_⟩) ?_ ?_
                    rotate_left
                    · intro w'
                      go_simp
                      with_reducible rfl
                    rotate_left
                    · simp only [Act.put, List.setIfInBounds_toArray, List.set_cons_zero, List.set_cons_succ, i64_w, i32_w]
                      rfl
                    refine pure_ (i := 14) (N := some 79) (v := ?_) (a' := ?_) #[true, true, true, true, true, true, true, true, true, true, true, true, true, false, true, false, false, false, false, false, false] rfl rfl (by kernel_rfl) (fun _ _ _ h => h) (Or.inl ⟨by rfl, ?_⟩) ?_ ?_
                    rotate_left
                    · intro w'
                      go_simp
                      with_reducible rfl
                    rotate_left
                    · simp only [Act.put, List.setIfInBounds_toArray, List.set_cons_zero, List.set_cons_succ, i64_w, i32_w]
                      rfl
                    refine take_ (i := 13) (N := some 78) (v := ?_) (a' := ?_) #[true, true, true, true, true, true, true, true, true, true, true, true, true, true, true, false, false, false, false, false, false] rfl rfl (by kernel_rfl) (fun _ _ _ h => h) (Or.inl ⟨by rfl, ?_⟩) hHeld ?_ ?_
                    rotate_left
                    · rintro w' ⟨s0, s1, s2, s3, s4, s5, s6, s7, s8, s9⟩
                      go_simp
                      with_reducible rfl
                    rotate_left
                    · simp only [Act.put, List.setIfInBounds_toArray, List.set_cons_zero, List.set_cons_succ, i64_w, i32_w]
                      rfl
                    refine pure_ (i := 15) (N := some 80) (v := ?_) (a' := ?_) #[true, true, true, true, true, true, true, true, true, true, true, true, true, true, true, true, false, false, false, false, false] rfl rfl (by kernel_rfl) (fun _ _ _ h => h) (Or.inl ⟨by rfl, ?_⟩) ?_ ?_
                    rotate_left
                    · intro w'
                      go_simp
                      with_reducible rfl
                    rotate_left
                    · simp only [Act.put, List.setIfInBounds_toArray, List.set_cons_zero, List.set_cons_succ, i64_w, i32_w]
                      rfl
                    refine pure_ (i := 16) (N := some 81) (v := ?_) (a' := ?_) #[true, true, true, true, true, true, true, true, true, true, true, true, true, true, true, true, true, false, false, false, false] rfl rfl (by kernel_rfl) (fun _ _ _ h => h) (Or.inl ⟨by rfl, ?_⟩) ?_ ?_
                    rotate_left
                    · intro w'
                      go_simp
                      with_reducible rfl
                    rotate_left
                    · simp only [Act.put, List.setIfInBounds_toArray, List.set_cons_zero, List.set_cons_succ, i64_w, i32_w]
                      rfl
                    refine take_ (i := 17) (N := some 82) (v := ?_) (a' := ?_) #[true, true, true, true, true, true, true, true, true, true, true, true, true, true, true, true, true, true, false, false, false] rfl rfl (by kernel_rfl) (fun _ _ _ h => h) (Or.inl ⟨by rfl, ?_⟩) hHeld ?_ ?_
                    rotate_left
                    · rintro w' ⟨s0, s1, s2, s3, s4, s5, s6, s7, s8, s9⟩
                      go_simp
                      with_reducible rfl
                    rotate_left
                    · simp only [Act.put, List.setIfInBounds_toArray, List.set_cons_zero, List.set_cons_succ, i64_w, i32_w]
                      rfl
                    refine pure_ (i := 18) (N := some 83) (v := ?_) (a' := ?_) #[true, true, true, true, true, true, true, true, true, true, true, true, true, true, true, true, true, true, true, false, false] rfl rfl (by kernel_rfl) (fun _ _ _ h => h) (Or.inl ⟨by rfl, ?_⟩) ?_ ?_
                    rotate_left
                    · intro w'
                      go_simp
                      with_reducible rfl
                    rotate_left
                    · simp only [Act.put, List.setIfInBounds_toArray, List.set_cons_zero, List.set_cons_succ, i64_w, i32_w]
                      rfl
                    refine pure_ (i := 19) (N := some 84) (v := ?_) (a' := ?_) #[true, true, true, true, true, true, true, true, true, true, true, true, true, true, true, true, true, true, true, true, false] rfl rfl (by kernel_rfl) (fun _ _ _ h => h) (Or.inl ⟨by rfl, ?_⟩) ?_ ?_
                    rotate_left
                    · intro w'
                      go_simp
                      with_reducible rfl
                    rotate_left
                    · simp only [Act.put, List.setIfInBounds_toArray, List.set_cons_zero, List.set_cons_succ, i64_w, i32_w]
                      rfl
                    refine pure_ (i := 20) (N := some 8) (v := ?_) (a' := ?_) #[true, true, true, true, true, true, true, true, true, true, true, true, true, true, true, true, true, true, true, true, true] rfl rfl (by kernel_rfl) (fun _ _ _ h => h) (Or.inl ⟨by rfl, ?_⟩) ?_ ?_
                    rotate_left
                    · intro w'
                      go_simp
                      with_reducible rfl
                    rotate_left
                    · simp only [Act.put, List.setIfInBounds_toArray, List.set_cons_zero, List.set_cons_succ, i64_w, i32_w]
                      rfl
                    refine done_ (by kernel_rfl) ?_
                    go_wp2_with fail
                    go_meet
                    exact ⟨(ndT nodes k).f0 != 1, rfl, Lib.hid (fun h => ⟨HAL.out, by simpa using h⟩), Lib.hid z5⟩
                case rest =>
                  obtain ⟨b, rfl, HBb, HS1⟩ := hcut
                  obtain ⟨wo, hwo⟩ : ∃ x : World, x = wr := ⟨wr, rfl⟩
                  subst hwo
                  clear HS9
                  go_wp2_with fail
                  go_loopw [8, 9] (fun v8 v9 wr' => ∃ (q : Nat) (b : Bool), v9 = .int .i64 q ∧ v8 = .bool b ∧ q ≤ (ndT nodes k).f3.length ∧ Hid (b = true → (alB nodes k j = true ∧ (ndT nodes k).f0 ≠ 1) ∧ ∀ p : Nat, p < q → rd L (rd (argsN nodes k) p) = rd L (rd (argsN nodes j) p)) ∧ Hid (S19 gb (some ad) c nodes (ad.add (k * 4)) (ad.add (j * 4)) k j A5 A6 c5 c6 wo wr')) (fun _ v9 _ => (ndT nodes k).f3.length - (intOf v9).toNat)
                  case atStart => exact ⟨0, b, rfl, rfl, Nat.zero_le _, Lib.hid (fun h => ⟨HBb.out h, fun p hp => by omega⟩), HS1⟩
                  case round =>
                    obtain ⟨q, b, rfl, rfl, hq, HI, HS2⟩ := hrel
                    clear HS1 HBb
                    have hbw := HS2.out.2.2.2.2.2.2.2.2.2
                    have HQ3 := Lib.hid (HQ2.out.below hbw.out)
                    have hle8 : (ndT nodes k).f3.length ≤ 8 := HAK.out.1
                    cases b with
                    | false =>
                      obtain ⟨y0, p0, p1, p2, p3, q0, q1, q2, q3, _⟩ := HS2.out
                      go_wp2_with fail
                      go_quiet (fail)
                      go_wp2_with fail
                      go_roundw
                      case rel => exact ⟨j + 1, by omega, by go_num, Lib.hid (HQ3.out.below (by first | exact Below.refl _ _ | exact below_drewN (Below.refl _ _) _ | exact (Below.refl _ _).drew))⟩
                      case measure => simp [intOf]; omega
                    | true =>
                      obtain ⟨⟨hal, hv⟩, heq⟩ := HI.out rfl
                      have hal2 := hal
                      unfold alB at hal2
                      have hlen : (argsN nodes k).length = (argsN nodes j).length := (of_decide_eq_true hal2).2.2.2
                      obtain ⟨y0, p0, p1, p2, p3, q0, q1, q2, q3, _⟩ := HS2.out
                      by_cases hql : q < (ndT nodes k).f3.length
                      · have hql2 : q < (ndT nodes j).f3.length := by have : (ndT nodes k).f3.length = (ndT nodes j).f3.length := hlen; omega
                        obtain ⟨d5, e5, z1⟩ := Kd.at_int (Kd.C_below G5.out hbw.out) (q : Int) (by omega) (by omega)
                        subst e5
                        obtain ⟨d6, e6, z2⟩ := Kd.at_int (Kd.C_below G6.out hbw.out) (q : Int) (by omega) (by omega)
                        subst e6
                        simp only [Int.toNat_natCast] at z1 z2
                        have ha := HAK.out.2 (rd (ndT nodes k).f3 q) (by rw [rd_get _ q hql]; exact List.getElem_mem hql)
                        have hb := HAJ.out.2 (rd (ndT nodes j).f3 q) (by rw [rd_get _ q hql2]; exact List.getElem_mem hql2)
                        have hnx : Hid ((rd L (rd (ndT nodes k).f3 q) == rd L (rd (ndT nodes j).f3 q)) = true → (alB nodes k j = true ∧ (ndT nodes k).f0 ≠ 1) ∧ ∀ p : Nat, p < q + 1 → rd L (rd (argsN nodes k) p) = rd L (rd (argsN nodes j) p)) := Lib.hid (fun h => ⟨⟨hal, hv⟩, fun p hp => by
                          by_cases hpq : p = q
                          · subst hpq; exact beq_iff_eq.1 h
                          · exact heq p (by omega)⟩)
                        clear hal hal2 hv heq hlen HI
                        generalize rd (ndT nodes k).f3 (q : Int) = xa at *
                        generalize rd (ndT nodes j).f3 (q : Int) = xb at *
                        obtain ⟨ha0, ha1⟩ := ha
                        obtain ⟨hb0, hb1⟩ := hb
                        have x1 := (Kd.R_celln 0 HQ3.out.r xa ha0 ha1).1
                        have x2 := (Kd.R_celln 0 HQ3.out.r xb hb0 hb1).1
                        rw [show rdOf 0 L xa = rd L xa from rfl] at x1
                        rw [show rdOf 0 L xb = rd L xb from rfl] at x2
                        go_wp2_with fail
                        go_quiet (fail)
                        go_wp2_with fail
                        go_roundw
                        case rel => exact ⟨q + 1, _, by go_num, rfl, by omega, hnx, Lib.hid (by first | exact HS2.out | (obtain ⟨t0, t1, t2, t3, t4, t5, t6, t7, t8, t9⟩ := HS2.out; exact ⟨t0, t1, t2, t3, t4, t5, t6, t7, t8, Lib.hid (below_drewN t9.out _)⟩))⟩
                        case measure => simp [intOf]; omega
                      · have hqe : q = (ndT nodes k).f3.length := by omega
                        have hx : rd L k = rd L j := stable_alike HG.out HS.out k j (by omega) (by omega) (by omega) (by omega) hal hv (fun p hp => heq p (by have : p < (ndT nodes k).f3.length := hp; omega))
                        have hne : (rd L k != rd L j) = false := by simp [hx]
                        clear hx hqe heq hal hal2 hv hlen HI
                        have x1 := (Kd.R_celln 0 HQ3.out.r (k : Int) (by omega) (by omega)).1
                        have x2 := (Kd.R_celln 0 HQ3.out.r (j : Int) (by omega) (by omega)).1
                        rw [show rdOf 0 L (k : Int) = rd L k from rfl] at x1
                        rw [show rdOf 0 L (j : Int) = rd L j from rfl] at x2
                        simp only [Int.toNat_natCast] at x1 x2
                        go_wp2_with fail
                        go_quiet (fail)
                        go_wp2_with fail
                        go_roundw
                        case rel => exact ⟨j + 1, by omega, by go_num, Lib.hid (HQ3.out.below (by first | exact Below.refl _ _ | exact below_drewN (Below.refl _ _) _ | exact (Below.refl _ _).drew))⟩
                        case measure => simp [intOf]; omega
              · go_wp2_with fail
                go_roundw
                case rel => exact ⟨k + 1, by omega, by go_num, rfl, HQ2⟩
                case measure => simp [intOf]; omega
        · go_wp2_with fail
          go_ret
          exact ⟨rfl, HQ.out.hb⟩
    · have HCk := Lib.hid hck; clear hck
      go_wp2_with fail
      refine (check_bad A B c d nodes roots w3 (Kd.C_below HN.out HB3.out) (Kd.C_below HR.out HB3.out) HCk.out).mono ?_; rintro e w4 ⟨⟨b4, rfl⟩, hb4⟩
      go_wp2_with fail
      go_ret
      exact ⟨rfl, by have h0 := HB.out; rw [← Hgb.out] at h0; exact below_next (below_next h0 HB3.out) hb4.out⟩
end Go.Proofs.YtciniaabmjoiiaaDoor
