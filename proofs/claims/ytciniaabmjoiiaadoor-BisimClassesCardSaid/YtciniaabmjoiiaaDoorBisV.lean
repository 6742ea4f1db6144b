import Derived.Test.YtciniaabmjoiiaaDoorPRefx6
import Derived.Test.YtciniaabmjoiiaaDoorBisA
import Derived.Test.YtciniaabmjoiiaaDoorBisG
/- The law BisimClasses. -/
set_option maxRecDepth 100000
set_option linter.unusedVariables false
set_option linter.unusedSimpArgs false
namespace Go.Proofs.YtciniaabmjoiiaaDoor
open Go.RowKit Go.Shelf Go.Maps Go.Proofs.YtciniaabmjoiiaaDoorW.PrintWords Go.Proofs.YtciniaabmjoiiaaDoorW.PrintLast Go.Proofs.YtciniaabmjoiiaaDoorW.PrintMore Go.Proofs.YtciniaabmjoiiaaDoor.PRef
def outI (nodes : List Nd) (i : Int) : Prop := i < 0 ∨ (nodes.length : Int) ≤ i
instance (nodes : List Nd) (i : Int) : Decidable (outI nodes i) := by unfold outI; infer_instance
/-- The fault of Same: its code and its place. -/
def sameP (nodes : List Nd) (roots : List Int) (i j : Int) : Int × Int := if (chk nodes roots).1 ≠ 0 then chk nodes roots else if outI nodes i then (50, i) else if outI nodes j then (50, j) else (0, 0)
structure SameB (nodes : List Nd) (roots : List Int) (i j : Int) (b : Bool) : Prop where
  good : (sameP nodes roots i j).1 = 0 → (b = true ↔ Alike nodes i j)
  bad : (sameP nodes roots i j).1 ≠ 0 → b = false
theorem SameB.eq {nodes : List Nd} {roots : List Int} {i j : Int} {b b' : Bool} (h : SameB nodes roots i j b) (h' : SameB nodes roots i j b') : b = b' := by
  by_cases hs : (sameP nodes roots i j).1 = 0
  · rw [Bool.eq_iff_iff, h.good hs, h'.good hs]
  · rw [h.bad hs, h'.bad hs]
theorem chk_nil {nodes : List Nd} {roots : List Int} : chkC nodes roots = [] ↔ (chk nodes roots).1 = 0 := by
  unfold chkC chainOf
  by_cases h : (chk nodes roots).1 = 0
  · rw [if_pos h]; simp [h]
  · rw [if_neg h]; simp [h]
theorem same_f (nodes : List Nd) (roots : List Int) (i j : Int) : ∃ k b, tendrilref05_Same.f k nodes roots i j = some (b, (sameP nodes roots i j).1, (sameP nodes roots i j).2, ⟨#[]⟩, []) ∧ SameB nodes roots i j b := by
  by_cases hc : (chk nodes roots).1 ≠ 0
  · have e : sameP nodes roots i j = chk nodes roots := by unfold sameP; rw [if_pos hc]
    refine ⟨10000, false, ?_, ⟨fun h => absurd (by rw [e] at h; exact h) hc, fun _ => rfl⟩⟩
    unfold tendrilref05_Same.f
    rw [chk_f nodes roots 10000 (by omega), e]
    simp [tendrilnum_F_Bad.f, hc]
  · have hc0 : (chk nodes roots).1 = 0 := by simpa using hc
    have G := goodG_of (chk_nil.2 hc0)
    by_cases hi : outI nodes i
    · have e : sameP nodes roots i j = (50, i) := by unfold sameP; rw [if_neg hc, if_pos hi]
      refine ⟨10000, false, ?_, ⟨fun h => (by rw [e] at h; cases h), fun _ => rfl⟩⟩
      unfold tendrilref05_Same.f
      rw [chk_f nodes roots 10000 (by omega), e]
      simp only [Option.bind_some, tendrilnum_F_Bad.f, hc0]
      unfold outI at hi
      by_cases h0 : i < 0
      · rw [if_pos h0]; simp [tendrilref05_Same.j0, tendrilnum_At.f]
      · rw [if_neg h0]
        have h1 : decide (i ≥ (nodes.length : Int)) = true := by simp; omega
        rw [h1]; simp [tendrilref05_Same.j0, tendrilnum_At.f]
    · by_cases hj : outI nodes j
      · have e : sameP nodes roots i j = (50, j) := by unfold sameP; rw [if_neg hc, if_neg hi, if_pos hj]
        refine ⟨10000, false, ?_, ⟨fun h => (by rw [e] at h; cases h), fun _ => rfl⟩⟩
        unfold tendrilref05_Same.f
        rw [chk_f nodes roots 10000 (by omega), e]
        simp only [Option.bind_some, tendrilnum_F_Bad.f, hc0]
        unfold outI at hi hj
        have h1 : decide (i ≥ (nodes.length : Int)) = false := by simp; omega
        rw [if_neg (show ¬ i < 0 by omega), h1]
        by_cases h0 : j < 0
        · simp [tendrilref05_Same.j0, tendrilref05_Same.j1, tendrilnum_At.f, h0]
        · have h2 : decide (j ≥ (nodes.length : Int)) = true := by simp; omega
          simp [tendrilref05_Same.j0, tendrilref05_Same.j1, tendrilnum_At.f, h0]
          intro h; omega
      · have e : sameP nodes roots i j = (0, 0) := by unfold sameP; rw [if_neg hc, if_neg hi, if_neg hj]
        obtain ⟨kp, sq, hp, hS, hF⟩ := pairs_f G roots
        unfold outI at hi hj
        have hal := hF i j (by omega) (by omega) (by omega) (by omega)
        have hsl := hS.1
        have hrl := hS.2 i.toNat (by omega)
        rw [show ((i.toNat : Nat) : Int) = i from by omega] at hrl
        refine ⟨kp + 10000 + 2, gt sq i j, ?_, ⟨fun _ => hal, fun h => absurd (by rw [e]) h⟩⟩
        unfold tendrilref05_Same.f
        rw [chk_f nodes roots (kp + 10000 + 2) (by omega), e]
        simp only [Option.bind_some, tendrilnum_F_Bad.f, hc0]
        have h1 : decide (i ≥ (nodes.length : Int)) = false := by simp; omega
        have h2 : decide (j ≥ (nodes.length : Int)) = false := by simp; omega
        rw [if_neg (show ¬ i < 0 by omega), h1]
        have hp2 := pairs_up hp 10000
        rw [show kp + 10000 + 2 = kp + 10000 + 1 + 1 from rfl]
        simp only [tendrilref05_Same.j0]
        rw [if_neg (show ¬ j < 0 by omega), h2]
        simp only [tendrilref05_Same.j1]
        rw [hp2]
        simp only [Option.bind_some, tendrilnum_No.f]
        rw [if_pos (show 0 ≤ i by omega), if_pos (show i < (sq.length : Int) by omega), if_pos (show 0 ≤ j by omega), if_pos (show j < ((rd_L6 sq i).length : Int) by omega)]
        simp [gt]
/-- What Same answers. -/
def SamePost (nodes : List Nd) (roots : List Int) (i j : Int) (w : World) (e : Ending) (w' : World) : Prop :=
  Hid (Below w.heap.size w w') ∧ ∃ b v, e = .returned (.tuple #[.bool b, v]) ∧ Hid (EV w' v (chainOf (sameP nodes roots i j))) ∧ Hid (SameB nodes roots i j b)
theorem SameB.no {nodes : List Nd} {roots : List Int} {i j n : Int} (h : sameP nodes roots i j = (50, n)) : SameB nodes roots i j false := ⟨fun h2 => (by rw [h] at h2; cases h2), fun _ => rfl⟩
theorem chainOf50 (n : Int) : chainOf (50, n) = ([(50, n, ⟨#[]⟩)] : Chain) := rfl
set_option maxHeartbeats 4000000 in
theorem same_any (w : World) (A B : Option Addr) (c d : Nat) (nodes : List Nd) (roots : List Int) (i j : Int) (HN : Kd.C k35 w A nodes.length nodes) (HR : Kd.C (Kd.int .i64) w B roots.length roots) (E : TabE w) :
    Calls Tryd.prog 22 #[.agg #[.slice A nodes.length c, .slice B roots.length d], .int .i64 i, .int .i64 j] w (SamePost nodes roots i j w) := by
  have HB : Hid (Below w.heap.size w (w.alloc (.cells #[.slice A nodes.length c, .slice B roots.length d] 25))) := Lib.hid ((Below.refl _ _).alloc (Nat.le_refl _) _)
  have HNn := Lib.hid (Kd.C_below HN HB.out)
  have HRn := Lib.hid (Kd.C_below HR HB.out)
  have HE := Lib.hid (E.keep HB.out)
  have hm1 := HN.2.1
  have hm2 := HR.2.1
  have hsz : w.heap.size < (w.alloc (.cells #[.slice A nodes.length c, .slice B roots.length d] 25)).heap.size := by simp
  clear HN HR E
  go_enter Tryd.func22, Tryd.ntmps22
  have c0 : (w.alloc (.cells #[.slice A nodes.length c, .slice B roots.length d] 25)).cell? ⟨w.heap.size, 0, none⟩ = some (.slice A nodes.length c) := by simp [go_sem]
  have c1 : (w.alloc (.cells #[.slice A nodes.length c, .slice B roots.length d] 25)).cell? ⟨w.heap.size, 1, none⟩ = some (.slice B roots.length d) := by simp [go_sem]
  go_upto_region 1 with fail
  generalize hW : w.alloc (.cells #[.slice A nodes.length c, .slice B roots.length d] 25) = W at *
  clear hW
  generalize hgb : w.heap.size = gb at *
  have Hgb := Lib.hid hgb; clear hgb
  go_wp2_with fail
  refine (check_any A B c d nodes roots W HNn.out HRn.out hm1 hm2).mono ?_; rintro e w1 ⟨v1, rfl, hv1, hb1⟩
  have HB1 := Lib.hid hb1
  have d0 := (hb1.cell (p := ⟨gb, 0, none⟩) hsz).trans c0
  have d1 := (hb1.cell (p := ⟨gb, 1, none⟩) hsz).trans c1
  have HV := Lib.hid hv1
  have key := EV_cases hv1
  have HBo : Hid (Below w.heap.size w w1) := Lib.hid (by have h0 := HB.out; rw [← Hgb.out] at h0; exact below_next h0 hb1)
  clear hv1 hb1 c0 c1
  rcases key with ⟨hc, rfl⟩ | ⟨hc, b, rfl⟩
  · have HCk := Lib.hid hc
    have hc0 := chk_nil.1 hc
    clear hc
    go_wp2_with fail
    have b2 := blk_new w1 (.cells #[.int .i64 i, .int .i64 j] 3)
    have L0 := row_cell b2 0 (u := .int .i64 i) rfl
    have L1 := row_cell b2 1 (u := .int .i64 j) rfl
    have hb2 : Below w1.heap.size w1 (w1.alloc (.cells #[.int .i64 i, .int .i64 j] 3)) := (Below.refl _ _).alloc (Nat.le_refl _) _
    have hl1 : gb < w1.heap.size := World.block_lt_of_cell? w1 _ d0
    have f0 := (hb2.cell (p := ⟨gb, 0, none⟩) hl1).trans d0
    have f1 := (hb2.cell (p := ⟨gb, 1, none⟩) hl1).trans d1
    have HB2 : Hid (Below W.heap.size W (w1.alloc (.cells #[.int .i64 i, .int .i64 j] 3))) := Lib.hid (below_next HB1.out hb2)
    have HBo2 : Hid (Below w.heap.size w (w1.alloc (.cells #[.int .i64 i, .int .i64 j] 3))) := Lib.hid (below_next HBo.out hb2)
    clear b2 hb2 d0 d1 hl1 HV HB1 HBo
    generalize w1.alloc (.cells #[.int .i64 i, .int .i64 j] 3) = w2 at *
    generalize w1.heap.size = b2 at *
    have HC0 := Lib.hid hc0; clear hc0
    go_loopw [21] (fun q wr => ∃ k : Nat, k ≤ 2 ∧ q = .int .i64 k ∧ Hid (1 ≤ k → ¬ outI nodes i) ∧ Hid (2 ≤ k → ¬ outI nodes j) ∧ wr = w2) (fun q _ => 2 - (intOf q).toNat)
    case atStart => exact ⟨0, by omega, rfl, Lib.hid (by omega), Lib.hid (by omega), rfl⟩
    case round =>
      obtain ⟨k, hk, rfl, H1, H2, rfl⟩ := hrel
      have hkc : k = 0 ∨ k = 1 ∨ k = 2 := by omega
      have hL0 : wr.cell? ⟨b2, 0, none⟩ = some (.int .i64 i) := L0
      have hL1 : wr.cell? ⟨b2, 1, none⟩ = some (.int .i64 j) := L1
      clear L0 L1
      rcases hkc with hkv | hkv | hkv
      · have HO : k = 0 := hkv
        subst HO
        clear hkv
        by_cases o0 : i < 0
        · have HP : Hid (sameP nodes roots i j = (50, i)) := Lib.hid (by unfold sameP; rw [if_neg (by rw [HC0.out]; simp), if_pos (show outI nodes i from .inl o0)])
          go_wp2_with fail
          go_ret2
          refine ⟨Lib.hid (below_next HBo2.out ((Below.refl _ _).alloc (Nat.le_refl _) _)), false, _, rfl, Lib.hid ?_, Lib.hid (SameB.no HP.out)⟩
          rw [HP.out, chainOf50]
          refine .cons ?_ ?_ ?_ ?_ .nil <;> simp [go_sem]
        · by_cases o1 : (nodes.length : Int) ≤ i
          · have HP : Hid (sameP nodes roots i j = (50, i)) := Lib.hid (by unfold sameP; rw [if_neg (by rw [HC0.out]; simp), if_pos (show outI nodes i from .inr o1)])
            go_wp2_with fail
            go_ret2
            refine ⟨Lib.hid (below_next HBo2.out ((Below.refl _ _).alloc (Nat.le_refl _) _)), false, _, rfl, Lib.hid ?_, Lib.hid (SameB.no HP.out)⟩
            rw [HP.out, chainOf50]
            refine .cons ?_ ?_ ?_ ?_ .nil <;> simp [go_sem]
          · go_wp2_with fail
            go_roundw
            case rel => exact ⟨0 + 1, by omega, by go_num, Lib.hid (fun _ h => by unfold outI at h; omega), Lib.hid (fun h => by omega), trivial⟩
            case measure => simp [intOf]
      · have HO : k = 1 := hkv
        subst HO
        clear hkv
        by_cases o0 : j < 0
        · have HP : Hid (sameP nodes roots i j = (50, j)) := Lib.hid (by unfold sameP; rw [if_neg (by rw [HC0.out]; simp), if_neg (H1.out (by omega)), if_pos (show outI nodes j from .inl o0)])
          go_wp2_with fail
          go_ret2
          refine ⟨Lib.hid (below_next HBo2.out ((Below.refl _ _).alloc (Nat.le_refl _) _)), false, _, rfl, Lib.hid ?_, Lib.hid (SameB.no HP.out)⟩
          rw [HP.out, chainOf50]
          refine .cons ?_ ?_ ?_ ?_ .nil <;> simp [go_sem]
        · by_cases o1 : (nodes.length : Int) ≤ j
          · have HP : Hid (sameP nodes roots i j = (50, j)) := Lib.hid (by unfold sameP; rw [if_neg (by rw [HC0.out]; simp), if_neg (H1.out (by omega)), if_pos (show outI nodes j from .inr o1)])
            go_wp2_with fail
            go_ret2
            refine ⟨Lib.hid (below_next HBo2.out ((Below.refl _ _).alloc (Nat.le_refl _) _)), false, _, rfl, Lib.hid ?_, Lib.hid (SameB.no HP.out)⟩
            rw [HP.out, chainOf50]
            refine .cons ?_ ?_ ?_ ?_ .nil <;> simp [go_sem]
          · go_wp2_with fail
            go_roundw
            case rel => exact ⟨1 + 1, by omega, by go_num, Lib.hid (fun _ => H1.out (by omega)), Lib.hid (fun _ h => by unfold outI at h; omega), trivial⟩
            case measure => simp [intOf]
      · have HO : k = 2 := hkv
        subst HO
        clear hkv
        have hi := H1.out (by omega)
        have hj := H2.out (by omega)
        have e : sameP nodes roots i j = (0, 0) := by unfold sameP; rw [if_neg (by rw [HC0.out]; simp), if_neg hi, if_neg hj]
        have HP := Lib.hid e
        unfold outI at hi hj
        have i0 : 0 ≤ i := by omega
        have i1 : i < nodes.length := by omega
        have j0 : 0 ≤ j := by omega
        have j1 : j < nodes.length := by omega
        have HN2 := Lib.hid (Kd.C_below HNn.out HB2.out)
        have HE2 := Lib.hid (HE.out.keep HB2.out)
        clear e hi hj H1 H2 hL0 hL1
        go_wp2_with fail
        refine (refined_any wr A B c d roots.length nodes (goodG_of HCk.out) HN2.out HE2.out).mono ?_; rintro e w3 ⟨v3, L, rfl, hb3, hr3, hs3⟩
        have hlen := hs3.len
        have HS := Lib.hid hs3
        have hal := hs3.iff i j i0 i1 j0 j1
        obtain ⟨g3, cap3, rfl, _, _, _, _⟩ := Kd.R_form hr3 (by omega)
        have x1 := (Kd.R_celln 0 hr3 i i0 (by omega)).1
        have x2 := (Kd.R_celln 0 hr3 j j0 (by omega)).1
        rw [show rdOf 0 L i = rd L i from rfl] at x1
        rw [show rdOf 0 L j = rd L j from rfl] at x2
        have HSB : Hid (SameB nodes roots i j (rd L i == rd L j)) := Lib.hid ⟨fun _ => by rw [beq_iff_eq]; exact hal, fun h => absurd (by rw [HP.out]) h⟩
        have HBe := Lib.hid (below_next HBo2.out hb3)
        rw [hlen]
        clear hs3 hr3 hal hb3 hlen HS
        go_upto_region 11 with fail
        go_quiet (fail)
        go_wp2_with fail
        go_ret2
        exact ⟨Lib.hid (by first | exact HBe.out | exact below_drewN HBe.out _), _, _, rfl, Lib.hid (by rw [HP.out]; exact .nil), HSB⟩
  · have hc1 : (chk nodes roots).1 ≠ 0 := fun h => hc (chk_nil.2 h)
    have e : sameP nodes roots i j = chk nodes roots := by unfold sameP; rw [if_pos hc1]
    have HP : Hid (EV w1 (.iface 70 (.pointer (some ⟨b, 0, none⟩))) (chainOf (sameP nodes roots i j))) := Lib.hid (by rw [e]; exact HV.out)
    have HSB : Hid (SameB nodes roots i j false) := Lib.hid ⟨fun h => absurd (by rw [e] at h; exact h) hc1, fun _ => rfl⟩
    clear hc hc1 e
    go_wp2_with fail
    go_ret2
    exact ⟨HBo, false, _, rfl, HP, HSB⟩
theorem fv_of (p : Int × Int) (A : Option Addr) (c : Nat) (w : World) : FV w p.1 p.2 ⟨#[]⟩ (.slice A 0 c) (chainOf p) := by
  unfold chainOf
  by_cases h : p.1 = 0
  · rw [if_pos h, h]; exact .no
  · rw [if_neg h]; exact .one h
theorem c39_nil (w : World) (A : Option Addr) : Kd.C k39 w A ([] : List S39).length [] := ⟨rfl, by simp, fun h => by simp at h⟩
/-- The reference's Check, as the law calls it. -/
def ChkPost (nodes : List Nd) (roots : List Int) (w : World) (e : Ending) (w' : World) : Prop := ∃ A c, e = .returned (.agg #[.int .i64 (chk nodes roots).1, .int .i64 (chk nodes roots).2, .string ⟨#[]⟩, .slice A 0 c]) ∧ Hid (Below w.heap.size w w')
theorem refcheck_any (w : World) (A B : Option Addr) (c d : Nat) (nodes : List Nd) (roots : List Int) (HN : Kd.C k35 w A nodes.length nodes) (nc : nodes.length ≤ c) (HR : Kd.C (Kd.int .i64) w B roots.length roots) (rc : roots.length ≤ d) :
    Calls Tryd.prog 17 #[.agg #[.slice A nodes.length c, .slice B roots.length d]] w (ChkPost nodes roots w) :=
  (tendrilref04_Check.calls 10000 A c nodes B d roots _ _ _ _ w HN nc HR rc (chk_f nodes roots 10000 (by omega))).mono fun e w' ⟨v, he, hr, hb⟩ => by
    obtain ⟨A9, c9, rfl⟩ := Kd.R_slice hr
    exact ⟨A9, c9, he, Lib.hid hb⟩
def BadPost (p : Int × Int) (w : World) (e : Ending) (w' : World) : Prop := e = .returned (.bool (p.1 != 0)) ∧ Hid (Below w.heap.size w w')
theorem bad_any (p : Int × Int) (A : Option Addr) (c : Nat) (w : World) : Calls Tryd.prog 19 #[.agg #[.int .i64 p.1, .int .i64 p.2, .string ⟨#[]⟩, .slice A 0 c]] w (BadPost p w) :=
  (tendrilnum_F_Bad.calls p.1 p.2 ⟨#[]⟩ A c [] (p.1 != 0) w (c39_nil w A) (by simp) (by simp [tendrilnum_F_Bad.f])).mono fun e w' ⟨he, hb⟩ => ⟨he, Lib.hid hb⟩
def IsPost (w : World) (e : Ending) (w' : World) : Prop := e = .returned (.bool true) ∧ Hid (Below w.heap.size w w')
theorem is_true (v : Value) (p : Int × Int) (A : Option Addr) (c : Nat) (w : World) (he : EV w v (chainOf p)) : Calls Tryd.prog 18 #[v, .agg #[.int .i64 p.1, .int .i64 p.2, .string ⟨#[]⟩, .slice A 0 c]] w (IsPost w) :=
  (is_any v p.1 p.2 ⟨#[]⟩ (.slice A 0 c) _ _ w he (fv_of p A c w)).mono fun e w' ⟨h1, h2⟩ => ⟨by rw [h1]; simp, Lib.hid h2⟩
def LargePost (bs : Bool) (w : World) (e : Ending) (w' : World) : Prop := e = .returned (.bool (!bs)) ∧ Hid (Below w.heap.size w w')
theorem large_any (w : World) (A B : Option Addr) (c d : Nat) (nodes : List Nd) (roots : List Int) (HN : Kd.C k35 w A nodes.length nodes) (nc : nodes.length ≤ c) (HR : Kd.C (Kd.int .i64) w B roots.length roots) (rc : roots.length ≤ d) {ks : Nat} {bs : Bool} (hs : tendrilhand_Small.f ks nodes roots 60 = some bs) :
    Calls Tryd.prog 16 #[.agg #[.slice A nodes.length c, .slice B roots.length d]] w (LargePost bs w) := by
  have HB : Hid (Below w.heap.size w (w.alloc (.cells #[.slice A nodes.length c, .slice B roots.length d] 25))) := Lib.hid ((Below.refl _ _).alloc (Nat.le_refl _) _)
  have HNn := Lib.hid (Kd.C_below HN HB.out)
  have HRn := Lib.hid (Kd.C_below HR HB.out)
  have HS := Lib.hid hs
  clear HN HR hs
  go_enter Tryd.func16, Tryd.ntmps16
  go_wp2_with fail
  refine (tendrilhand_Small.calls ks A c nodes B d roots 60 bs _ HNn.out nc HRn.out rc HS.out).mono ?_; rintro e w2 ⟨rfl, hb2⟩
  go_wp2_with fail
  go_ret
  exact ⟨rfl, Lib.hid (below_next HB.out hb2)⟩
/-- An error's chain lies apart from the reference's fault, whose fourth cell is a slice. -/
theorem EV.far {w w1 : World} {v : Value} {es : Chain} (h : EV w v es) {b : Nat} {A : Option Addr} {m k : Nat} (hs : w.cell? ⟨b, 3, none⟩ = some (.slice A m k)) (hk : ∀ (b' j : Nat) (u : Value), b' ≠ b → w.cell? ⟨b', j, none⟩ = some u → w1.cell? ⟨b', j, none⟩ = some u) : EV w1 v es := by
  induction h with
  | nil => exact .nil
  | @cons b' c a n v es h0 h1 h2 h3 hv ih =>
    have hne : b' ≠ b := by
      rintro rfl
      rw [hs] at h3
      injection h3 with h3
      subst h3
      cases hv
    exact .cons (hk _ _ _ hne h0) (hk _ _ _ hne h1) (hk _ _ _ hne h2) (hk _ _ _ hne h3) ih
def put4w (w : World) (b : Nat) (x0 x1 x2 x3 : Value) : World := (((w.setCell ⟨b, 0, none⟩ x0).setCell ⟨b, 1, none⟩ x1).setCell ⟨b, 2, none⟩ x2).setCell ⟨b, 3, none⟩ x3
theorem put4w_far (w : World) (b : Nat) (x0 x1 x2 x3 : Value) (b' j : Nat) (u : Value) (hne : b' ≠ b) (h : w.cell? ⟨b', j, none⟩ = some u) : (put4w w b x0 x1 x2 x3).cell? ⟨b', j, none⟩ = some u := by
  unfold put4w
  have ne : ∀ i, (⟨b, i, none⟩ : Addr) ≠ ⟨b', j, none⟩ := fun i h => by injection h with h; exact hne h.symm
  rw [World.cell?_setCell_other (h := ne 3), World.cell?_setCell_other (h := ne 2), World.cell?_setCell_other (h := ne 1), World.cell?_setCell_other (h := ne 0)]
  exact h
theorem put4w_blk {w : World} {b : Nat} {c0 c1 c2 c3 : Value} {t : TypeId} (x0 x1 x2 x3 : Value) (h : w.heap[b]? = some (.cells #[c0, c1, c2, c3] t (0, 0))) : (put4w w b x0 x1 x2 x3).cell? ⟨b, 0, none⟩ = some x0 ∧ (put4w w b x0 x1 x2 x3).cell? ⟨b, 1, none⟩ = some x1 ∧ (put4w w b x0 x1 x2 x3).cell? ⟨b, 2, none⟩ = some x2 ∧ (put4w w b x0 x1 x2 x3).cell? ⟨b, 3, none⟩ = some x3 := by
  have y0 := blk_cell h 0
  have y1 := blk_cell h 1
  have y2 := blk_cell h 2
  have y3 := blk_cell h 3
  unfold put4w
  refine ⟨?_, ?_, ?_, ?_⟩ <;> simp_all [go_sem]
/-- The reference's Same, as the law calls it. -/
def RSame (nodes : List Nd) (roots : List Int) (i j : Int) (w : World) (e : Ending) (w' : World) : Prop := ∃ b A c, e = .returned (.tuple #[.bool b, .agg #[.int .i64 (sameP nodes roots i j).1, .int .i64 (sameP nodes roots i j).2, .string ⟨#[]⟩, .slice A 0 c]]) ∧ Hid (SameB nodes roots i j b) ∧ Hid (Below w.heap.size w w')
theorem rsame_any (w : World) (A B : Option Addr) (c d : Nat) (nodes : List Nd) (roots : List Int) (i j : Int) (HN : Kd.C k35 w A nodes.length nodes) (nc : nodes.length ≤ c) (HR : Kd.C (Kd.int .i64) w B roots.length roots) (rc : roots.length ≤ d) :
    Calls Tryd.prog 23 #[.agg #[.slice A nodes.length c, .slice B roots.length d], .int .i64 i, .int .i64 j] w (RSame nodes roots i j w) := by
  obtain ⟨k, b, h, hb⟩ := same_f nodes roots i j
  refine (tendrilref05_Same.calls k A c nodes B d roots i j _ _ _ _ _ w HN nc HR rc h).mono fun e w' ⟨v, he, hr, hbl⟩ => ?_
  obtain ⟨A9, c9, rfl⟩ := Kd.R_slice hr
  exact ⟨b, A9, c9, he, Lib.hid hb, Lib.hid hbl⟩
/-- The reference's Classes, as the law calls it. -/
def RCls (L : List Int) (w : World) (e : Ending) (w' : World) : Prop := ∃ A c v, e = .returned (.tuple #[.slice A L.length c, v]) ∧ Hid (L.length ≤ c ∧ (Kd.int .i64).C w' A L.length L) ∧ Hid (Below w.heap.size w w')
theorem rclasses_any (w : World) (A B : Option Addr) (c d : Nat) (nodes : List Nd) (roots L : List Int) (HN : Kd.C k35 w A nodes.length nodes) (nc : nodes.length ≤ c) (HR : Kd.C (Kd.int .i64) w B roots.length roots) (rc : roots.length ≤ d) (G : GoodG nodes) (S : Spec nodes L) :
    Calls Tryd.prog 20 #[.agg #[.slice A nodes.length c, .slice B roots.length d]] w (RCls L w) := by
  obtain ⟨k, l, h⟩ := classes_f G S roots
  refine (tendrilref05_Classes.calls k A c nodes B d roots L l w HN nc HR rc h).mono fun e w' ⟨v0, v1, he, hr, _, hbl⟩ => ?_
  obtain ⟨A9, c9, rfl⟩ := Kd.R_slice hr
  have := Kd.R_reads' hr
  exact ⟨A9, c9, v1, he, Lib.hid ⟨this.2.1, this.2.2⟩, Lib.hid hbl⟩
theorem ints_any (w : World) (A A' : Option Addr) (c c' : Nat) (L : List Int) (h : (Kd.int .i64).C w A L.length L) (hc : L.length ≤ c) (h' : (Kd.int .i64).C w A' L.length L) (hc' : L.length ≤ c') :
    Calls Tryd.prog 21 #[.slice A L.length c, .slice A' L.length c'] w (IsPost w) := by
  obtain ⟨k, hk⟩ := ints_f L h.2.1
  exact (tendrilref04_Ints.calls k A c L A' c' L true w h hc h' hc' hk).mono fun e w' ⟨he, hd⟩ => by
    obtain ⟨n, rfl⟩ := hd.out
    exact ⟨he, Lib.hid (below_drewN (Below.refl _ _) n)⟩
set_option maxHeartbeats 8000000 in
theorem BisimClasses_walk (w : World) (A B : Option Addr) (c d : Nat) (nodes : List Nd) (roots : List Int) (i j : Int) (hg : GIn w (.agg #[.slice A nodes.length c, .slice B roots.length d]) A B c d nodes roots) (hi : wfI i) (hj : wfI j) (E : TabE w) :
    Calls Tryd.prog 4 #[.agg #[.slice A nodes.length c, .slice B roots.length d], .int .i64 i, .int .i64 j] w (LawT w) := by
  have HB : Hid (Below w.heap.size w (w.alloc (.cells #[.slice A nodes.length c, .slice B roots.length d] 25))) := Lib.hid ((Below.refl _ _).alloc (Nat.le_refl _) _)
  have HE := Lib.hid (E.keep HB.out)
  have hnc := hg.nc
  have hrc := hg.rc
  have hm1 : nodes.length ≤ 9223372036854775807 := hg.n.2.1
  have hsz : w.heap.size < (w.alloc (.cells #[.slice A nodes.length c, .slice B roots.length d] 25)).heap.size := by simp
  obtain ⟨ks, bs, hsm⟩ := small_some nodes roots 60 hm1
  have HSm := Lib.hid hsm
  have HN := Lib.hid (Kd.C_below hg.n HB.out)
  have HR := Lib.hid (Kd.C_below hg.r HB.out)
  clear hg E hsm
  go_enter Tryd.func4, Tryd.ntmps4
  have c0 : (w.alloc (.cells #[.slice A nodes.length c, .slice B roots.length d] 25)).cell? ⟨w.heap.size, 0, none⟩ = some (.slice A nodes.length c) := by simp [go_sem]
  have c1 : (w.alloc (.cells #[.slice A nodes.length c, .slice B roots.length d] 25)).cell? ⟨w.heap.size, 1, none⟩ = some (.slice B roots.length d) := by simp [go_sem]
  go_upto_region 1 with fail
  generalize hW : w.alloc (.cells #[.slice A nodes.length c, .slice B roots.length d] 25) = W at *
  clear hW
  generalize hgb : w.heap.size = gb at *
  have Hgb := Lib.hid hgb; clear hgb
  go_wp2_with fail
  refine (lives_any W HE.out).mono ?_; rintro e w1 ⟨rfl, hb1⟩
  have d0 := (hb1.out.cell (p := ⟨gb, 0, none⟩) hsz).trans c0
  have d1 := (hb1.out.cell (p := ⟨gb, 1, none⟩) hsz).trans c1
  have hl1 := Nat.lt_of_lt_of_le hsz hb1.out.size
  go_wp2_with fail
  refine (large_any w1 A B c d nodes roots (Kd.C_below HN.out hb1.out) hnc (Kd.C_below HR.out hb1.out) hrc HSm.out).mono ?_; rintro e w2 ⟨rfl, hb2⟩
  have HB2 := Lib.hid (below_next hb1.out hb2.out)
  have e0 := (hb2.out.cell (p := ⟨gb, 0, none⟩) hl1).trans d0
  have e1 := (hb2.out.cell (p := ⟨gb, 1, none⟩) hl1).trans d1
  have hl2 := Nat.lt_of_lt_of_le hl1 hb2.out.size
  clear d0 d1 hb2 hb1 c0 c1
  cases bs with
  | false =>
    go_wp2_with fail
    refine (lives_any w2 (HE.out.keep HB2.out)).mono ?_; rintro e w3 ⟨rfl, hb3⟩
    go_wp2_with fail
    go_ret
    exact ⟨rfl, by have h0 := HB.out; rw [← Hgb.out] at h0; exact below_next (below_next h0 HB2.out) hb3.out⟩
  | true =>
    go_wp2_with fail
    refine (refcheck_any w2 A B c d nodes roots (Kd.C_below HN.out HB2.out) hnc (Kd.C_below HR.out HB2.out) hrc).mono ?_; rintro e w3 ⟨A9, c9, rfl, hb3⟩
    have f0 := (hb3.out.cell (p := ⟨gb, 0, none⟩) hl2).trans e0
    have f1 := (hb3.out.cell (p := ⟨gb, 1, none⟩) hl2).trans e1
    have HB3 := Lib.hid (below_next HB2.out hb3.out)
    have hl3 := Nat.lt_of_lt_of_le hl2 hb3.out.size
    clear e0 e1 hb3 HB2 hl1 hl2
    go_upto_region 4 with fail
    have b7 := blk_new w3 (.cells #[.int .i64 (chk nodes roots).1, .int .i64 (chk nodes roots).2, .string ⟨#[]⟩, .slice A9 0 c9] 39)
    have hb4 : Below w3.heap.size w3 (w3.alloc (.cells #[.int .i64 (chk nodes roots).1, .int .i64 (chk nodes roots).2, .string ⟨#[]⟩, .slice A9 0 c9] 39)) := (Below.refl _ _).alloc (Nat.le_refl _) _
    have h0 := (hb4.cell (p := ⟨gb, 0, none⟩) hl3).trans f0
    have h1 := (hb4.cell (p := ⟨gb, 1, none⟩) hl3).trans f1
    have HB4 := Lib.hid (below_next HB3.out hb4)
    have hl4 := Nat.lt_of_lt_of_le hl3 hb4.size
    have hlb : w.heap.size ≤ w3.heap.size := by have := hl3; rw [← Hgb.out] at this; omega
    clear f0 f1 HB3 hl3 hb4
    generalize w3.alloc (.cells #[.int .i64 (chk nodes roots).1, .int .i64 (chk nodes roots).2, .string ⟨#[]⟩, .slice A9 0 c9] 39) = w4 at *
    generalize w3.heap.size = bx at *
    go_wp2_with fail
    refine (classes_any w4 A B c d nodes roots (Kd.C_below HN.out HB4.out) (Kd.C_below HR.out HB4.out) (HE.out.keep HB4.out)).mono ?_; rintro e w5 ⟨hb5, h5⟩
    have g0 := (hb5.out.cell (p := ⟨gb, 0, none⟩) hl4).trans h0
    have g1 := (hb5.out.cell (p := ⟨gb, 1, none⟩) hl4).trans h1
    have BX5 := Lib.hid ((hb5.out.block bx (blk_lt b7)).trans b7)
    have HB5 := Lib.hid (below_next HB4.out hb5.out)
    have hl5 := Nat.lt_of_lt_of_le hl4 hb5.out.size
    clear h0 h1 b7 hb5 HB4 hl4
    have y0 := blk_cell BX5.out 0
    have y1 := blk_cell BX5.out 1
    have y2 := blk_cell BX5.out 2
    have y3 := blk_cell BX5.out 3
    have key : ∀ (w7 : World), Hid (Below w5.heap.size w5 w7) → Hid (Below W.heap.size W w7) ∧ w7.cell? ⟨gb, 0, none⟩ = some (.slice A nodes.length c) ∧ w7.cell? ⟨gb, 1, none⟩ = some (.slice B roots.length d) ∧ Hid (w7.heap[bx]? = some (.cells #[.int .i64 (chk nodes roots).1, .int .i64 (chk nodes roots).2, .string ⟨#[]⟩, .slice A9 0 c9] 39 (0, 0))) := fun w7 hb7 => ⟨Lib.hid (below_next HB5.out hb7.out), (hb7.out.cell (p := ⟨gb, 0, none⟩) hl5).trans g0, (hb7.out.cell (p := ⟨gb, 1, none⟩) hl5).trans g1, Lib.hid ((hb7.out.block bx (blk_lt BX5.out)).trans BX5.out)⟩
    have KEY := Lib.hid key; clear key
    rcases h5 with ⟨hck, A3, L, c3, rfl, HL⟩ | ⟨hck, b3, rfl, HV⟩
    · have hq : ((chk nodes roots).1 != 0) = false := by simp [chk_nil.1 hck]
      have HCk := Lib.hid hck
      clear hck
      go_wp2_with fail
      refine (is_true .nilIface (chk nodes roots) A9 c9 w5 (by rw [show chainOf (chk nodes roots) = [] from HCk.out]; exact .nil)).mono ?_; rintro e w6 ⟨rfl, hb6⟩
      obtain ⟨_, a0, a1, BX6⟩ := KEY.out w6 hb6
      have z0 := blk_cell BX6.out 0
      have z1 := blk_cell BX6.out 1
      have z2 := blk_cell BX6.out 2
      have z3 := blk_cell BX6.out 3
      clear y0 y1 y2 y3 g0 g1
      go_wp2_with fail
      refine (bad_any (chk nodes roots) A9 c9 w6).mono ?_; rintro e w7 ⟨rfl, hb7⟩
      rw [hq]
      have hb57 : Hid (Below w5.heap.size w5 w7) := Lib.hid (below_next hb6.out hb7.out)
      obtain ⟨HB7, e0, e1, BX7⟩ := KEY.out w7 hb57
      have u0 := blk_cell BX7.out 0
      have u1 := blk_cell BX7.out 1
      have u2 := blk_cell BX7.out 2
      have u3 := blk_cell BX7.out 3
      clear z0 z1 z2 z3 a0 a1 BX6 hb6 hb7
      go_wp2_with fail
      refine (bad_any (chk nodes roots) A9 c9 w7).mono ?_; rintro e w8 ⟨rfl, hb8⟩
      rw [hq]
      have hb58 : Hid (Below w5.heap.size w5 w8) := Lib.hid (below_next hb57.out hb8.out)
      obtain ⟨HB8, a0, a1, BX8⟩ := KEY.out w8 hb58
      clear u0 u1 u2 u3 e0 e1 BX7 HB7 hb57 hb8
      go_wp2_with fail
      refine (rclasses_any w8 A B c d nodes roots L (Kd.C_below HN.out HB8.out) hnc (Kd.C_below HR.out HB8.out) hrc (goodG_of HCk.out) HL.out.2).mono ?_; rintro e w9 ⟨A7, c7, v7, rfl, hc7, hb9⟩
      have hb59 : Hid (Below w5.heap.size w5 w9) := Lib.hid (below_next hb58.out hb9.out)
      clear a0 a1 BX8 HB8
      go_wp2_with fail
      refine (ints_any w9 A3 A7 c3 c7 L (Kd.C_below (Kd.R_reads' HL.out.1).2.2 hb59.out) (Kd.R_reads' HL.out.1).2.1 hc7.out.2 hc7.out.1).mono ?_; rintro e w10 ⟨rfl, hb10⟩
      have hbA : Hid (Below w5.heap.size w5 w10) := Lib.hid (below_next hb59.out hb10.out)
      obtain ⟨HB10, e0, e1, BXA⟩ := KEY.out w10 hbA
      clear hb59 hb10 hb58 hb9 hc7
      go_wp2_with fail
      refine (same_any w10 A B c d nodes roots i j (Kd.C_below HN.out HB10.out) (Kd.C_below HR.out HB10.out) (HE.out.keep HB10.out)).mono ?_; rintro e w11 ⟨hb11, b1, v1, rfl, HV1, HSB1⟩
      have hbB : Hid (Below w5.heap.size w5 w11) := Lib.hid (below_next hbA.out hb11.out)
      obtain ⟨HB11, a0, a1, BXB⟩ := KEY.out w11 hbB
      clear e0 e1 BXA HB10 hbA hb11
      go_wp2_with fail
      refine (rsame_any w11 A B c d nodes roots i j (Kd.C_below HN.out HB11.out) hnc (Kd.C_below HR.out HB11.out) hrc).mono ?_; rintro e w12 ⟨b2, A8, c8, rfl, HSB2, hb12⟩
      have hbC : Hid (Below w5.heap.size w5 w12) := Lib.hid (below_next hbB.out hb12.out)
      obtain ⟨HB12, e0, e1, BXC⟩ := KEY.out w12 hbC
      have u0 := blk_cell BXC.out 0
      have u1 := blk_cell BXC.out 1
      have u2 := blk_cell BXC.out 2
      have u3 := blk_cell BXC.out 3
      have f0 := blk_frozen BXC.out 0
      have f1 := blk_frozen BXC.out 1
      have f2 := blk_frozen BXC.out 2
      have f3 := blk_frozen BXC.out 3
      have HV3 : Hid (EV (put4w w12 bx (.int .i64 (sameP nodes roots i j).1) (.int .i64 (sameP nodes roots i j).2) (.string ⟨#[]⟩) (.slice A8 0 c8)) v1 (chainOf (sameP nodes roots i j))) := Lib.hid (EV.far (HV1.out.keep hb12.out) (blk_cell BXC.out 3) (fun b' q u hne h => put4w_far w12 bx _ _ _ _ b' q u hne h))
      have HX := put4w_blk (w := w12) (.int .i64 (sameP nodes roots i j).1) (.int .i64 (sameP nodes roots i j).2) (.string ⟨#[]⟩) (.slice A8 0 c8) BXC.out
      have HBo : Hid (Below w.heap.size w (put4w w12 bx (.int .i64 (sameP nodes roots i j).1) (.int .i64 (sameP nodes roots i j).2) (.string ⟨#[]⟩) (.slice A8 0 c8))) := Lib.hid (by
        have h0 := HB.out
        rw [← Hgb.out] at h0
        have h1 := below_next h0 HB12.out
        exact below_set (below_set (below_set (below_set h1 hlb) hlb) hlb) hlb)
      have hbb := HSB1.out.eq HSB2.out
      subst hbb
      have hbt : (b1 == b1) = true := by simp
      clear a0 a1 BXB HB11 hbB hb12 HSB1 HSB2 HV1 e0 e1
      go_upto_region 13 with fail
      change Code.wp _ _ _ _ (put4w w12 bx (.int .i64 (sameP nodes roots i j).1) (.int .i64 (sameP nodes roots i j).2) (.string ⟨#[]⟩) (.slice A8 0 c8))
      clear u0 u1 u2 u3 f0 f1 f2 f3 BXC HB12 hbC
      generalize put4w w12 bx (.int .i64 (sameP nodes roots i j).1) (.int .i64 (sameP nodes roots i j).2) (.string ⟨#[]⟩) (.slice A8 0 c8) = w13 at *
      obtain ⟨x0, x1, x2, x3⟩ := HX
      go_wp2_with fail
      refine (is_true v1 (sameP nodes roots i j) A8 c8 w13 HV3.out).mono ?_; rintro e w14 ⟨rfl, hb14⟩
      go_wp2_with fail
      go_ret
      exact ⟨rfl, below_next HBo.out hb14.out⟩
    · have hq : ((chk nodes roots).1 != 0) = true := by
        have : (chk nodes roots).1 ≠ 0 := fun h => hck (chk_nil.2 h)
        simp [this]
      clear hck
      go_wp2_with fail
      refine (is_true _ (chk nodes roots) A9 c9 w5 HV.out).mono ?_; rintro e w6 ⟨rfl, hb6⟩
      obtain ⟨_, a0, a1, BX6⟩ := KEY.out w6 hb6
      have z0 := blk_cell BX6.out 0
      have z1 := blk_cell BX6.out 1
      have z2 := blk_cell BX6.out 2
      have z3 := blk_cell BX6.out 3
      clear y0 y1 y2 y3 g0 g1
      go_wp2_with fail
      refine (bad_any (chk nodes roots) A9 c9 w6).mono ?_; rintro e w7 ⟨rfl, hb7⟩
      rw [hq]
      have hb57 : Hid (Below w5.heap.size w5 w7) := Lib.hid (below_next hb6.out hb7.out)
      obtain ⟨HB7, e0, e1, BX7⟩ := KEY.out w7 hb57
      have u0 := blk_cell BX7.out 0
      have u1 := blk_cell BX7.out 1
      have u2 := blk_cell BX7.out 2
      have u3 := blk_cell BX7.out 3
      clear z0 z1 z2 z3 a0 a1 BX6 hb6 hb7
      go_wp2_with fail
      refine (bad_any (chk nodes roots) A9 c9 w7).mono ?_; rintro e w10 ⟨rfl, hb8⟩
      rw [hq]
      have hbA : Hid (Below w5.heap.size w5 w10) := Lib.hid (below_next hb57.out hb8.out)
      clear u0 u1 u2 u3 e0 e1 BX7 HB7 hb57 hb8
      obtain ⟨HB10, e0, e1, BXA⟩ := KEY.out w10 hbA
      go_wp2_with fail
      refine (same_any w10 A B c d nodes roots i j (Kd.C_below HN.out HB10.out) (Kd.C_below HR.out HB10.out) (HE.out.keep HB10.out)).mono ?_; rintro e w11 ⟨hb11, b1, v1, rfl, HV1, HSB1⟩
      have hbB : Hid (Below w5.heap.size w5 w11) := Lib.hid (below_next hbA.out hb11.out)
      obtain ⟨HB11, a0, a1, BXB⟩ := KEY.out w11 hbB
      clear e0 e1 BXA HB10 hbA hb11
      go_wp2_with fail
      refine (rsame_any w11 A B c d nodes roots i j (Kd.C_below HN.out HB11.out) hnc (Kd.C_below HR.out HB11.out) hrc).mono ?_; rintro e w12 ⟨b2, A8, c8, rfl, HSB2, hb12⟩
      have hbC : Hid (Below w5.heap.size w5 w12) := Lib.hid (below_next hbB.out hb12.out)
      obtain ⟨HB12, e0, e1, BXC⟩ := KEY.out w12 hbC
      have u0 := blk_cell BXC.out 0
      have u1 := blk_cell BXC.out 1
      have u2 := blk_cell BXC.out 2
      have u3 := blk_cell BXC.out 3
      have f0 := blk_frozen BXC.out 0
      have f1 := blk_frozen BXC.out 1
      have f2 := blk_frozen BXC.out 2
      have f3 := blk_frozen BXC.out 3
      have HV3 : Hid (EV (put4w w12 bx (.int .i64 (sameP nodes roots i j).1) (.int .i64 (sameP nodes roots i j).2) (.string ⟨#[]⟩) (.slice A8 0 c8)) v1 (chainOf (sameP nodes roots i j))) := Lib.hid (EV.far (HV1.out.keep hb12.out) (blk_cell BXC.out 3) (fun b' q u hne h => put4w_far w12 bx _ _ _ _ b' q u hne h))
      have HX := put4w_blk (w := w12) (.int .i64 (sameP nodes roots i j).1) (.int .i64 (sameP nodes roots i j).2) (.string ⟨#[]⟩) (.slice A8 0 c8) BXC.out
      have HBo : Hid (Below w.heap.size w (put4w w12 bx (.int .i64 (sameP nodes roots i j).1) (.int .i64 (sameP nodes roots i j).2) (.string ⟨#[]⟩) (.slice A8 0 c8))) := Lib.hid (by
        have h0 := HB.out
        rw [← Hgb.out] at h0
        have h1 := below_next h0 HB12.out
        exact below_set (below_set (below_set (below_set h1 hlb) hlb) hlb) hlb)
      have hbb := HSB1.out.eq HSB2.out
      subst hbb
      have hbt : (b1 == b1) = true := by simp
      clear a0 a1 BXB HB11 hbB hb12 HSB1 HSB2 HV1 e0 e1
      go_upto_region 13 with fail
      change Code.wp _ _ _ _ (put4w w12 bx (.int .i64 (sameP nodes roots i j).1) (.int .i64 (sameP nodes roots i j).2) (.string ⟨#[]⟩) (.slice A8 0 c8))
      clear u0 u1 u2 u3 f0 f1 f2 f3 BXC HB12 hbC
      generalize put4w w12 bx (.int .i64 (sameP nodes roots i j).1) (.int .i64 (sameP nodes roots i j).2) (.string ⟨#[]⟩) (.slice A8 0 c8) = w13 at *
      obtain ⟨x0, x1, x2, x3⟩ := HX
      go_wp2_with fail
      refine (is_true v1 (sameP nodes roots i j) A8 c8 w13 HV3.out).mono ?_; rintro e w14 ⟨rfl, hb14⟩
      go_wp2_with fail
      go_ret
      exact ⟨rfl, below_next HBo.out hb14.out⟩
end Go.Proofs.YtciniaabmjoiiaaDoor
