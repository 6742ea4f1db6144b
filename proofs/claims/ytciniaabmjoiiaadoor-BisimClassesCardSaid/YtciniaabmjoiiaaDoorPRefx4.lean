-- CUT by a program of this session's: what this claim does not use is left out of the printed text.
-- PRINTED by print.py (a twelfth state) out of the translation. Not trusted: Lean checks it.
import Derived.Test.YtciniaabmjoiiaaDoorPRefx0
import Derived.Test.YtciniaabmjoiiaaDoorPRefx3
namespace Go.Proofs.YtciniaabmjoiiaaDoor.PRef
open Go.RowKit Go.Proofs.YtciniaabmjoiiaaDoorW.PrintWords Go.Proofs.YtciniaabmjoiiaaDoorW.PrintLast Go.Proofs.YtciniaabmjoiiaaDoorW.PrintMore
attribute [local go_sem] max2_int min2_int max_two min_two max_three min_three max_four min_four   -- for this text's walks alone
set_option linter.unusedVariables false
set_option linter.unusedSimpArgs false

/-! ### tendrilref05_Pairs: function 48 -/
mutual
def tendrilref05_Pairs.l0 : Nat → Int → List (List Bool) → Int → List (S35) → List Int → Option ((List (List Bool)))
  | 0, _, _, _, _, _ => none
  | k + 1, x3, x4, x5, x163000, x163001 => if x5 < x3 then (if 0 ≤ x3 then (if (x3 : Int).toNat ≤ 281474976710656 then (if 0 ≤ x5 then (if x5 < (x4.length : Int) then (tendrilref05_Pairs.l1 k x3 (x4.set (x5 : Int).toNat (List.replicate (x3 : Int).toNat false)) x5 0 x163000 x163001) else (none)) else (none)) else (none)) else (none)) else (tendrilref05_Pairs.l2 k x3 x4 true x163000 x163001)
def tendrilref05_Pairs.l1 : Nat → Int → List (List Bool) → Int → Int → List (S35) → List Int → Option ((List (List Bool)))
  | 0, _, _, _, _, _, _ => none
  | k + 1, x3, x4, x5, x6, x163000, x163001 => if x6 < x3 then (if 0 ≤ x5 then (if x5 < (x4.length : Int) then ((tendrilref05_labels.f x163000 x163001 x5 x6).bind fun t171 => (if 0 ≤ x6 then (if x6 < ((rd_L6 x4 x5).length : Int) then (tendrilref05_Pairs.l1 k x3 (x4.set (x5 : Int).toNat ((rd_L6 x4 x5).set (x6 : Int).toNat t171)) x5 (wrap64 (x6 + 1)) x163000 x163001) else (none)) else (none))) else (none)) else (none)) else (tendrilref05_Pairs.l0 k x3 x4 (wrap64 (x5 + 1)) x163000 x163001)
def tendrilref05_Pairs.l2 : Nat → Int → List (List Bool) → Bool → List (S35) → List Int → Option ((List (List Bool)))
  | 0, _, _, _, _, _ => none
  | k + 1, x3, x4, x7, x163000, x163001 => if x7 = true then (tendrilref05_Pairs.l3 k x3 x4 false 0 x163000 x163001) else (some x4)
def tendrilref05_Pairs.l3 : Nat → Int → List (List Bool) → Bool → Int → List (S35) → List Int → Option ((List (List Bool)))
  | 0, _, _, _, _, _, _ => none
  | k + 1, x3, x4, x7, x8, x163000, x163001 => if x8 < x3 then (tendrilref05_Pairs.l4 k x3 x4 x7 x8 0 x163000 x163001) else (tendrilref05_Pairs.l2 k x3 x4 x7 x163000 x163001)
def tendrilref05_Pairs.l4 : Nat → Int → List (List Bool) → Bool → Int → Int → List (S35) → List Int → Option ((List (List Bool)))
  | 0, _, _, _, _, _, _, _ => none
  | k + 1, x3, x4, x7, x8, x9, x163000, x163001 => if x9 < x3 then (if 0 ≤ x8 then (if x8 < (x4.length : Int) then (if 0 ≤ x9 then (if x9 < ((rd_L6 x4 x8).length : Int) then (if (rdOf false (rd_L6 x4 x8) x9 = true) then (tendrilref05_Pairs.l5 k x3 x4 x7 x8 x9 0 x163000 x163001) else (tendrilref05_Pairs.l4 k x3 x4 x7 x8 (wrap64 (x9 + 1)) x163000 x163001)) else (none)) else (none)) else (none)) else (none)) else (tendrilref05_Pairs.l3 k x3 x4 x7 (wrap64 (x8 + 1)) x163000 x163001)
def tendrilref05_Pairs.l5 : Nat → Int → List (List Bool) → Bool → Int → Int → Int → List (S35) → List Int → Option ((List (List Bool)))
  | 0, _, _, _, _, _, _, _, _ => none
  | k + 1, x3, x4, x7, x8, x9, x10, x163000, x163001 => if 0 ≤ x8 then (if x8 < (x163000.length : Int) then (if x10 < (((rd_T35 x163000 x8).f3).length : Int) then (if 0 ≤ x10 then (if 0 ≤ (rd ((rd_T35 x163000 x8).f3) x10) then (if (rd ((rd_T35 x163000 x8).f3) x10) < (x4.length : Int) then (if 0 ≤ x9 then (if x9 < (x163000.length : Int) then (if x10 < (((rd_T35 x163000 x9).f3).length : Int) then (if 0 ≤ (rd ((rd_T35 x163000 x9).f3) x10) then (if (rd ((rd_T35 x163000 x9).f3) x10) < ((rd_L6 x4 (rd ((rd_T35 x163000 x8).f3) x10)).length : Int) then (if (rdOf false (rd_L6 x4 (rd ((rd_T35 x163000 x8).f3) x10)) (rd ((rd_T35 x163000 x9).f3) x10) = true) then (tendrilref05_Pairs.l5 k x3 x4 x7 x8 x9 (wrap64 (x10 + 1)) x163000 x163001) else (if x8 < (x4.length : Int) then (if x9 < ((rd_L6 x4 x8).length : Int) then (tendrilref05_Pairs.l5 k x3 (x4.set (x8 : Int).toNat ((rd_L6 x4 x8).set (x9 : Int).toNat false)) true x8 x9 (wrap64 (x10 + 1)) x163000 x163001) else (none)) else (none))) else (none)) else (none)) else (none)) else (none)) else (none)) else (none)) else (none)) else (none)) else (tendrilref05_Pairs.l4 k x3 x4 x7 x8 (wrap64 (x9 + 1)) x163000 x163001)) else (none)) else (none)
end
def tendrilref05_Pairs.f (k : Nat) (l0_0 : List (S35)) (l0_1 : List Int) : Option ((List (List Bool))) := if 0 ≤ (l0_0.length : Int) then (if ((l0_0.length : Int) : Int).toNat ≤ 11728124029610 then (tendrilref05_Pairs.l0 k (l0_0.length : Int) (List.replicate ((l0_0.length : Int) : Int).toNat []) 0 l0_0 l0_1) else (none)) else (none)
theorem tendrilref05_Pairs.mono_l : ∀ k, (∀ y0 y1 y2 y3 y4, LeO (tendrilref05_Pairs.l0 k y0 y1 y2 y3 y4) (tendrilref05_Pairs.l0 (k + 1) y0 y1 y2 y3 y4)) ∧ (∀ y0 y1 y2 y3 y4 y5, LeO (tendrilref05_Pairs.l1 k y0 y1 y2 y3 y4 y5) (tendrilref05_Pairs.l1 (k + 1) y0 y1 y2 y3 y4 y5)) ∧ (∀ y0 y1 y2 y3 y4, LeO (tendrilref05_Pairs.l2 k y0 y1 y2 y3 y4) (tendrilref05_Pairs.l2 (k + 1) y0 y1 y2 y3 y4)) ∧ (∀ y0 y1 y2 y3 y4 y5, LeO (tendrilref05_Pairs.l3 k y0 y1 y2 y3 y4 y5) (tendrilref05_Pairs.l3 (k + 1) y0 y1 y2 y3 y4 y5)) ∧ (∀ y0 y1 y2 y3 y4 y5 y6, LeO (tendrilref05_Pairs.l4 k y0 y1 y2 y3 y4 y5 y6) (tendrilref05_Pairs.l4 (k + 1) y0 y1 y2 y3 y4 y5 y6)) ∧ (∀ y0 y1 y2 y3 y4 y5 y6 y7, LeO (tendrilref05_Pairs.l5 k y0 y1 y2 y3 y4 y5 y6 y7) (tendrilref05_Pairs.l5 (k + 1) y0 y1 y2 y3 y4 y5 y6 y7))
  | 0 => ⟨fun _ _ _ _ _ r h => by simp [tendrilref05_Pairs.l0] at h, fun _ _ _ _ _ _ r h => by simp [tendrilref05_Pairs.l1] at h, fun _ _ _ _ _ r h => by simp [tendrilref05_Pairs.l2] at h, fun _ _ _ _ _ _ r h => by simp [tendrilref05_Pairs.l3] at h, fun _ _ _ _ _ _ _ r h => by simp [tendrilref05_Pairs.l4] at h, fun _ _ _ _ _ _ _ _ r h => by simp [tendrilref05_Pairs.l5] at h⟩
  | k + 1 => by
    obtain ⟨ih0, ih1, ih2, ih3, ih4, ih5⟩ := tendrilref05_Pairs.mono_l k
    refine ⟨?_, ?_, ?_, ?_, ?_, ?_⟩
    · intro y0 y1 y2 y3 y4
      unfold tendrilref05_Pairs.l0
      repeat' first
      | (with_reducible exact ih0 _ _ _ _ _)
      | (with_reducible exact ih1 _ _ _ _ _ _)
      | (with_reducible exact ih2 _ _ _ _ _)
      | (with_reducible exact ih3 _ _ _ _ _ _)
      | (with_reducible exact ih4 _ _ _ _ _ _ _)
      | (with_reducible exact ih5 _ _ _ _ _ _ _ _)
      | (with_reducible exact LeO.refl _)
      | (with_reducible exact LeO.none _)
      | (with_reducible refine LeO.ite ?_ ?_)
      | (with_reducible refine LeO.bind ?_ (fun _ => ?_))
      | exact ih0 _ _ _ _ _
      | exact ih1 _ _ _ _ _ _
      | exact ih2 _ _ _ _ _
      | exact ih3 _ _ _ _ _ _
      | exact ih4 _ _ _ _ _ _ _
      | exact ih5 _ _ _ _ _ _ _ _
      | exact LeO.none _
      | refine LeO.ite ?_ ?_
      | refine LeO.bind ?_ (fun _ => ?_)
    · intro y0 y1 y2 y3 y4 y5
      unfold tendrilref05_Pairs.l1
      repeat' first
      | (with_reducible exact ih0 _ _ _ _ _)
      | (with_reducible exact ih1 _ _ _ _ _ _)
      | (with_reducible exact ih2 _ _ _ _ _)
      | (with_reducible exact ih3 _ _ _ _ _ _)
      | (with_reducible exact ih4 _ _ _ _ _ _ _)
      | (with_reducible exact ih5 _ _ _ _ _ _ _ _)
      | (with_reducible exact LeO.refl _)
      | (with_reducible exact LeO.none _)
      | (with_reducible refine LeO.ite ?_ ?_)
      | (with_reducible refine LeO.bind ?_ (fun _ => ?_))
      | exact ih0 _ _ _ _ _
      | exact ih1 _ _ _ _ _ _
      | exact ih2 _ _ _ _ _
      | exact ih3 _ _ _ _ _ _
      | exact ih4 _ _ _ _ _ _ _
      | exact ih5 _ _ _ _ _ _ _ _
      | exact LeO.none _
      | refine LeO.ite ?_ ?_
      | refine LeO.bind ?_ (fun _ => ?_)
    · intro y0 y1 y2 y3 y4
      unfold tendrilref05_Pairs.l2
      repeat' first
      | (with_reducible exact ih0 _ _ _ _ _)
      | (with_reducible exact ih1 _ _ _ _ _ _)
      | (with_reducible exact ih2 _ _ _ _ _)
      | (with_reducible exact ih3 _ _ _ _ _ _)
      | (with_reducible exact ih4 _ _ _ _ _ _ _)
      | (with_reducible exact ih5 _ _ _ _ _ _ _ _)
      | (with_reducible exact LeO.refl _)
      | (with_reducible exact LeO.none _)
      | (with_reducible refine LeO.ite ?_ ?_)
      | (with_reducible refine LeO.bind ?_ (fun _ => ?_))
      | exact ih0 _ _ _ _ _
      | exact ih1 _ _ _ _ _ _
      | exact ih2 _ _ _ _ _
      | exact ih3 _ _ _ _ _ _
      | exact ih4 _ _ _ _ _ _ _
      | exact ih5 _ _ _ _ _ _ _ _
      | exact LeO.none _
      | refine LeO.ite ?_ ?_
      | refine LeO.bind ?_ (fun _ => ?_)
    · intro y0 y1 y2 y3 y4 y5
      unfold tendrilref05_Pairs.l3
      repeat' first
      | (with_reducible exact ih0 _ _ _ _ _)
      | (with_reducible exact ih1 _ _ _ _ _ _)
      | (with_reducible exact ih2 _ _ _ _ _)
      | (with_reducible exact ih3 _ _ _ _ _ _)
      | (with_reducible exact ih4 _ _ _ _ _ _ _)
      | (with_reducible exact ih5 _ _ _ _ _ _ _ _)
      | (with_reducible exact LeO.refl _)
      | (with_reducible exact LeO.none _)
      | (with_reducible refine LeO.ite ?_ ?_)
      | (with_reducible refine LeO.bind ?_ (fun _ => ?_))
      | exact ih0 _ _ _ _ _
      | exact ih1 _ _ _ _ _ _
      | exact ih2 _ _ _ _ _
      | exact ih3 _ _ _ _ _ _
      | exact ih4 _ _ _ _ _ _ _
      | exact ih5 _ _ _ _ _ _ _ _
      | exact LeO.none _
      | refine LeO.ite ?_ ?_
      | refine LeO.bind ?_ (fun _ => ?_)
    · intro y0 y1 y2 y3 y4 y5 y6
      unfold tendrilref05_Pairs.l4
      repeat' first
      | (with_reducible exact ih0 _ _ _ _ _)
      | (with_reducible exact ih1 _ _ _ _ _ _)
      | (with_reducible exact ih2 _ _ _ _ _)
      | (with_reducible exact ih3 _ _ _ _ _ _)
      | (with_reducible exact ih4 _ _ _ _ _ _ _)
      | (with_reducible exact ih5 _ _ _ _ _ _ _ _)
      | (with_reducible exact LeO.refl _)
      | (with_reducible exact LeO.none _)
      | (with_reducible refine LeO.ite ?_ ?_)
      | (with_reducible refine LeO.bind ?_ (fun _ => ?_))
      | exact ih0 _ _ _ _ _
      | exact ih1 _ _ _ _ _ _
      | exact ih2 _ _ _ _ _
      | exact ih3 _ _ _ _ _ _
      | exact ih4 _ _ _ _ _ _ _
      | exact ih5 _ _ _ _ _ _ _ _
      | exact LeO.none _
      | refine LeO.ite ?_ ?_
      | refine LeO.bind ?_ (fun _ => ?_)
    · intro y0 y1 y2 y3 y4 y5 y6 y7
      unfold tendrilref05_Pairs.l5
      repeat' first
      | (with_reducible exact ih0 _ _ _ _ _)
      | (with_reducible exact ih1 _ _ _ _ _ _)
      | (with_reducible exact ih2 _ _ _ _ _)
      | (with_reducible exact ih3 _ _ _ _ _ _)
      | (with_reducible exact ih4 _ _ _ _ _ _ _)
      | (with_reducible exact ih5 _ _ _ _ _ _ _ _)
      | (with_reducible exact LeO.refl _)
      | (with_reducible exact LeO.none _)
      | (with_reducible refine LeO.ite ?_ ?_)
      | (with_reducible refine LeO.bind ?_ (fun _ => ?_))
      | exact ih0 _ _ _ _ _
      | exact ih1 _ _ _ _ _ _
      | exact ih2 _ _ _ _ _
      | exact ih3 _ _ _ _ _ _
      | exact ih4 _ _ _ _ _ _ _
      | exact ih5 _ _ _ _ _ _ _ _
      | exact LeO.none _
      | refine LeO.ite ?_ ?_
      | refine LeO.bind ?_ (fun _ => ?_)
theorem tendrilref05_Pairs.mono : ∀ a0 a1 k, LeO (tendrilref05_Pairs.f k a0 a1) (tendrilref05_Pairs.f (k + 1) a0 a1) := by
  intro a0 a1 k
  obtain ⟨ih0, ih1, ih2, ih3, ih4, ih5⟩ := tendrilref05_Pairs.mono_l k
  unfold tendrilref05_Pairs.f
  repeat' first
      | (with_reducible exact ih0 _ _ _ _ _)
      | (with_reducible exact ih1 _ _ _ _ _ _)
      | (with_reducible exact ih2 _ _ _ _ _)
      | (with_reducible exact ih3 _ _ _ _ _ _)
      | (with_reducible exact ih4 _ _ _ _ _ _ _)
      | (with_reducible exact ih5 _ _ _ _ _ _ _ _)
      | (with_reducible exact LeO.refl _)
      | (with_reducible exact LeO.none _)
      | (with_reducible refine LeO.ite ?_ ?_)
      | (with_reducible refine LeO.bind ?_ (fun _ => ?_))
      | exact ih0 _ _ _ _ _
      | exact ih1 _ _ _ _ _ _
      | exact ih2 _ _ _ _ _
      | exact ih3 _ _ _ _ _ _
      | exact ih4 _ _ _ _ _ _ _
      | exact ih5 _ _ _ _ _ _ _ _
      | exact LeO.none _
      | refine LeO.ite ?_ ?_
      | refine LeO.bind ?_ (fun _ => ?_)
def tendrilref05_Pairs.T10 : Bool × List (List Nat × List Nat) := (true, [([], []), ([], []), ([0, 1], [0, 1]), ([2], [2]), ([], []), ([], []), ([], []), ([], []), ([5, 6, 7], [5, 6, 7]), ([3, 4, 0, 1, 2, 3, 4, 5, 6, 7, 8], [3, 4]), ([9, 8, 8, 0, 1, 2, 3, 4, 5, 6, 7, 8], [8, 9])])
def tendrilref05_Pairs.B10 : List Nat := [0, 0, 3, 7, 0, 0, 0, 0, 224, 511, 1023]
theorem tendrilref05_Pairs.tab10 : rtab .any (opsOf Tryd.f48 10) = tendrilref05_Pairs.T10 := by kernel_rfl
theorem tendrilref05_Pairs.bits10 : waitsOk tendrilref05_Pairs.T10.2 tendrilref05_Pairs.B10 = true := by kernel_rfl
def tendrilref05_Pairs.T24 : Bool × List (List Nat × List Nat) := (true, [([], []), ([], []), ([1], [1]), ([], []), ([2, 3], [2, 3]), ([4], [4]), ([5], [5]), ([], []), ([6, 7], [6, 7]), ([8], [8]), ([0, 9], [0, 9]), ([10], [10]), ([], []), ([12], [12]), ([], []), ([13, 14], [13, 14]), ([15], [15]), ([16], [16]), ([], []), ([17, 18], [17, 18]), ([19], [19]), ([11, 20], [11, 20]), ([21], [21]), ([22], [22])])
def tendrilref05_Pairs.B24 : List Nat := [0, 0, 2, 0, 14, 30, 62, 0, 254, 510, 1023, 2047, 0, 4096, 0, 28672, 61440, 126976, 0, 520192, 1044480, 2097151, 4194303, 8388607]
theorem tendrilref05_Pairs.tab24 : rtab .any (opsOf Tryd.f48 24) = tendrilref05_Pairs.T24 := by kernel_rfl
theorem tendrilref05_Pairs.bits24 : waitsOk tendrilref05_Pairs.T24.2 tendrilref05_Pairs.B24 = true := by kernel_rfl
set_option maxHeartbeats 8000000 in
set_option maxRecDepth 100000 in
theorem tendrilref05_Pairs.calls (k : Nat) (A0_0 : Option Addr) (c0_0 : Nat) (l0_0 : List (S35)) (A0_1 : Option Addr) (c0_1 : Nat) (l0_1 : List Int) (r : List (List Bool)) (w : World) (hr0_0 : Kd.C k35 w A0_0 l0_0.length l0_0) (hc0_0 : l0_0.length ≤ c0_0) (hr0_1 : Kd.C (Kd.int .i64) w A0_1 l0_1.length l0_1) (hc0_1 : l0_1.length ≤ c0_1) (h : tendrilref05_Pairs.f k l0_0 l0_1 = some r) :
    Calls Tryd.prog 48 #[.agg #[.slice A0_0 l0_0.length c0_0, .slice A0_1 l0_1.length c0_1]] w fun e w' => ∃ v0_ : Value, e = .returned (v0_) ∧ Kd.S (Kd.slice 4 Kd.bool) 76 w' w.heap.size (fun _ => True) v0_ r ∧ Below w.heap.size w w' := by
  have hu25 := Tryd.underlying25
  have HR0_0 := Aside0.mk hr0_0
  have HC0_0 := Aside0.mk hc0_0
  clear hr0_0 hc0_0
  have HR0_1 := Aside0.mk hr0_1
  have HC0_1 := Aside0.mk hc0_1
  clear hr0_1 hc0_1
  have HB := Aside0.mk (Below.refl w.heap.size w)
  have H : (if 0 ≤ (l0_0.length : Int) then (if ((l0_0.length : Int) : Int).toNat ≤ 11728124029610 then (tendrilref05_Pairs.l0 k (l0_0.length : Int) (List.replicate ((l0_0.length : Int) : Int).toNat []) 0 l0_0 l0_1) else (none)) else (none)) = some r := h
  clear h
  by_cases c2 : 0 ≤ (l0_0.length : Int)
  · rw [if_pos c2] at H
    have c2b0 := eq_true c2
    have c2b1 : decide (0 ≤ (l0_0.length : Int)) = true := decide_eq_true c2
    clear c2
    by_cases c3 : ((l0_0.length : Int) : Int).toNat ≤ 11728124029610
    · rw [if_pos c3] at H
      have c3b0 := eq_true c3
      have c3b1 : decide (((l0_0.length : Int) : Int).toNat ≤ 11728124029610) = true := decide_eq_true c3
      clear c3
      obtain ⟨y163, hy163⟩ : ∃ y_ : List (List Bool), y_ = (List.replicate ((l0_0.length : Int) : Int).toNat []) := ⟨_, rfl⟩
      replace H : (tendrilref05_Pairs.l0 k (l0_0.length : Int) y163 0 l0_0 l0_1) = some r := by first | (rw [hy163]; with_reducible exact H) | (have H2_ := (Option.bind_some _ _).symm.trans H; rw [hy163]; with_reducible exact H2_) | (have H2_ := (Option.bind_some _ _).symm.trans H; with_reducible exact H2_) | with_reducible exact H | (rw [hy163]; exact H) | exact H
      have Ny163 := Aside0.mk hy163
      clear hy163
      have H' := Aside0.mk H
      clear H
      go_enter Tryd.func48, Tryd.ntmps48
      go_wp2_with (first | ((with_reducible refine gate_dst (N := 1) rfl ?_); refine box_event ?hg (N := 1) ?hd (cs := #[.slice A0_0 l0_0.length c0_0, .slice A0_1 l0_1.length c0_1]) (t := 25) ?hr ?_; (case hd => rfl); (case hg => rfl); (case hr => first | (go_simp; done) | (go_simp; rfl)); intro gb162 hg w4 hbox hb; have n0_ := Aside0.mk (below_step (by repeat (first | (with_reducible first | exact HB.out | apply below_alloc | apply pw_below_drewN | apply below_drew1) | exact HB.out)) hb); have n1_ := Aside0.mk (hbox); have n2_ := Aside0.mk ((by rw [hg]; exact (below_size (by repeat (first | (with_reducible first | exact HB.out | apply below_alloc | apply pw_below_drewN | apply below_drew1) | exact HB.out))) : w.heap.size ≤ gb162)); have n3_ := Aside0.mk ((by rw [hg]; exact (below_size (by repeat (first | (with_reducible first | exact HB.out | apply below_alloc | apply pw_below_drewN | apply below_drew1) | exact HB.out))) : w.heap.size ≤ gb162)); clear HB; have HB := n0_; have BK162 := n1_; have GW162 := n2_; have GE162 := n3_; clear n0_ n1_ n2_ n3_; clear hb hbox hg; have hcz5_0 : w4.cell? ⟨gb162, 0, none⟩ = some (.slice A0_0 l0_0.length c0_0) := (blk_cell BK162.out 0).trans rfl; have hcz5_1 : w4.cell? ⟨gb162, 1, none⟩ = some (.slice A0_1 l0_1.length c0_1) := (blk_cell BK162.out 1).trans rfl; have hfz5_0 := blk_frozen BK162.out 0; have hfz5_1 := blk_frozen BK162.out 1) | ((with_reducible refine gate_dst (N := 15) rfl ?_); refine Kd.S_make (Kd.slice 4 Kd.bool) _ 76 rfl (N := 15) rfl 74 _ _ rfl (l0_0.length : Int) rfl rfl Tryd.underlying74 (.slice none 0 0) 24 info76 rfl (by decide) (by omega) [] (ok := fun _ => True) (okp := fun _ => True) ⟨_, rfl, Kd.R_nil _ _ _ _ _⟩ (fun _ hk => hk) trivial (of_decide_eq_true (by first | (with_reducible assumption) | assumption)) (Nat.le_trans (Nat.mul_le_mul_right _ (of_decide_eq_true (by first | (with_reducible assumption) | assumption) : (l0_0.length : Int).toNat ≤ 11728124029610)) (by omega)) (Below.refl _ _) (Nat.le_refl _) ?_; intro v164 w6 ho7 hb hg_ hnew_; clear hg_ hnew_; (first | rw [← Ny163.out] at ho7 | (simp only [Int.reduceToNat] at ho7; rw [← Ny163.out] at ho7)); have n0_ := Aside0.mk (Kd.S_lower ho7 (below_size (by repeat (first | (with_reducible first | exact HB.out | apply below_alloc | apply pw_below_drewN | apply below_drew1 | refine below_set ?_ GE162.out) | exact HB.out)))); have n1_ := Aside0.mk (blk_below (g := gb162) (o := .cells #[.slice A0_0 l0_0.length c0_0, .slice A0_1 l0_1.length c0_1] 25 (0, 0)) (by (with_reducible repeat (first | refine blk_drewN ?_ _ | refine blk_drew ?_ | refine blk_alloc ?_ _)); exact BK162.out) hb); have n2_ := Aside0.mk (below_step (by repeat (first | (with_reducible first | exact HB.out | apply below_alloc | apply pw_below_drewN | apply below_drew1 | refine below_set ?_ GE162.out) | exact HB.out)) hb); clear BK162; clear HB; have HO165 := n0_; have BK162 := n1_; have HB := n2_; clear n0_ n1_ n2_; clear hb ho7))
      go_loopg [5] k (fun kq v5 w' => ∃ (x4_1 : List (List Bool)) (x5_1 : Int), v5 = .int .i64 x5_1 ∧ Aside0 (tendrilref05_Pairs.l0 kq (l0_0.length : Int) x4_1 x5_1 l0_0 l0_1 = some r) ∧ Aside0 (kq ≤ k) ∧ Aside0 (Kd.S (Kd.slice 4 Kd.bool) 76 w' w.heap.size (fun _ => True) v164 x4_1) ∧ Aside0 (w'.heap[gb162]? = some (.cells #[(.slice A0_0 l0_0.length c0_0), (.slice A0_1 l0_1.length c0_1)] 25 (0, 0))) ∧ Aside0 (Below w.heap.size w w'))
      case atStart => exact ⟨(y163), (0), (by first | rfl | (simp; done) | (simp [*]; done)), H', ⟨Nat.le_refl _⟩, ⟨by (with_reducible repeat (first | apply Kd.S_alloc | apply Kd.S_drewN | apply Kd.S_drew)); exact HO165.out⟩, ⟨by (with_reducible repeat (first | refine blk_drewN ?_ _ | refine blk_drew ?_ | refine blk_alloc ?_ _)); exact BK162.out⟩, ⟨by repeat (first | (with_reducible first | exact HB.out | apply below_alloc | apply pw_below_drewN | apply below_drew1 | refine below_set ?_ GE162.out) | exact HB.out)⟩⟩
      case round =>
        clear H'
        try clear c2
        try clear c2b0
        try clear c2b1
        try clear p2
        try clear c3
        try clear c3b0
        try clear c3b1
        try clear c4
        try clear hcz5_0
        try clear hcz5_1
        try clear hfz5_0
        try clear hfz5_1
        obtain ⟨x4_1, x5_1, rfl, HA, HK1, HO_4, BK162, HB⟩ := hrel
        cases gk with
        | zero => exact absurd HA.out (by simp [tendrilref05_Pairs.l0])
        | succ k1 =>
          have H := HA.out
          clear HA
          simp only [tendrilref05_Pairs.l0] at H
          by_cases c8 : x5_1 < (l0_0.length : Int)
          · rw [if_pos c8] at H
            have c8b0 : decide (x5_1 < (l0_0.length : Int)) = true := decide_eq_true c8
            clear c8
            by_cases c9 : 0 ≤ (l0_0.length : Int)
            · rw [if_pos c9] at H
              have c9b0 := eq_true c9
              have c9b1 : decide (0 ≤ (l0_0.length : Int)) = true := decide_eq_true c9
              clear c9
              by_cases c10 : ((l0_0.length : Int) : Int).toNat ≤ 281474976710656
              · rw [if_pos c10] at H
                have c10b0 := eq_true c10
                have c10b1 : decide (((l0_0.length : Int) : Int).toNat ≤ 281474976710656) = true := decide_eq_true c10
                clear c10
                obtain ⟨y166, hy166⟩ : ∃ y_ : List Bool, y_ = (List.replicate ((l0_0.length : Int) : Int).toNat false) := ⟨_, rfl⟩
                replace H : (if 0 ≤ x5_1 then (if x5_1 < (x4_1.length : Int) then (tendrilref05_Pairs.l1 k1 (l0_0.length : Int) (x4_1.set (x5_1 : Int).toNat y166) x5_1 0 l0_0 l0_1) else (none)) else (none)) = some r := by first | (rw [hy166]; with_reducible exact H) | (have H2_ := (Option.bind_some _ _).symm.trans H; rw [hy166]; with_reducible exact H2_) | (have H2_ := (Option.bind_some _ _).symm.trans H; with_reducible exact H2_) | with_reducible exact H | (rw [hy166]; exact H) | exact H
                have Ny166 := Aside0.mk hy166
                clear hy166
                by_cases c11 : 0 ≤ x5_1
                · rw [if_pos c11] at H
                  have c11b0 : decide (0 ≤ x5_1) = true := decide_eq_true c11
                  clear c11
                  by_cases c12 : x5_1 < (x4_1.length : Int)
                  · rw [if_pos c12] at H
                    have c12b0 : decide (x5_1 < (x4_1.length : Int)) = true := decide_eq_true c12
                    clear c12
                    obtain ⟨y169, hy169⟩ : ∃ y_ : List (List Bool), y_ = (x4_1.set (x5_1 : Int).toNat y166) := ⟨_, rfl⟩
                    replace H : (tendrilref05_Pairs.l1 k1 (l0_0.length : Int) y169 x5_1 0 l0_0 l0_1) = some r := by first | (rw [hy169]; with_reducible exact H) | (have H2_ := (Option.bind_some _ _).symm.trans H; rw [hy169]; with_reducible exact H2_) | (have H2_ := (Option.bind_some _ _).symm.trans H; with_reducible exact H2_) | with_reducible exact H | (rw [hy169]; exact H) | exact H
                    have Ny169 := Aside0.mk hy169
                    clear hy169
                    have H' := Aside0.mk H
                    clear H
                    go_wp2_with (first | ((with_reducible refine gate_dst (N := 24) rfl ?_); refine Kd.R_make Kd.bool _ 4 rfl (N := 24) rfl 76 _ _ rfl (l0_0.length : Int) rfl rfl Tryd.underlying76 (.bool false) 1 info4 rfl (by decide) (by omega) false (ok := fun _ => True) (okp := fun _ => True) rfl (fun _ hk => hk) trivial (of_decide_eq_true (by first | (with_reducible assumption) | assumption)) (Nat.le_trans (Nat.mul_le_mul_right _ (of_decide_eq_true (by first | (with_reducible assumption) | assumption) : (l0_0.length : Int).toNat ≤ 281474976710656)) (by omega)) (Below.refl _ _) (Nat.le_refl _) ?_; intro v167 w14 ho15 hb hg_ hnew_; clear hg_ hnew_; (first | rw [← Ny166.out] at ho15 | (simp only [Int.reduceToNat] at ho15; rw [← Ny166.out] at ho15)); have n0_ := Aside0.mk (Kd.S_elder' (by (with_reducible repeat (first | apply Kd.S_alloc | apply Kd.S_drewN | apply Kd.S_drew)); exact HO_4.out) (Kd.R_base ho15) hb); have n1_ := Aside0.mk (Kd.R_lower ho15 (below_size (by repeat (first | (with_reducible first | exact HB.out | apply below_alloc | apply pw_below_drewN | apply below_drew1 | refine below_set ?_ GE162.out) | exact HB.out)))); have n2_ := Aside0.mk (blk_below (g := gb162) (o := .cells #[.slice A0_0 l0_0.length c0_0, .slice A0_1 l0_1.length c0_1] 25 (0, 0)) (by (with_reducible repeat (first | refine blk_drewN ?_ _ | refine blk_drew ?_ | refine blk_alloc ?_ _)); exact BK162.out) hb); have n3_ := Aside0.mk (below_step (by repeat (first | (with_reducible first | exact HB.out | apply below_alloc | apply pw_below_drewN | apply below_drew1 | refine below_set ?_ GE162.out) | exact HB.out)) hb); clear HO_4; clear BK162; clear HB; have HO_4 := n0_; have HO168 := n1_; have BK162 := n2_; have HB := n3_; clear n0_ n1_ n2_ n3_; clear hb ho15; have p13 : 0 ≤ (x5_1 : Int) := of_decide_eq_true (by first | (with_reducible assumption) | assumption); have q13 : (x5_1 : Int) < ((x4_1.length : Int) : Int) := of_decide_eq_true (by first | (with_reducible assumption) | assumption); obtain ⟨go13, co13, eo13, gb13, gl13, cl13, HG13⟩ := Kd.S_form HO_4.out (by omega); (first | cases eo13 | (injection eo13 with ea_ en_ ec_; (first | subst ea_ | (injection ea_ with ea_; subst ea_)); subst ec_; clear en_)); have GB13 := Aside0.mk gb13; have GG13 := Aside0.mk HG13; clear gb13 gl13 HG13; obtain ⟨_, ce13, hcl13, hM13, hcc13, hfr13, _, _⟩ := Kd.S_elem HO_4.out [] (x5_1 : Int) p13 q13; obtain ⟨ve13_0, rfl, ge13_0⟩ := hM13; have hx13_0 := hcc13 0 _ rfl; have hf13_0 := hfr13 0; (try simp only [show ((Kd.slice 4 Kd.bool)).sz = 1 from rfl, Nat.mul_one, Nat.add_zero] at hx13_0); (try simp only [show ((Kd.slice 4 Kd.bool)).sz = 1 from rfl, Nat.mul_one, Nat.add_zero] at hf13_0); clear hcl13 hcc13 hfr13; (try clear hM13); replace p13 := eq_true p13; replace q13 := eq_true q13; have n_ := Aside0.mk (Kd.S_mono (ok' := (fun k_ => some k_ ≠ (v167 : Value).ownBlock)) HO_4.out (fun k_ hk => hk.2)); clear HO_4; have HO_4 := n_; clear n_; have HX16 := Aside0.mk (show Kd.S (Kd.slice 4 Kd.bool) 76 w14 w.heap.size (fun k_ => ((fun _ => True)) k_ ∧ ¬ ((fun k_ => some k_ = (v167 : Value).ownBlock)) k_) (.slice (some ⟨go13, 0, none⟩) x4_1.length co13) x4_1 from (by (with_reducible repeat (first | apply Kd.S_alloc | apply Kd.S_drewN | apply Kd.S_drew)); exact Kd.S_mono HO_4.out (fun k_ hk => ⟨trivial, fun e_ => hk e_⟩))); obtain ⟨oki16, ce16, hcl16, hM16, hcc16, hfr16, hoki16, hH16⟩ := Kd.S_elem HX16.out [] (x5_1 : Int) (of_decide_eq_true (by first | (with_reducible assumption) | assumption)) (by have h_ : (x5_1 : Int) < ((x4_1.length : Int) : Int) := of_decide_eq_true (by first | (with_reducible assumption) | assumption); first | exact h_ | (have e_ := (Kd.S_reads' HO_4.out).1; omega) | simpa using h_); obtain ⟨ve16_0, rfl, ge16_0⟩ := hM16; have HP16 := Kd.S_seg hH16 (of_decide_eq_true (by first | (with_reducible assumption) | assumption)) (by have h_ : (x5_1 : Int) < ((x4_1.length : Int) : Int) := of_decide_eq_true (by first | (with_reducible assumption) | assumption); first | exact h_ | (have e_ := (Kd.S_reads' HO_4.out).1; omega) | simpa using h_) (seg := [v167]) (j := 0) (show 1 ≤ 1 from by decide) (x' := y166) (Kd.M_row (Kd.R_mono (Kd.R_tight rfl (Kd.R_mono (ok' := fun k_ => ((fun _ => True)) k_ ∧ k_ ≠ go13) (Kd.R_apart' (HO168.out) (Kd.S_typed HO_4.out) (by decide)) (fun k_ hk => ⟨trivial, fun e_ => (hk.2) (by rw [e_]; rfl)⟩))) (fun _ h_ => Or.inr (h_)))) (fun _ hk => hk) (fun k_ hk_ => ((Kd.R_mono (ok' := fun k_ => ((fun _ => True)) k_ ∧ k_ ≠ go13) (Kd.R_apart' (HO168.out) (Kd.S_typed HO_4.out) (by decide)) (fun k_ hk => ⟨trivial, fun e_ => (hk.2) (by rw [e_]; rfl)⟩))).1 k_ hk_.symm); have hx16_0 := hcc16 0 _ rfl; (try simp only [show ((Kd.slice 4 Kd.bool)).sz = 1 from rfl, Nat.mul_one, Nat.add_zero] at hx16_0); have hf16_0 := hfr16 0; (try simp only [show ((Kd.slice 4 Kd.bool)).sz = 1 from rfl, Nat.mul_one, Nat.add_zero] at hf16_0); clear hcl16 hcc16 hfr16 hoki16 hH16; (try clear hM16); (try simp only [show ((Kd.slice 4 Kd.bool)).sz = 1 from rfl, Nat.mul_one, Nat.add_zero] at HP16)) | ((with_reducible refine gate_store (t := 76) (p := 25) rfl ?_); refine store_event (t := 76) (p := 25) (v := ?vo_w17) (w1 := (w14.setCell ⟨go13, (x5_1 : Int).toNat, none⟩ (v167))) ?hg ?ho ?hn ?hr ?_; (case ho => rfl); (case hg => rfl); (case hn => rfl); (case hr => first | (go_simp; done) | (go_simp; rfl) | (obtain ⟨A_, c_, e_⟩ := Kd.R_slice (‹Aside0 (Kd.R _ _ _ _ _ v167 _)›).out; rw [e_]; first | (go_simp; done) | (go_simp; rfl))); intro w17 hw; have hg : w14.grownBy w17 (some go13) := (by rw [hw]; exact HP16.2); have hp_ : Kd.S (Kd.slice 4 Kd.bool) 76 w17 w.heap.size (fun _ => True) (.slice (some ⟨go13, 0, none⟩) x4_1.length co13) y169 := (by rw [hw, Ny169.out]; exact HP16.1); clear HP16; have n0_ := Aside0.mk (hp_); have n1_ := Aside0.mk (blk_grown (g := gb162) (o := .cells #[.slice A0_0 l0_0.length c0_0, .slice A0_1 l0_1.length c0_1] 25 (0, 0)) (by (with_reducible repeat (first | refine blk_drewN ?_ _ | refine blk_drew ?_ | refine blk_alloc ?_ _)); exact BK162.out) hg (Kd.S_ne HO_4.out BK162.out (by decide))); have n2_ := Aside0.mk ((by rw [hw]; exact below_set (HB.out) GB13.out : Below w.heap.size w w17)); clear HO_4; clear BK162; clear HB; clear HO168; have HO_4 := n0_; have BK162 := n1_; have HB := n2_; clear n0_ n1_ n2_; clear hg hw hp_))
                    go_loopg [6] k1 (fun kq v6 w' => ∃ (x4_2 : List (List Bool)) (x6_2 : Int), v6 = .int .i64 x6_2 ∧ Aside0 (tendrilref05_Pairs.l1 kq (l0_0.length : Int) x4_2 x5_1 x6_2 l0_0 l0_1 = some r) ∧ Aside0 (kq ≤ k1) ∧ Aside0 (Kd.S (Kd.slice 4 Kd.bool) 76 w' w.heap.size (fun _ => True) (.slice (some ⟨go13, 0, none⟩) x4_1.length co13) x4_2) ∧ Aside0 (w'.heap[gb162]? = some (.cells #[(.slice A0_0 l0_0.length c0_0), (.slice A0_1 l0_1.length c0_1)] 25 (0, 0))) ∧ Aside0 (Below w.heap.size w w'))
                    case atStart => exact ⟨(y169), (0), (by first | rfl | (simp; done) | (simp [*]; done)), H', ⟨Nat.le_refl _⟩, ⟨by (with_reducible repeat (first | apply Kd.S_alloc | apply Kd.S_drewN | apply Kd.S_drew)); exact HO_4.out⟩, ⟨by (with_reducible repeat (first | refine blk_drewN ?_ _ | refine blk_drew ?_ | refine blk_alloc ?_ _)); exact BK162.out⟩, ⟨by repeat (first | (with_reducible first | exact HB.out | apply below_alloc | apply pw_below_drewN | apply below_drew1 | refine below_set ?_ GE162.out) | exact HB.out)⟩⟩
                    case round =>
                      clear H'
                      try clear c1
                      try clear p1
                      try clear q1
                      try clear hx1
                      try clear hf1
                      try clear c2
                      try clear c2b0
                      try clear c2b1
                      try clear p2
                      try clear c3
                      try clear c3b0
                      try clear c3b1
                      try clear c4
                      try clear c8
                      try clear c8b0
                      try clear c9
                      try clear c9b0
                      try clear c9b1
                      try clear c10
                      try clear c10b0
                      try clear c10b1
                      try clear c11
                      try clear c11b0
                      try clear c12
                      try clear c12b0
                      try clear c13
                      try clear p13
                      try clear q13
                      try clear hx13
                      try clear hf13
                      try clear c16
                      try clear hx16
                      try clear hf16
                      try clear hcz5_0
                      try clear hcz5_1
                      try clear hfz5_0
                      try clear hfz5_1
                      try clear hx13_0
                      try clear hx16_0
                      try clear p13
                      try clear p2
                      try clear q13
                      obtain ⟨x4_2, x6_2, rfl, HA, HK2, HO_4, BK162, HB⟩ := hrel
                      have hl4_2 := (Kd.S_reads' HO_4.out).1
                      rw [hl4_2] at HO_4
                      (try simp only [hl4_2])
                      (try simp only [hl4_2] at BK162)
                      cases gk with
                      | zero => exact absurd HA.out (by simp [tendrilref05_Pairs.l1])
                      | succ k2 =>
                        have H := HA.out
                        clear HA
                        simp only [tendrilref05_Pairs.l1] at H
                        by_cases c18 : x6_2 < (l0_0.length : Int)
                        · rw [if_pos c18] at H
                          have c18b0 : decide (x6_2 < (l0_0.length : Int)) = true := decide_eq_true c18
                          clear c18
                          by_cases c19 : 0 ≤ x5_1
                          · rw [if_pos c19] at H
                            have c19b0 : decide (0 ≤ x5_1) = true := decide_eq_true c19
                            clear c19
                            by_cases c20 : x5_1 < (x4_2.length : Int)
                            · rw [if_pos c20] at H
                              have c20b0 : decide (x5_1 < (x4_2.length : Int)) = true := decide_eq_true c20
                              clear c20
                              replace H := Option.bind_eq_some_iff.mp H
                              obtain ⟨t171, A210, H⟩ := H
                              replace H : (if 0 ≤ x6_2 then (if x6_2 < ((rd_L6 x4_2 x5_1).length : Int) then (tendrilref05_Pairs.l1 k2 (l0_0.length : Int) (x4_2.set (x5_1 : Int).toNat ((rd_L6 x4_2 x5_1).set (x6_2 : Int).toNat t171)) x5_1 (wrap64 (x6_2 + 1)) l0_0 l0_1) else (none)) else (none)) = some r := H
                              have A21 := Aside0.mk A210
                              clear A210
                              by_cases c22 : 0 ≤ x6_2
                              · rw [if_pos c22] at H
                                have c22b0 : decide (0 ≤ x6_2) = true := decide_eq_true c22
                                clear c22
                                by_cases c23 : x6_2 < ((rd_L6 x4_2 x5_1).length : Int)
                                · rw [if_pos c23] at H
                                  have c23b0 : decide (x6_2 < ((rd_L6 x4_2 x5_1).length : Int)) = true := decide_eq_true c23
                                  clear c23
                                  obtain ⟨y172, hy172⟩ : ∃ y_ : List Bool, y_ = ((rd_L6 x4_2 x5_1).set (x6_2 : Int).toNat t171) := ⟨_, rfl⟩
                                  replace H : (tendrilref05_Pairs.l1 k2 (l0_0.length : Int) (x4_2.set (x5_1 : Int).toNat y172) x5_1 (wrap64 (x6_2 + 1)) l0_0 l0_1) = some r := by first | (rw [hy172]; with_reducible exact H) | (have H2_ := (Option.bind_some _ _).symm.trans H; rw [hy172]; with_reducible exact H2_) | (have H2_ := (Option.bind_some _ _).symm.trans H; with_reducible exact H2_) | with_reducible exact H | (rw [hy172]; exact H) | exact H
                                  have Ny172 := Aside0.mk hy172
                                  clear hy172
                                  obtain ⟨y174, hy174⟩ : ∃ y_ : List (List Bool), y_ = (x4_2.set (x5_1 : Int).toNat y172) := ⟨_, rfl⟩
                                  replace H : (tendrilref05_Pairs.l1 k2 (l0_0.length : Int) y174 x5_1 (wrap64 (x6_2 + 1)) l0_0 l0_1) = some r := by first | (rw [hy174]; with_reducible exact H) | (have H2_ := (Option.bind_some _ _).symm.trans H; rw [hy174]; with_reducible exact H2_) | (have H2_ := (Option.bind_some _ _).symm.trans H; with_reducible exact H2_) | with_reducible exact H | (rw [hy174]; exact H) | exact H
                                  have Ny174 := Aside0.mk hy174
                                  clear hy174
                                  have H' := Aside0.mk H
                                  clear H
                                  try go_wp2
                                  have n0_ := Aside0.mk (Kd.S_drew HO_4.out)
                                  have n1_ := Aside0.mk (blk_drew BK162.out)
                                  have n2_ := Aside0.mk (below_drew1 HB.out)
                                  clear HO_4
                                  clear BK162
                                  clear HB
                                  have HO_4 := n0_
                                  have BK162 := n1_
                                  have HB := n2_
                                  clear n0_ n1_ n2_
                                  have p170 : 0 ≤ (x5_1 : Int) := of_decide_eq_true (by first | (with_reducible assumption) | assumption)
                                  have q170 : x5_1 < (x4_2.length : Int) := of_decide_eq_true (by first | (with_reducible assumption) | assumption)
                                  obtain ⟨ad170, A170_0, c170_0, e170, hx170_0, hl170_0, hi170_0⟩ := at_L6 (Kd.S_reads' HO_4.out).2.2 x5_1 p170 q170
                                  obtain rfl : (⟨go13, 0, none⟩ : Addr) = ad170 := (by injection e170)
                                  obtain ⟨ce170, hce170, hMe170, hcc170⟩ := Kd.S_get HO_4.out [] x5_1 p170 (by first | exact q170 | exact of_decide_eq_true (by first | (with_reducible assumption) | assumption) | (have e_ := (Kd.S_reads' HO_4.out).1; omega))
                                  obtain ⟨ve170_0, rfl, ge170_0⟩ := hMe170
                                  have hv170_0 := hcc170 0 _ rfl
                                  rw [Nat.add_zero, show ((Kd.slice 4 Kd.bool)).sz = 1 from rfl, Nat.mul_one] at hv170_0
                                  replace hv170_0 := Option.some.inj (hv170_0.symm.trans hx170_0)
                                  rw [hv170_0] at ge170_0
                                  have HL170_0 := Aside0.mk (show Kd.R Kd.bool 4 _ _ _ _ (rd_L6 x4_2 x5_1) from ge170_0)
                                  clear hv170_0 ge170_0
                                  have HX170_0 := Aside0.mk hx170_0
                                  clear hcc170 hce170
                                  (first | simp only [add_plain] at hx170_0 | simp only [add_at] at hx170_0 | simp only [Addr.add, Nat.zero_add] at hx170_0 | skip)
                                  have HR170_0 := Aside0.mk hi170_0
                                  have HC170_0 := Aside0.mk hl170_0
                                  clear hi170_0 hl170_0
                                  replace p170 := eq_true p170
                                  replace q170 := eq_true q170
                                  refine start_ (n := 11) (S := fun w' => w'.cell? ⟨gb162, 0, none⟩ = some (.slice A0_0 l0_0.length c0_0) ∧ w'.cell? ⟨gb162, 1, none⟩ = some (.slice A0_1 l0_1.length c0_1) ∧ w'.cell? ⟨go13, (x5_1).toNat, none⟩ = some (.slice A170_0 (rd_L6 x4_2 x5_1).length c170_0)) (ds := [10]) #[false, false, false, false, false, false, false, false, false, false, false] (by kernel_rfl) rfl rfl ⟨(blk_cell BK162.out 0).trans rfl, (blk_cell BK162.out 1).trans rfl, hx170_0⟩ (fun hHeld => ?_); refine with_tabW tendrilref05_Pairs.tab10 tendrilref05_Pairs.bits10 (fun HT_ HW_ => ?_)
                                  generalize wr.drew = w25 at HO_4 BK162 HB HL170_0 HR170_0 HX170_0 hx170_0 hHeld ⊢
                                  refine pure_ (i := 0) (N := some 31) (v := ?_) (a' := ?_) #[true, false, false, false, false, false, false, false, false, false, false] rfl rfl (any_of HT_.out (by kernel_rfl)) (fun _ _ _ h => h) (Or.inl ⟨by rfl, ?_⟩) ?_ ?_
                                  rotate_left
                                  · intro w'
                                    go_simp
                                    with_reducible rfl
                                  rotate_left
                                  · simp only [Act.put, List.setIfInBounds_toArray, List.set_cons_zero, List.set_cons_succ, i64_w, i32_w]
                                    rfl
                                  refine pure_ (i := 1) (N := some 32) (v := ?_) (a' := ?_) #[true, true, false, false, false, false, false, false, false, false, false] rfl rfl (any_of HT_.out (by kernel_rfl)) (fun _ _ _ h => h) (Or.inl ⟨by rfl, ?_⟩) ?_ ?_
                                  rotate_left
                                  · intro w'
                                    go_simp
                                    with_reducible rfl
                                  rotate_left
                                  · simp only [Act.put, List.setIfInBounds_toArray, List.set_cons_zero, List.set_cons_succ, i64_w, i32_w]
                                    rfl
                                  refine pure_ (i := 2) (N := some 33) (v := ?_) (a' := ?_) #[true, true, true, false, false, false, false, false, false, false, false] rfl rfl (any_of HT_.out (by kernel_rfl)) (fun _ _ _ h => h) (Or.inl ⟨by rfl, ?_⟩) ?_ ?_
                                  rotate_left
                                  · intro w'
                                    go_simp
                                    with_reducible rfl
                                  rotate_left
                                  · simp only [Act.put, List.setIfInBounds_toArray, List.set_cons_zero, List.set_cons_succ, i64_w, i32_w]
                                    rfl
                                  refine pure_ (i := 4) (N := some 35) (v := ?_) (a' := ?_) #[true, true, true, false, true, false, false, false, false, false, false] rfl rfl (any_of HT_.out (by kernel_rfl)) (fun _ _ _ h => h) (Or.inl ⟨by rfl, ?_⟩) ?_ ?_
                                  rotate_left
                                  · intro w'
                                    go_simp
                                    with_reducible rfl
                                  rotate_left
                                  · simp only [Act.put, List.setIfInBounds_toArray, List.set_cons_zero, List.set_cons_succ, i64_w, i32_w]
                                    rfl
                                  refine pure_ (i := 6) (N := some 37) (v := ?_) (a' := ?_) #[true, true, true, false, true, false, true, false, false, false, false] rfl rfl (any_of HT_.out (by kernel_rfl)) (fun _ _ _ h => h) (Or.inl ⟨by rfl, ?_⟩) ?_ ?_
                                  rotate_left
                                  · intro w'
                                    go_simp
                                    with_reducible rfl
                                  rotate_left
                                  · simp only [Act.put, List.setIfInBounds_toArray, List.set_cons_zero, List.set_cons_succ, i64_w, i32_w]
                                    rfl
                                  refine pure_ (i := 7) (N := some 38) (v := ?_) (a' := ?_) #[true, true, true, false, true, false, true, true, false, false, false] rfl rfl (any_of HT_.out (by kernel_rfl)) (fun _ _ _ h => h) (Or.inl ⟨by rfl, ?_⟩) ?_ ?_
                                  rotate_left
                                  · intro w'
                                    go_simp
                                    with_reducible rfl
                                  rotate_left
                                  · simp only [Act.put, List.setIfInBounds_toArray, List.set_cons_zero, List.set_cons_succ, i64_w, i32_w]
                                    rfl
                                  refine take_ (i := 3) (N := some 34) (v := ?_) (a' := ?_) #[true, true, true, true, true, false, true, true, false, false, false] rfl rfl (take_ofW HT_.out HW_.out (by kernel_rfl)) (fun _ _ _ h => h) (Or.inl ⟨by rfl, ?_⟩) hHeld ?_ ?_
                                  rotate_left
                                  · rintro w' ⟨s0, s1, s2⟩
                                    go_simp
                                    with_reducible rfl
                                  rotate_left
                                  · simp only [Act.put, List.setIfInBounds_toArray, List.set_cons_zero, List.set_cons_succ, i64_w, i32_w]
                                    rfl
                                  refine take_ (i := 5) (N := some 36) (v := ?_) (a' := ?_) #[true, true, true, true, true, true, true, true, false, false, false] rfl rfl (take_ofW HT_.out HW_.out (by kernel_rfl)) (fun _ _ _ h => h) (Or.inl ⟨by rfl, ?_⟩) hHeld ?_ ?_
                                  rotate_left
                                  · rintro w' ⟨s0, s1, s2⟩
                                    go_simp
                                    with_reducible rfl
                                  rotate_left
                                  · simp only [Act.put, List.setIfInBounds_toArray, List.set_cons_zero, List.set_cons_succ, i64_w, i32_w]
                                    rfl
                                  refine one_ (i := 8) (N := some 39) #[true, true, true, true, true, true, true, true, true, false, false] rfl rfl (one_of HT_.out (by kernel_rfl)) (by decide) (fun K hK => ?_)
                                  refine goes_ Tryd.func67 (by kernel_rfl) rfl #[.agg #[.slice A0_0 l0_0.length c0_0, .slice A0_1 l0_1.length c0_1], .int .i64 x5_1, .int .i64 x6_2] (by rfl) rfl rfl (by (try simp only [List.map_toArray, List.map_cons, List.map_nil]); first | done | rfl | (simp only [List.length_drop, List.length_take]; rfl)) ?_
                                  with_reducible refine (tendrilref05_labels.calls _ _ l0_0 _ _ l0_1 x5_1 x6_2 t171 _ ?side1 ?side2 ?side3 ?side4 A21.out).mono ?_
                                  (case side1 => repeat (first | exact (Kd.C_below HR0_0.out HB.out) | (with_reducible refine Kd.C_alloc ?_ _) | (with_reducible refine Kd.C_drewN ?_ _) | (with_reducible refine Kd.C_drew ?_)))
                                  (case side2 => exact HC0_0.out)
                                  (case side3 => repeat (first | exact (Kd.C_below HR0_1.out HB.out) | (with_reducible refine Kd.C_alloc ?_ _) | (with_reducible refine Kd.C_drewN ?_ _) | (with_reducible refine Kd.C_drew ?_)))
                                  (case side4 => exact HC0_1.out)
                                  rintro e w26 ⟨rfl, hb⟩
                                  have HS2_ := (hb.cell (World.block_lt_of_cell? _ _ (hHeld.2.2))).trans (hHeld.2.2)
                                  refine ⟨_, rfl, ?_⟩
                                  have n0_ := Aside0.mk (Kd.S_below (by (with_reducible repeat (first | apply Kd.S_alloc | apply Kd.S_drewN | apply Kd.S_drew)); exact HO_4.out) hb)
                                  have n1_ := Aside0.mk (Kd.R_below (by (with_reducible repeat (first | apply Kd.R_alloc | apply Kd.R_drewN | apply Kd.R_drew)); exact HL170_0.out) hb)
                                  have n2_ := Aside0.mk (blk_below (g := gb162) (o := .cells #[.slice A0_0 l0_0.length c0_0, .slice A0_1 l0_1.length c0_1] 25 (0, 0)) (by (with_reducible repeat (first | refine blk_drewN ?_ _ | refine blk_drew ?_ | refine blk_alloc ?_ _)); exact BK162.out) hb)
                                  have n3_ := Aside0.mk (Kd.C_below (by repeat (first | (with_reducible exact HR170_0.out) | (with_reducible refine Kd.C_alloc ?_ _) | (with_reducible refine Kd.C_drewN ?_ _) | (with_reducible refine Kd.C_drew ?_) | exact HR170_0.out)) hb)
                                  have n4_ := Aside0.mk (pw_cell_below hb HX170_0.out)
                                  have n5_ := Aside0.mk (below_step (by repeat (first | (with_reducible first | exact HB.out | apply below_alloc | apply pw_below_drewN | apply below_drew1 | refine below_set ?_ GE162.out) | exact HB.out)) hb)
                                  clear HO_4
                                  clear HL170_0
                                  clear BK162
                                  clear HR170_0
                                  clear HX170_0
                                  clear HB
                                  have HO_4 := n0_
                                  have HL170_0 := n1_
                                  have BK162 := n2_
                                  have HR170_0 := n3_
                                  have HX170_0 := n4_
                                  have HB := n5_
                                  clear n0_ n1_ n2_ n3_ n4_ n5_
                                  (try clear hb)
                                  (try clear hb2)
                                  (try clear hk)
                                  (try clear hi)
                                  have p24 : 0 ≤ (x6_2 : Int) := of_decide_eq_true (by first | (with_reducible assumption) | assumption)
                                  have q24 : (x6_2 : Int) < (((rd_L6 x4_2 x5_1).length : Int) : Int) := of_decide_eq_true (by first | (with_reducible assumption) | assumption)
                                  obtain ⟨go24, co24, eo24, gb24, gl24, cl24, HG24⟩ := Kd.R_form HL170_0.out (by omega)
                                  (first | cases eo24 | (injection eo24 with ea_ en_ ec_; (first | subst ea_ | (injection ea_ with ea_; subst ea_)); subst ec_; clear en_))
                                  have GB24 := Aside0.mk gb24
                                  have GG24 := Aside0.mk HG24
                                  clear gb24 gl24 HG24
                                  obtain ⟨hx24_0, hf24_0⟩ := Kd.R_celln false HL170_0.out (x6_2 : Int) p24 q24
                                  replace p24 := eq_true p24
                                  replace q24 := eq_true q24
                                  have hq27 : (x5_1 : Int) < (x4_2.length : Int) := (by have h_ : (x5_1 : Int) < ((x4_2.length : Int) : Int) := of_decide_eq_true (by first | (with_reducible assumption) | assumption); first | exact h_ | (have e_ := (Kd.S_reads' HO_4.out).1; omega) | simpa only [List.length_set, List.length_set] using h_)
                                  obtain ⟨oki27, ce27, hcl27, hM27, hcc27, hok27, hbk27⟩ := Kd.S_borrow HO_4.out [] (x5_1 : Int) (of_decide_eq_true (by first | (with_reducible assumption) | assumption)) hq27
                                  obtain ⟨ve27_0, rfl, ge27_0⟩ := hM27
                                  have hv27 := hcc27 0 _ rfl
                                  rw [Nat.add_zero, show ((Kd.slice 4 Kd.bool)).sz = 1 from rfl, Nat.mul_one] at hv27
                                  replace hv27 := Option.some.inj (hv27.symm.trans HX170_0.out)
                                  subst hv27
                                  clear hcc27 hcl27
                                  replace ge27_0 := (show Kd.R Kd.bool 4 _ _ _ _ (rd_L6 x4_2 x5_1) from ge27_0)
                                  have HP27 := Kd.R_putg ge27_0 (x6_2 : Int) t171
                                  rw [← Ny172.out] at HP27
                                  have HS27 := hbk27 HP27.2 (fun k_ e_ => by injection e_ with e_; subst e_; exact ge27_0.1 _ rfl) (x' := y172) (Kd.M_row HP27.1)
                                  rw [← Ny174.out] at HS27
                                  have HQ27 := Aside0.mk HS27
                                  clear HP27 HS27 hbk27 hok27
                                  refine hK.out _ _ ⟨(blk_cell BK162.out 0).trans rfl, (blk_cell BK162.out 1).trans rfl, HS2_⟩ (fun hHeld => ?_)
                                  clear hK K
                                  refine norm_ (a' := ?_) ?_ ?_
                                  rotate_left
                                  · show Act.put _ (some 39) _ = _
                                    simp only [Act.put, List.setIfInBounds_toArray, List.set_cons_zero, List.set_cons_succ, i64_w, i32_w]
                                    rfl
                                  refine pure_ (i := 9) (N := some 40) (v := ?_) (a' := ?_) #[true, true, true, true, true, true, true, true, true, true, false] rfl rfl (any_of HT_.out (by kernel_rfl)) (fun _ _ _ h => h) (Or.inl ⟨by rfl, ?_⟩) ?_ ?_
                                  rotate_left
                                  · intro w'
                                    go_simp
                                    with_reducible rfl
                                  rotate_left
                                  · simp only [Act.put, List.setIfInBounds_toArray, List.set_cons_zero, List.set_cons_succ, i64_w, i32_w]
                                    rfl
                                  refine last_ (i := 10) (N := none) #[true, true, true, true, true, true, true, true, true, true, true] rfl rfl (one_of HT_.out (by kernel_rfl)) (by decide) (fun K hK => ?_)
                                  refine skip_ (w1 := ?_) (by rfl) rfl ?_ ?_
                                  rotate_left
                                  · go_simp
                                    rfl
                                  refine hK.out _ _ ?_
                                  clear hK K
                                  refine done_ (done_of HT_.out (by kernel_rfl)) ?_
                                  try go_wp2
                                  (try simp only [← hl4_2])
                                  go_roundg k2
                                  case measure => have := HK1.out; have := HK2.out; omega
                                  case rel => exact ⟨(y174), (wrap64 (x6_2 + 1)), (by first | rfl | (simp; done) | (simp [*]; done)), H', ⟨by have := HK1.out; have := HK2.out; omega⟩, ⟨by (try simp only [hl4_2]); (with_reducible repeat (first | apply Kd.S_alloc | apply Kd.S_drewN | apply Kd.S_drew)); exact HQ27.out⟩, ⟨by (try simp only [hl4_2]); (with_reducible repeat (first | refine blk_drewN ?_ _ | refine blk_drew ?_ | refine blk_alloc ?_ _)); refine blk_far ?_ (by have h_ := Kd.R_ne HL170_0.out BK162.out (by decide); intro e_; exact h_ (by rw [e_]; rfl)) _; (with_reducible repeat (first | refine blk_drewN ?_ _ | refine blk_drew ?_ | refine blk_alloc ?_ _)); exact BK162.out⟩, ⟨by repeat (first | (with_reducible first | exact HB.out | apply below_alloc | apply pw_below_drewN | apply below_drew1 | refine below_set ?_ GB24.out | refine below_set ?_ GE162.out) | exact HB.out)⟩⟩
                                · rw [if_neg c23] at H
                                  exact absurd H (by simp)
                              · rw [if_neg c22] at H
                                exact absurd H (by simp)
                            · rw [if_neg c20] at H
                              exact absurd H (by simp)
                          · rw [if_neg c19] at H
                            exact absurd H (by simp)
                        · rw [if_neg c18] at H
                          have c18b0 : decide (x6_2 < (l0_0.length : Int)) = false := decide_eq_false c18
                          clear c18
                          have H' := Aside0.mk H
                          clear H
                          go_wp2
                          (try simp only [← hl4_2])
                          go_roundg k2
                          case measure => have := HK1.out; have := HK2.out; omega
                          case rel => exact ⟨(x4_2), (wrap64 (x5_1 + 1)), (by first | rfl | (simp; done) | (simp [*]; done)), H', ⟨by have := HK1.out; have := HK2.out; omega⟩, ⟨by (try simp only [hl4_2]); (with_reducible repeat (first | apply Kd.S_alloc | apply Kd.S_drewN | apply Kd.S_drew)); exact HO_4.out⟩, ⟨by (try simp only [hl4_2]); (with_reducible repeat (first | refine blk_drewN ?_ _ | refine blk_drew ?_ | refine blk_alloc ?_ _)); exact BK162.out⟩, ⟨by repeat (first | (with_reducible first | exact HB.out | apply below_alloc | apply pw_below_drewN | apply below_drew1 | refine below_set ?_ GE162.out) | exact HB.out)⟩⟩
                  · rw [if_neg c12] at H
                    exact absurd H (by simp)
                · rw [if_neg c11] at H
                  exact absurd H (by simp)
              · rw [if_neg c10] at H
                exact absurd H (by simp)
            · rw [if_neg c9] at H
              exact absurd H (by simp)
          · rw [if_neg c8] at H
            have c8b0 : decide (x5_1 < (l0_0.length : Int)) = false := decide_eq_false c8
            clear c8
            have H' := Aside0.mk H
            clear H
            go_wp2
            go_loopg [7] k1 (fun kq v7 w' => ∃ (x4_2 : List (List Bool)) (x7_2 : Bool), v7 = .bool x7_2 ∧ Aside0 (tendrilref05_Pairs.l2 kq (l0_0.length : Int) x4_2 x7_2 l0_0 l0_1 = some r) ∧ Aside0 (kq ≤ k1) ∧ Aside0 (Kd.S (Kd.slice 4 Kd.bool) 76 w' w.heap.size (fun _ => True) v164 x4_2) ∧ Aside0 (w'.heap[gb162]? = some (.cells #[(.slice A0_0 l0_0.length c0_0), (.slice A0_1 l0_1.length c0_1)] 25 (0, 0))) ∧ Aside0 (Below w.heap.size w w'))
            case atStart => exact ⟨(x4_1), (true), (by first | rfl | (simp; done) | (simp [*]; done)), H', ⟨Nat.le_refl _⟩, ⟨by (with_reducible repeat (first | apply Kd.S_alloc | apply Kd.S_drewN | apply Kd.S_drew)); exact HO_4.out⟩, ⟨by (with_reducible repeat (first | refine blk_drewN ?_ _ | refine blk_drew ?_ | refine blk_alloc ?_ _)); exact BK162.out⟩, ⟨by repeat (first | (with_reducible first | exact HB.out | apply below_alloc | apply pw_below_drewN | apply below_drew1 | refine below_set ?_ GE162.out) | exact HB.out)⟩⟩
            case round =>
              clear H'
              try clear c1
              try clear p1
              try clear q1
              try clear hx1
              try clear hf1
              try clear c2
              try clear c2b0
              try clear c2b1
              try clear p2
              try clear q2
              try clear hx2
              try clear hf2
              try clear c3
              try clear c3b0
              try clear c3b1
              try clear c4
              try clear c6
              try clear p6
              try clear c8
              try clear c8b0
              try clear c9
              try clear c9b0
              try clear c9b1
              try clear c10
              try clear c10b0
              try clear c10b1
              try clear c11
              try clear c11b0
              try clear c12
              try clear c12b0
              try clear c13
              try clear p13
              try clear q13
              try clear hx13
              try clear hf13
              try clear c16
              try clear hx16
              try clear hf16
              try clear c17
              try clear p17
              try clear q17
              try clear hx17
              try clear c18
              try clear c18b0
              try clear c19
              try clear c19b0
              try clear c20
              try clear c20b0
              try clear c22
              try clear c22b0
              try clear c23
              try clear c23b0
              try clear p24
              try clear q24
              try clear hx24
              try clear hf24
              try clear c27
              try clear q27
              try clear hcz5_0
              try clear hcz5_1
              try clear hfz5_0
              try clear hfz5_1
              try clear hx13_0
              try clear hx16_0
              try clear hx170_0
              try clear hx24_0
              try clear p1
              try clear p13
              try clear p170
              try clear p2
              try clear p24
              try clear q1
              try clear q13
              try clear q170
              try clear q24
              obtain ⟨x4_2, x7_2, rfl, HA, HK2, HO_4, BK162, HB⟩ := hrel
              cases gk with
              | zero => exact absurd HA.out (by simp [tendrilref05_Pairs.l2])
              | succ k2 =>
                have H := HA.out
                clear HA
                simp only [tendrilref05_Pairs.l2] at H
                by_cases c29 : x7_2 = true
                · subst c29
                  have H1 : (tendrilref05_Pairs.l3 k2 (l0_0.length : Int) x4_2 false 0 l0_0 l0_1) = some r := by rw [if_pos rfl] at H; exact H
                  clear H
                  have H := H1
                  clear H1
                  have H' := Aside0.mk H
                  clear H
                  go_wp2
                  go_loopg [7, 8] k2 (fun kq v7 v8 w' => ∃ (x4_3 : List (List Bool)) (x7_3 : Bool) (x8_3 : Int), v7 = .bool x7_3 ∧ v8 = .int .i64 x8_3 ∧ Aside0 (tendrilref05_Pairs.l3 kq (l0_0.length : Int) x4_3 x7_3 x8_3 l0_0 l0_1 = some r) ∧ Aside0 (kq ≤ k2) ∧ Aside0 (Kd.S (Kd.slice 4 Kd.bool) 76 w' w.heap.size (fun _ => True) v164 x4_3) ∧ Aside0 (w'.heap[gb162]? = some (.cells #[(.slice A0_0 l0_0.length c0_0), (.slice A0_1 l0_1.length c0_1)] 25 (0, 0))) ∧ Aside0 (Below w.heap.size w w'))
                  case atStart => exact ⟨(x4_2), (false), (0), (by first | rfl | (simp; done) | (simp [*]; done)), (by first | rfl | (simp; done) | (simp [*]; done)), H', ⟨Nat.le_refl _⟩, ⟨by (with_reducible repeat (first | apply Kd.S_alloc | apply Kd.S_drewN | apply Kd.S_drew)); exact HO_4.out⟩, ⟨by (with_reducible repeat (first | refine blk_drewN ?_ _ | refine blk_drew ?_ | refine blk_alloc ?_ _)); exact BK162.out⟩, ⟨by repeat (first | (with_reducible first | exact HB.out | apply below_alloc | apply pw_below_drewN | apply below_drew1 | refine below_set ?_ GE162.out) | exact HB.out)⟩⟩
                  case round =>
                    clear H'
                    try clear c1
                    try clear p1
                    try clear q1
                    try clear hx1
                    try clear hf1
                    try clear c2
                    try clear c2b0
                    try clear c2b1
                    try clear p2
                    try clear q2
                    try clear hx2
                    try clear hf2
                    try clear c3
                    try clear c3b0
                    try clear c3b1
                    try clear c4
                    try clear c6
                    try clear p6
                    try clear c8
                    try clear c8b0
                    try clear c9
                    try clear c9b0
                    try clear c9b1
                    try clear c10
                    try clear c10b0
                    try clear c10b1
                    try clear c11
                    try clear c11b0
                    try clear c12
                    try clear c12b0
                    try clear c13
                    try clear p13
                    try clear q13
                    try clear hx13
                    try clear hf13
                    try clear c16
                    try clear hx16
                    try clear hf16
                    try clear c17
                    try clear p17
                    try clear q17
                    try clear hx17
                    try clear c18
                    try clear c18b0
                    try clear c19
                    try clear c19b0
                    try clear c20
                    try clear c20b0
                    try clear c22
                    try clear c22b0
                    try clear c23
                    try clear c23b0
                    try clear p24
                    try clear q24
                    try clear hx24
                    try clear hf24
                    try clear c27
                    try clear q27
                    try clear c29
                    try clear hcz5_0
                    try clear hcz5_1
                    try clear hfz5_0
                    try clear hfz5_1
                    try clear hx13_0
                    try clear hx16_0
                    try clear hx170_0
                    try clear hx24_0
                    try clear p1
                    try clear p13
                    try clear p17
                    try clear p170
                    try clear p2
                    try clear p24
                    try clear p6
                    try clear q1
                    try clear q13
                    try clear q17
                    try clear q170
                    try clear q2
                    try clear q24
                    try clear q27
                    obtain ⟨x4_3, x7_3, x8_3, rfl, rfl, HA, HK3, HO_4, BK162, HB⟩ := hrel
                    cases gk with
                    | zero => exact absurd HA.out (by simp [tendrilref05_Pairs.l3])
                    | succ k3 =>
                      have H := HA.out
                      clear HA
                      simp only [tendrilref05_Pairs.l3] at H
                      by_cases c30 : x8_3 < (l0_0.length : Int)
                      · rw [if_pos c30] at H
                        have c30b0 : decide (x8_3 < (l0_0.length : Int)) = true := decide_eq_true c30
                        clear c30
                        have H' := Aside0.mk H
                        clear H
                        go_wp2
                        go_loopg [7, 9] k3 (fun kq v7 v9 w' => ∃ (x4_4 : List (List Bool)) (x7_4 : Bool) (x9_4 : Int), v7 = .bool x7_4 ∧ v9 = .int .i64 x9_4 ∧ Aside0 (tendrilref05_Pairs.l4 kq (l0_0.length : Int) x4_4 x7_4 x8_3 x9_4 l0_0 l0_1 = some r) ∧ Aside0 (kq ≤ k3) ∧ Aside0 (Kd.S (Kd.slice 4 Kd.bool) 76 w' w.heap.size (fun _ => True) v164 x4_4) ∧ Aside0 (w'.heap[gb162]? = some (.cells #[(.slice A0_0 l0_0.length c0_0), (.slice A0_1 l0_1.length c0_1)] 25 (0, 0))) ∧ Aside0 (Below w.heap.size w w'))
                        case atStart => exact ⟨(x4_3), (x7_3), (0), (by first | rfl | (simp; done) | (simp [*]; done)), (by first | rfl | (simp; done) | (simp [*]; done)), H', ⟨Nat.le_refl _⟩, ⟨by (with_reducible repeat (first | apply Kd.S_alloc | apply Kd.S_drewN | apply Kd.S_drew)); exact HO_4.out⟩, ⟨by (with_reducible repeat (first | refine blk_drewN ?_ _ | refine blk_drew ?_ | refine blk_alloc ?_ _)); exact BK162.out⟩, ⟨by repeat (first | (with_reducible first | exact HB.out | apply below_alloc | apply pw_below_drewN | apply below_drew1 | refine below_set ?_ GE162.out) | exact HB.out)⟩⟩
                        case round =>
                          clear H'
                          try clear c1
                          try clear p1
                          try clear q1
                          try clear hx1
                          try clear hf1
                          try clear c2
                          try clear c2b0
                          try clear c2b1
                          try clear p2
                          try clear q2
                          try clear hx2
                          try clear hf2
                          try clear c3
                          try clear c3b0
                          try clear c3b1
                          try clear c4
                          try clear c6
                          try clear p6
                          try clear c8
                          try clear c8b0
                          try clear c9
                          try clear c9b0
                          try clear c9b1
                          try clear c10
                          try clear c10b0
                          try clear c10b1
                          try clear c11
                          try clear c11b0
                          try clear c12
                          try clear c12b0
                          try clear c13
                          try clear p13
                          try clear q13
                          try clear hx13
                          try clear hf13
                          try clear c16
                          try clear hx16
                          try clear hf16
                          try clear c17
                          try clear p17
                          try clear q17
                          try clear hx17
                          try clear c18
                          try clear c18b0
                          try clear c19
                          try clear c19b0
                          try clear c20
                          try clear c20b0
                          try clear c22
                          try clear c22b0
                          try clear c23
                          try clear c23b0
                          try clear p24
                          try clear q24
                          try clear hx24
                          try clear hf24
                          try clear c27
                          try clear q27
                          try clear c29
                          try clear c30
                          try clear c30b0
                          try clear hcz5_0
                          try clear hcz5_1
                          try clear hfz5_0
                          try clear hfz5_1
                          try clear hx13_0
                          try clear hx16_0
                          try clear hx170_0
                          try clear hx24_0
                          try clear p1
                          try clear p13
                          try clear p17
                          try clear p170
                          try clear p2
                          try clear p24
                          try clear p6
                          try clear q1
                          try clear q13
                          try clear q17
                          try clear q170
                          try clear q2
                          try clear q24
                          try clear q27
                          obtain ⟨x4_4, x7_4, x9_4, rfl, rfl, HA, HK4, HO_4, BK162, HB⟩ := hrel
                          cases gk with
                          | zero => exact absurd HA.out (by simp [tendrilref05_Pairs.l4])
                          | succ k4 =>
                            have H := HA.out
                            clear HA
                            simp only [tendrilref05_Pairs.l4] at H
                            by_cases c31 : x9_4 < (l0_0.length : Int)
                            · rw [if_pos c31] at H
                              have c31b0 : decide (x9_4 < (l0_0.length : Int)) = true := decide_eq_true c31
                              clear c31
                              by_cases c32 : 0 ≤ x8_3
                              · rw [if_pos c32] at H
                                have c32b0 : decide (0 ≤ x8_3) = true := decide_eq_true c32
                                clear c32
                                by_cases c33 : x8_3 < (x4_4.length : Int)
                                · rw [if_pos c33] at H
                                  have c33b0 : decide (x8_3 < (x4_4.length : Int)) = true := decide_eq_true c33
                                  clear c33
                                  by_cases c34 : 0 ≤ x9_4
                                  · rw [if_pos c34] at H
                                    have c34b0 : decide (0 ≤ x9_4) = true := decide_eq_true c34
                                    clear c34
                                    by_cases c35 : x9_4 < ((rd_L6 x4_4 x8_3).length : Int)
                                    · rw [if_pos c35] at H
                                      have c35b0 : decide (x9_4 < ((rd_L6 x4_4 x8_3).length : Int)) = true := decide_eq_true c35
                                      clear c35
                                      obtain ⟨bq36, hbq36⟩ : ∃ b_ : Bool, b_ = (rdOf false (rd_L6 x4_4 x8_3) x9_4) := ⟨_, rfl⟩
                                      replace H : (if (bq36 = true) then (tendrilref05_Pairs.l5 k4 (l0_0.length : Int) x4_4 x7_4 x8_3 x9_4 0 l0_0 l0_1) else (tendrilref05_Pairs.l4 k4 (l0_0.length : Int) x4_4 x7_4 x8_3 (wrap64 (x9_4 + 1)) l0_0 l0_1)) = some r := by rw [← hbq36] at H; exact H
                                      have Nbq36 := Aside0.mk hbq36
                                      clear hbq36
                                      by_cases c37 : (bq36 = true)
                                      · subst c37
                                        have H1 : (tendrilref05_Pairs.l5 k4 (l0_0.length : Int) x4_4 x7_4 x8_3 x9_4 0 l0_0 l0_1) = some r := by rw [if_pos rfl] at H; exact H
                                        clear H
                                        have H := H1
                                        clear H1
                                        have H' := Aside0.mk H
                                        clear H
                                        obtain ⟨Ao38, co38, eo38⟩ := Kd.S_slice HO_4.out
                                        subst eo38
                                        have p175 : 0 ≤ (x8_3 : Int) := of_decide_eq_true (by first | (with_reducible assumption) | assumption)
                                        have q175 : x8_3 < (x4_4.length : Int) := of_decide_eq_true (by first | (with_reducible assumption) | assumption)
                                        obtain ⟨ad175, A175_0, c175_0, e175, hx175_0, hl175_0, hi175_0⟩ := at_L6 (Kd.S_reads' HO_4.out).2.2 x8_3 p175 q175
                                        cases e175
                                        obtain ⟨ce175, hce175, hMe175, hcc175⟩ := Kd.S_get HO_4.out [] x8_3 p175 (by first | exact q175 | exact of_decide_eq_true (by first | (with_reducible assumption) | assumption) | (have e_ := (Kd.S_reads' HO_4.out).1; omega))
                                        obtain ⟨ve175_0, rfl, ge175_0⟩ := hMe175
                                        have hv175_0 := hcc175 0 _ rfl
                                        rw [Nat.add_zero, show ((Kd.slice 4 Kd.bool)).sz = 1 from rfl, Nat.mul_one] at hv175_0
                                        replace hv175_0 := Option.some.inj (hv175_0.symm.trans hx175_0)
                                        rw [hv175_0] at ge175_0
                                        have HL175_0 := Aside0.mk (show Kd.R Kd.bool 4 _ _ _ _ (rd_L6 x4_4 x8_3) from ge175_0)
                                        clear hv175_0 ge175_0
                                        have HX175_0 := Aside0.mk hx175_0
                                        clear hcc175 hce175
                                        have HR175_0 := Aside0.mk hi175_0
                                        have HC175_0 := Aside0.mk hl175_0
                                        clear hi175_0 hl175_0
                                        replace p175 := eq_true p175
                                        replace q175 := eq_true q175
                                        have p176 : 0 ≤ (x9_4 : Int) := of_decide_eq_true (by first | (with_reducible assumption) | assumption)
                                        have q176 : x9_4 < ((rd_L6 x4_4 x8_3).length : Int) := of_decide_eq_true (by first | (with_reducible assumption) | assumption)
                                        obtain ⟨ad176, e176, hx176_0⟩ := Kd.at_bool (by repeat (first | (with_reducible exact HR175_0.out) | (with_reducible refine Kd.C_alloc ?_ _) | (with_reducible refine Kd.C_drewN ?_ _) | (with_reducible refine Kd.C_drew ?_) | exact HR175_0.out)) x9_4 p176 q176
                                        (try rw [← Nbq36.out] at hx176_0)
                                        cases e176
                                        replace p176 := eq_true p176
                                        replace q176 := eq_true q176
                                        go_wp2
                                        go_loopg [7, 10] k4 (fun kq v7 v10 w' => ∃ (x4_5 : List (List Bool)) (x7_5 : Bool) (x10_5 : Int), v7 = .bool x7_5 ∧ v10 = .int .i64 x10_5 ∧ Aside0 (tendrilref05_Pairs.l5 kq (l0_0.length : Int) x4_5 x7_5 x8_3 x9_4 x10_5 l0_0 l0_1 = some r) ∧ Aside0 (kq ≤ k4) ∧ Aside0 (Kd.S (Kd.slice 4 Kd.bool) 76 w' w.heap.size (fun _ => True) (.slice (some ad175) x4_4.length co38) x4_5) ∧ Aside0 (w'.heap[gb162]? = some (.cells #[(.slice A0_0 l0_0.length c0_0), (.slice A0_1 l0_1.length c0_1)] 25 (0, 0))) ∧ Aside0 (Below w.heap.size w w'))
                                        case atStart => exact ⟨(x4_4), (x7_4), (0), (by first | rfl | (simp; done) | (simp [*]; done)), (by first | rfl | (simp; done) | (simp [*]; done)), H', ⟨Nat.le_refl _⟩, ⟨by (with_reducible repeat (first | apply Kd.S_alloc | apply Kd.S_drewN | apply Kd.S_drew)); exact HO_4.out⟩, ⟨by (with_reducible repeat (first | refine blk_drewN ?_ _ | refine blk_drew ?_ | refine blk_alloc ?_ _)); exact BK162.out⟩, ⟨by repeat (first | (with_reducible first | exact HB.out | apply below_alloc | apply pw_below_drewN | apply below_drew1 | refine below_set ?_ GE162.out) | exact HB.out)⟩⟩
                                        case round =>
                                          clear H'
                                          try clear c1
                                          try clear p1
                                          try clear q1
                                          try clear hx1
                                          try clear hf1
                                          try clear c2
                                          try clear c2b0
                                          try clear c2b1
                                          try clear p2
                                          try clear q2
                                          try clear hx2
                                          try clear hf2
                                          try clear c3
                                          try clear c3b0
                                          try clear c3b1
                                          try clear q3
                                          try clear c4
                                          try clear c6
                                          try clear p6
                                          try clear c8
                                          try clear c8b0
                                          try clear c9
                                          try clear c9b0
                                          try clear c9b1
                                          try clear c10
                                          try clear c10b0
                                          try clear c10b1
                                          try clear c11
                                          try clear c11b0
                                          try clear c12
                                          try clear c12b0
                                          try clear c13
                                          try clear p13
                                          try clear q13
                                          try clear hx13
                                          try clear hf13
                                          try clear c16
                                          try clear hx16
                                          try clear hf16
                                          try clear c17
                                          try clear p17
                                          try clear q17
                                          try clear hx17
                                          try clear c18
                                          try clear c18b0
                                          try clear c19
                                          try clear c19b0
                                          try clear c20
                                          try clear c20b0
                                          try clear c22
                                          try clear c22b0
                                          try clear c23
                                          try clear c23b0
                                          try clear p24
                                          try clear q24
                                          try clear hx24
                                          try clear hf24
                                          try clear c27
                                          try clear q27
                                          try clear c29
                                          try clear c30
                                          try clear c30b0
                                          try clear c31
                                          try clear c31b0
                                          try clear c32
                                          try clear c32b0
                                          try clear c33
                                          try clear c33b0
                                          try clear c34
                                          try clear c34b0
                                          try clear c35
                                          try clear c35b0
                                          try clear q36
                                          try clear c37
                                          try clear hcz5_0
                                          try clear hcz5_1
                                          try clear hfz5_0
                                          try clear hfz5_1
                                          try clear hx13_0
                                          try clear hx16_0
                                          try clear hx170_0
                                          try clear hx175_0
                                          try clear hx176_0
                                          try clear hx24_0
                                          try clear p1
                                          try clear p13
                                          try clear p17
                                          try clear p170
                                          try clear p175
                                          try clear p176
                                          try clear p2
                                          try clear p24
                                          try clear p6
                                          try clear q1
                                          try clear q13
                                          try clear q17
                                          try clear q170
                                          try clear q175
                                          try clear q176
                                          try clear q2
                                          try clear q24
                                          try clear q27
                                          obtain ⟨x4_5, x7_5, x10_5, rfl, rfl, HA, HK5, HO_4, BK162, HB⟩ := hrel
                                          have hl4_5 := (Kd.S_reads' HO_4.out).1
                                          rw [hl4_5] at HO_4
                                          (try simp only [hl4_5])
                                          (try simp only [hl4_5] at BK162)
                                          cases gk with
                                          | zero => exact absurd HA.out (by simp [tendrilref05_Pairs.l5])
                                          | succ k5 =>
                                            have H := HA.out
                                            clear HA
                                            simp only [tendrilref05_Pairs.l5] at H
                                            by_cases c39 : 0 ≤ x8_3
                                            · rw [if_pos c39] at H
                                              have c39b0 : decide (0 ≤ x8_3) = true := decide_eq_true c39
                                              clear c39
                                              by_cases c40 : x8_3 < (l0_0.length : Int)
                                              · rw [if_pos c40] at H
                                                have c40b0 : decide (x8_3 < (l0_0.length : Int)) = true := decide_eq_true c40
                                                clear c40
                                                by_cases c41 : x10_5 < (((rd_T35 l0_0 x8_3).f3).length : Int)
                                                · rw [if_pos c41] at H
                                                  have c41b0 : decide (x10_5 < (((rd_T35 l0_0 x8_3).f3).length : Int)) = true := decide_eq_true c41
                                                  clear c41
                                                  by_cases c42 : 0 ≤ x10_5
                                                  · rw [if_pos c42] at H
                                                    have c42b0 : decide (0 ≤ x10_5) = true := decide_eq_true c42
                                                    clear c42
                                                    by_cases c43 : 0 ≤ (rd ((rd_T35 l0_0 x8_3).f3) x10_5)
                                                    · rw [if_pos c43] at H
                                                      have c43b0 : decide (0 ≤ (rd ((rd_T35 l0_0 x8_3).f3) x10_5)) = true := decide_eq_true c43
                                                      clear c43
                                                      by_cases c44 : (rd ((rd_T35 l0_0 x8_3).f3) x10_5) < (x4_5.length : Int)
                                                      · rw [if_pos c44] at H
                                                        have c44b0 : decide ((rd ((rd_T35 l0_0 x8_3).f3) x10_5) < (x4_5.length : Int)) = true := decide_eq_true c44
                                                        clear c44
                                                        by_cases c45 : 0 ≤ x9_4
                                                        · rw [if_pos c45] at H
                                                          have c45b0 : decide (0 ≤ x9_4) = true := decide_eq_true c45
                                                          clear c45
                                                          by_cases c46 : x9_4 < (l0_0.length : Int)
                                                          · rw [if_pos c46] at H
                                                            have c46b0 : decide (x9_4 < (l0_0.length : Int)) = true := decide_eq_true c46
                                                            clear c46
                                                            by_cases c47 : x10_5 < (((rd_T35 l0_0 x9_4).f3).length : Int)
                                                            · rw [if_pos c47] at H
                                                              have c47b0 : decide (x10_5 < (((rd_T35 l0_0 x9_4).f3).length : Int)) = true := decide_eq_true c47
                                                              clear c47
                                                              by_cases c48 : 0 ≤ (rd ((rd_T35 l0_0 x9_4).f3) x10_5)
                                                              · rw [if_pos c48] at H
                                                                have c48b0 : decide (0 ≤ (rd ((rd_T35 l0_0 x9_4).f3) x10_5)) = true := decide_eq_true c48
                                                                clear c48
                                                                by_cases c49 : (rd ((rd_T35 l0_0 x9_4).f3) x10_5) < ((rd_L6 x4_5 (rd ((rd_T35 l0_0 x8_3).f3) x10_5)).length : Int)
                                                                · rw [if_pos c49] at H
                                                                  have c49b0 : decide ((rd ((rd_T35 l0_0 x9_4).f3) x10_5) < ((rd_L6 x4_5 (rd ((rd_T35 l0_0 x8_3).f3) x10_5)).length : Int)) = true := decide_eq_true c49
                                                                  clear c49
                                                                  obtain ⟨bq50, hbq50⟩ : ∃ b_ : Bool, b_ = (rdOf false (rd_L6 x4_5 (rd ((rd_T35 l0_0 x8_3).f3) x10_5)) (rd ((rd_T35 l0_0 x9_4).f3) x10_5)) := ⟨_, rfl⟩
                                                                  replace H : (if (bq50 = true) then (tendrilref05_Pairs.l5 k5 (l0_0.length : Int) x4_5 x7_5 x8_3 x9_4 (wrap64 (x10_5 + 1)) l0_0 l0_1) else (if x8_3 < (x4_5.length : Int) then (if x9_4 < ((rd_L6 x4_5 x8_3).length : Int) then (tendrilref05_Pairs.l5 k5 (l0_0.length : Int) (x4_5.set (x8_3 : Int).toNat ((rd_L6 x4_5 x8_3).set (x9_4 : Int).toNat false)) true x8_3 x9_4 (wrap64 (x10_5 + 1)) l0_0 l0_1) else (none)) else (none))) = some r := by rw [← hbq50] at H; exact H
                                                                  have Nbq50 := Aside0.mk hbq50
                                                                  clear hbq50
                                                                  by_cases c51 : (bq50 = true)
                                                                  · subst c51
                                                                    have H1 : (tendrilref05_Pairs.l5 k5 (l0_0.length : Int) x4_5 x7_5 x8_3 x9_4 (wrap64 (x10_5 + 1)) l0_0 l0_1) = some r := by rw [if_pos rfl] at H; exact H
                                                                    clear H
                                                                    have H := H1
                                                                    clear H1
                                                                    have H' := Aside0.mk H
                                                                    clear H
                                                                    have hcz52_0 : wr.cell? ⟨gb162, 0, none⟩ = some (.slice A0_0 l0_0.length c0_0) := (blk_cell BK162.out 0).trans rfl
                                                                    have hcz52_1 : wr.cell? ⟨gb162, 1, none⟩ = some (.slice A0_1 l0_1.length c0_1) := (blk_cell BK162.out 1).trans rfl
                                                                    have hfz52_0 := blk_frozen BK162.out 0
                                                                    have hfz52_1 := blk_frozen BK162.out 1
                                                                    have p177 : 0 ≤ (x8_3 : Int) := of_decide_eq_true (by first | (with_reducible assumption) | assumption)
                                                                    have q177 : x8_3 < (l0_0.length : Int) := of_decide_eq_true (by first | (with_reducible assumption) | assumption)
                                                                    obtain ⟨ad177, A177_3, c177_3, e177, hx177_0, hx177_1, hx177_2, hx177_3, hl177_3, hi177_3⟩ := at_T35 HR0_0.out x8_3 p177 q177
                                                                    cases e177
                                                                    replace hx177_0 := (HB.out.cell (World.block_lt_of_cell? w _ hx177_0)).trans hx177_0
                                                                    replace hx177_1 := (HB.out.cell (World.block_lt_of_cell? w _ hx177_1)).trans hx177_1
                                                                    replace hx177_2 := (HB.out.cell (World.block_lt_of_cell? w _ hx177_2)).trans hx177_2
                                                                    replace hx177_3 := (HB.out.cell (World.block_lt_of_cell? w _ hx177_3)).trans hx177_3
                                                                    have HR177_3 := Aside0.mk hi177_3
                                                                    have HC177_3 := Aside0.mk hl177_3
                                                                    clear hi177_3 hl177_3
                                                                    replace p177 := eq_true p177
                                                                    replace q177 := eq_true q177
                                                                    try go_wp2
                                                                    have n0_ := Aside0.mk (Kd.S_drew HO_4.out)
                                                                    have n1_ := Aside0.mk (blk_drew BK162.out)
                                                                    have n2_ := Aside0.mk (below_drew1 HB.out)
                                                                    clear HO_4
                                                                    clear BK162
                                                                    clear HB
                                                                    have HO_4 := n0_
                                                                    have BK162 := n1_
                                                                    have HB := n2_
                                                                    clear n0_ n1_ n2_
                                                                    have p178 : 0 ≤ (x8_3 : Int) := of_decide_eq_true (by first | (with_reducible assumption) | assumption)
                                                                    have q178 : x8_3 < (l0_0.length : Int) := of_decide_eq_true (by first | (with_reducible assumption) | assumption)
                                                                    obtain ⟨ad178, A178_3, c178_3, e178, hx178_0, hx178_1, hx178_2, hx178_3, hl178_3, hi178_3⟩ := at_T35 HR0_0.out x8_3 p178 q178
                                                                    have hw178_3 := hx178_3
                                                                    have hw178_2 := hx178_2
                                                                    have hw178_1 := hx178_1
                                                                    have hw178_0 := hx178_0
                                                                    obtain rfl : ad177 = ad178 := (by injection e178)
                                                                    replace hx178_0 := (HB.out.cell (World.block_lt_of_cell? w _ hx178_0)).trans hx178_0
                                                                    replace hx178_1 := (HB.out.cell (World.block_lt_of_cell? w _ hx178_1)).trans hx178_1
                                                                    replace hx178_2 := (HB.out.cell (World.block_lt_of_cell? w _ hx178_2)).trans hx178_2
                                                                    replace hx178_3 := (HB.out.cell (World.block_lt_of_cell? w _ hx178_3)).trans hx178_3
                                                                    have HR178_3 := Aside0.mk hi178_3
                                                                    have HC178_3 := Aside0.mk hl178_3
                                                                    clear hi178_3 hl178_3
                                                                    replace p178 := eq_true p178
                                                                    replace q178 := eq_true q178
                                                                    have p179 : 0 ≤ (x10_5 : Int) := of_decide_eq_true (by first | (with_reducible assumption) | assumption)
                                                                    have q179 : x10_5 < (((rd_T35 l0_0 x8_3).f3).length : Int) := of_decide_eq_true (by first | (with_reducible assumption) | assumption)
                                                                    obtain ⟨ad179, e179, hx179_0⟩ := Kd.at_int HR178_3.out x10_5 p179 q179
                                                                    have hw179_0 := hx179_0
                                                                    cases e179
                                                                    replace hx179_0 := (HB.out.cell (World.block_lt_of_cell? w _ hx179_0)).trans hx179_0
                                                                    replace p179 := eq_true p179
                                                                    replace q179 := eq_true q179
                                                                    have p180 : 0 ≤ ((rd ((rd_T35 l0_0 x8_3).f3) x10_5) : Int) := of_decide_eq_true (by first | (with_reducible assumption) | assumption)
                                                                    have q180 : (rd ((rd_T35 l0_0 x8_3).f3) x10_5) < (x4_5.length : Int) := of_decide_eq_true (by first | (with_reducible assumption) | assumption)
                                                                    obtain ⟨ad180, A180_0, c180_0, e180, hx180_0, hl180_0, hi180_0⟩ := at_L6 (Kd.S_reads' HO_4.out).2.2 (rd ((rd_T35 l0_0 x8_3).f3) x10_5) p180 q180
                                                                    obtain rfl : ad175 = ad180 := (by injection e180)
                                                                    obtain ⟨ce180, hce180, hMe180, hcc180⟩ := Kd.S_get HO_4.out [] (rd ((rd_T35 l0_0 x8_3).f3) x10_5) p180 (by first | exact q180 | exact of_decide_eq_true (by first | (with_reducible assumption) | assumption) | (have e_ := (Kd.S_reads' HO_4.out).1; omega))
                                                                    obtain ⟨ve180_0, rfl, ge180_0⟩ := hMe180
                                                                    have hv180_0 := hcc180 0 _ rfl
                                                                    rw [Nat.add_zero, show ((Kd.slice 4 Kd.bool)).sz = 1 from rfl, Nat.mul_one] at hv180_0
                                                                    replace hv180_0 := Option.some.inj (hv180_0.symm.trans hx180_0)
                                                                    rw [hv180_0] at ge180_0
                                                                    have HL180_0 := Aside0.mk (show Kd.R Kd.bool 4 _ _ _ _ (rd_L6 x4_5 (rd ((rd_T35 l0_0 x8_3).f3) x10_5)) from ge180_0)
                                                                    clear hv180_0 ge180_0
                                                                    have HX180_0 := Aside0.mk hx180_0
                                                                    clear hcc180 hce180
                                                                    have HR180_0 := Aside0.mk hi180_0
                                                                    have HC180_0 := Aside0.mk hl180_0
                                                                    clear hi180_0 hl180_0
                                                                    replace p180 := eq_true p180
                                                                    replace q180 := eq_true q180
                                                                    have p181 : 0 ≤ (x9_4 : Int) := of_decide_eq_true (by first | (with_reducible assumption) | assumption)
                                                                    have q181 : x9_4 < (l0_0.length : Int) := of_decide_eq_true (by first | (with_reducible assumption) | assumption)
                                                                    obtain ⟨ad181, A181_3, c181_3, e181, hx181_0, hx181_1, hx181_2, hx181_3, hl181_3, hi181_3⟩ := at_T35 HR0_0.out x9_4 p181 q181
                                                                    have hw181_3 := hx181_3
                                                                    have hw181_2 := hx181_2
                                                                    have hw181_1 := hx181_1
                                                                    have hw181_0 := hx181_0
                                                                    obtain rfl : ad177 = ad181 := (by injection e181)
                                                                    replace hx181_0 := (HB.out.cell (World.block_lt_of_cell? w _ hx181_0)).trans hx181_0
                                                                    replace hx181_1 := (HB.out.cell (World.block_lt_of_cell? w _ hx181_1)).trans hx181_1
                                                                    replace hx181_2 := (HB.out.cell (World.block_lt_of_cell? w _ hx181_2)).trans hx181_2
                                                                    replace hx181_3 := (HB.out.cell (World.block_lt_of_cell? w _ hx181_3)).trans hx181_3
                                                                    have HR181_3 := Aside0.mk hi181_3
                                                                    have HC181_3 := Aside0.mk hl181_3
                                                                    clear hi181_3 hl181_3
                                                                    replace p181 := eq_true p181
                                                                    replace q181 := eq_true q181
                                                                    have p182 : 0 ≤ (x10_5 : Int) := of_decide_eq_true (by first | (with_reducible assumption) | assumption)
                                                                    have q182 : x10_5 < (((rd_T35 l0_0 x9_4).f3).length : Int) := of_decide_eq_true (by first | (with_reducible assumption) | assumption)
                                                                    obtain ⟨ad182, e182, hx182_0⟩ := Kd.at_int HR181_3.out x10_5 p182 q182
                                                                    have hw182_0 := hx182_0
                                                                    cases e182
                                                                    replace hx182_0 := (HB.out.cell (World.block_lt_of_cell? w _ hx182_0)).trans hx182_0
                                                                    replace p182 := eq_true p182
                                                                    replace q182 := eq_true q182
                                                                    have p183 : 0 ≤ ((rd ((rd_T35 l0_0 x9_4).f3) x10_5) : Int) := of_decide_eq_true (by first | (with_reducible assumption) | assumption)
                                                                    have q183 : (rd ((rd_T35 l0_0 x9_4).f3) x10_5) < ((rd_L6 x4_5 (rd ((rd_T35 l0_0 x8_3).f3) x10_5)).length : Int) := of_decide_eq_true (by first | (with_reducible assumption) | assumption)
                                                                    obtain ⟨ad183, e183, hx183_0⟩ := Kd.at_bool (by repeat (first | (with_reducible exact HR180_0.out) | (with_reducible refine Kd.C_alloc ?_ _) | (with_reducible refine Kd.C_drewN ?_ _) | (with_reducible refine Kd.C_drew ?_) | exact HR180_0.out)) (rd ((rd_T35 l0_0 x9_4).f3) x10_5) p183 q183
                                                                    (try rw [← Nbq36.out] at hx183_0)
                                                                    (try rw [← Nbq50.out] at hx183_0)
                                                                    cases e183
                                                                    replace p183 := eq_true p183
                                                                    replace q183 := eq_true q183
                                                                    refine start_ (n := 24) (S := fun w' => w'.cell? ⟨gb162, 0, none⟩ = some (.slice (some ad177) l0_0.length c0_0) ∧ w'.cell? ⟨gb162, 1, none⟩ = some (.slice A0_1 l0_1.length c0_1) ∧ w'.cell? (ad177.add ((x8_3).toNat * 4)) = some (.int .i64 ((rd_T35 l0_0 x8_3).f0)) ∧ w'.cell? ⟨(ad177.add ((x8_3).toNat * 4)).block, (ad177.add ((x8_3).toNat * 4)).off + 1, none⟩ = some (.string ((rd_T35 l0_0 x8_3).f1)) ∧ w'.cell? ⟨(ad177.add ((x8_3).toNat * 4)).block, (ad177.add ((x8_3).toNat * 4)).off + 2, none⟩ = some (.int .i64 ((rd_T35 l0_0 x8_3).f2)) ∧ w'.cell? ⟨(ad177.add ((x8_3).toNat * 4)).block, (ad177.add ((x8_3).toNat * 4)).off + 3, none⟩ = some (.slice (some ad179) ((rd_T35 l0_0 x8_3).f3).length c178_3) ∧ w'.cell? (ad179.add (x10_5).toNat) = some (.int .i64 (rd ((rd_T35 l0_0 x8_3).f3) x10_5)) ∧ w'.cell? (ad175.add ((rd ((rd_T35 l0_0 x8_3).f3) x10_5)).toNat) = some (.slice (some ad183) (rd_L6 x4_5 (rd ((rd_T35 l0_0 x8_3).f3) x10_5)).length c180_0) ∧ w'.cell? (ad177.add ((x9_4).toNat * 4)) = some (.int .i64 ((rd_T35 l0_0 x9_4).f0)) ∧ w'.cell? ⟨(ad177.add ((x9_4).toNat * 4)).block, (ad177.add ((x9_4).toNat * 4)).off + 1, none⟩ = some (.string ((rd_T35 l0_0 x9_4).f1)) ∧ w'.cell? ⟨(ad177.add ((x9_4).toNat * 4)).block, (ad177.add ((x9_4).toNat * 4)).off + 2, none⟩ = some (.int .i64 ((rd_T35 l0_0 x9_4).f2)) ∧ w'.cell? ⟨(ad177.add ((x9_4).toNat * 4)).block, (ad177.add ((x9_4).toNat * 4)).off + 3, none⟩ = some (.slice (some ad182) ((rd_T35 l0_0 x9_4).f3).length c181_3) ∧ w'.cell? (ad182.add (x10_5).toNat) = some (.int .i64 (rd ((rd_T35 l0_0 x9_4).f3) x10_5)) ∧ w'.cell? (ad183.add ((rd ((rd_T35 l0_0 x9_4).f3) x10_5)).toNat) = some (.bool true)) (ds := []) #[false, false, false, false, false, false, false, false, false, false, false, false, false, false, false, false, false, false, false, false, false, false, false, false] (by kernel_rfl) rfl rfl ⟨(blk_cell BK162.out 0).trans rfl, (blk_cell BK162.out 1).trans rfl, ((HB.out.cell (World.block_lt_of_cell? w _ hw178_0)).trans hw178_0), ((HB.out.cell (World.block_lt_of_cell? w _ hw178_1)).trans hw178_1), ((HB.out.cell (World.block_lt_of_cell? w _ hw178_2)).trans hw178_2), ((HB.out.cell (World.block_lt_of_cell? w _ hw178_3)).trans hw178_3), ((HB.out.cell (World.block_lt_of_cell? w _ hw179_0)).trans hw179_0), hx180_0, ((HB.out.cell (World.block_lt_of_cell? w _ hw181_0)).trans hw181_0), ((HB.out.cell (World.block_lt_of_cell? w _ hw181_1)).trans hw181_1), ((HB.out.cell (World.block_lt_of_cell? w _ hw181_2)).trans hw181_2), ((HB.out.cell (World.block_lt_of_cell? w _ hw181_3)).trans hw181_3), ((HB.out.cell (World.block_lt_of_cell? w _ hw182_0)).trans hw182_0), hx183_0⟩ (fun hHeld => ?_); refine with_tabW tendrilref05_Pairs.tab24 tendrilref05_Pairs.bits24 (fun HT_ HW_ => ?_)
                                                                    generalize wr.drew = w53 at HO_4 BK162 HB HL180_0 HR178_3 HR180_0 HR181_3 HX180_0 hx178_0 hx178_1 hx178_2 hx178_3 hx179_0 hx180_0 hx181_0 hx181_1 hx181_2 hx181_3 hx182_0 hx183_0 hHeld ⊢
                                                                    refine pure_ (i := 0) (N := some 71) (v := ?_) (a' := ?_) #[true, false, false, false, false, false, false, false, false, false, false, false, false, false, false, false, false, false, false, false, false, false, false, false] rfl rfl (any_of HT_.out (by kernel_rfl)) (fun _ _ _ h => h) (Or.inl ⟨by rfl, ?_⟩) ?_ ?_
                                                                    rotate_left
                                                                    · intro w'
                                                                      go_simp
                                                                      with_reducible rfl
                                                                    rotate_left
                                                                    · simp only [Act.put, List.setIfInBounds_toArray, List.set_cons_zero, List.set_cons_succ, i64_w, i32_w]
                                                                      rfl
                                                                    refine pure_ (i := 1) (N := some 72) (v := ?_) (a' := ?_) #[true, true, false, false, false, false, false, false, false, false, false, false, false, false, false, false, false, false, false, false, false, false, false, false] rfl rfl (any_of HT_.out (by kernel_rfl)) (fun _ _ _ h => h) (Or.inl ⟨by rfl, ?_⟩) ?_ ?_
                                                                    rotate_left
                                                                    · intro w'
                                                                      go_simp
                                                                      with_reducible rfl
                                                                    rotate_left
                                                                    · simp only [Act.put, List.setIfInBounds_toArray, List.set_cons_zero, List.set_cons_succ, i64_w, i32_w]
                                                                      rfl
                                                                    refine pure_ (i := 3) (N := some 74) (v := ?_) (a' := ?_) #[true, true, false, true, false, false, false, false, false, false, false, false, false, false, false, false, false, false, false, false, false, false, false, false] rfl rfl (any_of HT_.out (by kernel_rfl)) (fun _ _ _ h => h) (Or.inl ⟨by rfl, ?_⟩) ?_ ?_
                                                                    rotate_left
                                                                    · intro w'
                                                                      go_simp
                                                                      with_reducible rfl
                                                                    rotate_left
                                                                    · simp only [Act.put, List.setIfInBounds_toArray, List.set_cons_zero, List.set_cons_succ, i64_w, i32_w]
                                                                      rfl
                                                                    refine pure_ (i := 7) (N := some 78) (v := ?_) (a' := ?_) #[true, true, false, true, false, false, false, true, false, false, false, false, false, false, false, false, false, false, false, false, false, false, false, false] rfl rfl (any_of HT_.out (by kernel_rfl)) (fun _ _ _ h => h) (Or.inl ⟨by rfl, ?_⟩) ?_ ?_
                                                                    rotate_left
                                                                    · intro w'
                                                                      go_simp
                                                                      with_reducible rfl
                                                                    rotate_left
                                                                    · simp only [Act.put, List.setIfInBounds_toArray, List.set_cons_zero, List.set_cons_succ, i64_w, i32_w]
                                                                      rfl
                                                                    refine pure_ (i := 12) (N := some 83) (v := ?_) (a' := ?_) #[true, true, false, true, false, false, false, true, false, false, false, false, true, false, false, false, false, false, false, false, false, false, false, false] rfl rfl (any_of HT_.out (by kernel_rfl)) (fun _ _ _ h => h) (Or.inl ⟨by rfl, ?_⟩) ?_ ?_
                                                                    rotate_left
                                                                    · intro w'
                                                                      go_simp
                                                                      with_reducible rfl
                                                                    rotate_left
                                                                    · simp only [Act.put, List.setIfInBounds_toArray, List.set_cons_zero, List.set_cons_succ, i64_w, i32_w]
                                                                      rfl
                                                                    refine pure_ (i := 14) (N := some 85) (v := ?_) (a' := ?_) #[true, true, false, true, false, false, false, true, false, false, false, false, true, false, true, false, false, false, false, false, false, false, false, false] rfl rfl (any_of HT_.out (by kernel_rfl)) (fun _ _ _ h => h) (Or.inl ⟨by rfl, ?_⟩) ?_ ?_
                                                                    rotate_left
                                                                    · intro w'
                                                                      go_simp
                                                                      with_reducible rfl
                                                                    rotate_left
                                                                    · simp only [Act.put, List.setIfInBounds_toArray, List.set_cons_zero, List.set_cons_succ, i64_w, i32_w]
                                                                      rfl
                                                                    refine pure_ (i := 18) (N := some 89) (v := ?_) (a' := ?_) #[true, true, false, true, false, false, false, true, false, false, false, false, true, false, true, false, false, false, true, false, false, false, false, false] rfl rfl (any_of HT_.out (by kernel_rfl)) (fun _ _ _ h => h) (Or.inl ⟨by rfl, ?_⟩) ?_ ?_
                                                                    rotate_left
                                                                    · intro w'
                                                                      go_simp
                                                                      with_reducible rfl
                                                                    rotate_left
                                                                    · simp only [Act.put, List.setIfInBounds_toArray, List.set_cons_zero, List.set_cons_succ, i64_w, i32_w]
                                                                      rfl
                                                                    refine take_ (i := 2) (N := some 73) (v := ?_) (a' := ?_) #[true, true, true, true, false, false, false, true, false, false, false, false, true, false, true, false, false, false, true, false, false, false, false, false] rfl rfl (take_ofW HT_.out HW_.out (by kernel_rfl)) (fun _ _ _ h => h) (Or.inl ⟨by rfl, ?_⟩) hHeld ?_ ?_
                                                                    rotate_left
                                                                    · rintro w' ⟨s0, s1, s2, s3, s4, s5, s6, s7, s8, s9, s10, s11, s12, s13⟩
                                                                      go_simp
                                                                      with_reducible rfl
                                                                    rotate_left
                                                                    · simp only [Act.put, List.setIfInBounds_toArray, List.set_cons_zero, List.set_cons_succ, i64_w, i32_w]
                                                                      rfl
                                                                    refine pure_ (i := 4) (N := some 75) (v := ?_) (a' := ?_) #[true, true, true, true, true, false, false, true, false, false, false, false, true, false, true, false, false, false, true, false, false, false, false, false] rfl rfl (any_of HT_.out (by kernel_rfl)) (fun _ _ _ h => h) (Or.inl ⟨by rfl, ?_⟩) ?_ ?_
                                                                    rotate_left
                                                                    · intro w'
                                                                      go_simp
                                                                      with_reducible rfl
                                                                    rotate_left
                                                                    · simp only [Act.put, List.setIfInBounds_toArray, List.set_cons_zero, List.set_cons_succ, i64_w, i32_w]
                                                                      rfl
                                                                    refine pure_ (i := 5) (N := some 76) (v := ?_) (a' := ?_) #[true, true, true, true, true, true, false, true, false, false, false, false, true, false, true, false, false, false, true, false, false, false, false, false] rfl rfl (any_of HT_.out (by kernel_rfl)) (fun _ _ _ h => h) (Or.inl ⟨by rfl, ?_⟩) ?_ ?_
                                                                    rotate_left
                                                                    · intro w'
                                                                      go_simp
                                                                      with_reducible rfl
                                                                    rotate_left
                                                                    · simp only [Act.put, List.setIfInBounds_toArray, List.set_cons_zero, List.set_cons_succ, i64_w, i32_w]
                                                                      rfl
                                                                    refine take_ (i := 6) (N := some 77) (v := ?_) (a' := ?_) #[true, true, true, true, true, true, true, true, false, false, false, false, true, false, true, false, false, false, true, false, false, false, false, false] rfl rfl (take_ofW HT_.out HW_.out (by kernel_rfl)) (fun _ _ _ h => h) (Or.inl ⟨by rfl, ?_⟩) hHeld ?_ ?_
                                                                    rotate_left
                                                                    · rintro w' ⟨s0, s1, s2, s3, s4, s5, s6, s7, s8, s9, s10, s11, s12, s13⟩
                                                                      go_simp
                                                                      with_reducible rfl
                                                                    rotate_left
                                                                    · simp only [Act.put, List.setIfInBounds_toArray, List.set_cons_zero, List.set_cons_succ, i64_w, i32_w]
                                                                      rfl
                                                                    refine pure_ (i := 8) (N := some 79) (v := ?_) (a' := ?_) #[true, true, true, true, true, true, true, true, true, false, false, false, true, false, true, false, false, false, true, false, false, false, false, false] rfl rfl (any_of HT_.out (by kernel_rfl)) (fun _ _ _ h => h) (Or.inl ⟨by rfl, ?_⟩) ?_ ?_
                                                                    rotate_left
                                                                    · intro w'
                                                                      go_simp
                                                                      with_reducible rfl
                                                                    rotate_left
                                                                    · simp only [Act.put, List.setIfInBounds_toArray, List.set_cons_zero, List.set_cons_succ, i64_w, i32_w]
                                                                      rfl
                                                                    refine take_ (i := 9) (N := some 80) (v := ?_) (a' := ?_) #[true, true, true, true, true, true, true, true, true, true, false, false, true, false, true, false, false, false, true, false, false, false, false, false] rfl rfl (take_ofW HT_.out HW_.out (by kernel_rfl)) (fun _ _ _ h => h) (Or.inl ⟨by rfl, ?_⟩) hHeld ?_ ?_
                                                                    rotate_left
                                                                    · rintro w' ⟨s0, s1, s2, s3, s4, s5, s6, s7, s8, s9, s10, s11, s12, s13⟩
                                                                      go_simp
                                                                      with_reducible rfl
                                                                    rotate_left
                                                                    · simp only [Act.put, List.setIfInBounds_toArray, List.set_cons_zero, List.set_cons_succ, i64_w, i32_w]
                                                                      rfl
                                                                    refine pure_ (i := 10) (N := some 81) (v := ?_) (a' := ?_) #[true, true, true, true, true, true, true, true, true, true, true, false, true, false, true, false, false, false, true, false, false, false, false, false] rfl rfl (any_of HT_.out (by kernel_rfl)) (fun _ _ _ h => h) (Or.inl ⟨by rfl, ?_⟩) ?_ ?_
                                                                    rotate_left
                                                                    · intro w'
                                                                      go_simp
                                                                      with_reducible rfl
                                                                    rotate_left
                                                                    · simp only [Act.put, List.setIfInBounds_toArray, List.set_cons_zero, List.set_cons_succ, i64_w, i32_w]
                                                                      rfl
                                                                    refine take_ (i := 11) (N := some 82) (v := ?_) (a' := ?_) #[true, true, true, true, true, true, true, true, true, true, true, true, true, false, true, false, false, false, true, false, false, false, false, false] rfl rfl (take_ofW HT_.out HW_.out (by kernel_rfl)) (fun _ _ _ h => h) (Or.inl ⟨by rfl, ?_⟩) hHeld ?_ ?_
                                                                    rotate_left
                                                                    · rintro w' ⟨s0, s1, s2, s3, s4, s5, s6, s7, s8, s9, s10, s11, s12, s13⟩
                                                                      go_simp
                                                                      with_reducible rfl
                                                                    rotate_left
                                                                    · simp only [Act.put, List.setIfInBounds_toArray, List.set_cons_zero, List.set_cons_succ, i64_w, i32_w]
                                                                      rfl
                                                                    refine take_ (i := 13) (N := some 84) (v := ?_) (a' := ?_) #[true, true, true, true, true, true, true, true, true, true, true, true, true, true, true, false, false, false, true, false, false, false, false, false] rfl rfl (take_ofW HT_.out HW_.out (by kernel_rfl)) (fun _ _ _ h => h) (Or.inl ⟨by rfl, ?_⟩) hHeld ?_ ?_
                                                                    rotate_left
                                                                    · rintro w' ⟨s0, s1, s2, s3, s4, s5, s6, s7, s8, s9, s10, s11, s12, s13⟩
                                                                      go_simp
                                                                      with_reducible rfl
                                                                    rotate_left
                                                                    · simp only [Act.put, List.setIfInBounds_toArray, List.set_cons_zero, List.set_cons_succ, i64_w, i32_w]
                                                                      rfl
                                                                    refine pure_ (i := 15) (N := some 86) (v := ?_) (a' := ?_) #[true, true, true, true, true, true, true, true, true, true, true, true, true, true, true, true, false, false, true, false, false, false, false, false] rfl rfl (any_of HT_.out (by kernel_rfl)) (fun _ _ _ h => h) (Or.inl ⟨by rfl, ?_⟩) ?_ ?_
                                                                    rotate_left
                                                                    · intro w'
                                                                      go_simp
                                                                      with_reducible rfl
                                                                    rotate_left
                                                                    · simp only [Act.put, List.setIfInBounds_toArray, List.set_cons_zero, List.set_cons_succ, i64_w, i32_w]
                                                                      rfl
                                                                    refine pure_ (i := 16) (N := some 87) (v := ?_) (a' := ?_) #[true, true, true, true, true, true, true, true, true, true, true, true, true, true, true, true, true, false, true, false, false, false, false, false] rfl rfl (any_of HT_.out (by kernel_rfl)) (fun _ _ _ h => h) (Or.inl ⟨by rfl, ?_⟩) ?_ ?_
                                                                    rotate_left
                                                                    · intro w'
                                                                      go_simp
                                                                      with_reducible rfl
                                                                    rotate_left
                                                                    · simp only [Act.put, List.setIfInBounds_toArray, List.set_cons_zero, List.set_cons_succ, i64_w, i32_w]
                                                                      rfl
                                                                    refine take_ (i := 17) (N := some 88) (v := ?_) (a' := ?_) #[true, true, true, true, true, true, true, true, true, true, true, true, true, true, true, true, true, true, true, false, false, false, false, false] rfl rfl (take_ofW HT_.out HW_.out (by kernel_rfl)) (fun _ _ _ h => h) (Or.inl ⟨by rfl, ?_⟩) hHeld ?_ ?_
                                                                    rotate_left
                                                                    · rintro w' ⟨s0, s1, s2, s3, s4, s5, s6, s7, s8, s9, s10, s11, s12, s13⟩
                                                                      go_simp
                                                                      with_reducible rfl
                                                                    rotate_left
                                                                    · simp only [Act.put, List.setIfInBounds_toArray, List.set_cons_zero, List.set_cons_succ, i64_w, i32_w]
                                                                      rfl
                                                                    refine pure_ (i := 19) (N := some 90) (v := ?_) (a' := ?_) #[true, true, true, true, true, true, true, true, true, true, true, true, true, true, true, true, true, true, true, true, false, false, false, false] rfl rfl (any_of HT_.out (by kernel_rfl)) (fun _ _ _ h => h) (Or.inl ⟨by rfl, ?_⟩) ?_ ?_
                                                                    rotate_left
                                                                    · intro w'
                                                                      go_simp
                                                                      with_reducible rfl
                                                                    rotate_left
                                                                    · simp only [Act.put, List.setIfInBounds_toArray, List.set_cons_zero, List.set_cons_succ, i64_w, i32_w]
                                                                      rfl
                                                                    refine take_ (i := 20) (N := some 91) (v := ?_) (a' := ?_) #[true, true, true, true, true, true, true, true, true, true, true, true, true, true, true, true, true, true, true, true, true, false, false, false] rfl rfl (take_ofW HT_.out HW_.out (by kernel_rfl)) (fun _ _ _ h => h) (Or.inl ⟨by rfl, ?_⟩) hHeld ?_ ?_
                                                                    rotate_left
                                                                    · rintro w' ⟨s0, s1, s2, s3, s4, s5, s6, s7, s8, s9, s10, s11, s12, s13⟩
                                                                      go_simp
                                                                      with_reducible rfl
                                                                    rotate_left
                                                                    · simp only [Act.put, List.setIfInBounds_toArray, List.set_cons_zero, List.set_cons_succ, i64_w, i32_w]
                                                                      rfl
                                                                    refine pure_ (i := 21) (N := some 92) (v := ?_) (a' := ?_) #[true, true, true, true, true, true, true, true, true, true, true, true, true, true, true, true, true, true, true, true, true, true, false, false] rfl rfl (any_of HT_.out (by kernel_rfl)) (fun _ _ _ h => h) (Or.inl ⟨by rfl, ?_⟩) ?_ ?_
                                                                    rotate_left
                                                                    · intro w'
                                                                      go_simp
                                                                      with_reducible rfl
                                                                    rotate_left
                                                                    · simp only [Act.put, List.setIfInBounds_toArray, List.set_cons_zero, List.set_cons_succ, i64_w, i32_w]
                                                                      rfl
                                                                    refine take_ (i := 22) (N := some 93) (v := ?_) (a' := ?_) #[true, true, true, true, true, true, true, true, true, true, true, true, true, true, true, true, true, true, true, true, true, true, true, false] rfl rfl (take_ofW HT_.out HW_.out (by kernel_rfl)) (fun _ _ _ h => h) (Or.inl ⟨by rfl, ?_⟩) hHeld ?_ ?_
                                                                    rotate_left
                                                                    · rintro w' ⟨s0, s1, s2, s3, s4, s5, s6, s7, s8, s9, s10, s11, s12, s13⟩
                                                                      go_simp
                                                                      with_reducible rfl
                                                                    rotate_left
                                                                    · simp only [Act.put, List.setIfInBounds_toArray, List.set_cons_zero, List.set_cons_succ, i64_w, i32_w]
                                                                      rfl
                                                                    refine pure_ (i := 23) (N := some 94) (v := ?_) (a' := ?_) #[true, true, true, true, true, true, true, true, true, true, true, true, true, true, true, true, true, true, true, true, true, true, true, true] rfl rfl (any_of HT_.out (by kernel_rfl)) (fun _ _ _ h => h) (Or.inl ⟨by rfl, ?_⟩) ?_ ?_
                                                                    rotate_left
                                                                    · intro w'
                                                                      go_simp
                                                                      with_reducible rfl
                                                                    rotate_left
                                                                    · simp only [Act.put, List.setIfInBounds_toArray, List.set_cons_zero, List.set_cons_succ, i64_w, i32_w]
                                                                      rfl
                                                                    refine done_ (done_of HT_.out (by kernel_rfl)) ?_
                                                                    try go_wp2
                                                                    (try simp only [← hl4_5])
                                                                    go_roundg k5
                                                                    case measure => have := HK1.out; have := HK2.out; have := HK3.out; have := HK4.out; have := HK5.out; omega
                                                                    case rel => exact ⟨(x4_5), (x7_5), (wrap64 (x10_5 + 1)), (by first | rfl | (simp; done) | (simp [*]; done)), (by first | rfl | (simp; done) | (simp [*]; done)), H', ⟨by have := HK1.out; have := HK2.out; have := HK3.out; have := HK4.out; have := HK5.out; omega⟩, ⟨by (try simp only [hl4_5]); (with_reducible repeat (first | apply Kd.S_alloc | apply Kd.S_drewN | apply Kd.S_drew)); exact HO_4.out⟩, ⟨by (try simp only [hl4_5]); (with_reducible repeat (first | refine blk_drewN ?_ _ | refine blk_drew ?_ | refine blk_alloc ?_ _)); exact BK162.out⟩, ⟨by repeat (first | (with_reducible first | exact HB.out | apply below_alloc | apply pw_below_drewN | apply below_drew1 | refine below_set ?_ GE162.out) | exact HB.out)⟩⟩
                                                                  · replace c51 := Bool.eq_false_iff.mpr c51
                                                                    subst c51
                                                                    have H1 : (if x8_3 < (x4_5.length : Int) then (if x9_4 < ((rd_L6 x4_5 x8_3).length : Int) then (tendrilref05_Pairs.l5 k5 (l0_0.length : Int) (x4_5.set (x8_3 : Int).toNat ((rd_L6 x4_5 x8_3).set (x9_4 : Int).toNat false)) true x8_3 x9_4 (wrap64 (x10_5 + 1)) l0_0 l0_1) else (none)) else (none)) = some r := by rw [if_neg (show ¬ (false = true) by decide)] at H; exact H
                                                                    clear H
                                                                    have H := H1
                                                                    clear H1
                                                                    by_cases c54 : x8_3 < (x4_5.length : Int)
                                                                    · rw [if_pos c54] at H
                                                                      have c54b0 : decide (x8_3 < (x4_5.length : Int)) = true := decide_eq_true c54
                                                                      clear c54
                                                                      by_cases c55 : x9_4 < ((rd_L6 x4_5 x8_3).length : Int)
                                                                      · rw [if_pos c55] at H
                                                                        have c55b0 : decide (x9_4 < ((rd_L6 x4_5 x8_3).length : Int)) = true := decide_eq_true c55
                                                                        clear c55
                                                                        obtain ⟨y185, hy185⟩ : ∃ y_ : List Bool, y_ = ((rd_L6 x4_5 x8_3).set (x9_4 : Int).toNat false) := ⟨_, rfl⟩
                                                                        replace H : (tendrilref05_Pairs.l5 k5 (l0_0.length : Int) (x4_5.set (x8_3 : Int).toNat y185) true x8_3 x9_4 (wrap64 (x10_5 + 1)) l0_0 l0_1) = some r := by first | (rw [hy185]; with_reducible exact H) | (have H2_ := (Option.bind_some _ _).symm.trans H; rw [hy185]; with_reducible exact H2_) | (have H2_ := (Option.bind_some _ _).symm.trans H; with_reducible exact H2_) | with_reducible exact H | (rw [hy185]; exact H) | exact H
                                                                        have Ny185 := Aside0.mk hy185
                                                                        clear hy185
                                                                        obtain ⟨y187, hy187⟩ : ∃ y_ : List (List Bool), y_ = (x4_5.set (x8_3 : Int).toNat y185) := ⟨_, rfl⟩
                                                                        replace H : (tendrilref05_Pairs.l5 k5 (l0_0.length : Int) y187 true x8_3 x9_4 (wrap64 (x10_5 + 1)) l0_0 l0_1) = some r := by first | (rw [hy187]; with_reducible exact H) | (have H2_ := (Option.bind_some _ _).symm.trans H; rw [hy187]; with_reducible exact H2_) | (have H2_ := (Option.bind_some _ _).symm.trans H; with_reducible exact H2_) | with_reducible exact H | (rw [hy187]; exact H) | exact H
                                                                        have Ny187 := Aside0.mk hy187
                                                                        clear hy187
                                                                        have H' := Aside0.mk H
                                                                        clear H
                                                                        have hcz57_0 : wr.cell? ⟨gb162, 0, none⟩ = some (.slice A0_0 l0_0.length c0_0) := (blk_cell BK162.out 0).trans rfl
                                                                        have hcz57_1 : wr.cell? ⟨gb162, 1, none⟩ = some (.slice A0_1 l0_1.length c0_1) := (blk_cell BK162.out 1).trans rfl
                                                                        have hfz57_0 := blk_frozen BK162.out 0
                                                                        have hfz57_1 := blk_frozen BK162.out 1
                                                                        have p177 : 0 ≤ (x8_3 : Int) := of_decide_eq_true (by first | (with_reducible assumption) | assumption)
                                                                        have q177 : x8_3 < (l0_0.length : Int) := of_decide_eq_true (by first | (with_reducible assumption) | assumption)
                                                                        obtain ⟨ad177, A177_3, c177_3, e177, hx177_0, hx177_1, hx177_2, hx177_3, hl177_3, hi177_3⟩ := at_T35 HR0_0.out x8_3 p177 q177
                                                                        cases e177
                                                                        replace hx177_0 := (HB.out.cell (World.block_lt_of_cell? w _ hx177_0)).trans hx177_0
                                                                        replace hx177_1 := (HB.out.cell (World.block_lt_of_cell? w _ hx177_1)).trans hx177_1
                                                                        replace hx177_2 := (HB.out.cell (World.block_lt_of_cell? w _ hx177_2)).trans hx177_2
                                                                        replace hx177_3 := (HB.out.cell (World.block_lt_of_cell? w _ hx177_3)).trans hx177_3
                                                                        have HR177_3 := Aside0.mk hi177_3
                                                                        have HC177_3 := Aside0.mk hl177_3
                                                                        clear hi177_3 hl177_3
                                                                        replace p177 := eq_true p177
                                                                        replace q177 := eq_true q177
                                                                        try go_wp2
                                                                        have n0_ := Aside0.mk (Kd.S_drew HO_4.out)
                                                                        have n1_ := Aside0.mk (blk_drew BK162.out)
                                                                        have n2_ := Aside0.mk (below_drew1 HB.out)
                                                                        clear HO_4
                                                                        clear BK162
                                                                        clear HB
                                                                        have HO_4 := n0_
                                                                        have BK162 := n1_
                                                                        have HB := n2_
                                                                        clear n0_ n1_ n2_
                                                                        have p178 : 0 ≤ (x8_3 : Int) := of_decide_eq_true (by first | (with_reducible assumption) | assumption)
                                                                        have q178 : x8_3 < (l0_0.length : Int) := of_decide_eq_true (by first | (with_reducible assumption) | assumption)
                                                                        obtain ⟨ad178, A178_3, c178_3, e178, hx178_0, hx178_1, hx178_2, hx178_3, hl178_3, hi178_3⟩ := at_T35 HR0_0.out x8_3 p178 q178
                                                                        have hw178_3 := hx178_3
                                                                        have hw178_2 := hx178_2
                                                                        have hw178_1 := hx178_1
                                                                        have hw178_0 := hx178_0
                                                                        obtain rfl : ad177 = ad178 := (by injection e178)
                                                                        replace hx178_0 := (HB.out.cell (World.block_lt_of_cell? w _ hx178_0)).trans hx178_0
                                                                        replace hx178_1 := (HB.out.cell (World.block_lt_of_cell? w _ hx178_1)).trans hx178_1
                                                                        replace hx178_2 := (HB.out.cell (World.block_lt_of_cell? w _ hx178_2)).trans hx178_2
                                                                        replace hx178_3 := (HB.out.cell (World.block_lt_of_cell? w _ hx178_3)).trans hx178_3
                                                                        have HR178_3 := Aside0.mk hi178_3
                                                                        have HC178_3 := Aside0.mk hl178_3
                                                                        clear hi178_3 hl178_3
                                                                        replace p178 := eq_true p178
                                                                        replace q178 := eq_true q178
                                                                        have p179 : 0 ≤ (x10_5 : Int) := of_decide_eq_true (by first | (with_reducible assumption) | assumption)
                                                                        have q179 : x10_5 < (((rd_T35 l0_0 x8_3).f3).length : Int) := of_decide_eq_true (by first | (with_reducible assumption) | assumption)
                                                                        obtain ⟨ad179, e179, hx179_0⟩ := Kd.at_int HR178_3.out x10_5 p179 q179
                                                                        have hw179_0 := hx179_0
                                                                        cases e179
                                                                        replace hx179_0 := (HB.out.cell (World.block_lt_of_cell? w _ hx179_0)).trans hx179_0
                                                                        replace p179 := eq_true p179
                                                                        replace q179 := eq_true q179
                                                                        have p180 : 0 ≤ ((rd ((rd_T35 l0_0 x8_3).f3) x10_5) : Int) := of_decide_eq_true (by first | (with_reducible assumption) | assumption)
                                                                        have q180 : (rd ((rd_T35 l0_0 x8_3).f3) x10_5) < (x4_5.length : Int) := of_decide_eq_true (by first | (with_reducible assumption) | assumption)
                                                                        obtain ⟨ad180, A180_0, c180_0, e180, hx180_0, hl180_0, hi180_0⟩ := at_L6 (Kd.S_reads' HO_4.out).2.2 (rd ((rd_T35 l0_0 x8_3).f3) x10_5) p180 q180
                                                                        obtain rfl : ad175 = ad180 := (by injection e180)
                                                                        obtain ⟨ce180, hce180, hMe180, hcc180⟩ := Kd.S_get HO_4.out [] (rd ((rd_T35 l0_0 x8_3).f3) x10_5) p180 (by first | exact q180 | exact of_decide_eq_true (by first | (with_reducible assumption) | assumption) | (have e_ := (Kd.S_reads' HO_4.out).1; omega))
                                                                        obtain ⟨ve180_0, rfl, ge180_0⟩ := hMe180
                                                                        have hv180_0 := hcc180 0 _ rfl
                                                                        rw [Nat.add_zero, show ((Kd.slice 4 Kd.bool)).sz = 1 from rfl, Nat.mul_one] at hv180_0
                                                                        replace hv180_0 := Option.some.inj (hv180_0.symm.trans hx180_0)
                                                                        rw [hv180_0] at ge180_0
                                                                        have HL180_0 := Aside0.mk (show Kd.R Kd.bool 4 _ _ _ _ (rd_L6 x4_5 (rd ((rd_T35 l0_0 x8_3).f3) x10_5)) from ge180_0)
                                                                        clear hv180_0 ge180_0
                                                                        have HX180_0 := Aside0.mk hx180_0
                                                                        clear hcc180 hce180
                                                                        have HR180_0 := Aside0.mk hi180_0
                                                                        have HC180_0 := Aside0.mk hl180_0
                                                                        clear hi180_0 hl180_0
                                                                        replace p180 := eq_true p180
                                                                        replace q180 := eq_true q180
                                                                        have p181 : 0 ≤ (x9_4 : Int) := of_decide_eq_true (by first | (with_reducible assumption) | assumption)
                                                                        have q181 : x9_4 < (l0_0.length : Int) := of_decide_eq_true (by first | (with_reducible assumption) | assumption)
                                                                        obtain ⟨ad181, A181_3, c181_3, e181, hx181_0, hx181_1, hx181_2, hx181_3, hl181_3, hi181_3⟩ := at_T35 HR0_0.out x9_4 p181 q181
                                                                        have hw181_3 := hx181_3
                                                                        have hw181_2 := hx181_2
                                                                        have hw181_1 := hx181_1
                                                                        have hw181_0 := hx181_0
                                                                        obtain rfl : ad177 = ad181 := (by injection e181)
                                                                        replace hx181_0 := (HB.out.cell (World.block_lt_of_cell? w _ hx181_0)).trans hx181_0
                                                                        replace hx181_1 := (HB.out.cell (World.block_lt_of_cell? w _ hx181_1)).trans hx181_1
                                                                        replace hx181_2 := (HB.out.cell (World.block_lt_of_cell? w _ hx181_2)).trans hx181_2
                                                                        replace hx181_3 := (HB.out.cell (World.block_lt_of_cell? w _ hx181_3)).trans hx181_3
                                                                        have HR181_3 := Aside0.mk hi181_3
                                                                        have HC181_3 := Aside0.mk hl181_3
                                                                        clear hi181_3 hl181_3
                                                                        replace p181 := eq_true p181
                                                                        replace q181 := eq_true q181
                                                                        have p182 : 0 ≤ (x10_5 : Int) := of_decide_eq_true (by first | (with_reducible assumption) | assumption)
                                                                        have q182 : x10_5 < (((rd_T35 l0_0 x9_4).f3).length : Int) := of_decide_eq_true (by first | (with_reducible assumption) | assumption)
                                                                        obtain ⟨ad182, e182, hx182_0⟩ := Kd.at_int HR181_3.out x10_5 p182 q182
                                                                        have hw182_0 := hx182_0
                                                                        cases e182
                                                                        replace hx182_0 := (HB.out.cell (World.block_lt_of_cell? w _ hx182_0)).trans hx182_0
                                                                        replace p182 := eq_true p182
                                                                        replace q182 := eq_true q182
                                                                        have p183 : 0 ≤ ((rd ((rd_T35 l0_0 x9_4).f3) x10_5) : Int) := of_decide_eq_true (by first | (with_reducible assumption) | assumption)
                                                                        have q183 : (rd ((rd_T35 l0_0 x9_4).f3) x10_5) < ((rd_L6 x4_5 (rd ((rd_T35 l0_0 x8_3).f3) x10_5)).length : Int) := of_decide_eq_true (by first | (with_reducible assumption) | assumption)
                                                                        obtain ⟨ad183, e183, hx183_0⟩ := Kd.at_bool (by repeat (first | (with_reducible exact HR180_0.out) | (with_reducible refine Kd.C_alloc ?_ _) | (with_reducible refine Kd.C_drewN ?_ _) | (with_reducible refine Kd.C_drew ?_) | exact HR180_0.out)) (rd ((rd_T35 l0_0 x9_4).f3) x10_5) p183 q183
                                                                        (try rw [← Nbq36.out] at hx183_0)
                                                                        (try rw [← Nbq50.out] at hx183_0)
                                                                        cases e183
                                                                        replace p183 := eq_true p183
                                                                        replace q183 := eq_true q183
                                                                        refine start_ (n := 24) (S := fun w' => w'.cell? ⟨gb162, 0, none⟩ = some (.slice (some ad177) l0_0.length c0_0) ∧ w'.cell? ⟨gb162, 1, none⟩ = some (.slice A0_1 l0_1.length c0_1) ∧ w'.cell? (ad177.add ((x8_3).toNat * 4)) = some (.int .i64 ((rd_T35 l0_0 x8_3).f0)) ∧ w'.cell? ⟨(ad177.add ((x8_3).toNat * 4)).block, (ad177.add ((x8_3).toNat * 4)).off + 1, none⟩ = some (.string ((rd_T35 l0_0 x8_3).f1)) ∧ w'.cell? ⟨(ad177.add ((x8_3).toNat * 4)).block, (ad177.add ((x8_3).toNat * 4)).off + 2, none⟩ = some (.int .i64 ((rd_T35 l0_0 x8_3).f2)) ∧ w'.cell? ⟨(ad177.add ((x8_3).toNat * 4)).block, (ad177.add ((x8_3).toNat * 4)).off + 3, none⟩ = some (.slice (some ad179) ((rd_T35 l0_0 x8_3).f3).length c178_3) ∧ w'.cell? (ad179.add (x10_5).toNat) = some (.int .i64 (rd ((rd_T35 l0_0 x8_3).f3) x10_5)) ∧ w'.cell? (ad175.add ((rd ((rd_T35 l0_0 x8_3).f3) x10_5)).toNat) = some (.slice (some ad183) (rd_L6 x4_5 (rd ((rd_T35 l0_0 x8_3).f3) x10_5)).length c180_0) ∧ w'.cell? (ad177.add ((x9_4).toNat * 4)) = some (.int .i64 ((rd_T35 l0_0 x9_4).f0)) ∧ w'.cell? ⟨(ad177.add ((x9_4).toNat * 4)).block, (ad177.add ((x9_4).toNat * 4)).off + 1, none⟩ = some (.string ((rd_T35 l0_0 x9_4).f1)) ∧ w'.cell? ⟨(ad177.add ((x9_4).toNat * 4)).block, (ad177.add ((x9_4).toNat * 4)).off + 2, none⟩ = some (.int .i64 ((rd_T35 l0_0 x9_4).f2)) ∧ w'.cell? ⟨(ad177.add ((x9_4).toNat * 4)).block, (ad177.add ((x9_4).toNat * 4)).off + 3, none⟩ = some (.slice (some ad182) ((rd_T35 l0_0 x9_4).f3).length c181_3) ∧ w'.cell? (ad182.add (x10_5).toNat) = some (.int .i64 (rd ((rd_T35 l0_0 x9_4).f3) x10_5)) ∧ w'.cell? (ad183.add ((rd ((rd_T35 l0_0 x9_4).f3) x10_5)).toNat) = some (.bool false)) (ds := []) #[false, false, false, false, false, false, false, false, false, false, false, false, false, false, false, false, false, false, false, false, false, false, false, false] (by kernel_rfl) rfl rfl ⟨(blk_cell BK162.out 0).trans rfl, (blk_cell BK162.out 1).trans rfl, ((HB.out.cell (World.block_lt_of_cell? w _ hw178_0)).trans hw178_0), ((HB.out.cell (World.block_lt_of_cell? w _ hw178_1)).trans hw178_1), ((HB.out.cell (World.block_lt_of_cell? w _ hw178_2)).trans hw178_2), ((HB.out.cell (World.block_lt_of_cell? w _ hw178_3)).trans hw178_3), ((HB.out.cell (World.block_lt_of_cell? w _ hw179_0)).trans hw179_0), hx180_0, ((HB.out.cell (World.block_lt_of_cell? w _ hw181_0)).trans hw181_0), ((HB.out.cell (World.block_lt_of_cell? w _ hw181_1)).trans hw181_1), ((HB.out.cell (World.block_lt_of_cell? w _ hw181_2)).trans hw181_2), ((HB.out.cell (World.block_lt_of_cell? w _ hw181_3)).trans hw181_3), ((HB.out.cell (World.block_lt_of_cell? w _ hw182_0)).trans hw182_0), hx183_0⟩ (fun hHeld => ?_); refine with_tabW tendrilref05_Pairs.tab24 tendrilref05_Pairs.bits24 (fun HT_ HW_ => ?_)
                                                                        generalize wr.drew = w58 at HO_4 BK162 HB HL180_0 HR178_3 HR180_0 HR181_3 HX180_0 hx178_0 hx178_1 hx178_2 hx178_3 hx179_0 hx180_0 hx181_0 hx181_1 hx181_2 hx181_3 hx182_0 hx183_0 hHeld ⊢
                                                                        refine pure_ (i := 0) (N := some 71) (v := ?_) (a' := ?_) #[true, false, false, false, false, false, false, false, false, false, false, false, false, false, false, false, false, false, false, false, false, false, false, false] rfl rfl (any_of HT_.out (by kernel_rfl)) (fun _ _ _ h => h) (Or.inl ⟨by rfl, ?_⟩) ?_ ?_
                                                                        rotate_left
                                                                        · intro w'
                                                                          go_simp
                                                                          with_reducible rfl
                                                                        rotate_left
                                                                        · simp only [Act.put, List.setIfInBounds_toArray, List.set_cons_zero, List.set_cons_succ, i64_w, i32_w]
                                                                          rfl
                                                                        refine pure_ (i := 1) (N := some 72) (v := ?_) (a' := ?_) #[true, true, false, false, false, false, false, false, false, false, false, false, false, false, false, false, false, false, false, false, false, false, false, false] rfl rfl (any_of HT_.out (by kernel_rfl)) (fun _ _ _ h => h) (Or.inl ⟨by rfl, ?_⟩) ?_ ?_
                                                                        rotate_left
                                                                        · intro w'
                                                                          go_simp
                                                                          with_reducible rfl
                                                                        rotate_left
                                                                        · simp only [Act.put, List.setIfInBounds_toArray, List.set_cons_zero, List.set_cons_succ, i64_w, i32_w]
                                                                          rfl
                                                                        refine pure_ (i := 3) (N := some 74) (v := ?_) (a' := ?_) #[true, true, false, true, false, false, false, false, false, false, false, false, false, false, false, false, false, false, false, false, false, false, false, false] rfl rfl (any_of HT_.out (by kernel_rfl)) (fun _ _ _ h => h) (Or.inl ⟨by rfl, ?_⟩) ?_ ?_
                                                                        rotate_left
                                                                        · intro w'
                                                                          go_simp
                                                                          with_reducible rfl
                                                                        rotate_left
                                                                        · simp only [Act.put, List.setIfInBounds_toArray, List.set_cons_zero, List.set_cons_succ, i64_w, i32_w]
                                                                          rfl
                                                                        refine pure_ (i := 7) (N := some 78) (v := ?_) (a' := ?_) #[true, true, false, true, false, false, false, true, false, false, false, false, false, false, false, false, false, false, false, false, false, false, false, false] rfl rfl (any_of HT_.out (by kernel_rfl)) (fun _ _ _ h => h) (Or.inl ⟨by rfl, ?_⟩) ?_ ?_
                                                                        rotate_left
                                                                        · intro w'
                                                                          go_simp
                                                                          with_reducible rfl
                                                                        rotate_left
                                                                        · simp only [Act.put, List.setIfInBounds_toArray, List.set_cons_zero, List.set_cons_succ, i64_w, i32_w]
                                                                          rfl
                                                                        refine pure_ (i := 12) (N := some 83) (v := ?_) (a' := ?_) #[true, true, false, true, false, false, false, true, false, false, false, false, true, false, false, false, false, false, false, false, false, false, false, false] rfl rfl (any_of HT_.out (by kernel_rfl)) (fun _ _ _ h => h) (Or.inl ⟨by rfl, ?_⟩) ?_ ?_
                                                                        rotate_left
                                                                        · intro w'
                                                                          go_simp
                                                                          with_reducible rfl
                                                                        rotate_left
                                                                        · simp only [Act.put, List.setIfInBounds_toArray, List.set_cons_zero, List.set_cons_succ, i64_w, i32_w]
                                                                          rfl
                                                                        refine pure_ (i := 14) (N := some 85) (v := ?_) (a' := ?_) #[true, true, false, true, false, false, false, true, false, false, false, false, true, false, true, false, false, false, false, false, false, false, false, false] rfl rfl (any_of HT_.out (by kernel_rfl)) (fun _ _ _ h => h) (Or.inl ⟨by rfl, ?_⟩) ?_ ?_
                                                                        rotate_left
                                                                        · intro w'
                                                                          go_simp
                                                                          with_reducible rfl
                                                                        rotate_left
                                                                        · simp only [Act.put, List.setIfInBounds_toArray, List.set_cons_zero, List.set_cons_succ, i64_w, i32_w]
                                                                          rfl
                                                                        refine pure_ (i := 18) (N := some 89) (v := ?_) (a' := ?_) #[true, true, false, true, false, false, false, true, false, false, false, false, true, false, true, false, false, false, true, false, false, false, false, false] rfl rfl (any_of HT_.out (by kernel_rfl)) (fun _ _ _ h => h) (Or.inl ⟨by rfl, ?_⟩) ?_ ?_
                                                                        rotate_left
                                                                        · intro w'
                                                                          go_simp
                                                                          with_reducible rfl
                                                                        rotate_left
                                                                        · simp only [Act.put, List.setIfInBounds_toArray, List.set_cons_zero, List.set_cons_succ, i64_w, i32_w]
                                                                          rfl
                                                                        refine take_ (i := 2) (N := some 73) (v := ?_) (a' := ?_) #[true, true, true, true, false, false, false, true, false, false, false, false, true, false, true, false, false, false, true, false, false, false, false, false] rfl rfl (take_ofW HT_.out HW_.out (by kernel_rfl)) (fun _ _ _ h => h) (Or.inl ⟨by rfl, ?_⟩) hHeld ?_ ?_
                                                                        rotate_left
                                                                        · rintro w' ⟨s0, s1, s2, s3, s4, s5, s6, s7, s8, s9, s10, s11, s12, s13⟩
                                                                          go_simp
                                                                          with_reducible rfl
                                                                        rotate_left
                                                                        · simp only [Act.put, List.setIfInBounds_toArray, List.set_cons_zero, List.set_cons_succ, i64_w, i32_w]
                                                                          rfl
                                                                        refine pure_ (i := 4) (N := some 75) (v := ?_) (a' := ?_) #[true, true, true, true, true, false, false, true, false, false, false, false, true, false, true, false, false, false, true, false, false, false, false, false] rfl rfl (any_of HT_.out (by kernel_rfl)) (fun _ _ _ h => h) (Or.inl ⟨by rfl, ?_⟩) ?_ ?_
                                                                        rotate_left
                                                                        · intro w'
                                                                          go_simp
                                                                          with_reducible rfl
                                                                        rotate_left
                                                                        · simp only [Act.put, List.setIfInBounds_toArray, List.set_cons_zero, List.set_cons_succ, i64_w, i32_w]
                                                                          rfl
                                                                        refine pure_ (i := 5) (N := some 76) (v := ?_) (a' := ?_) #[true, true, true, true, true, true, false, true, false, false, false, false, true, false, true, false, false, false, true, false, false, false, false, false] rfl rfl (any_of HT_.out (by kernel_rfl)) (fun _ _ _ h => h) (Or.inl ⟨by rfl, ?_⟩) ?_ ?_
                                                                        rotate_left
                                                                        · intro w'
                                                                          go_simp
                                                                          with_reducible rfl
                                                                        rotate_left
                                                                        · simp only [Act.put, List.setIfInBounds_toArray, List.set_cons_zero, List.set_cons_succ, i64_w, i32_w]
                                                                          rfl
                                                                        refine take_ (i := 6) (N := some 77) (v := ?_) (a' := ?_) #[true, true, true, true, true, true, true, true, false, false, false, false, true, false, true, false, false, false, true, false, false, false, false, false] rfl rfl (take_ofW HT_.out HW_.out (by kernel_rfl)) (fun _ _ _ h => h) (Or.inl ⟨by rfl, ?_⟩) hHeld ?_ ?_
                                                                        rotate_left
                                                                        · rintro w' ⟨s0, s1, s2, s3, s4, s5, s6, s7, s8, s9, s10, s11, s12, s13⟩
                                                                          go_simp
                                                                          with_reducible rfl
                                                                        rotate_left
                                                                        · simp only [Act.put, List.setIfInBounds_toArray, List.set_cons_zero, List.set_cons_succ, i64_w, i32_w]
                                                                          rfl
                                                                        refine pure_ (i := 8) (N := some 79) (v := ?_) (a' := ?_) #[true, true, true, true, true, true, true, true, true, false, false, false, true, false, true, false, false, false, true, false, false, false, false, false] rfl rfl (any_of HT_.out (by kernel_rfl)) (fun _ _ _ h => h) (Or.inl ⟨by rfl, ?_⟩) ?_ ?_
                                                                        rotate_left
                                                                        · intro w'
                                                                          go_simp
                                                                          with_reducible rfl
                                                                        rotate_left
                                                                        · simp only [Act.put, List.setIfInBounds_toArray, List.set_cons_zero, List.set_cons_succ, i64_w, i32_w]
                                                                          rfl
                                                                        refine take_ (i := 9) (N := some 80) (v := ?_) (a' := ?_) #[true, true, true, true, true, true, true, true, true, true, false, false, true, false, true, false, false, false, true, false, false, false, false, false] rfl rfl (take_ofW HT_.out HW_.out (by kernel_rfl)) (fun _ _ _ h => h) (Or.inl ⟨by rfl, ?_⟩) hHeld ?_ ?_
                                                                        rotate_left
                                                                        · rintro w' ⟨s0, s1, s2, s3, s4, s5, s6, s7, s8, s9, s10, s11, s12, s13⟩
                                                                          go_simp
                                                                          with_reducible rfl
                                                                        rotate_left
                                                                        · simp only [Act.put, List.setIfInBounds_toArray, List.set_cons_zero, List.set_cons_succ, i64_w, i32_w]
                                                                          rfl
                                                                        refine pure_ (i := 10) (N := some 81) (v := ?_) (a' := ?_) #[true, true, true, true, true, true, true, true, true, true, true, false, true, false, true, false, false, false, true, false, false, false, false, false] rfl rfl (any_of HT_.out (by kernel_rfl)) (fun _ _ _ h => h) (Or.inl ⟨by rfl, ?_⟩) ?_ ?_
                                                                        rotate_left
                                                                        · intro w'
                                                                          go_simp
                                                                          with_reducible rfl
                                                                        rotate_left
                                                                        · simp only [Act.put, List.setIfInBounds_toArray, List.set_cons_zero, List.set_cons_succ, i64_w, i32_w]
                                                                          rfl
                                                                        refine take_ (i := 11) (N := some 82) (v := ?_) (a' := ?_) #[true, true, true, true, true, true, true, true, true, true, true, true, true, false, true, false, false, false, true, false, false, false, false, false] rfl rfl (take_ofW HT_.out HW_.out (by kernel_rfl)) (fun _ _ _ h => h) (Or.inl ⟨by rfl, ?_⟩) hHeld ?_ ?_
                                                                        rotate_left
                                                                        · rintro w' ⟨s0, s1, s2, s3, s4, s5, s6, s7, s8, s9, s10, s11, s12, s13⟩
                                                                          go_simp
                                                                          with_reducible rfl
                                                                        rotate_left
                                                                        · simp only [Act.put, List.setIfInBounds_toArray, List.set_cons_zero, List.set_cons_succ, i64_w, i32_w]
                                                                          rfl
                                                                        refine take_ (i := 13) (N := some 84) (v := ?_) (a' := ?_) #[true, true, true, true, true, true, true, true, true, true, true, true, true, true, true, false, false, false, true, false, false, false, false, false] rfl rfl (take_ofW HT_.out HW_.out (by kernel_rfl)) (fun _ _ _ h => h) (Or.inl ⟨by rfl, ?_⟩) hHeld ?_ ?_
                                                                        rotate_left
                                                                        · rintro w' ⟨s0, s1, s2, s3, s4, s5, s6, s7, s8, s9, s10, s11, s12, s13⟩
                                                                          go_simp
                                                                          with_reducible rfl
                                                                        rotate_left
                                                                        · simp only [Act.put, List.setIfInBounds_toArray, List.set_cons_zero, List.set_cons_succ, i64_w, i32_w]
                                                                          rfl
                                                                        refine pure_ (i := 15) (N := some 86) (v := ?_) (a' := ?_) #[true, true, true, true, true, true, true, true, true, true, true, true, true, true, true, true, false, false, true, false, false, false, false, false] rfl rfl (any_of HT_.out (by kernel_rfl)) (fun _ _ _ h => h) (Or.inl ⟨by rfl, ?_⟩) ?_ ?_
                                                                        rotate_left
                                                                        · intro w'
                                                                          go_simp
                                                                          with_reducible rfl
                                                                        rotate_left
                                                                        · simp only [Act.put, List.setIfInBounds_toArray, List.set_cons_zero, List.set_cons_succ, i64_w, i32_w]
                                                                          rfl
                                                                        refine pure_ (i := 16) (N := some 87) (v := ?_) (a' := ?_) #[true, true, true, true, true, true, true, true, true, true, true, true, true, true, true, true, true, false, true, false, false, false, false, false] rfl rfl (any_of HT_.out (by kernel_rfl)) (fun _ _ _ h => h) (Or.inl ⟨by rfl, ?_⟩) ?_ ?_
                                                                        rotate_left
                                                                        · intro w'
                                                                          go_simp
                                                                          with_reducible rfl
                                                                        rotate_left
                                                                        · simp only [Act.put, List.setIfInBounds_toArray, List.set_cons_zero, List.set_cons_succ, i64_w, i32_w]
                                                                          rfl
                                                                        refine take_ (i := 17) (N := some 88) (v := ?_) (a' := ?_) #[true, true, true, true, true, true, true, true, true, true, true, true, true, true, true, true, true, true, true, false, false, false, false, false] rfl rfl (take_ofW HT_.out HW_.out (by kernel_rfl)) (fun _ _ _ h => h) (Or.inl ⟨by rfl, ?_⟩) hHeld ?_ ?_
                                                                        rotate_left
                                                                        · rintro w' ⟨s0, s1, s2, s3, s4, s5, s6, s7, s8, s9, s10, s11, s12, s13⟩
                                                                          go_simp
                                                                          with_reducible rfl
                                                                        rotate_left
                                                                        · simp only [Act.put, List.setIfInBounds_toArray, List.set_cons_zero, List.set_cons_succ, i64_w, i32_w]
                                                                          rfl
                                                                        refine pure_ (i := 19) (N := some 90) (v := ?_) (a' := ?_) #[true, true, true, true, true, true, true, true, true, true, true, true, true, true, true, true, true, true, true, true, false, false, false, false] rfl rfl (any_of HT_.out (by kernel_rfl)) (fun _ _ _ h => h) (Or.inl ⟨by rfl, ?_⟩) ?_ ?_
                                                                        rotate_left
                                                                        · intro w'
                                                                          go_simp
                                                                          with_reducible rfl
                                                                        rotate_left
                                                                        · simp only [Act.put, List.setIfInBounds_toArray, List.set_cons_zero, List.set_cons_succ, i64_w, i32_w]
                                                                          rfl
                                                                        refine take_ (i := 20) (N := some 91) (v := ?_) (a' := ?_) #[true, true, true, true, true, true, true, true, true, true, true, true, true, true, true, true, true, true, true, true, true, false, false, false] rfl rfl (take_ofW HT_.out HW_.out (by kernel_rfl)) (fun _ _ _ h => h) (Or.inl ⟨by rfl, ?_⟩) hHeld ?_ ?_
                                                                        rotate_left
                                                                        · rintro w' ⟨s0, s1, s2, s3, s4, s5, s6, s7, s8, s9, s10, s11, s12, s13⟩
                                                                          go_simp
                                                                          with_reducible rfl
                                                                        rotate_left
                                                                        · simp only [Act.put, List.setIfInBounds_toArray, List.set_cons_zero, List.set_cons_succ, i64_w, i32_w]
                                                                          rfl
                                                                        refine pure_ (i := 21) (N := some 92) (v := ?_) (a' := ?_) #[true, true, true, true, true, true, true, true, true, true, true, true, true, true, true, true, true, true, true, true, true, true, false, false] rfl rfl (any_of HT_.out (by kernel_rfl)) (fun _ _ _ h => h) (Or.inl ⟨by rfl, ?_⟩) ?_ ?_
                                                                        rotate_left
                                                                        · intro w'
                                                                          go_simp
                                                                          with_reducible rfl
                                                                        rotate_left
                                                                        · simp only [Act.put, List.setIfInBounds_toArray, List.set_cons_zero, List.set_cons_succ, i64_w, i32_w]
                                                                          rfl
                                                                        refine take_ (i := 22) (N := some 93) (v := ?_) (a' := ?_) #[true, true, true, true, true, true, true, true, true, true, true, true, true, true, true, true, true, true, true, true, true, true, true, false] rfl rfl (take_ofW HT_.out HW_.out (by kernel_rfl)) (fun _ _ _ h => h) (Or.inl ⟨by rfl, ?_⟩) hHeld ?_ ?_
                                                                        rotate_left
                                                                        · rintro w' ⟨s0, s1, s2, s3, s4, s5, s6, s7, s8, s9, s10, s11, s12, s13⟩
                                                                          go_simp
                                                                          with_reducible rfl
                                                                        rotate_left
                                                                        · simp only [Act.put, List.setIfInBounds_toArray, List.set_cons_zero, List.set_cons_succ, i64_w, i32_w]
                                                                          rfl
                                                                        refine pure_ (i := 23) (N := some 94) (v := ?_) (a' := ?_) #[true, true, true, true, true, true, true, true, true, true, true, true, true, true, true, true, true, true, true, true, true, true, true, true] rfl rfl (any_of HT_.out (by kernel_rfl)) (fun _ _ _ h => h) (Or.inl ⟨by rfl, ?_⟩) ?_ ?_
                                                                        rotate_left
                                                                        · intro w'
                                                                          go_simp
                                                                          with_reducible rfl
                                                                        rotate_left
                                                                        · simp only [Act.put, List.setIfInBounds_toArray, List.set_cons_zero, List.set_cons_succ, i64_w, i32_w]
                                                                          rfl
                                                                        refine done_ (done_of HT_.out (by kernel_rfl)) ?_
                                                                        have p184 : 0 ≤ (x8_3 : Int) := of_decide_eq_true (by first | (with_reducible assumption) | assumption)
                                                                        have q184 : x8_3 < (x4_5.length : Int) := of_decide_eq_true (by first | (with_reducible assumption) | assumption)
                                                                        obtain ⟨ad184, A184_0, c184_0, e184, hx184_0, hl184_0, hi184_0⟩ := at_L6 (Kd.S_reads' HO_4.out).2.2 x8_3 p184 q184
                                                                        obtain rfl : ad175 = ad184 := (by injection e184)
                                                                        obtain ⟨ce184, hce184, hMe184, hcc184⟩ := Kd.S_get HO_4.out [] x8_3 p184 (by first | exact q184 | exact of_decide_eq_true (by first | (with_reducible assumption) | assumption) | (have e_ := (Kd.S_reads' HO_4.out).1; omega))
                                                                        obtain ⟨ve184_0, rfl, ge184_0⟩ := hMe184
                                                                        have hv184_0 := hcc184 0 _ rfl
                                                                        rw [Nat.add_zero, show ((Kd.slice 4 Kd.bool)).sz = 1 from rfl, Nat.mul_one] at hv184_0
                                                                        replace hv184_0 := Option.some.inj (hv184_0.symm.trans hx184_0)
                                                                        rw [hv184_0] at ge184_0
                                                                        have HL184_0 := Aside0.mk (show Kd.R Kd.bool 4 _ _ _ _ (rd_L6 x4_5 x8_3) from ge184_0)
                                                                        clear hv184_0 ge184_0
                                                                        have HX184_0 := Aside0.mk hx184_0
                                                                        clear hcc184 hce184
                                                                        have HR184_0 := Aside0.mk hi184_0
                                                                        have HC184_0 := Aside0.mk hl184_0
                                                                        clear hi184_0 hl184_0
                                                                        replace p184 := eq_true p184
                                                                        replace q184 := eq_true q184
                                                                        have p56 : 0 ≤ (x9_4 : Int) := of_decide_eq_true (by first | (with_reducible assumption) | assumption)
                                                                        have q56 : (x9_4 : Int) < (((rd_L6 x4_5 x8_3).length : Int) : Int) := of_decide_eq_true (by first | (with_reducible assumption) | assumption)
                                                                        obtain ⟨go56, co56, eo56, gb56, gl56, cl56, HG56⟩ := Kd.R_form HL184_0.out (by omega)
                                                                        (first | cases eo56 | (injection eo56 with ea_ en_ ec_; (first | subst ea_ | (injection ea_ with ea_; subst ea_)); subst ec_; clear en_))
                                                                        have GB56 := Aside0.mk gb56
                                                                        have GG56 := Aside0.mk HG56
                                                                        clear gb56 gl56 HG56
                                                                        obtain ⟨hx56_0, hf56_0⟩ := Kd.R_celln false HL184_0.out (x9_4 : Int) p56 q56
                                                                        replace p56 := eq_true p56
                                                                        replace q56 := eq_true q56
                                                                        have hq59 : (x8_3 : Int) < (x4_5.length : Int) := (by have h_ : (x8_3 : Int) < ((x4_5.length : Int) : Int) := of_decide_eq_true (by first | (with_reducible assumption) | assumption); first | exact h_ | (have e_ := (Kd.S_reads' HO_4.out).1; omega) | simpa only [List.length_set, List.length_set] using h_)
                                                                        obtain ⟨oki59, ce59, hcl59, hM59, hcc59, hok59, hbk59⟩ := Kd.S_borrow HO_4.out [] (x8_3 : Int) (of_decide_eq_true (by first | (with_reducible assumption) | assumption)) hq59
                                                                        obtain ⟨ve59_0, rfl, ge59_0⟩ := hM59
                                                                        have hv59 := hcc59 0 _ rfl
                                                                        rw [Nat.add_zero, show ((Kd.slice 4 Kd.bool)).sz = 1 from rfl, Nat.mul_one] at hv59
                                                                        replace hv59 := Option.some.inj (hv59.symm.trans HX184_0.out)
                                                                        subst hv59
                                                                        clear hcc59 hcl59
                                                                        replace ge59_0 := (show Kd.R Kd.bool 4 _ _ _ _ (rd_L6 x4_5 x8_3) from ge59_0)
                                                                        have HP59 := Kd.R_putg ge59_0 (x9_4 : Int) false
                                                                        try go_wp2_with (first | ((with_reducible refine gate_store (t := 4) (p := 100) rfl ?_); refine store_event (t := 4) (p := 100) (v := ?vo_w60) (w1 := (w58.setCell ⟨go56, (x9_4 : Int).toNat, none⟩ (.bool false))) ?hg ?ho ?hn ?hr ?_; (case ho => rfl); (case hg => rfl); (case hn => rfl); (case hr => first | (go_simp; done) | (go_simp; rfl)); intro w60 hw; have hg : w58.grownBy w60 (some go56) := (by rw [hw]; exact HP59.2); have hz_ : Kd.R Kd.bool 4 w60 w.heap.size oki59 (.slice (some ⟨go56, 0, none⟩) (rd_L6 x4_5 x8_3).length c184_0) y185 := (by rw [hw, Ny185.out]; exact HP59.1); have hp_ : Kd.S (Kd.slice 4 Kd.bool) 76 w60 w.heap.size (fun _ => True) (.slice (some ad175) x4_5.length co38) y187 := (by rw [Ny187.out]; exact hbk59 hg (fun k_ e_ => by injection e_ with e_; subst e_; exact ge59_0.1 _ rfl) (Kd.M_row hz_)); have hm_ := Kd.R_mono hz_ hok59; clear HP59 hbk59; have n0_ := Aside0.mk (hp_); have n1_ := Aside0.mk (blk_grown (g := gb162) (o := .cells #[.slice (some ad177) l0_0.length c0_0, .slice A0_1 l0_1.length c0_1] 25 (0, 0)) (by (with_reducible repeat (first | refine blk_drewN ?_ _ | refine blk_drew ?_ | refine blk_alloc ?_ _)); exact BK162.out) hg (Kd.R_ne HL184_0.out BK162.out (by decide))); have n2_ := Aside0.mk ((by rw [hw]; exact below_set (HB.out) GB56.out : Below w.heap.size w w60)); have n3_ := Aside0.mk (hm_); have n4_ := Aside0.mk ((Kd.R_reads' hm_).2.1); clear HO_4; clear BK162; clear HB; clear HL180_0; clear HL184_0; have HO_4 := n0_; have BK162 := n1_; have HB := n2_; have HL188 := n3_; have HC186 := n4_; clear n0_ n1_ n2_ n3_ n4_; clear hg hw hp_ hz_ hm_ hok59))
                                                                        (try simp only [← hl4_5])
                                                                        go_roundg k5
                                                                        case measure => have := HK1.out; have := HK2.out; have := HK3.out; have := HK4.out; have := HK5.out; omega
                                                                        case rel => exact ⟨(y187), (true), (wrap64 (x10_5 + 1)), (by first | rfl | (simp; done) | (simp [*]; done)), (by first | rfl | (simp; done) | (simp [*]; done)), H', ⟨by have := HK1.out; have := HK2.out; have := HK3.out; have := HK4.out; have := HK5.out; omega⟩, ⟨by (try simp only [hl4_5]); (with_reducible repeat (first | apply Kd.S_alloc | apply Kd.S_drewN | apply Kd.S_drew)); exact HO_4.out⟩, ⟨by (try simp only [hl4_5]); (with_reducible repeat (first | refine blk_drewN ?_ _ | refine blk_drew ?_ | refine blk_alloc ?_ _)); exact BK162.out⟩, ⟨by repeat (first | (with_reducible first | exact HB.out | apply below_alloc | apply pw_below_drewN | apply below_drew1 | refine below_set ?_ GE162.out) | exact HB.out)⟩⟩
                                                                      · rw [if_neg c55] at H
                                                                        exact absurd H (by simp)
                                                                    · rw [if_neg c54] at H
                                                                      exact absurd H (by simp)
                                                                · rw [if_neg c49] at H
                                                                  exact absurd H (by simp)
                                                              · rw [if_neg c48] at H
                                                                exact absurd H (by simp)
                                                            · rw [if_neg c47] at H
                                                              exact absurd H (by simp)
                                                          · rw [if_neg c46] at H
                                                            exact absurd H (by simp)
                                                        · rw [if_neg c45] at H
                                                          exact absurd H (by simp)
                                                      · rw [if_neg c44] at H
                                                        exact absurd H (by simp)
                                                    · rw [if_neg c43] at H
                                                      exact absurd H (by simp)
                                                  · rw [if_neg c42] at H
                                                    exact absurd H (by simp)
                                                · rw [if_neg c41] at H
                                                  have c41b0 : decide (x10_5 < (((rd_T35 l0_0 x8_3).f3).length : Int)) = false := decide_eq_false c41
                                                  clear c41
                                                  have H' := Aside0.mk H
                                                  clear H
                                                  have hcz61_0 : wr.cell? ⟨gb162, 0, none⟩ = some (.slice A0_0 l0_0.length c0_0) := (blk_cell BK162.out 0).trans rfl
                                                  have hcz61_1 : wr.cell? ⟨gb162, 1, none⟩ = some (.slice A0_1 l0_1.length c0_1) := (blk_cell BK162.out 1).trans rfl
                                                  have hfz61_0 := blk_frozen BK162.out 0
                                                  have hfz61_1 := blk_frozen BK162.out 1
                                                  have p177 : 0 ≤ (x8_3 : Int) := of_decide_eq_true (by first | (with_reducible assumption) | assumption)
                                                  have q177 : x8_3 < (l0_0.length : Int) := of_decide_eq_true (by first | (with_reducible assumption) | assumption)
                                                  obtain ⟨ad177, A177_3, c177_3, e177, hx177_0, hx177_1, hx177_2, hx177_3, hl177_3, hi177_3⟩ := at_T35 HR0_0.out x8_3 p177 q177
                                                  cases e177
                                                  replace hx177_0 := (HB.out.cell (World.block_lt_of_cell? w _ hx177_0)).trans hx177_0
                                                  replace hx177_1 := (HB.out.cell (World.block_lt_of_cell? w _ hx177_1)).trans hx177_1
                                                  replace hx177_2 := (HB.out.cell (World.block_lt_of_cell? w _ hx177_2)).trans hx177_2
                                                  replace hx177_3 := (HB.out.cell (World.block_lt_of_cell? w _ hx177_3)).trans hx177_3
                                                  have HR177_3 := Aside0.mk hi177_3
                                                  have HC177_3 := Aside0.mk hl177_3
                                                  clear hi177_3 hl177_3
                                                  replace p177 := eq_true p177
                                                  replace q177 := eq_true q177
                                                  go_wp2
                                                  (try simp only [← hl4_5])
                                                  go_roundg k5
                                                  case measure => have := HK1.out; have := HK2.out; have := HK3.out; have := HK4.out; have := HK5.out; omega
                                                  case rel => exact ⟨(x4_5), (x7_5), (wrap64 (x9_4 + 1)), (by first | rfl | (simp; done) | (simp [*]; done)), (by first | rfl | (simp; done) | (simp [*]; done)), H', ⟨by have := HK1.out; have := HK2.out; have := HK3.out; have := HK4.out; have := HK5.out; omega⟩, ⟨by (try simp only [hl4_5]); (with_reducible repeat (first | apply Kd.S_alloc | apply Kd.S_drewN | apply Kd.S_drew)); exact HO_4.out⟩, ⟨by (try simp only [hl4_5]); (with_reducible repeat (first | refine blk_drewN ?_ _ | refine blk_drew ?_ | refine blk_alloc ?_ _)); exact BK162.out⟩, ⟨by repeat (first | (with_reducible first | exact HB.out | apply below_alloc | apply pw_below_drewN | apply below_drew1 | refine below_set ?_ GE162.out) | exact HB.out)⟩⟩
                                              · rw [if_neg c40] at H
                                                exact absurd H (by simp)
                                            · rw [if_neg c39] at H
                                              exact absurd H (by simp)
                                      · replace c37 := Bool.eq_false_iff.mpr c37
                                        subst c37
                                        have H1 : (tendrilref05_Pairs.l4 k4 (l0_0.length : Int) x4_4 x7_4 x8_3 (wrap64 (x9_4 + 1)) l0_0 l0_1) = some r := by rw [if_neg (show ¬ (false = true) by decide)] at H; exact H
                                        clear H
                                        have H := H1
                                        clear H1
                                        have H' := Aside0.mk H
                                        clear H
                                        obtain ⟨Ao62, co62, eo62⟩ := Kd.S_slice HO_4.out
                                        subst eo62
                                        have p175 : 0 ≤ (x8_3 : Int) := of_decide_eq_true (by first | (with_reducible assumption) | assumption)
                                        have q175 : x8_3 < (x4_4.length : Int) := of_decide_eq_true (by first | (with_reducible assumption) | assumption)
                                        obtain ⟨ad175, A175_0, c175_0, e175, hx175_0, hl175_0, hi175_0⟩ := at_L6 (Kd.S_reads' HO_4.out).2.2 x8_3 p175 q175
                                        cases e175
                                        obtain ⟨ce175, hce175, hMe175, hcc175⟩ := Kd.S_get HO_4.out [] x8_3 p175 (by first | exact q175 | exact of_decide_eq_true (by first | (with_reducible assumption) | assumption) | (have e_ := (Kd.S_reads' HO_4.out).1; omega))
                                        obtain ⟨ve175_0, rfl, ge175_0⟩ := hMe175
                                        have hv175_0 := hcc175 0 _ rfl
                                        rw [Nat.add_zero, show ((Kd.slice 4 Kd.bool)).sz = 1 from rfl, Nat.mul_one] at hv175_0
                                        replace hv175_0 := Option.some.inj (hv175_0.symm.trans hx175_0)
                                        rw [hv175_0] at ge175_0
                                        have HL175_0 := Aside0.mk (show Kd.R Kd.bool 4 _ _ _ _ (rd_L6 x4_4 x8_3) from ge175_0)
                                        clear hv175_0 ge175_0
                                        have HX175_0 := Aside0.mk hx175_0
                                        clear hcc175 hce175
                                        have HR175_0 := Aside0.mk hi175_0
                                        have HC175_0 := Aside0.mk hl175_0
                                        clear hi175_0 hl175_0
                                        replace p175 := eq_true p175
                                        replace q175 := eq_true q175
                                        have p176 : 0 ≤ (x9_4 : Int) := of_decide_eq_true (by first | (with_reducible assumption) | assumption)
                                        have q176 : x9_4 < ((rd_L6 x4_4 x8_3).length : Int) := of_decide_eq_true (by first | (with_reducible assumption) | assumption)
                                        obtain ⟨ad176, e176, hx176_0⟩ := Kd.at_bool (by repeat (first | (with_reducible exact HR175_0.out) | (with_reducible refine Kd.C_alloc ?_ _) | (with_reducible refine Kd.C_drewN ?_ _) | (with_reducible refine Kd.C_drew ?_) | exact HR175_0.out)) x9_4 p176 q176
                                        (try rw [← Nbq36.out] at hx176_0)
                                        cases e176
                                        replace p176 := eq_true p176
                                        replace q176 := eq_true q176
                                        go_wp2
                                        go_roundg k4
                                        case measure => have := HK1.out; have := HK2.out; have := HK3.out; have := HK4.out; omega
                                        case rel => exact ⟨(x4_4), (x7_4), (wrap64 (x9_4 + 1)), (by first | rfl | (simp; done) | (simp [*]; done)), (by first | rfl | (simp; done) | (simp [*]; done)), H', ⟨by have := HK1.out; have := HK2.out; have := HK3.out; have := HK4.out; omega⟩, ⟨by (with_reducible repeat (first | apply Kd.S_alloc | apply Kd.S_drewN | apply Kd.S_drew)); exact HO_4.out⟩, ⟨by (with_reducible repeat (first | refine blk_drewN ?_ _ | refine blk_drew ?_ | refine blk_alloc ?_ _)); exact BK162.out⟩, ⟨by repeat (first | (with_reducible first | exact HB.out | apply below_alloc | apply pw_below_drewN | apply below_drew1 | refine below_set ?_ GE162.out) | exact HB.out)⟩⟩
                                    · rw [if_neg c35] at H
                                      exact absurd H (by simp)
                                  · rw [if_neg c34] at H
                                    exact absurd H (by simp)
                                · rw [if_neg c33] at H
                                  exact absurd H (by simp)
                              · rw [if_neg c32] at H
                                exact absurd H (by simp)
                            · rw [if_neg c31] at H
                              have c31b0 : decide (x9_4 < (l0_0.length : Int)) = false := decide_eq_false c31
                              clear c31
                              have H' := Aside0.mk H
                              clear H
                              go_wp2
                              go_roundg k4
                              case measure => have := HK1.out; have := HK2.out; have := HK3.out; have := HK4.out; omega
                              case rel => exact ⟨(x4_4), (x7_4), (wrap64 (x8_3 + 1)), (by first | rfl | (simp; done) | (simp [*]; done)), (by first | rfl | (simp; done) | (simp [*]; done)), H', ⟨by have := HK1.out; have := HK2.out; have := HK3.out; have := HK4.out; omega⟩, ⟨by (with_reducible repeat (first | apply Kd.S_alloc | apply Kd.S_drewN | apply Kd.S_drew)); exact HO_4.out⟩, ⟨by (with_reducible repeat (first | refine blk_drewN ?_ _ | refine blk_drew ?_ | refine blk_alloc ?_ _)); exact BK162.out⟩, ⟨by repeat (first | (with_reducible first | exact HB.out | apply below_alloc | apply pw_below_drewN | apply below_drew1 | refine below_set ?_ GE162.out) | exact HB.out)⟩⟩
                      · rw [if_neg c30] at H
                        have c30b0 : decide (x8_3 < (l0_0.length : Int)) = false := decide_eq_false c30
                        clear c30
                        have H' := Aside0.mk H
                        clear H
                        go_wp2
                        go_roundg k3
                        case measure => have := HK1.out; have := HK2.out; have := HK3.out; omega
                        case rel => exact ⟨(x4_3), (x7_3), (by first | rfl | (simp; done) | (simp [*]; done)), H', ⟨by have := HK1.out; have := HK2.out; have := HK3.out; omega⟩, ⟨by (with_reducible repeat (first | apply Kd.S_alloc | apply Kd.S_drewN | apply Kd.S_drew)); exact HO_4.out⟩, ⟨by (with_reducible repeat (first | refine blk_drewN ?_ _ | refine blk_drew ?_ | refine blk_alloc ?_ _)); exact BK162.out⟩, ⟨by repeat (first | (with_reducible first | exact HB.out | apply below_alloc | apply pw_below_drewN | apply below_drew1 | refine below_set ?_ GE162.out) | exact HB.out)⟩⟩
                · replace c29 := Bool.eq_false_iff.mpr c29
                  subst c29
                  have H1 : (some x4_2) = some r := by rw [if_neg (show ¬ (false = true) by decide)] at H; exact H
                  clear H
                  have H := H1
                  clear H1
                  obtain rfl := Option.some.inj H
                  go_wp2
                  go_ret
                  exact ⟨_, by first | rfl | (simp [errW_none, errW_some] <;> rfl) | (simp [*, errW_none, errW_some] <;> rfl), by (with_reducible repeat (first | apply Kd.S_alloc | apply Kd.S_drewN | apply Kd.S_drew)); exact HO_4.out, by repeat (first | (with_reducible first | exact HB.out | apply below_alloc | apply pw_below_drewN | apply below_drew1 | refine below_set ?_ GE162.out) | exact HB.out)⟩
    · rw [if_neg c3] at H
      exact absurd H (by simp)
  · rw [if_neg c2] at H
    exact absurd H (by simp)

end Go.Proofs.YtciniaabmjoiiaaDoor.PRef
