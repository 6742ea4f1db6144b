-- PRINTED by print.py (a twelfth state) out of the translation. Not trusted: Lean checks it.
import Derived.Test.YtpmnkabggljpkaaDoorPRefx0
namespace Go.Proofs.YtpmnkabggljpkaaDoor.PRef
open Go.RowKit Go.Proofs.YtpmnkabggljpkaaDoorW.PrintWords Go.Proofs.YtpmnkabggljpkaaDoorW.PrintLast Go.Proofs.YtpmnkabggljpkaaDoorW.PrintMore
attribute [local go_sem] max2_int min2_int max_two min_two max_three min_three max_four min_four   -- for this text's walks alone
set_option linter.unusedVariables false
set_option linter.unusedSimpArgs false

/-! ### tendrilref01_Tag: function 23 -/
def tendrilref01_Tag.f (a0 : Int) : Option (Int) := some (wrap64 (Int.tmod a0 8))
set_option maxHeartbeats 8000000 in
set_option maxRecDepth 100000 in
theorem tendrilref01_Tag.calls (a0 : Int) (r : Int) (w : World) (h : tendrilref01_Tag.f a0 = some r) :
    Calls Tryd.prog 23 #[.int .u64 a0] w fun e w' => e = .returned (.int .i64 r) ∧ Drawn0 w w' := by
  have H : (some (wrap64 (Int.tmod a0 8))) = some r := h
  clear h
  obtain rfl := Option.some.inj H
  go_enter Tryd.func23, Tryd.ntmps23
  go_wp2
  go_ret
  exact ⟨by first | rfl | (simp; done) | (simp [*]; done), by repeat (first | exact Drawn0.refl _ | apply Drawn0.step)⟩

/-! ### tendrilref01_Value: function 24 -/
def tendrilref01_Value.f (a0 : Int) : Option (Int) := if (Int.tmod (wrap64 (a0)) 8) < 0 then (some (wrap64 ((wrap64 (Int.tdiv (wrap64 (a0)) 8)) - 1))) else (some (wrap64 (Int.tdiv (wrap64 (a0)) 8)))
set_option maxHeartbeats 8000000 in
set_option maxRecDepth 100000 in
theorem tendrilref01_Value.calls (a0 : Int) (r : Int) (w : World) (h : tendrilref01_Value.f a0 = some r) :
    Calls Tryd.prog 24 #[.int .u64 a0] w fun e w' => e = .returned (.int .i64 r) ∧ Drawn0 w w' := by
  have H : (if (Int.tmod (wrap64 (a0)) 8) < 0 then (some (wrap64 ((wrap64 (Int.tdiv (wrap64 (a0)) 8)) - 1))) else (some (wrap64 (Int.tdiv (wrap64 (a0)) 8)))) = some r := h
  clear h
  by_cases c2 : (Int.tmod (wrap64 (a0)) 8) < 0
  · rw [if_pos c2] at H
    have c2b0 : decide ((Int.tmod (wrap64 (a0)) 8) < 0) = true := decide_eq_true c2
    clear c2
    obtain rfl := Option.some.inj H
    go_enter Tryd.func24, Tryd.ntmps24
    go_wp2
    go_ret
    exact ⟨by first | rfl | (simp; done) | (simp [*]; done), by repeat (first | exact Drawn0.refl _ | apply Drawn0.step)⟩
  · rw [if_neg c2] at H
    have c2b0 : decide ((Int.tmod (wrap64 (a0)) 8) < 0) = false := decide_eq_false c2
    clear c2
    obtain rfl := Option.some.inj H
    go_enter Tryd.func24, Tryd.ntmps24
    go_wp2
    go_ret
    exact ⟨by first | rfl | (simp; done) | (simp [*]; done), by repeat (first | exact Drawn0.refl _ | apply Drawn0.step)⟩

/-! ### tendrilref01_place: function 45 -/
def tendrilref01_place.f (a0 : Int) : Option (Bool) := if a0 ≥ 0 then (some (decide (a0 < 65536))) else (some false)
set_option maxHeartbeats 8000000 in
set_option maxRecDepth 100000 in
theorem tendrilref01_place.calls (a0 : Int) (r : Bool) (w : World) (h : tendrilref01_place.f a0 = some r) :
    Calls Tryd.prog 45 #[.int .i64 a0] w fun e w' => e = .returned (.bool r) ∧ Drawn0 w w' := by
  have H : (if a0 ≥ 0 then (some (decide (a0 < 65536))) else (some false)) = some r := h
  clear h
  by_cases c2 : a0 ≥ 0
  · rw [if_pos c2] at H
    have c2b0 : decide (0 ≤ a0) = true := decide_eq_true c2
    clear c2
    obtain rfl := Option.some.inj H
    go_enter Tryd.func45, Tryd.ntmps45
    go_wp2
    go_ret
    exact ⟨by first | rfl | (simp; done) | (simp [*]; done), by repeat (first | exact Drawn0.refl _ | apply Drawn0.step)⟩
  · rw [if_neg c2] at H
    have c2b0 : decide (0 ≤ a0) = false := decide_eq_false c2
    clear c2
    obtain rfl := Option.some.inj H
    go_enter Tryd.func45, Tryd.ntmps45
    go_wp2
    go_ret
    exact ⟨by first | rfl | (simp; done) | (simp [*]; done), by repeat (first | exact Drawn0.refl _ | apply Drawn0.step)⟩

/-! ### tendrilref01_fits: function 34 -/
def tendrilref01_fits.j0 : Nat → Int → Int → Bool → Option (Bool)
  | 0, _, _, _ => none
  | k + 1, x1, x5, x6 => if x6 = true then ((tendrilref01_place.f x1).bind fun t101 => (some t101)) else (if x5 = 1 then (if x1 ≥ 0 then (some (decide (x1 < 1024))) else (some false)) else (if x5 = 2 then (if x1 ≥ (-1125899906842624) then (some (decide (x1 ≤ 1125899906842624))) else (some false)) else (if x5 = 4 then (if x1 ≥ 0 then (if (wrap64 (Int.tdiv x1 16)) < 1024 then (if (Int.tmod x1 16) ≥ 1 then (some (decide ((Int.tmod x1 16) ≤ 8))) else (some false)) else (some false)) else (some false)) else (some false))))
def tendrilref01_fits.f (k : Nat) (a0 : Int) (a1 : Int) : Option (Bool) := if a0 = 0 then (tendrilref01_fits.j0 k a1 a0 (a0 == 0)) else (if a0 = 3 then (tendrilref01_fits.j0 k a1 a0 (a0 == 3)) else (tendrilref01_fits.j0 k a1 a0 (a0 == 5)))
theorem tendrilref01_fits.mono_l : ∀ k, (∀ y0 y1 y2, LeO (tendrilref01_fits.j0 k y0 y1 y2) (tendrilref01_fits.j0 (k + 1) y0 y1 y2))
  | 0 => fun _ _ _ r h => by simp [tendrilref01_fits.j0] at h
  | k + 1 => by
    have ih0 := tendrilref01_fits.mono_l k
    · intro y0 y1 y2
      unfold tendrilref01_fits.j0
      repeat' first
      | (with_reducible exact ih0 _ _ _)
      | (with_reducible exact LeO.refl _)
      | (with_reducible exact LeO.none _)
      | (with_reducible refine LeO.ite ?_ ?_)
      | (with_reducible refine LeO.bind ?_ (fun _ => ?_))
      | exact ih0 _ _ _
      | exact LeO.none _
      | refine LeO.ite ?_ ?_
      | refine LeO.bind ?_ (fun _ => ?_)
theorem tendrilref01_fits.mono : ∀ a0 a1 k, LeO (tendrilref01_fits.f k a0 a1) (tendrilref01_fits.f (k + 1) a0 a1) := by
  intro a0 a1 k
  have ih0 := tendrilref01_fits.mono_l k
  unfold tendrilref01_fits.f
  repeat' first
      | (with_reducible exact ih0 _ _ _)
      | (with_reducible exact LeO.refl _)
      | (with_reducible exact LeO.none _)
      | (with_reducible refine LeO.ite ?_ ?_)
      | (with_reducible refine LeO.bind ?_ (fun _ => ?_))
      | exact ih0 _ _ _
      | exact LeO.none _
      | refine LeO.ite ?_ ?_
      | refine LeO.bind ?_ (fun _ => ?_)
set_option maxHeartbeats 8000000 in
set_option maxRecDepth 100000 in
theorem tendrilref01_fits.calls (k : Nat) (a0 : Int) (a1 : Int) (r : Bool) (w : World) (h : tendrilref01_fits.f k a0 a1 = some r) :
    Calls Tryd.prog 34 #[.int .i64 a0, .int .i64 a1] w fun e w' => e = .returned (.bool r) ∧ Drawn0 w w' := by
  have H : (if a0 = 0 then (tendrilref01_fits.j0 k a1 a0 (a0 == 0)) else (if a0 = 3 then (tendrilref01_fits.j0 k a1 a0 (a0 == 3)) else (tendrilref01_fits.j0 k a1 a0 (a0 == 5)))) = some r := h
  clear h
  have HC3 := Aside0.mk H
  clear H
  go_enter Tryd.func34, Tryd.ntmps34
  go_upto_if 6 with (fail)
  go_cut [6] (fun v6 wc => ∃ (kq : Nat) (x6_2 : Bool), v6 = .bool x6_2 ∧ Aside0 (tendrilref01_fits.j0 kq a1 a0 x6_2 = some r) ∧ Aside0 (kq ≤ k) ∧ Drawn0 w wc)
  case first =>
    have H := HC3.out
    clear HC3
    by_cases c4 : a0 = 0
    · rw [if_pos c4] at H
      have c4b0 : (a0 == 0) = true := beq_iff_eq.mpr c4
      have c4b1 : (a0 != 0) = false := bne_eq_false_iff_eq.mpr c4
      clear c4
      (first | rw [c4b0] | (simp only [i64_w, i32_w]; rw [c4b0]) | skip)
      have H' := Aside0.mk H
      clear H
      go_wp2
      go_meet
      case rel => exact ⟨_, ((a0 == 0)), (by first | rfl | (simp; done) | (simp [*]; done)), H', ⟨by first | omega | exact Nat.le_refl _⟩, by repeat (first | exact Drawn0.refl _ | apply Drawn0.step)⟩
    · rw [if_neg c4] at H
      have c4b0 : (a0 == 0) = false := beq_eq_false_iff_ne.mpr c4
      have c4b1 : (a0 != 0) = true := bne_iff_ne.mpr c4
      (first | rw [c4b0] | (simp only [i64_w, i32_w]; rw [c4b0]) | skip)
      by_cases c5 : a0 = 3
      · rw [if_pos c5] at H
        have c5b0 : (a0 == 3) = true := beq_iff_eq.mpr c5
        have c5b1 : (a0 != 3) = false := bne_eq_false_iff_eq.mpr c5
        clear c5
        have H' := Aside0.mk H
        clear H
        go_wp2
        go_meet
        case rel => exact ⟨_, ((a0 == 3)), (by first | rfl | (simp; done) | (simp [*]; done)), H', ⟨by first | omega | exact Nat.le_refl _⟩, by repeat (first | exact Drawn0.refl _ | apply Drawn0.step)⟩
      · rw [if_neg c5] at H
        have c5b0 : (a0 == 3) = false := beq_eq_false_iff_ne.mpr c5
        have c5b1 : (a0 != 3) = true := bne_iff_ne.mpr c5
        have H' := Aside0.mk H
        clear H
        go_wp2
        go_meet
        case rel => exact ⟨_, ((a0 == 5)), (by first | rfl | (simp; done) | (simp [*]; done)), H', ⟨by first | omega | exact Nat.le_refl _⟩, by repeat (first | exact Drawn0.refl _ | apply Drawn0.step)⟩
  case rest =>
    clear HC3
    try clear p2
    try clear c3
    try clear c4
    try clear c4b0
    try clear c4b1
    try clear c5
    try clear c5b0
    try clear c5b1
    obtain ⟨kq, x6_2, rfl, HA, HJ2, ⟨mc2, rfl⟩⟩ := hcut
    cases kq with
    | zero => exact absurd HA.out (by simp [tendrilref01_fits.j0])
    | succ kj2 =>
      have H := HA.out
      clear HA
      simp only [tendrilref01_fits.j0] at H
      by_cases c6 : x6_2 = true
      · subst c6
        have H1 : ((tendrilref01_place.f a1).bind fun t101 => (some t101)) = some r := by rw [if_pos rfl] at H; exact H
        clear H
        have H := H1
        clear H1
        replace H := Option.bind_eq_some_iff.mp H
        obtain ⟨t101, A70, H⟩ := H
        replace H : (some t101) = some r := H
        have A7 := Aside0.mk A70
        clear A70
        obtain rfl := Option.some.inj H
        go_wp2_with (first | ((with_reducible refine gate_callee (f := 45) rfl ?_); refine goesL_ (some 11) rfl rfl Tryd.func45 (by kernel_rfl) rfl #[.int .i64 a1] rfl (by (try simp only [List.map_toArray, List.map_cons, List.map_nil]); first | done | rfl | (simp only [List.length_drop, List.length_take]; rfl)) ?_; (with_reducible refine (tendrilref01_place.calls a1 t101 _ A7.out).mono ?_); rintro e w' ⟨rfl, ⟨nd, rfl⟩⟩; refine ⟨_, rfl, ?_⟩))
        go_ret
        exact ⟨by first | rfl | (simp; done) | (simp [*]; done), by repeat (first | exact Drawn0.refl _ | apply Drawn0.step)⟩
      · replace c6 := Bool.eq_false_iff.mpr c6
        subst c6
        have H1 : (if a0 = 1 then (if a1 ≥ 0 then (some (decide (a1 < 1024))) else (some false)) else (if a0 = 2 then (if a1 ≥ (-1125899906842624) then (some (decide (a1 ≤ 1125899906842624))) else (some false)) else (if a0 = 4 then (if a1 ≥ 0 then (if (wrap64 (Int.tdiv a1 16)) < 1024 then (if (Int.tmod a1 16) ≥ 1 then (some (decide ((Int.tmod a1 16) ≤ 8))) else (some false)) else (some false)) else (some false)) else (some false)))) = some r := by rw [if_neg (show ¬ (false = true) by decide)] at H; exact H
        clear H
        have H := H1
        clear H1
        by_cases c8 : a0 = 1
        · rw [if_pos c8] at H
          have c8b0 : (a0 == 1) = true := beq_iff_eq.mpr c8
          have c8b1 : (a0 != 1) = false := bne_eq_false_iff_eq.mpr c8
          clear c8
          by_cases c9 : a1 ≥ 0
          · rw [if_pos c9] at H
            have c9b0 : decide (0 ≤ a1) = true := decide_eq_true c9
            clear c9
            obtain rfl := Option.some.inj H
            go_wp2
            go_ret
            exact ⟨by first | rfl | (simp; done) | (simp [*]; done), by repeat (first | exact Drawn0.refl _ | apply Drawn0.step)⟩
          · rw [if_neg c9] at H
            have c9b0 : decide (0 ≤ a1) = false := decide_eq_false c9
            clear c9
            obtain rfl := Option.some.inj H
            go_wp2
            go_ret
            exact ⟨by first | rfl | (simp; done) | (simp [*]; done), by repeat (first | exact Drawn0.refl _ | apply Drawn0.step)⟩
        · rw [if_neg c8] at H
          have c8b0 : (a0 == 1) = false := beq_eq_false_iff_ne.mpr c8
          have c8b1 : (a0 != 1) = true := bne_iff_ne.mpr c8
          by_cases c10 : a0 = 2
          · rw [if_pos c10] at H
            have c10b0 : (a0 == 2) = true := beq_iff_eq.mpr c10
            have c10b1 : (a0 != 2) = false := bne_eq_false_iff_eq.mpr c10
            clear c10
            by_cases c11 : a1 ≥ (-1125899906842624)
            · rw [if_pos c11] at H
              have c11b0 : decide ((-1125899906842624) ≤ a1) = true := decide_eq_true c11
              clear c11
              obtain rfl := Option.some.inj H
              go_wp2
              go_ret
              exact ⟨by first | rfl | (simp; done) | (simp [*]; done), by repeat (first | exact Drawn0.refl _ | apply Drawn0.step)⟩
            · rw [if_neg c11] at H
              have c11b0 : decide ((-1125899906842624) ≤ a1) = false := decide_eq_false c11
              clear c11
              obtain rfl := Option.some.inj H
              go_wp2
              go_ret
              exact ⟨by first | rfl | (simp; done) | (simp [*]; done), by repeat (first | exact Drawn0.refl _ | apply Drawn0.step)⟩
          · rw [if_neg c10] at H
            have c10b0 : (a0 == 2) = false := beq_eq_false_iff_ne.mpr c10
            have c10b1 : (a0 != 2) = true := bne_iff_ne.mpr c10
            by_cases c12 : a0 = 4
            · rw [if_pos c12] at H
              have c12b0 : (a0 == 4) = true := beq_iff_eq.mpr c12
              have c12b1 : (a0 != 4) = false := bne_eq_false_iff_eq.mpr c12
              clear c12
              by_cases c13 : a1 ≥ 0
              · rw [if_pos c13] at H
                have c13b0 : decide (0 ≤ a1) = true := decide_eq_true c13
                clear c13
                by_cases c14 : (wrap64 (Int.tdiv a1 16)) < 1024
                · rw [if_pos c14] at H
                  have c14b0 : decide ((wrap64 (Int.tdiv a1 16)) < 1024) = true := decide_eq_true c14
                  clear c14
                  by_cases c15 : (Int.tmod a1 16) ≥ 1
                  · rw [if_pos c15] at H
                    have c15b0 : decide (1 ≤ (Int.tmod a1 16)) = true := decide_eq_true c15
                    clear c15
                    obtain rfl := Option.some.inj H
                    go_wp2
                    go_ret
                    exact ⟨by first | rfl | (simp; done) | (simp [*]; done), by repeat (first | exact Drawn0.refl _ | apply Drawn0.step)⟩
                  · rw [if_neg c15] at H
                    have c15b0 : decide (1 ≤ (Int.tmod a1 16)) = false := decide_eq_false c15
                    clear c15
                    obtain rfl := Option.some.inj H
                    go_wp2
                    go_ret
                    exact ⟨by first | rfl | (simp; done) | (simp [*]; done), by repeat (first | exact Drawn0.refl _ | apply Drawn0.step)⟩
                · rw [if_neg c14] at H
                  have c14b0 : decide ((wrap64 (Int.tdiv a1 16)) < 1024) = false := decide_eq_false c14
                  clear c14
                  obtain rfl := Option.some.inj H
                  go_wp2
                  go_ret
                  exact ⟨by first | rfl | (simp; done) | (simp [*]; done), by repeat (first | exact Drawn0.refl _ | apply Drawn0.step)⟩
              · rw [if_neg c13] at H
                have c13b0 : decide (0 ≤ a1) = false := decide_eq_false c13
                clear c13
                obtain rfl := Option.some.inj H
                go_wp2
                go_ret
                exact ⟨by first | rfl | (simp; done) | (simp [*]; done), by repeat (first | exact Drawn0.refl _ | apply Drawn0.step)⟩
            · rw [if_neg c12] at H
              have c12b0 : (a0 == 4) = false := beq_eq_false_iff_ne.mpr c12
              have c12b1 : (a0 != 4) = true := bne_iff_ne.mpr c12
              obtain rfl := Option.some.inj H
              go_wp2
              go_ret
              exact ⟨by first | rfl | (simp; done) | (simp [*]; done), by repeat (first | exact Drawn0.refl _ | apply Drawn0.step)⟩

/-! ### tendrilref01_Good: function 25 -/
def tendrilref01_Good.f (k : Nat) (a0 : Int) : Option (Bool) := (tendrilref01_Tag.f a0).bind fun t102 => ((tendrilref01_Value.f a0).bind fun t103 => ((tendrilref01_fits.f k t102 t103).bind fun t104 => (some t104)))
theorem tendrilref01_Good.mono : ∀ a0 k, LeO (tendrilref01_Good.f k a0) (tendrilref01_Good.f (k + 1) a0) := by
  intro a0 k
  unfold tendrilref01_Good.f
  repeat' first
      | (with_reducible exact tendrilref01_fits.mono _ _ _)
      | (with_reducible exact LeO.refl _)
      | (with_reducible exact LeO.none _)
      | (with_reducible refine LeO.ite ?_ ?_)
      | (with_reducible refine LeO.bind ?_ (fun _ => ?_))
      | exact tendrilref01_fits.mono _ _ _
      | exact LeO.none _
      | refine LeO.ite ?_ ?_
      | refine LeO.bind ?_ (fun _ => ?_)
set_option maxHeartbeats 8000000 in
set_option maxRecDepth 100000 in
theorem tendrilref01_Good.calls (k : Nat) (a0 : Int) (r : Bool) (w : World) (h : tendrilref01_Good.f k a0 = some r) :
    Calls Tryd.prog 25 #[.int .u64 a0] w fun e w' => e = .returned (.bool r) ∧ Drawn0 w w' := by
  have H : ((tendrilref01_Tag.f a0).bind fun t102 => ((tendrilref01_Value.f a0).bind fun t103 => ((tendrilref01_fits.f k t102 t103).bind fun t104 => (some t104)))) = some r := h
  clear h
  replace H := Option.bind_eq_some_iff.mp H
  obtain ⟨t102, A20, H⟩ := H
  replace H : ((tendrilref01_Value.f a0).bind fun t103 => ((tendrilref01_fits.f k t102 t103).bind fun t104 => (some t104))) = some r := H
  have A2 := Aside0.mk A20
  clear A20
  replace H := Option.bind_eq_some_iff.mp H
  obtain ⟨t103, A30, H⟩ := H
  replace H : ((tendrilref01_fits.f k t102 t103).bind fun t104 => (some t104)) = some r := H
  have A3 := Aside0.mk A30
  clear A30
  replace H := Option.bind_eq_some_iff.mp H
  obtain ⟨t104, A40, H⟩ := H
  replace H : (some t104) = some r := H
  have A4 := Aside0.mk A40
  clear A40
  obtain rfl := Option.some.inj H
  go_enter Tryd.func25, Tryd.ntmps25
  go_wp2_with (first | ((with_reducible refine gate_callee (f := 23) rfl ?_); refine goesL_ (some 4) rfl rfl Tryd.func23 (by kernel_rfl) rfl #[.int .u64 a0] rfl (by (try simp only [List.map_toArray, List.map_cons, List.map_nil]); first | done | rfl | (simp only [List.length_drop, List.length_take]; rfl)) ?_; (with_reducible refine (tendrilref01_Tag.calls a0 t102 _ A2.out).mono ?_); rintro e w' ⟨rfl, ⟨nd, rfl⟩⟩; refine ⟨_, rfl, ?_⟩) | ((with_reducible refine gate_callee (f := 24) rfl ?_); refine goesL_ (some 6) rfl rfl Tryd.func24 (by kernel_rfl) rfl #[.int .u64 a0] rfl (by (try simp only [List.map_toArray, List.map_cons, List.map_nil]); first | done | rfl | (simp only [List.length_drop, List.length_take]; rfl)) ?_; (with_reducible refine (tendrilref01_Value.calls a0 t103 _ A3.out).mono ?_); rintro e w' ⟨rfl, ⟨nd, rfl⟩⟩; refine ⟨_, rfl, ?_⟩) | ((with_reducible refine gate_callee (f := 34) rfl ?_); refine goesL_ (some 7) rfl rfl Tryd.func34 (by kernel_rfl) rfl #[.int .i64 t102, .int .i64 t103] rfl (by (try simp only [List.map_toArray, List.map_cons, List.map_nil]); first | done | rfl | (simp only [List.length_drop, List.length_take]; rfl)) ?_; (with_reducible refine (tendrilref01_fits.calls k t102 t103 t104 _ A4.out).mono ?_); rintro e w' ⟨rfl, ⟨nd, rfl⟩⟩; refine ⟨_, rfl, ?_⟩))
  go_ret
  exact ⟨by first | rfl | (simp; done) | (simp [*]; done), by repeat (first | exact Drawn0.refl _ | apply Drawn0.step)⟩

/-! ### tendrilref01_Head: function 20 -/
def tendrilref01_Head.j0 : Nat → Int → Bool → Option (Int × Int × Bool)
  | 0, _, _ => none
  | k + 1, x0, x12 => if x12 = true then (some (0, 0, false)) else ((tendrilref01_Value.f x0).bind fun t107 => ((tendrilref01_Value.f x0).bind fun t108 => (some (wrap64 (Int.tdiv t107 16), Int.tmod t108 16, true))))
def tendrilref01_Head.f (k : Nat) (a0 : Int) : Option (Int × Int × Bool) := (tendrilref01_Good.f k a0).bind fun t105 => (if t105 = true then ((tendrilref01_Tag.f a0).bind fun t106 => (tendrilref01_Head.j0 k a0 (t106 != 4))) else (tendrilref01_Head.j0 k a0 true))
theorem tendrilref01_Head.mono_l : ∀ k, (∀ y0 y1, LeO (tendrilref01_Head.j0 k y0 y1) (tendrilref01_Head.j0 (k + 1) y0 y1))
  | 0 => fun _ _ r h => by simp [tendrilref01_Head.j0] at h
  | k + 1 => by
    have ih0 := tendrilref01_Head.mono_l k
    · intro y0 y1
      unfold tendrilref01_Head.j0
      repeat' first
      | (with_reducible exact ih0 _ _)
      | (with_reducible exact tendrilref01_Good.mono _ _)
      | (with_reducible exact LeO.refl _)
      | (with_reducible exact LeO.none _)
      | (with_reducible refine LeO.ite ?_ ?_)
      | (with_reducible refine LeO.bind ?_ (fun _ => ?_))
      | exact ih0 _ _
      | exact tendrilref01_Good.mono _ _
      | exact LeO.none _
      | refine LeO.ite ?_ ?_
      | refine LeO.bind ?_ (fun _ => ?_)
theorem tendrilref01_Head.mono : ∀ a0 k, LeO (tendrilref01_Head.f k a0) (tendrilref01_Head.f (k + 1) a0) := by
  intro a0 k
  have ih0 := tendrilref01_Head.mono_l k
  unfold tendrilref01_Head.f
  repeat' first
      | (with_reducible exact ih0 _ _)
      | (with_reducible exact tendrilref01_Good.mono _ _)
      | (with_reducible exact LeO.refl _)
      | (with_reducible exact LeO.none _)
      | (with_reducible refine LeO.ite ?_ ?_)
      | (with_reducible refine LeO.bind ?_ (fun _ => ?_))
      | exact ih0 _ _
      | exact tendrilref01_Good.mono _ _
      | exact LeO.none _
      | refine LeO.ite ?_ ?_
      | refine LeO.bind ?_ (fun _ => ?_)
set_option maxHeartbeats 8000000 in
set_option maxRecDepth 100000 in
theorem tendrilref01_Head.calls (k : Nat) (a0 : Int) (r1 : Int) (r2 : Int) (r3 : Bool) (w : World) (h : tendrilref01_Head.f k a0 = some (r1, r2, r3)) :
    Calls Tryd.prog 20 #[.int .u64 a0] w fun e w' => e = .returned (.tuple #[.int .i64 r1, .int .i64 r2, .bool r3]) ∧ Drawn0 w w' := by
  have H : ((tendrilref01_Good.f k a0).bind fun t105 => (if t105 = true then ((tendrilref01_Tag.f a0).bind fun t106 => (tendrilref01_Head.j0 k a0 (t106 != 4))) else (tendrilref01_Head.j0 k a0 true))) = some (r1, r2, r3) := h
  clear h
  have HC2 := Aside0.mk H
  clear H
  go_enter Tryd.func20, Tryd.ntmps20
  go_upto_region 1 with (fail)
  go_cut [12] (fun v12 wc => ∃ (kq : Nat) (x12_1 : Bool), v12 = .bool x12_1 ∧ Aside0 (tendrilref01_Head.j0 kq a0 x12_1 = some (r1, r2, r3)) ∧ Aside0 (kq ≤ k) ∧ Drawn0 w wc)
  case first =>
    have H := HC2.out
    clear HC2
    replace H := Option.bind_eq_some_iff.mp H
    obtain ⟨t105, A30, H⟩ := H
    replace H : (if t105 = true then ((tendrilref01_Tag.f a0).bind fun t106 => (tendrilref01_Head.j0 k a0 (t106 != 4))) else (tendrilref01_Head.j0 k a0 true)) = some (r1, r2, r3) := H
    have A3 := Aside0.mk A30
    clear A30
    by_cases c4 : t105 = true
    · subst c4
      have H1 : ((tendrilref01_Tag.f a0).bind fun t106 => (tendrilref01_Head.j0 k a0 (t106 != 4))) = some (r1, r2, r3) := by rw [if_pos rfl] at H; exact H
      clear H
      have H := H1
      clear H1
      replace H := Option.bind_eq_some_iff.mp H
      obtain ⟨t106, A50, H⟩ := H
      replace H : (tendrilref01_Head.j0 k a0 (t106 != 4)) = some (r1, r2, r3) := H
      have A5 := Aside0.mk A50
      clear A50
      have H' := Aside0.mk H
      clear H
      go_wp2_with (first | ((with_reducible refine gate_callee (f := 25) rfl ?_); refine goesL_ (some 6) rfl rfl Tryd.func25 (by kernel_rfl) rfl #[.int .u64 a0] rfl (by (try simp only [List.map_toArray, List.map_cons, List.map_nil]); first | done | rfl | (simp only [List.length_drop, List.length_take]; rfl)) ?_; (with_reducible refine (tendrilref01_Good.calls k a0 true _ A3.out).mono ?_); rintro e w' ⟨rfl, ⟨nd, rfl⟩⟩; refine ⟨_, rfl, ?_⟩) | (go_at_call 23; (with_reducible refine (tendrilref01_Tag.calls a0 t106 _ A5.out).mono ?_); rintro e w' ⟨rfl, ⟨nd, rfl⟩⟩))
      go_meet
      case rel => exact ⟨_, ((t106 != 4)), (by first | rfl | (simp; done) | (simp [*]; done)), H', ⟨by first | omega | exact Nat.le_refl _⟩, by repeat (first | exact Drawn0.refl _ | apply Drawn0.step)⟩
    · replace c4 := Bool.eq_false_iff.mpr c4
      subst c4
      have H1 : (tendrilref01_Head.j0 k a0 true) = some (r1, r2, r3) := by rw [if_neg (show ¬ (false = true) by decide)] at H; exact H
      clear H
      have H := H1
      clear H1
      have H' := Aside0.mk H
      clear H
      go_wp2_with (first | ((with_reducible refine gate_callee (f := 25) rfl ?_); refine goesL_ (some 6) rfl rfl Tryd.func25 (by kernel_rfl) rfl #[.int .u64 a0] rfl (by (try simp only [List.map_toArray, List.map_cons, List.map_nil]); first | done | rfl | (simp only [List.length_drop, List.length_take]; rfl)) ?_; (with_reducible refine (tendrilref01_Good.calls k a0 false _ A3.out).mono ?_); rintro e w' ⟨rfl, ⟨nd, rfl⟩⟩; refine ⟨_, rfl, ?_⟩))
      go_meet
      case rel => exact ⟨_, (true), (by first | rfl | (simp; done) | (simp [*]; done)), H', ⟨by first | omega | exact Nat.le_refl _⟩, by repeat (first | exact Drawn0.refl _ | apply Drawn0.step)⟩
  case rest =>
    clear HC2
    try clear c2
    try clear p2
    try clear c4
    obtain ⟨kq, x12_1, rfl, HA, HJ1, ⟨mc1, rfl⟩⟩ := hcut
    cases kq with
    | zero => exact absurd HA.out (by simp [tendrilref01_Head.j0])
    | succ kj1 =>
      have H := HA.out
      clear HA
      simp only [tendrilref01_Head.j0] at H
      by_cases c6 : x12_1 = true
      · subst c6
        have H1 : (some (0, 0, false)) = some (r1, r2, r3) := by rw [if_pos rfl] at H; exact H
        clear H
        have H := H1
        clear H1
        simp only [Option.some.injEq, Prod.mk.injEq] at H
        obtain ⟨rfl, rfl, rfl⟩ := H
        go_wp2
        go_ret3
        exact ⟨by first | rfl | (simp; done) | (simp [*]; done), by repeat (first | exact Drawn0.refl _ | apply Drawn0.step)⟩
      · replace c6 := Bool.eq_false_iff.mpr c6
        subst c6
        have H1 : ((tendrilref01_Value.f a0).bind fun t107 => ((tendrilref01_Value.f a0).bind fun t108 => (some (wrap64 (Int.tdiv t107 16), Int.tmod t108 16, true)))) = some (r1, r2, r3) := by rw [if_neg (show ¬ (false = true) by decide)] at H; exact H
        clear H
        have H := H1
        clear H1
        replace H := Option.bind_eq_some_iff.mp H
        obtain ⟨t107, A70, H⟩ := H
        replace H : ((tendrilref01_Value.f a0).bind fun t108 => (some (wrap64 (Int.tdiv t107 16), Int.tmod t108 16, true))) = some (r1, r2, r3) := H
        have A7 := Aside0.mk A70
        clear A70
        replace H := Option.bind_eq_some_iff.mp H
        obtain ⟨t108, A80, H⟩ := H
        replace H : (some (wrap64 (Int.tdiv t107 16), Int.tmod t108 16, true)) = some (r1, r2, r3) := H
        have A8 := Aside0.mk A80
        clear A80
        simp only [Option.some.injEq, Prod.mk.injEq] at H
        obtain ⟨rfl, rfl, rfl⟩ := H
        go_wp2_with (first | ((with_reducible refine gate_callee (f := 24) rfl ?_); refine goesL_ (some 14) rfl rfl Tryd.func24 (by kernel_rfl) rfl #[.int .u64 a0] rfl (by (try simp only [List.map_toArray, List.map_cons, List.map_nil]); first | done | rfl | (simp only [List.length_drop, List.length_take]; rfl)) ?_; (with_reducible refine (tendrilref01_Value.calls a0 t107 _ A7.out).mono ?_); rintro e w' ⟨rfl, ⟨nd, rfl⟩⟩; refine ⟨_, rfl, ?_⟩) | ((with_reducible refine gate_callee (f := 24) rfl ?_); refine goesL_ (some 17) rfl rfl Tryd.func24 (by kernel_rfl) rfl #[.int .u64 a0] rfl (by (try simp only [List.map_toArray, List.map_cons, List.map_nil]); first | done | rfl | (simp only [List.length_drop, List.length_take]; rfl)) ?_; (with_reducible refine (tendrilref01_Value.calls a0 t108 _ A8.out).mono ?_); rintro e w' ⟨rfl, ⟨nd, rfl⟩⟩; refine ⟨_, rfl, ?_⟩))
        go_ret3
        exact ⟨by first | rfl | (simp; done) | (simp [*]; done), by repeat (first | exact Drawn0.refl _ | apply Drawn0.step)⟩

/-! ### tendrilref01_Decimal: function 38 -/
def tendrilref01_Decimal.f : Nat → Int → Option (ByteArray)
  | 0, _ => none
  | k + 1, a0 => if a0 = (-9223372036854775808) then (some (⟨#[45, 57, 50, 50, 51, 51, 55, 50, 48, 51, 54, 56, 53, 52, 55, 55, 53, 56, 48, 56]⟩ : ByteArray)) else (if a0 < 0 then ((tendrilref01_Decimal.f k (wrap64 (-a0))).bind fun t109 => (if 1 + t109.size ≤ 9223372036854775807 then (some ((⟨#[45]⟩ : ByteArray) ++ t109)) else (none))) else ((some (([(wrap64 (48 + (Int.tmod a0 10))) % 256] : List Int) : List Int)).bind fun y110 => (if a0 ≥ 10 then ((tendrilref01_Decimal.f k (wrap64 (Int.tdiv a0 10))).bind fun t113 => (if t113.size + (strOfNums y110).size ≤ 9223372036854775807 then (some (t113 ++ (strOfNums y110))) else (none))) else (some (strOfNums y110)))))
theorem tendrilref01_Decimal.mono_l : ∀ k, (∀ y0, LeO (tendrilref01_Decimal.f k y0) (tendrilref01_Decimal.f (k + 1) y0))
  | 0 => fun _ r h => by simp [tendrilref01_Decimal.f] at h
  | k + 1 => by
    have ih0 := tendrilref01_Decimal.mono_l k
    · intro y0
      unfold tendrilref01_Decimal.f
      repeat' first
      | (with_reducible exact ih0 _)
      | (with_reducible exact LeO.refl _)
      | (with_reducible exact LeO.none _)
      | (with_reducible refine LeO.ite ?_ ?_)
      | (with_reducible refine LeO.bind ?_ (fun _ => ?_))
      | exact ih0 _
      | exact LeO.none _
      | refine LeO.ite ?_ ?_
      | refine LeO.bind ?_ (fun _ => ?_)
theorem tendrilref01_Decimal.mono : ∀ a0 k, LeO (tendrilref01_Decimal.f k a0) (tendrilref01_Decimal.f (k + 1) a0) := by
  intro a0 k
  have ih0 := tendrilref01_Decimal.mono_l k
  exact ih0 a0
set_option maxHeartbeats 8000000 in
set_option maxRecDepth 100000 in
theorem tendrilref01_Decimal.calls (k : Nat) : ∀ (a0 : Int) (r : ByteArray) (w : World) (h : tendrilref01_Decimal.f k a0 = some r),
    Calls Tryd.prog 38 #[.int .i64 a0] w fun e w' => e = .returned (.string r) ∧ Below w.heap.size w w' := by
  induction k using Nat.strongRecOn with
  | _ k ih =>
  intro a0 r w h
  cases k with
  | zero => exact absurd h (by simp [tendrilref01_Decimal.f])
  | succ k =>
  simp only [tendrilref01_Decimal.f] at h
  have HB := Aside0.mk (Below.refl w.heap.size w)
  have H : (if a0 = (-9223372036854775808) then (some (⟨#[45, 57, 50, 50, 51, 51, 55, 50, 48, 51, 54, 56, 53, 52, 55, 55, 53, 56, 48, 56]⟩ : ByteArray)) else (if a0 < 0 then ((tendrilref01_Decimal.f k (wrap64 (-a0))).bind fun t109 => (if 1 + t109.size ≤ 9223372036854775807 then (some ((⟨#[45]⟩ : ByteArray) ++ t109)) else (none))) else ((some (([(wrap64 (48 + (Int.tmod a0 10))) % 256] : List Int) : List Int)).bind fun y110 => (if a0 ≥ 10 then ((tendrilref01_Decimal.f k (wrap64 (Int.tdiv a0 10))).bind fun t113 => (if t113.size + (strOfNums y110).size ≤ 9223372036854775807 then (some (t113 ++ (strOfNums y110))) else (none))) else (some (strOfNums y110)))))) = some r := h
  clear h
  by_cases c2 : a0 = (-9223372036854775808)
  · rw [if_pos c2] at H
    have c2b0 : (a0 == (-9223372036854775808)) = true := beq_iff_eq.mpr c2
    have c2b1 : (a0 != (-9223372036854775808)) = false := bne_eq_false_iff_eq.mpr c2
    clear c2
    obtain rfl := Option.some.inj H
    go_enter Tryd.func38, Tryd.ntmps38
    go_wp2
    go_ret
    exact ⟨by first | rfl | (simp [errW_none, errW_some] <;> rfl) | (simp [*, errW_none, errW_some] <;> rfl), by repeat (first | (with_reducible first | exact HB.out | apply below_alloc | apply pw_below_drewN | apply below_drew1) | exact HB.out)⟩
  · rw [if_neg c2] at H
    have c2b0 : (a0 == (-9223372036854775808)) = false := beq_eq_false_iff_ne.mpr c2
    have c2b1 : (a0 != (-9223372036854775808)) = true := bne_iff_ne.mpr c2
    by_cases c3 : a0 < 0
    · rw [if_pos c3] at H
      have c3b0 : decide (a0 < 0) = true := decide_eq_true c3
      clear c3
      replace H := Option.bind_eq_some_iff.mp H
      obtain ⟨t109, A40, H⟩ := H
      replace H : (if 1 + t109.size ≤ 9223372036854775807 then (some ((⟨#[45]⟩ : ByteArray) ++ t109)) else (none)) = some r := H
      have A4 := Aside0.mk A40
      clear A40
      by_cases c5 : 1 + t109.size ≤ 9223372036854775807
      · rw [if_pos c5] at H
        have c5b0 := eq_true c5
        have c5b1 : decide (1 + t109.size ≤ 9223372036854775807) = true := decide_eq_true c5
        try have c5b2 : (9223372036854775807 < 1 + t109.size) = False := eq_false (Nat.not_lt.2 c5)
        obtain rfl := Option.some.inj H
        go_enter Tryd.func38, Tryd.ntmps38
        go_wp2_with (first | ((with_reducible refine gate_callee (f := 38) rfl ?_); refine goesL_ (some 10) rfl rfl Tryd.func38 (by kernel_rfl) rfl #[.int .i64 (wrap64 (-a0))] rfl (by (try simp only [List.map_toArray, List.map_cons, List.map_nil]); first | done | rfl | (simp only [List.length_drop, List.length_take]; rfl)) ?_; (with_reducible refine (ih k (by omega) (wrap64 (-a0)) t109 _ A4.out).mono ?_); rintro e w6 ⟨rfl, hb⟩; refine ⟨_, rfl, ?_⟩; have n0_ := Aside0.mk (below_step (by repeat (first | (with_reducible first | exact HB.out | apply below_alloc | apply pw_below_drewN | apply below_drew1) | exact HB.out)) hb); clear HB; have HB := n0_; clear n0_; (try clear hb); (try clear hb2); (try clear hk); (try clear hi)))
        go_ret
        exact ⟨by first | rfl | (simp [errW_none, errW_some] <;> rfl) | (simp [*, errW_none, errW_some] <;> rfl), by repeat (first | (with_reducible first | exact HB.out | apply below_alloc | apply pw_below_drewN | apply below_drew1) | exact HB.out)⟩
      · rw [if_neg c5] at H
        exact absurd H (by simp)
    · rw [if_neg c3] at H
      have c3b0 : decide (a0 < 0) = false := decide_eq_false c3
      clear c3
      obtain ⟨y110, hy110⟩ : ∃ y_ : List Int, y_ = (([(wrap64 (48 + (Int.tmod a0 10))) % 256] : List Int)) := ⟨_, rfl⟩
      replace H : (if a0 ≥ 10 then ((tendrilref01_Decimal.f k (wrap64 (Int.tdiv a0 10))).bind fun t113 => (if t113.size + (strOfNums y110).size ≤ 9223372036854775807 then (some (t113 ++ (strOfNums y110))) else (none))) else (some (strOfNums y110))) = some r := by first | (rw [hy110]; with_reducible exact H) | (have H2_ := (Option.bind_some _ _).symm.trans H; rw [hy110]; with_reducible exact H2_) | (have H2_ := (Option.bind_some _ _).symm.trans H; with_reducible exact H2_) | with_reducible exact H | (rw [hy110]; exact H) | exact H
      have Ny110 := Aside0.mk hy110
      clear hy110
      by_cases c7 : a0 ≥ 10
      · rw [if_pos c7] at H
        have c7b0 : decide (10 ≤ a0) = true := decide_eq_true c7
        clear c7
        replace H := Option.bind_eq_some_iff.mp H
        obtain ⟨t113, A80, H⟩ := H
        replace H : (if t113.size + (strOfNums y110).size ≤ 9223372036854775807 then (some (t113 ++ (strOfNums y110))) else (none)) = some r := H
        have A8 := Aside0.mk A80
        clear A80
        by_cases c9 : t113.size + (strOfNums y110).size ≤ 9223372036854775807
        · rw [if_pos c9] at H
          have c9b0 := eq_true c9
          have c9b1 : decide (t113.size + (strOfNums y110).size ≤ 9223372036854775807) = true := decide_eq_true c9
          try have c9b2 : (9223372036854775807 < t113.size + (strOfNums y110).size) = False := eq_false (Nat.not_lt.2 c9)
          obtain rfl := Option.some.inj H
          go_enter Tryd.func38, Tryd.ntmps38
          go_wp2_with (first | ((with_reducible refine gate_dst (N := 16) rfl ?_); refine Kd.R_lit (Kd.int .u8) _ 5 ?hg (N := 16) ?hd (xs := ([(wrap64 (48 + (Int.tmod a0 10))) % 256] : List Int)) (inner := [.int .u8 ((wrap64 (48 + (Int.tmod a0 10))) % 256)]) (ok := fun _ => True) (okp := fun _ => True) ?hr ?hp (fun _ hk => hk) trivial (Below.refl _ _) (Nat.le_refl _) (by simp) ?_; (case hd => rfl); (case hg => rfl); (case hr => first | (go_simp; done) | (go_simp; rfl)); (case hp => exact (Reps.one (show Kd.M (Kd.int .u8) _ _ _ ((wrap64 (48 + (Int.tmod a0 10))) % 256) [.int .u8 ((wrap64 (48 + (Int.tmod a0 10))) % 256)] from rfl) (Reps.none _ _))); intro v111 w10 ho11 hb hg_ hnew_; clear hg_ hnew_; (first | rw [← Ny110.out] at ho11 | (simp only [Int.reduceToNat] at ho11; rw [← Ny110.out] at ho11)); have n0_ := Aside0.mk (Kd.R_lower ho11 (below_size (by repeat (first | (with_reducible first | exact HB.out | apply below_alloc | apply pw_below_drewN | apply below_drew1) | exact HB.out)))); have n1_ := Aside0.mk (below_step (by repeat (first | (with_reducible first | exact HB.out | apply below_alloc | apply pw_below_drewN | apply below_drew1) | exact HB.out)) hb); clear HB; have HO112 := n0_; have HB := n1_; clear n0_ n1_; clear hb ho11; have hcv12 := own_string (P := Tryd.prog) Tryd.underlying65 Tryd.underlying5 Tryd.underlying9 (Kd.own_of_R HO112.out)) | ((with_reducible refine gate_callee (f := 38) rfl ?_); refine goesL_ (some 22) rfl rfl Tryd.func38 (by kernel_rfl) rfl #[.int .i64 (wrap64 (Int.tdiv a0 10))] rfl (by (try simp only [List.map_toArray, List.map_cons, List.map_nil]); first | done | rfl | (simp only [List.length_drop, List.length_take]; rfl)) ?_; (with_reducible refine (ih k (by omega) (wrap64 (Int.tdiv a0 10)) t113 _ A8.out).mono ?_); rintro e w13 ⟨rfl, hb⟩; refine ⟨_, rfl, ?_⟩; have n0_ := Aside0.mk (Kd.R_below (by (with_reducible repeat (first | apply Kd.R_alloc | apply Kd.R_drewN | apply Kd.R_drew)); exact HO112.out) hb); have n1_ := Aside0.mk (below_step (by repeat (first | (with_reducible first | exact HB.out | apply below_alloc | apply pw_below_drewN | apply below_drew1) | exact HB.out)) hb); clear HO112; clear HB; have HO112 := n0_; have HB := n1_; clear n0_ n1_; (try clear hb); (try clear hb2); (try clear hk); (try clear hi)))
          go_ret
          exact ⟨by first | rfl | (simp [errW_none, errW_some] <;> rfl) | (simp [*, errW_none, errW_some] <;> rfl), by repeat (first | (with_reducible first | exact HB.out | apply below_alloc | apply pw_below_drewN | apply below_drew1) | exact HB.out)⟩
        · rw [if_neg c9] at H
          exact absurd H (by simp)
      · rw [if_neg c7] at H
        have c7b0 : decide (10 ≤ a0) = false := decide_eq_false c7
        clear c7
        obtain rfl := Option.some.inj H
        go_enter Tryd.func38, Tryd.ntmps38
        go_wp2_with (first | ((with_reducible refine gate_dst (N := 16) rfl ?_); refine Kd.R_lit (Kd.int .u8) _ 5 ?hg (N := 16) ?hd (xs := ([(wrap64 (48 + (Int.tmod a0 10))) % 256] : List Int)) (inner := [.int .u8 ((wrap64 (48 + (Int.tmod a0 10))) % 256)]) (ok := fun _ => True) (okp := fun _ => True) ?hr ?hp (fun _ hk => hk) trivial (Below.refl _ _) (Nat.le_refl _) (by simp) ?_; (case hd => rfl); (case hg => rfl); (case hr => first | (go_simp; done) | (go_simp; rfl)); (case hp => exact (Reps.one (show Kd.M (Kd.int .u8) _ _ _ ((wrap64 (48 + (Int.tmod a0 10))) % 256) [.int .u8 ((wrap64 (48 + (Int.tmod a0 10))) % 256)] from rfl) (Reps.none _ _))); intro v111 w14 ho15 hb hg_ hnew_; clear hg_ hnew_; (first | rw [← Ny110.out] at ho15 | (simp only [Int.reduceToNat] at ho15; rw [← Ny110.out] at ho15)); have n0_ := Aside0.mk (Kd.R_lower ho15 (below_size (by repeat (first | (with_reducible first | exact HB.out | apply below_alloc | apply pw_below_drewN | apply below_drew1) | exact HB.out)))); have n1_ := Aside0.mk (below_step (by repeat (first | (with_reducible first | exact HB.out | apply below_alloc | apply pw_below_drewN | apply below_drew1) | exact HB.out)) hb); clear HB; have HO112 := n0_; have HB := n1_; clear n0_ n1_; clear hb ho15; have hcv16 := own_string (P := Tryd.prog) Tryd.underlying65 Tryd.underlying5 Tryd.underlying9 (Kd.own_of_R HO112.out)))
        go_ret
        exact ⟨by first | rfl | (simp [errW_none, errW_some] <;> rfl) | (simp [*, errW_none, errW_some] <;> rfl), by repeat (first | (with_reducible first | exact HB.out | apply below_alloc | apply pw_below_drewN | apply below_drew1) | exact HB.out)⟩

/-! ### tendrilref01_name: function 39 -/
def tendrilref01_name.f (a0 : Int) : Option (ByteArray) := if a0 = 0 then (some (⟨#[114, 101, 102]⟩ : ByteArray)) else (if a0 = 1 then (some (⟨#[97, 116, 111, 109]⟩ : ByteArray)) else (if a0 = 2 then (some (⟨#[105, 110, 116]⟩ : ByteArray)) else (if a0 = 3 then (some (⟨#[115, 116, 114]⟩ : ByteArray)) else (some (⟨#[102, 119, 100]⟩ : ByteArray)))))
set_option maxHeartbeats 8000000 in
set_option maxRecDepth 100000 in
theorem tendrilref01_name.calls (a0 : Int) (r : ByteArray) (w : World) (h : tendrilref01_name.f a0 = some r) :
    Calls Tryd.prog 39 #[.int .i64 a0] w fun e w' => e = .returned (.string r) ∧ Drawn0 w w' := by
  have H : (if a0 = 0 then (some (⟨#[114, 101, 102]⟩ : ByteArray)) else (if a0 = 1 then (some (⟨#[97, 116, 111, 109]⟩ : ByteArray)) else (if a0 = 2 then (some (⟨#[105, 110, 116]⟩ : ByteArray)) else (if a0 = 3 then (some (⟨#[115, 116, 114]⟩ : ByteArray)) else (some (⟨#[102, 119, 100]⟩ : ByteArray)))))) = some r := h
  clear h
  by_cases c2 : a0 = 0
  · rw [if_pos c2] at H
    have c2b0 : (a0 == 0) = true := beq_iff_eq.mpr c2
    have c2b1 : (a0 != 0) = false := bne_eq_false_iff_eq.mpr c2
    clear c2
    obtain rfl := Option.some.inj H
    go_enter Tryd.func39, Tryd.ntmps39
    go_wp2
    go_ret
    exact ⟨by first | rfl | (simp; done) | (simp [*]; done), by repeat (first | exact Drawn0.refl _ | apply Drawn0.step)⟩
  · rw [if_neg c2] at H
    have c2b0 : (a0 == 0) = false := beq_eq_false_iff_ne.mpr c2
    have c2b1 : (a0 != 0) = true := bne_iff_ne.mpr c2
    by_cases c3 : a0 = 1
    · rw [if_pos c3] at H
      have c3b0 : (a0 == 1) = true := beq_iff_eq.mpr c3
      have c3b1 : (a0 != 1) = false := bne_eq_false_iff_eq.mpr c3
      clear c3
      obtain rfl := Option.some.inj H
      go_enter Tryd.func39, Tryd.ntmps39
      go_wp2
      go_ret
      exact ⟨by first | rfl | (simp; done) | (simp [*]; done), by repeat (first | exact Drawn0.refl _ | apply Drawn0.step)⟩
    · rw [if_neg c3] at H
      have c3b0 : (a0 == 1) = false := beq_eq_false_iff_ne.mpr c3
      have c3b1 : (a0 != 1) = true := bne_iff_ne.mpr c3
      by_cases c4 : a0 = 2
      · rw [if_pos c4] at H
        have c4b0 : (a0 == 2) = true := beq_iff_eq.mpr c4
        have c4b1 : (a0 != 2) = false := bne_eq_false_iff_eq.mpr c4
        clear c4
        obtain rfl := Option.some.inj H
        go_enter Tryd.func39, Tryd.ntmps39
        go_wp2
        go_ret
        exact ⟨by first | rfl | (simp; done) | (simp [*]; done), by repeat (first | exact Drawn0.refl _ | apply Drawn0.step)⟩
      · rw [if_neg c4] at H
        have c4b0 : (a0 == 2) = false := beq_eq_false_iff_ne.mpr c4
        have c4b1 : (a0 != 2) = true := bne_iff_ne.mpr c4
        by_cases c5 : a0 = 3
        · rw [if_pos c5] at H
          have c5b0 : (a0 == 3) = true := beq_iff_eq.mpr c5
          have c5b1 : (a0 != 3) = false := bne_eq_false_iff_eq.mpr c5
          clear c5
          obtain rfl := Option.some.inj H
          go_enter Tryd.func39, Tryd.ntmps39
          go_wp2
          go_ret
          exact ⟨by first | rfl | (simp; done) | (simp [*]; done), by repeat (first | exact Drawn0.refl _ | apply Drawn0.step)⟩
        · rw [if_neg c5] at H
          have c5b0 : (a0 == 3) = false := beq_eq_false_iff_ne.mpr c5
          have c5b1 : (a0 != 3) = true := bne_iff_ne.mpr c5
          obtain rfl := Option.some.inj H
          go_enter Tryd.func39, Tryd.ntmps39
          go_wp2
          go_ret
          exact ⟨by first | rfl | (simp; done) | (simp [*]; done), by repeat (first | exact Drawn0.refl _ | apply Drawn0.step)⟩

/-! ### tendrilref01_Text: function 27 -/
def tendrilref01_Text.f (k : Nat) (a0 : Int) : Option (ByteArray) := (tendrilref01_Good.f k a0).bind fun t114 => (if t114 = true then ((tendrilref01_Head.f k a0).bind fun bt115 => (if bt115.2.2 = true then ((tendrilref01_Decimal.f k bt115.1).bind fun t118 => (if 4 + t118.size ≤ 9223372036854775807 then (if ((⟨#[102, 117, 110, 32]⟩ : ByteArray) ++ t118).size + 1 ≤ 9223372036854775807 then ((tendrilref01_Decimal.f k bt115.2.1).bind fun t119 => (if (((⟨#[102, 117, 110, 32]⟩ : ByteArray) ++ t118) ++ (⟨#[47]⟩ : ByteArray)).size + t119.size ≤ 9223372036854775807 then (some ((((⟨#[102, 117, 110, 32]⟩ : ByteArray) ++ t118) ++ (⟨#[47]⟩ : ByteArray)) ++ t119)) else (none))) else (none)) else (none))) else ((tendrilref01_Tag.f a0).bind fun t120 => ((tendrilref01_name.f t120).bind fun t121 => (if t121.size + 1 ≤ 9223372036854775807 then ((tendrilref01_Value.f a0).bind fun t122 => ((tendrilref01_Decimal.f k t122).bind fun t123 => (if (t121 ++ (⟨#[32]⟩ : ByteArray)).size + t123.size ≤ 9223372036854775807 then (some ((t121 ++ (⟨#[32]⟩ : ByteArray)) ++ t123)) else (none)))) else (none)))))) else (some (⟨#[98, 97, 100]⟩ : ByteArray)))
theorem tendrilref01_Text.mono : ∀ a0 k, LeO (tendrilref01_Text.f k a0) (tendrilref01_Text.f (k + 1) a0) := by
  intro a0 k
  unfold tendrilref01_Text.f
  repeat' first
      | (with_reducible exact tendrilref01_Decimal.mono _ _)
      | (with_reducible exact tendrilref01_Good.mono _ _)
      | (with_reducible exact tendrilref01_Head.mono _ _)
      | (with_reducible exact LeO.refl _)
      | (with_reducible exact LeO.none _)
      | (with_reducible refine LeO.ite ?_ ?_)
      | (with_reducible refine LeO.bind ?_ (fun _ => ?_))
      | exact tendrilref01_Decimal.mono _ _
      | exact tendrilref01_Good.mono _ _
      | exact tendrilref01_Head.mono _ _
      | exact LeO.none _
      | refine LeO.ite ?_ ?_
      | refine LeO.bind ?_ (fun _ => ?_)
set_option maxHeartbeats 8000000 in
set_option maxRecDepth 100000 in
theorem tendrilref01_Text.calls (k : Nat) (a0 : Int) (r : ByteArray) (w : World) (h : tendrilref01_Text.f k a0 = some r) :
    Calls Tryd.prog 27 #[.int .u64 a0] w fun e w' => e = .returned (.string r) ∧ Below w.heap.size w w' := by
  have HB := Aside0.mk (Below.refl w.heap.size w)
  have H : ((tendrilref01_Good.f k a0).bind fun t114 => (if t114 = true then ((tendrilref01_Head.f k a0).bind fun bt115 => (if bt115.2.2 = true then ((tendrilref01_Decimal.f k bt115.1).bind fun t118 => (if 4 + t118.size ≤ 9223372036854775807 then (if ((⟨#[102, 117, 110, 32]⟩ : ByteArray) ++ t118).size + 1 ≤ 9223372036854775807 then ((tendrilref01_Decimal.f k bt115.2.1).bind fun t119 => (if (((⟨#[102, 117, 110, 32]⟩ : ByteArray) ++ t118) ++ (⟨#[47]⟩ : ByteArray)).size + t119.size ≤ 9223372036854775807 then (some ((((⟨#[102, 117, 110, 32]⟩ : ByteArray) ++ t118) ++ (⟨#[47]⟩ : ByteArray)) ++ t119)) else (none))) else (none)) else (none))) else ((tendrilref01_Tag.f a0).bind fun t120 => ((tendrilref01_name.f t120).bind fun t121 => (if t121.size + 1 ≤ 9223372036854775807 then ((tendrilref01_Value.f a0).bind fun t122 => ((tendrilref01_Decimal.f k t122).bind fun t123 => (if (t121 ++ (⟨#[32]⟩ : ByteArray)).size + t123.size ≤ 9223372036854775807 then (some ((t121 ++ (⟨#[32]⟩ : ByteArray)) ++ t123)) else (none)))) else (none)))))) else (some (⟨#[98, 97, 100]⟩ : ByteArray)))) = some r := h
  clear h
  replace H := Option.bind_eq_some_iff.mp H
  obtain ⟨t114, A20, H⟩ := H
  replace H : (if t114 = true then ((tendrilref01_Head.f k a0).bind fun bt115 => (if bt115.2.2 = true then ((tendrilref01_Decimal.f k bt115.1).bind fun t118 => (if 4 + t118.size ≤ 9223372036854775807 then (if ((⟨#[102, 117, 110, 32]⟩ : ByteArray) ++ t118).size + 1 ≤ 9223372036854775807 then ((tendrilref01_Decimal.f k bt115.2.1).bind fun t119 => (if (((⟨#[102, 117, 110, 32]⟩ : ByteArray) ++ t118) ++ (⟨#[47]⟩ : ByteArray)).size + t119.size ≤ 9223372036854775807 then (some ((((⟨#[102, 117, 110, 32]⟩ : ByteArray) ++ t118) ++ (⟨#[47]⟩ : ByteArray)) ++ t119)) else (none))) else (none)) else (none))) else ((tendrilref01_Tag.f a0).bind fun t120 => ((tendrilref01_name.f t120).bind fun t121 => (if t121.size + 1 ≤ 9223372036854775807 then ((tendrilref01_Value.f a0).bind fun t122 => ((tendrilref01_Decimal.f k t122).bind fun t123 => (if (t121 ++ (⟨#[32]⟩ : ByteArray)).size + t123.size ≤ 9223372036854775807 then (some ((t121 ++ (⟨#[32]⟩ : ByteArray)) ++ t123)) else (none)))) else (none)))))) else (some (⟨#[98, 97, 100]⟩ : ByteArray))) = some r := H
  have A2 := Aside0.mk A20
  clear A20
  by_cases c3 : t114 = true
  · subst c3
    have H1 : ((tendrilref01_Head.f k a0).bind fun bt115 => (if bt115.2.2 = true then ((tendrilref01_Decimal.f k bt115.1).bind fun t118 => (if 4 + t118.size ≤ 9223372036854775807 then (if ((⟨#[102, 117, 110, 32]⟩ : ByteArray) ++ t118).size + 1 ≤ 9223372036854775807 then ((tendrilref01_Decimal.f k bt115.2.1).bind fun t119 => (if (((⟨#[102, 117, 110, 32]⟩ : ByteArray) ++ t118) ++ (⟨#[47]⟩ : ByteArray)).size + t119.size ≤ 9223372036854775807 then (some ((((⟨#[102, 117, 110, 32]⟩ : ByteArray) ++ t118) ++ (⟨#[47]⟩ : ByteArray)) ++ t119)) else (none))) else (none)) else (none))) else ((tendrilref01_Tag.f a0).bind fun t120 => ((tendrilref01_name.f t120).bind fun t121 => (if t121.size + 1 ≤ 9223372036854775807 then ((tendrilref01_Value.f a0).bind fun t122 => ((tendrilref01_Decimal.f k t122).bind fun t123 => (if (t121 ++ (⟨#[32]⟩ : ByteArray)).size + t123.size ≤ 9223372036854775807 then (some ((t121 ++ (⟨#[32]⟩ : ByteArray)) ++ t123)) else (none)))) else (none)))))) = some r := by rw [if_pos rfl] at H; exact H
    clear H
    have H := H1
    clear H1
    replace H := Option.bind_eq_some_iff.mp H
    obtain ⟨⟨t115, t116, t117⟩, A40, H⟩ := H
    replace H : (if t117 = true then ((tendrilref01_Decimal.f k t115).bind fun t118 => (if 4 + t118.size ≤ 9223372036854775807 then (if ((⟨#[102, 117, 110, 32]⟩ : ByteArray) ++ t118).size + 1 ≤ 9223372036854775807 then ((tendrilref01_Decimal.f k t116).bind fun t119 => (if (((⟨#[102, 117, 110, 32]⟩ : ByteArray) ++ t118) ++ (⟨#[47]⟩ : ByteArray)).size + t119.size ≤ 9223372036854775807 then (some ((((⟨#[102, 117, 110, 32]⟩ : ByteArray) ++ t118) ++ (⟨#[47]⟩ : ByteArray)) ++ t119)) else (none))) else (none)) else (none))) else ((tendrilref01_Tag.f a0).bind fun t120 => ((tendrilref01_name.f t120).bind fun t121 => (if t121.size + 1 ≤ 9223372036854775807 then ((tendrilref01_Value.f a0).bind fun t122 => ((tendrilref01_Decimal.f k t122).bind fun t123 => (if (t121 ++ (⟨#[32]⟩ : ByteArray)).size + t123.size ≤ 9223372036854775807 then (some ((t121 ++ (⟨#[32]⟩ : ByteArray)) ++ t123)) else (none)))) else (none))))) = some r := H
    have A4 := Aside0.mk A40
    clear A40
    by_cases c5 : t117 = true
    · subst c5
      have H1 : ((tendrilref01_Decimal.f k t115).bind fun t118 => (if 4 + t118.size ≤ 9223372036854775807 then (if ((⟨#[102, 117, 110, 32]⟩ : ByteArray) ++ t118).size + 1 ≤ 9223372036854775807 then ((tendrilref01_Decimal.f k t116).bind fun t119 => (if (((⟨#[102, 117, 110, 32]⟩ : ByteArray) ++ t118) ++ (⟨#[47]⟩ : ByteArray)).size + t119.size ≤ 9223372036854775807 then (some ((((⟨#[102, 117, 110, 32]⟩ : ByteArray) ++ t118) ++ (⟨#[47]⟩ : ByteArray)) ++ t119)) else (none))) else (none)) else (none))) = some r := by rw [if_pos rfl] at H; exact H
      clear H
      have H := H1
      clear H1
      replace H := Option.bind_eq_some_iff.mp H
      obtain ⟨t118, A60, H⟩ := H
      replace H : (if 4 + t118.size ≤ 9223372036854775807 then (if ((⟨#[102, 117, 110, 32]⟩ : ByteArray) ++ t118).size + 1 ≤ 9223372036854775807 then ((tendrilref01_Decimal.f k t116).bind fun t119 => (if (((⟨#[102, 117, 110, 32]⟩ : ByteArray) ++ t118) ++ (⟨#[47]⟩ : ByteArray)).size + t119.size ≤ 9223372036854775807 then (some ((((⟨#[102, 117, 110, 32]⟩ : ByteArray) ++ t118) ++ (⟨#[47]⟩ : ByteArray)) ++ t119)) else (none))) else (none)) else (none)) = some r := H
      have A6 := Aside0.mk A60
      clear A60
      by_cases c7 : 4 + t118.size ≤ 9223372036854775807
      · rw [if_pos c7] at H
        have c7b0 := eq_true c7
        have c7b1 : decide (4 + t118.size ≤ 9223372036854775807) = true := decide_eq_true c7
        try have c7b2 : (9223372036854775807 < 4 + t118.size) = False := eq_false (Nat.not_lt.2 c7)
        by_cases c8 : ((⟨#[102, 117, 110, 32]⟩ : ByteArray) ++ t118).size + 1 ≤ 9223372036854775807
        · rw [if_pos c8] at H
          have c8z := c8; (try simp only [ByteArray.size_append, show (⟨#[102, 117, 110, 32]⟩ : ByteArray).size = 4 from rfl] at c8z)
          have c8b0 := eq_true c8
          have c8b1 : decide (((⟨#[102, 117, 110, 32]⟩ : ByteArray) ++ t118).size + 1 ≤ 9223372036854775807) = true := decide_eq_true c8
          try have c8b2 : (9223372036854775807 < ((⟨#[102, 117, 110, 32]⟩ : ByteArray) ++ t118).size + 1) = False := eq_false (Nat.not_lt.2 c8)
          replace H := Option.bind_eq_some_iff.mp H
          obtain ⟨t119, A90, H⟩ := H
          replace H : (if (((⟨#[102, 117, 110, 32]⟩ : ByteArray) ++ t118) ++ (⟨#[47]⟩ : ByteArray)).size + t119.size ≤ 9223372036854775807 then (some ((((⟨#[102, 117, 110, 32]⟩ : ByteArray) ++ t118) ++ (⟨#[47]⟩ : ByteArray)) ++ t119)) else (none)) = some r := H
          have A9 := Aside0.mk A90
          clear A90
          by_cases c10 : (((⟨#[102, 117, 110, 32]⟩ : ByteArray) ++ t118) ++ (⟨#[47]⟩ : ByteArray)).size + t119.size ≤ 9223372036854775807
          · rw [if_pos c10] at H
            have c10z := c10; (try simp only [ByteArray.size_append, show (⟨#[102, 117, 110, 32]⟩ : ByteArray).size = 4 from rfl, show (⟨#[47]⟩ : ByteArray).size = 1 from rfl] at c10z)
            have c10b0 := eq_true c10
            have c10b1 : decide ((((⟨#[102, 117, 110, 32]⟩ : ByteArray) ++ t118) ++ (⟨#[47]⟩ : ByteArray)).size + t119.size ≤ 9223372036854775807) = true := decide_eq_true c10
            try have c10b2 : (9223372036854775807 < (((⟨#[102, 117, 110, 32]⟩ : ByteArray) ++ t118) ++ (⟨#[47]⟩ : ByteArray)).size + t119.size) = False := eq_false (Nat.not_lt.2 c10)
            obtain rfl := Option.some.inj H
            go_enter Tryd.func27, Tryd.ntmps27
            go_wp2_with (first | ((with_reducible refine gate_callee (f := 25) rfl ?_); refine goesL_ (some 7) rfl rfl Tryd.func25 (by kernel_rfl) rfl #[.int .u64 a0] rfl (by (try simp only [List.map_toArray, List.map_cons, List.map_nil]); first | done | rfl | (simp only [List.length_drop, List.length_take]; rfl)) ?_; (with_reducible refine (tendrilref01_Good.calls k a0 true _ A2.out).mono ?_); rintro e w' ⟨rfl, ⟨nd, rfl⟩⟩; refine ⟨_, rfl, ?_⟩) | ((with_reducible refine gate_callee (f := 20) rfl ?_); refine goesL_ (some 11) rfl rfl Tryd.func20 (by kernel_rfl) rfl #[.int .u64 a0] rfl (by (try simp only [List.map_toArray, List.map_cons, List.map_nil]); first | done | rfl | (simp only [List.length_drop, List.length_take]; rfl)) ?_; (with_reducible refine (tendrilref01_Head.calls k a0 t115 t116 true _ A4.out).mono ?_); rintro e w' ⟨rfl, ⟨nd, rfl⟩⟩; refine ⟨_, rfl, ?_⟩) | ((with_reducible refine gate_callee (f := 38) rfl ?_); refine goesL_ (some 17) rfl rfl Tryd.func38 (by kernel_rfl) rfl #[.int .i64 t115] rfl (by (try simp only [List.map_toArray, List.map_cons, List.map_nil]); first | done | rfl | (simp only [List.length_drop, List.length_take]; rfl)) ?_; (with_reducible refine (tendrilref01_Decimal.calls k t115 t118 _ A6.out).mono ?_); rintro e w11 ⟨rfl, hb⟩; refine ⟨_, rfl, ?_⟩; have n0_ := Aside0.mk (below_step (by repeat (first | (with_reducible first | exact HB.out | apply below_alloc | apply pw_below_drewN | apply below_drew1) | exact HB.out)) hb); clear HB; have HB := n0_; clear n0_; (try clear hb); (try clear hb2); (try clear hk); (try clear hi)) | ((with_reducible refine gate_callee (f := 38) rfl ?_); refine goesL_ (some 21) rfl rfl Tryd.func38 (by kernel_rfl) rfl #[.int .i64 t116] rfl (by (try simp only [List.map_toArray, List.map_cons, List.map_nil]); first | done | rfl | (simp only [List.length_drop, List.length_take]; rfl)) ?_; (with_reducible refine (tendrilref01_Decimal.calls k t116 t119 _ A9.out).mono ?_); rintro e w12 ⟨rfl, hb⟩; refine ⟨_, rfl, ?_⟩; have n0_ := Aside0.mk (below_step (by repeat (first | (with_reducible first | exact HB.out | apply below_alloc | apply pw_below_drewN | apply below_drew1) | exact HB.out)) hb); clear HB; have HB := n0_; clear n0_; (try clear hb); (try clear hb2); (try clear hk); (try clear hi)))
            go_ret
            exact ⟨by first | rfl | (simp [errW_none, errW_some] <;> rfl) | (simp [*, errW_none, errW_some] <;> rfl), by repeat (first | (with_reducible first | exact HB.out | apply below_alloc | apply pw_below_drewN | apply below_drew1) | exact HB.out)⟩
          · rw [if_neg c10] at H
            exact absurd H (by simp)
        · rw [if_neg c8] at H
          exact absurd H (by simp)
      · rw [if_neg c7] at H
        exact absurd H (by simp)
    · replace c5 := Bool.eq_false_iff.mpr c5
      subst c5
      have H1 : ((tendrilref01_Tag.f a0).bind fun t120 => ((tendrilref01_name.f t120).bind fun t121 => (if t121.size + 1 ≤ 9223372036854775807 then ((tendrilref01_Value.f a0).bind fun t122 => ((tendrilref01_Decimal.f k t122).bind fun t123 => (if (t121 ++ (⟨#[32]⟩ : ByteArray)).size + t123.size ≤ 9223372036854775807 then (some ((t121 ++ (⟨#[32]⟩ : ByteArray)) ++ t123)) else (none)))) else (none)))) = some r := by rw [if_neg (show ¬ (false = true) by decide)] at H; exact H
      clear H
      have H := H1
      clear H1
      replace H := Option.bind_eq_some_iff.mp H
      obtain ⟨t120, A130, H⟩ := H
      replace H : ((tendrilref01_name.f t120).bind fun t121 => (if t121.size + 1 ≤ 9223372036854775807 then ((tendrilref01_Value.f a0).bind fun t122 => ((tendrilref01_Decimal.f k t122).bind fun t123 => (if (t121 ++ (⟨#[32]⟩ : ByteArray)).size + t123.size ≤ 9223372036854775807 then (some ((t121 ++ (⟨#[32]⟩ : ByteArray)) ++ t123)) else (none)))) else (none))) = some r := H
      have A13 := Aside0.mk A130
      clear A130
      replace H := Option.bind_eq_some_iff.mp H
      obtain ⟨t121, A140, H⟩ := H
      replace H : (if t121.size + 1 ≤ 9223372036854775807 then ((tendrilref01_Value.f a0).bind fun t122 => ((tendrilref01_Decimal.f k t122).bind fun t123 => (if (t121 ++ (⟨#[32]⟩ : ByteArray)).size + t123.size ≤ 9223372036854775807 then (some ((t121 ++ (⟨#[32]⟩ : ByteArray)) ++ t123)) else (none)))) else (none)) = some r := H
      have A14 := Aside0.mk A140
      clear A140
      by_cases c15 : t121.size + 1 ≤ 9223372036854775807
      · rw [if_pos c15] at H
        have c15b0 := eq_true c15
        have c15b1 : decide (t121.size + 1 ≤ 9223372036854775807) = true := decide_eq_true c15
        try have c15b2 : (9223372036854775807 < t121.size + 1) = False := eq_false (Nat.not_lt.2 c15)
        replace H := Option.bind_eq_some_iff.mp H
        obtain ⟨t122, A160, H⟩ := H
        replace H : ((tendrilref01_Decimal.f k t122).bind fun t123 => (if (t121 ++ (⟨#[32]⟩ : ByteArray)).size + t123.size ≤ 9223372036854775807 then (some ((t121 ++ (⟨#[32]⟩ : ByteArray)) ++ t123)) else (none))) = some r := H
        have A16 := Aside0.mk A160
        clear A160
        replace H := Option.bind_eq_some_iff.mp H
        obtain ⟨t123, A170, H⟩ := H
        replace H : (if (t121 ++ (⟨#[32]⟩ : ByteArray)).size + t123.size ≤ 9223372036854775807 then (some ((t121 ++ (⟨#[32]⟩ : ByteArray)) ++ t123)) else (none)) = some r := H
        have A17 := Aside0.mk A170
        clear A170
        by_cases c18 : (t121 ++ (⟨#[32]⟩ : ByteArray)).size + t123.size ≤ 9223372036854775807
        · rw [if_pos c18] at H
          have c18z := c18; (try simp only [ByteArray.size_append, show (⟨#[32]⟩ : ByteArray).size = 1 from rfl] at c18z)
          have c18b0 := eq_true c18
          have c18b1 : decide ((t121 ++ (⟨#[32]⟩ : ByteArray)).size + t123.size ≤ 9223372036854775807) = true := decide_eq_true c18
          try have c18b2 : (9223372036854775807 < (t121 ++ (⟨#[32]⟩ : ByteArray)).size + t123.size) = False := eq_false (Nat.not_lt.2 c18)
          obtain rfl := Option.some.inj H
          go_enter Tryd.func27, Tryd.ntmps27
          go_wp2_with (first | ((with_reducible refine gate_callee (f := 25) rfl ?_); refine goesL_ (some 7) rfl rfl Tryd.func25 (by kernel_rfl) rfl #[.int .u64 a0] rfl (by (try simp only [List.map_toArray, List.map_cons, List.map_nil]); first | done | rfl | (simp only [List.length_drop, List.length_take]; rfl)) ?_; (with_reducible refine (tendrilref01_Good.calls k a0 true _ A2.out).mono ?_); rintro e w' ⟨rfl, ⟨nd, rfl⟩⟩; refine ⟨_, rfl, ?_⟩) | ((with_reducible refine gate_callee (f := 20) rfl ?_); refine goesL_ (some 11) rfl rfl Tryd.func20 (by kernel_rfl) rfl #[.int .u64 a0] rfl (by (try simp only [List.map_toArray, List.map_cons, List.map_nil]); first | done | rfl | (simp only [List.length_drop, List.length_take]; rfl)) ?_; (with_reducible refine (tendrilref01_Head.calls k a0 t115 t116 false _ A4.out).mono ?_); rintro e w' ⟨rfl, ⟨nd, rfl⟩⟩; refine ⟨_, rfl, ?_⟩) | ((with_reducible refine gate_callee (f := 23) rfl ?_); refine goesL_ (some 24) rfl rfl Tryd.func23 (by kernel_rfl) rfl #[.int .u64 a0] rfl (by (try simp only [List.map_toArray, List.map_cons, List.map_nil]); first | done | rfl | (simp only [List.length_drop, List.length_take]; rfl)) ?_; (with_reducible refine (tendrilref01_Tag.calls a0 t120 _ A13.out).mono ?_); rintro e w' ⟨rfl, ⟨nd, rfl⟩⟩; refine ⟨_, rfl, ?_⟩) | ((with_reducible refine gate_callee (f := 39) rfl ?_); refine goesL_ (some 25) rfl rfl Tryd.func39 (by kernel_rfl) rfl #[.int .i64 t120] rfl (by (try simp only [List.map_toArray, List.map_cons, List.map_nil]); first | done | rfl | (simp only [List.length_drop, List.length_take]; rfl)) ?_; (with_reducible refine (tendrilref01_name.calls t120 t121 _ A14.out).mono ?_); rintro e w' ⟨rfl, ⟨nd, rfl⟩⟩; refine ⟨_, rfl, ?_⟩) | ((with_reducible refine gate_callee (f := 24) rfl ?_); refine goesL_ (some 28) rfl rfl Tryd.func24 (by kernel_rfl) rfl #[.int .u64 a0] rfl (by (try simp only [List.map_toArray, List.map_cons, List.map_nil]); first | done | rfl | (simp only [List.length_drop, List.length_take]; rfl)) ?_; (with_reducible refine (tendrilref01_Value.calls a0 t122 _ A16.out).mono ?_); rintro e w' ⟨rfl, ⟨nd, rfl⟩⟩; refine ⟨_, rfl, ?_⟩) | ((with_reducible refine gate_callee (f := 38) rfl ?_); refine goesL_ (some 29) rfl rfl Tryd.func38 (by kernel_rfl) rfl #[.int .i64 t122] rfl (by (try simp only [List.map_toArray, List.map_cons, List.map_nil]); first | done | rfl | (simp only [List.length_drop, List.length_take]; rfl)) ?_; (with_reducible refine (tendrilref01_Decimal.calls k t122 t123 _ A17.out).mono ?_); rintro e w19 ⟨rfl, hb⟩; refine ⟨_, rfl, ?_⟩; have n0_ := Aside0.mk (below_step (by repeat (first | (with_reducible first | exact HB.out | apply below_alloc | apply pw_below_drewN | apply below_drew1) | exact HB.out)) hb); clear HB; have HB := n0_; clear n0_; (try clear hb); (try clear hb2); (try clear hk); (try clear hi)))
          go_ret
          exact ⟨by first | rfl | (simp [errW_none, errW_some] <;> rfl) | (simp [*, errW_none, errW_some] <;> rfl), by repeat (first | (with_reducible first | exact HB.out | apply below_alloc | apply pw_below_drewN | apply below_drew1) | exact HB.out)⟩
        · rw [if_neg c18] at H
          exact absurd H (by simp)
      · rw [if_neg c15] at H
        exact absurd H (by simp)
  · replace c3 := Bool.eq_false_iff.mpr c3
    subst c3
    have H1 : (some (⟨#[98, 97, 100]⟩ : ByteArray)) = some r := by rw [if_neg (show ¬ (false = true) by decide)] at H; exact H
    clear H
    have H := H1
    clear H1
    obtain rfl := Option.some.inj H
    go_enter Tryd.func27, Tryd.ntmps27
    go_wp2_with (first | ((with_reducible refine gate_callee (f := 25) rfl ?_); refine goesL_ (some 7) rfl rfl Tryd.func25 (by kernel_rfl) rfl #[.int .u64 a0] rfl (by (try simp only [List.map_toArray, List.map_cons, List.map_nil]); first | done | rfl | (simp only [List.length_drop, List.length_take]; rfl)) ?_; (with_reducible refine (tendrilref01_Good.calls k a0 false _ A2.out).mono ?_); rintro e w' ⟨rfl, ⟨nd, rfl⟩⟩; refine ⟨_, rfl, ?_⟩))
    go_ret
    exact ⟨by first | rfl | (simp [errW_none, errW_some] <;> rfl) | (simp [*, errW_none, errW_some] <;> rfl), by repeat (first | (with_reducible first | exact HB.out | apply below_alloc | apply pw_below_drewN | apply below_drew1) | exact HB.out)⟩

/-! ### tendrilnum_Of: function 33 -/
def tendrilnum_Of.f (a0 : Int) : Option (Int × Int × ByteArray × (List (S32))) := some (a0, (-1), (⟨#[]⟩ : ByteArray), ([] : List (S32)))
set_option maxHeartbeats 8000000 in
set_option maxRecDepth 100000 in
theorem tendrilnum_Of.calls (a0 : Int) (r1 : Int) (r2 : Int) (r3 : ByteArray) (r4 : List (S32)) (w : World) (h : tendrilnum_Of.f a0 = some (r1, r2, r3, r4)) :
    Calls Tryd.prog 33 #[.int .i64 a0] w fun e w' => ∃ v3_ : Value, e = .returned (.agg #[.int .i64 r1, .int .i64 r2, .string r3, v3_]) ∧ Kd.R k32 32 w' w.heap.size (fun _ => True) v3_ r4 ∧ Below w.heap.size w w' := by
  have hu32 := Tryd.underlying32
  have HB := Aside0.mk (Below.refl w.heap.size w)
  have H : (some (a0, (-1), (⟨#[]⟩ : ByteArray), ([] : List (S32)))) = some (r1, r2, r3, r4) := h
  clear h
  simp only [Option.some.injEq, Prod.mk.injEq] at H
  obtain ⟨rfl, rfl, rfl, rfl⟩ := H
  go_enter Tryd.func33, Tryd.ntmps33
  go_wp2_with (first | ((with_reducible refine gate_dst (N := 2) rfl ?_); refine box_event ?hg (N := 2) ?hd (cs := #[.int .i64 0, .int .i64 0, .string (⟨#[]⟩ : ByteArray), .slice none 0 0]) (t := 32) ?hr ?_; (case hd => rfl); (case hg => rfl); (case hr => first | (go_simp; done) | (go_simp; rfl)); intro gb124 hg w2 hbox hb; have n0_ := Aside0.mk (below_step (by repeat (first | (with_reducible first | exact HB.out | apply below_alloc | apply pw_below_drewN | apply below_drew1) | exact HB.out)) hb); have n1_ := Aside0.mk (hbox); have n2_ := Aside0.mk ((by rw [hg]; exact (below_size (by repeat (first | (with_reducible first | exact HB.out | apply below_alloc | apply pw_below_drewN | apply below_drew1) | exact HB.out))) : w.heap.size ≤ gb124)); have n3_ := Aside0.mk ((by rw [hg]; exact (below_size (by repeat (first | (with_reducible first | exact HB.out | apply below_alloc | apply pw_below_drewN | apply below_drew1) | exact HB.out))) : w.heap.size ≤ gb124)); clear HB; have HB := n0_; have BK124 := n1_; have GW124 := n2_; have GE124 := n3_; clear n0_ n1_ n2_ n3_; clear hb hbox hg; have hcz3_0 : w2.cell? ⟨gb124, 0, none⟩ = some (.int .i64 0) := (blk_cell BK124.out 0).trans rfl; have hcz3_1 : w2.cell? ⟨gb124, 1, none⟩ = some (.int .i64 0) := (blk_cell BK124.out 1).trans rfl; have hcz3_2 : w2.cell? ⟨gb124, 2, none⟩ = some (.string (⟨#[]⟩ : ByteArray)) := (blk_cell BK124.out 2).trans rfl; have hcz3_3 : w2.cell? ⟨gb124, 3, none⟩ = some (.slice none 0 0) := (blk_cell BK124.out 3).trans rfl; have hfz3_0 := blk_frozen BK124.out 0; have hfz3_1 := blk_frozen BK124.out 1; have hfz3_2 := blk_frozen BK124.out 2; have hfz3_3 := blk_frozen BK124.out 3))
  refine bodyPost_ret (results_cell_row rfl _ _ gb124 32 #[.int .i64 a0, .int .i64 (-1), .string (⟨#[]⟩ : ByteArray), .slice none 0 0] (0, 0) _ rfl (by (with_reducible repeat (first | refine blk_drewN ?_ _ | refine blk_drew ?_ | refine blk_alloc ?_ _)); refine blk_put (cs := #[.int .i64 a0, .int .i64 (-1), .string (⟨#[]⟩ : ByteArray), .slice none 0 0]) ?_ 3 _ rfl; (with_reducible repeat (first | refine blk_drewN ?_ _ | refine blk_drew ?_ | refine blk_alloc ?_ _)); refine blk_put (cs := #[.int .i64 a0, .int .i64 (-1), .string (⟨#[]⟩ : ByteArray), .slice none 0 0]) ?_ 2 _ rfl; (with_reducible repeat (first | refine blk_drewN ?_ _ | refine blk_drew ?_ | refine blk_alloc ?_ _)); refine blk_put (cs := #[.int .i64 a0, .int .i64 0, .string (⟨#[]⟩ : ByteArray), .slice none 0 0]) ?_ 1 _ rfl; (with_reducible repeat (first | refine blk_drewN ?_ _ | refine blk_drew ?_ | refine blk_alloc ?_ _)); refine blk_put (cs := #[.int .i64 0, .int .i64 0, .string (⟨#[]⟩ : ByteArray), .slice none 0 0]) ?_ 0 _ rfl; (with_reducible repeat (first | refine blk_drewN ?_ _ | refine blk_drew ?_ | refine blk_alloc ?_ _)); exact BK124.out) Tryd.underlying32 rfl (by kernel_rfl)) rfl ?_
  exact ⟨_, by first | rfl | (simp [errW_none, errW_some] <;> rfl) | (simp [*, errW_none, errW_some] <;> rfl), by first | exact Kd.R_nil _ _ _ _ _ | exact Kd.N_nil _ _ _ _ _ | exact Kd.V_nil _ _ _ _ _ | exact Kd.Q_nil _ _ _ _ _ | exact Kd.S_nil _ _ _ _ _, by repeat (first | (with_reducible first | exact HB.out | apply below_alloc | apply pw_below_drewN | apply below_drew1 | refine below_set ?_ GE124.out) | exact HB.out)⟩

/-! ### tendrilnum_No: function 35 -/
def tendrilnum_No.f  : Option (Int × Int × ByteArray × (List (S32))) := some (0, 0, (⟨#[]⟩ : ByteArray), ([] : List (S32)))
set_option maxHeartbeats 8000000 in
set_option maxRecDepth 100000 in
theorem tendrilnum_No.calls  (r1 : Int) (r2 : Int) (r3 : ByteArray) (r4 : List (S32)) (w : World) (h : tendrilnum_No.f  = some (r1, r2, r3, r4)) :
    Calls Tryd.prog 35 #[] w fun e w' => ∃ v3_ : Value, e = .returned (.agg #[.int .i64 r1, .int .i64 r2, .string r3, v3_]) ∧ Kd.R k32 32 w' w.heap.size (fun _ => True) v3_ r4 ∧ Below w.heap.size w w' := by
  have hu32 := Tryd.underlying32
  have HB := Aside0.mk (Below.refl w.heap.size w)
  have H : (some (0, 0, (⟨#[]⟩ : ByteArray), ([] : List (S32)))) = some (r1, r2, r3, r4) := h
  clear h
  simp only [Option.some.injEq, Prod.mk.injEq] at H
  obtain ⟨rfl, rfl, rfl, rfl⟩ := H
  go_enter Tryd.func35, Tryd.ntmps35
  go_wp2_with (first | ((with_reducible refine gate_dst (N := 0) rfl ?_); refine box_event ?hg (N := 0) ?hd (cs := #[.int .i64 0, .int .i64 0, .string (⟨#[]⟩ : ByteArray), .slice none 0 0]) (t := 32) ?hr ?_; (case hd => rfl); (case hg => rfl); (case hr => first | (go_simp; done) | (go_simp; rfl)); intro gb125 hg w1 hbox hb; have n0_ := Aside0.mk (below_step (by repeat (first | (with_reducible first | exact HB.out | apply below_alloc | apply pw_below_drewN | apply below_drew1) | exact HB.out)) hb); have n1_ := Aside0.mk (hbox); have n2_ := Aside0.mk ((by rw [hg]; exact (below_size (by repeat (first | (with_reducible first | exact HB.out | apply below_alloc | apply pw_below_drewN | apply below_drew1) | exact HB.out))) : w.heap.size ≤ gb125)); have n3_ := Aside0.mk ((by rw [hg]; exact (below_size (by repeat (first | (with_reducible first | exact HB.out | apply below_alloc | apply pw_below_drewN | apply below_drew1) | exact HB.out))) : w.heap.size ≤ gb125)); clear HB; have HB := n0_; have BK125 := n1_; have GW125 := n2_; have GE125 := n3_; clear n0_ n1_ n2_ n3_; clear hb hbox hg; have hcz2_0 : w1.cell? ⟨gb125, 0, none⟩ = some (.int .i64 0) := (blk_cell BK125.out 0).trans rfl; have hcz2_1 : w1.cell? ⟨gb125, 1, none⟩ = some (.int .i64 0) := (blk_cell BK125.out 1).trans rfl; have hcz2_2 : w1.cell? ⟨gb125, 2, none⟩ = some (.string (⟨#[]⟩ : ByteArray)) := (blk_cell BK125.out 2).trans rfl; have hcz2_3 : w1.cell? ⟨gb125, 3, none⟩ = some (.slice none 0 0) := (blk_cell BK125.out 3).trans rfl; have hfz2_0 := blk_frozen BK125.out 0; have hfz2_1 := blk_frozen BK125.out 1; have hfz2_2 := blk_frozen BK125.out 2; have hfz2_3 := blk_frozen BK125.out 3))
  refine bodyPost_ret (results_cell_row rfl _ _ gb125 32 #[.int .i64 0, .int .i64 0, .string (⟨#[]⟩ : ByteArray), .slice none 0 0] (0, 0) _ rfl (by (with_reducible repeat (first | refine blk_drewN ?_ _ | refine blk_drew ?_ | refine blk_alloc ?_ _)); refine blk_put (cs := #[.int .i64 0, .int .i64 0, .string (⟨#[]⟩ : ByteArray), .slice none 0 0]) ?_ 3 _ rfl; (with_reducible repeat (first | refine blk_drewN ?_ _ | refine blk_drew ?_ | refine blk_alloc ?_ _)); refine blk_put (cs := #[.int .i64 0, .int .i64 0, .string (⟨#[]⟩ : ByteArray), .slice none 0 0]) ?_ 2 _ rfl; (with_reducible repeat (first | refine blk_drewN ?_ _ | refine blk_drew ?_ | refine blk_alloc ?_ _)); refine blk_put (cs := #[.int .i64 0, .int .i64 0, .string (⟨#[]⟩ : ByteArray), .slice none 0 0]) ?_ 1 _ rfl; (with_reducible repeat (first | refine blk_drewN ?_ _ | refine blk_drew ?_ | refine blk_alloc ?_ _)); refine blk_put (cs := #[.int .i64 0, .int .i64 0, .string (⟨#[]⟩ : ByteArray), .slice none 0 0]) ?_ 0 _ rfl; (with_reducible repeat (first | refine blk_drewN ?_ _ | refine blk_drew ?_ | refine blk_alloc ?_ _)); exact BK125.out) Tryd.underlying32 rfl (by kernel_rfl)) rfl ?_
  exact ⟨_, by first | rfl | (simp [errW_none, errW_some] <;> rfl) | (simp [*, errW_none, errW_some] <;> rfl), by first | exact Kd.R_nil _ _ _ _ _ | exact Kd.N_nil _ _ _ _ _ | exact Kd.V_nil _ _ _ _ _ | exact Kd.Q_nil _ _ _ _ _ | exact Kd.S_nil _ _ _ _ _, by repeat (first | (with_reducible first | exact HB.out | apply below_alloc | apply pw_below_drewN | apply below_drew1 | refine below_set ?_ GE125.out) | exact HB.out)⟩

end Go.Proofs.YtpmnkabggljpkaaDoor.PRef
