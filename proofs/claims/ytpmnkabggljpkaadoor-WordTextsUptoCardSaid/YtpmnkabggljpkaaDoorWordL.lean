/- lives, and the first five laws of tendrillaw01, walked: each returns true; what was there stays. -/
import Derived.Test.YtpmnkabggljpkaaDoorWordB
import Derived.Shelf.Strconv.Itoa3
import Derived.Test.YtpmnkabggljpkaaDoorSI
import Derived.OpenShut
set_option linter.unusedVariables false
set_option linter.unusedSimpArgs false
namespace Go.Proofs.YtpmnkabggljpkaaDoor
open Go.RowKit
theorem itoaS (i : Int) (h0 : 0 ≤ i) (h1 : i < 100) (w : World) : Calls Tryd.prog 36 #[.int .i64 i] w fun e w' => e = .returned (.string ⟨(Lib.decDigits i.toNat).toArray⟩) ∧ w = w' := by
  obtain ⟨n, rfl⟩ := Int.eq_ofNat_of_zero_le h0
  exact (Tryd.strconv_Itoa_small n (by omega) w).mono fun e w' ⟨he, hw⟩ => ⟨he, hw.symm⟩
set_option maxRecDepth 100000 in
theorem text404_any (w : World) : Calls Tryd.prog 26 #[.int .u64 404] w fun e w' => e = .returned (.string ⟨#[102, 117, 110, 32, 51, 47, 50]⟩) ∧ w = w' := by
  have g1 : goodS 404 = true := by decide
  have g2 : headN 404 = 3 := by decide
  have g3 : headK 404 = 2 := by decide
  have g4 : headB 404 = true := by decide
  have d3 : Lib.decDigits 3 = [51] := by decide +kernel
  have d2 : Lib.decDigits 2 = [50] := by decide +kernel
  go_enter Tryd.func26, Tryd.ntmps26
  go_wp2_with (first | (go_at_call 18; refine (good_any 404 _ (by decide) (by decide)).mono ?_; rintro e w' ⟨rfl, rfl⟩) | (go_at_call 19; refine (head_any 404 _ (by decide) (by decide)).mono ?_; rintro e w' ⟨rfl, rfl⟩) | (go_at_call 36; refine (itoaS _ (by decide) (by decide) _).mono ?_; rintro e w' ⟨rfl, rfl⟩))
  go_ret
  exact ⟨rfl, rfl⟩
theorem fun32 (w : World) : Calls Tryd.prog 16 #[.int .i64 3, .int .i64 2] w fun e w' => e = .returned (.tuple #[.int .u64 404, .nilIface]) ∧ Below w.heap.size w w' :=
  (fun_any 3 2 w).mono fun e w' ⟨v, he, hv, hb⟩ => by
    have e1 : funC 3 2 = [] := by decide
    have e2 : funS 3 2 = 404 := by decide
    rw [e1] at hv
    rw [e2] at he
    cases hv
    exact ⟨he, hb⟩
set_option maxRecDepth 100000 in
theorem lives_any (w : World) : Calls Tryd.prog 10 #[] w fun e w' => e = .returned (.bool true) ∧ Below w.heap.size w w' := by
  go_enter Tryd.func10, Tryd.ntmps10
  go_wp2_with (first | (go_at_call 16; refine (fun32 _).mono ?_; rintro e w' ⟨rfl, hb⟩) | (go_at_call 26; refine (text404_any _).mono ?_; rintro e w' ⟨rfl, rfl⟩))
  go_ret
  exact ⟨rfl, ‹_›⟩
/-- A box of four cells: what it holds. -/
structure Box4 (w : World) (g : Nat) (x0 x1 x2 x3 : Value) : Prop where
  lt : g < w.heap.size
  c0 : w.cell? ⟨g, 0, none⟩ = some x0
  c1 : w.cell? ⟨g, 1, none⟩ = some x1
  c2 : w.cell? ⟨g, 2, none⟩ = some x2
  c3 : w.cell? ⟨g, 3, none⟩ = some x3
  f0 : w.frozen? ⟨g, 0, none⟩ = false
  f1 : w.frozen? ⟨g, 1, none⟩ = false
  f2 : w.frozen? ⟨g, 2, none⟩ = false
  f3 : w.frozen? ⟨g, 3, none⟩ = false
theorem Box4.new {w : World} {t : TypeId} {x0 x1 x2 x3 : Value} : Box4 (w.alloc (.cells #[x0, x1, x2, x3] t)) w.heap.size x0 x1 x2 x3 := by
  constructor <;> simp [go_sem]
theorem Box4.keep {w w1 : World} {g : Nat} {x0 x1 x2 x3 : Value} (h : Box4 w g x0 x1 x2 x3) (hb : Below w.heap.size w w1) : Box4 w1 g x0 x1 x2 x3 :=
  ⟨Nat.lt_of_lt_of_le h.lt hb.size, (hb.cell (p := ⟨g, 0, none⟩) h.lt).trans h.c0, (hb.cell (p := ⟨g, 1, none⟩) h.lt).trans h.c1, (hb.cell (p := ⟨g, 2, none⟩) h.lt).trans h.c2, (hb.cell (p := ⟨g, 3, none⟩) h.lt).trans h.c3,
    (hb.frozen (p := ⟨g, 0, none⟩) h.lt).trans h.f0, (hb.frozen (p := ⟨g, 1, none⟩) h.lt).trans h.f1, (hb.frozen (p := ⟨g, 2, none⟩) h.lt).trans h.f2, (hb.frozen (p := ⟨g, 3, none⟩) h.lt).trans h.f3⟩
theorem EV.iface {w : World} {v : Value} {es : Chain} (h : EV w v es) (A : Option Addr) (m k : Nat) : v ≠ .slice A m k := by
  cases h <;> simp
/-- An error's blocks are none of a box whose last cell holds a slice. -/
theorem EV.apart {w w1 : World} {v : Value} {es : Chain} {g : Nat} {A : Option Addr} {m k : Nat} (h : EV w v es) (c3 : w.cell? ⟨g, 3, none⟩ = some (.slice A m k)) (hw : ∀ b o, b ≠ g → w1.cell? ⟨b, o, none⟩ = w.cell? ⟨b, o, none⟩) : EV w1 v es := by
  induction h with
  | nil => exact .nil
  | @cons b c a n v es h0 h1 h2 h3 h4 ih =>
    have hne : b ≠ g := by
      rintro rfl
      rw [c3] at h3
      exact h4.iface A m k (Option.some.inj h3).symm
    exact .cons ((hw b 0 hne).trans h0) ((hw b 1 hne).trans h1) ((hw b 2 hne).trans h2) ((hw b 3 hne).trans h3) ih
theorem put4_far (w : World) (g : Nat) (x0 x1 x2 x3 : Value) (b o : Nat) (h : b ≠ g) :
    ((((w.setCell ⟨g, 0, none⟩ x0).setCell ⟨g, 1, none⟩ x1).setCell ⟨g, 2, none⟩ x2).setCell ⟨g, 3, none⟩ x3).cell? ⟨b, o, none⟩ = w.cell? ⟨b, o, none⟩ := by
  simp [World.cell?, Below.heap_setCell _ _ _ _ (show b ≠ (⟨g, 0, none⟩ : Addr).block from h), Below.heap_setCell _ _ _ _ (show b ≠ (⟨g, 1, none⟩ : Addr).block from h), Below.heap_setCell _ _ _ _ (show b ≠ (⟨g, 2, none⟩ : Addr).block from h), Below.heap_setCell _ _ _ _ (show b ≠ (⟨g, 3, none⟩ : Addr).block from h)]
def LawT (w : World) (e : Ending) (w' : World) : Prop := e = .returned (.bool true) ∧ Below w.heap.size w w'
theorem below_next {a w w' : World} (h : Below a.heap.size a w) (k : Below w.heap.size w w') : Below a.heap.size a w' := h.trans ⟨k.os, k.tape, k.output, k.size, fun i hi => k.block i (Nat.lt_of_lt_of_le hi h.size)⟩
theorem tag_cast (x : Int) : wrap64 (x % 8) = tagS x := by unfold wrap64 tagS; omega
theorem bits_eq (x : Int) (h0 : 0 ≤ x) (h1 : x ≤ 18446744073709551615) : (IntKind.u64.wrap (IntKind.u64.wrap (IntKind.u64.wrap (valS x) * 8) + IntKind.u64.wrap (tagS x)) == x) = true := by
  simp only [wrapu, beq_iff_eq]
  unfold valS tagS
  split <;> omega
set_option maxRecDepth 100000 in
theorem WordBits_walk (x : Int) (w : World) (h0 : 0 ≤ x) (h1 : x ≤ 18446744073709551615) : Calls Tryd.prog 3 #[.int .u64 x] w (LawT w) := by
  have hq := bits_eq x h0 h1
  have ht : (tagS x != wrap64 (bits .and .u64 x 7)) = false := by rw [tag_wrap x h0 h1]; simp
  go_enter Tryd.func3, Tryd.ntmps3
  go_wp2_with (first | (go_at_call 10; refine (lives_any _).mono ?_; rintro e w' ⟨rfl, hb⟩) | (go_at_call 11; refine (tag_any x _ h0 h1).mono ?_; rintro e w' ⟨rfl, rfl⟩) | (go_at_call 12; refine (val_any x _ h0 h1).mono ?_; rintro e w' ⟨rfl, rfl⟩))
  go_ret
  exact ⟨rfl, hb⟩
theorem WordBits_row (W : World) (x : Int) (h : (Lit.int .u64 x).wf = true) : Calls Tryd.prog 3 #[.int .u64 x] W (LawT W) := WordBits_walk x W (bounds_u64 h).1 (bounds_u64 h).2
set_option maxRecDepth 100000 in
theorem WordParts_walk (x : Int) (w : World) (h0 : 0 ≤ x) (h1 : x ≤ 18446744073709551615) : Calls Tryd.prog 6 #[.int .u64 x] w (LawT w) := by
  go_enter Tryd.func6, Tryd.ntmps6
  go_wp2_with (first | (go_at_call 10; refine (lives_any _).mono ?_; rintro e w' ⟨rfl, hb⟩) | (go_at_call 11; refine (tag_any x _ h0 h1).mono ?_; rintro e w' ⟨rfl, rfl⟩) | (go_at_call 12; refine (val_any x _ h0 h1).mono ?_; rintro e w' ⟨rfl, rfl⟩) | (go_at_call 19; refine (head_any x _ h0 h1).mono ?_; rintro e w' ⟨rfl, rfl⟩) | (go_at_call 20; refine (rhead_any x _ h0 h1).mono ?_; rintro e w' ⟨rfl, rfl⟩) | (go_at_call 21; refine (placeW_any x _ h0 h1).mono ?_; rintro e w' ⟨rfl, rfl⟩) | (go_at_call 22; refine (rplace_any x _ h0 h1).mono ?_; rintro e w' ⟨rfl, rfl⟩) | (go_at_call 23; refine (rtag_any x _ h0 h1).mono ?_; rintro e w' ⟨rfl, rfl⟩) | (go_at_call 24; refine (rval_any x _ h0 h1).mono ?_; rintro e w' ⟨rfl, rfl⟩) | (go_at_call 18; refine (good_any x _ h0 h1).mono ?_; rintro e w' ⟨rfl, rfl⟩) | (go_at_call 25; refine (rgood_any x _ h0 h1).mono ?_; rintro e w' ⟨rfl, rfl⟩))
  go_ret
  exact ⟨rfl, ‹_›⟩
theorem WordParts_row (W : World) (x : Int) (h : (Lit.int .u64 x).wf = true) : Calls Tryd.prog 6 #[.int .u64 x] W (LawT W) := WordParts_walk x W (bounds_u64 h).1 (bounds_u64 h).2
set_option maxRecDepth 100000 in
theorem WordPacks_walk (t v : Int) (w : World) (t0 : -9223372036854775808 ≤ t) (t1 : t ≤ 9223372036854775807) (v0 : -9223372036854775808 ≤ v) (v1 : v ≤ 9223372036854775807) : Calls Tryd.prog 4 #[.int .i64 t, .int .i64 v] w (LawT w) := by
  go_enter Tryd.func4, Tryd.ntmps4
  go_wp2_with fail
  refine (lives_any _).mono ?_; rintro e w1 ⟨rfl, hb1⟩
  go_wp2_with fail
  refine (pack_any _ _ _ v0 v1).mono ?_; rintro e w2 ⟨x2, rfl, hv2, hb2⟩
  have HV2 := Lib.hid hv2; clear hv2
  go_wp2_with fail
  refine (rpack_any _ _ _ v0 v1).mono ?_; rintro e w3 ⟨c, a, n, s, rfl, hf3, hb3⟩
  obtain ⟨A3, m3, k3, rfl⟩ := (hf3 w3).slice
  have HF3 := Lib.hid hf3; clear hf3
  go_wp2_with fail
  refine (is_any _ _ _ _ _ (packC t v) (packC t v) _ ((HV2.out.keep hb3).keep ((Below.refl _ _).alloc (Nat.le_refl _) _)) (HF3.out _)).mono ?_; rintro e w4 ⟨rfl, hb4⟩
  have B4 := Box4.new.keep hb4
  go_wp2_with fail
  refine (fun_any _ _ _).mono ?_; rintro e w5 ⟨x5, rfl, hv5, hb5⟩
  have HV5 := Lib.hid hv5; clear hv5
  go_wp2_with fail
  refine (rfun_any _ _ _ ⟨t0, t1⟩).mono ?_; rintro e w6 ⟨c', a', n', s', rfl, hf6, hb6⟩
  obtain ⟨A6, m6, k6, rfl⟩ := (hf6 w6).slice
  have HF6 := Lib.hid hf6; clear hf6
  obtain ⟨lt6, c60, c61, c62, c63, f60, f61, f62, f63⟩ := (B4.keep hb5).keep hb6
  go_wp2_with fail
  refine (is_any _ _ _ _ _ (funC t v) (funC t v) _ ((HV5.out.keep hb6).apart c63 (fun b o h => put4_far _ _ _ _ _ _ b o h)) (HF6.out _)).mono ?_; rintro e w7 ⟨rfl, hb7⟩
  go_wp2_with fail
  go_ret
  refine ⟨rfl, ?_⟩
  have hg : w.heap.size ≤ w3.heap.size := Nat.le_trans hb1.size (Nat.le_trans hb2.size hb3.size)
  have b3 := below_next (below_next hb1 hb2) hb3
  have b4 := below_next (b3.alloc hg _) hb4
  exact below_next (below4 (below_next (below_next b4 hb5) hb6) _ hg _ _ _ _) hb7
theorem WordPacks_row (W : World) (t v : Int) (h : (Lit.int .i64 t).wf = true) (h' : (Lit.int .i64 v).wf = true) : Calls Tryd.prog 4 #[.int .i64 t, .int .i64 v] W (LawT W) :=
  WordPacks_walk t v W (bounds_i64 h).1 (bounds_i64 h).2 (bounds_i64 h').1 (bounds_i64 h').2
theorem pack_back {t v : Int} (h : packC t v = []) : tagS (packS t v) = t ∧ valS (packS t v) = v ∧ goodS (packS t v) = true ∧ 0 ≤ packS t v ∧ packS t v ≤ 18446744073709551615 := by
  unfold packC at h
  split at h
  · simp [code1] at h
  · split at h
    · rename_i h1 h2
      have e : packS t v = joinS t v := by unfold packS; rw [if_neg h1, if_pos h2]
      have hv : -1125899906842624 ≤ v ∧ v ≤ 1125899906842624 := by
        unfold fitsS at h2
        split at h2
        · simp at h2; omega
        · split at h2
          · simp at h2; omega
          · split at h2
            · simp at h2; omega
            · split at h2
              · simp at h2; omega
              · simp at h2
      have a1 : tagS (joinS t v) = t := by unfold tagS joinS; omega
      have a2 : valS (joinS t v) = v := by unfold valS joinS; split <;> omega
      rw [e]
      refine ⟨a1, a2, ?_, ?_, ?_⟩
      · unfold goodS; rw [a1, a2]; exact h2
      · unfold joinS; omega
      · unfold joinS; omega
    · simp [code1] at h
theorem good_pack (x : Int) (h0 : 0 ≤ x) (h1 : x ≤ 18446744073709551615) : goodS x = decide (packC (tagS x) (valS x) = [] ∧ packS (tagS x) (valS x) = x) := by
  have ht := tagS_range x
  have e : joinS (tagS x) (valS x) = x := by unfold joinS tagS valS; split <;> omega
  unfold packC packS goodS
  by_cases hf : fitsS (tagS x) (valS x) = true
  · have h5 : ¬ (tagS x < 0 ∨ 5 < tagS x) := by
      intro h
      have : 5 < tagS x := by omega
      unfold fitsS at hf
      rw [if_neg (by omega), if_neg (by omega), if_neg (by omega), if_neg (by omega)] at hf
      simp at hf
    rw [hf]; simp [h5, e]
  · rw [if_neg hf, if_neg hf]
    have : fitsS (tagS x) (valS x) = false := by simpa using hf
    rw [this]
    split <;> simp [code1]
theorem heads_fun {t v : Int} (h : funC t v = []) : headN (funS t v) = t ∧ headK (funS t v) = v ∧ headB (funS t v) = true ∧ tagS (funS t v) = 4 ∧ 0 ≤ funS t v ∧ funS t v ≤ 18446744073709551615 := by
  unfold funC at h
  split at h
  · rename_i h1
    have h2 := h1
    unfold funOk at h2; simp at h2
    have e : funS t v = (t * 16 + v) * 8 + 4 := by unfold funS; rw [if_pos h1]
    have a1 : tagS ((t * 16 + v) * 8 + 4) = 4 := by unfold tagS; omega
    have a2 : valS ((t * 16 + v) * 8 + 4) = t * 16 + v := by unfold valS; split <;> omega
    have a3 : headB ((t * 16 + v) * 8 + 4) = true := by unfold headB goodS; rw [a1, a2]; simp [fitsS]; omega
    rw [e]
    refine ⟨?_, ?_, a3, a1, by omega, by omega⟩
    · unfold headN; rw [if_pos a3, a2]; omega
    · unfold headK; rw [if_pos a3, a2]; omega
  · simp [code1] at h
theorem fun_heads {x : Int} (h0 : 0 ≤ x) (h1 : x ≤ 18446744073709551615) (h : headB x = true) : funC (headN x) (headK x) = [] ∧ funS (headN x) (headK x) = x ∧ placeB x = false := by
  have h2 := h
  unfold headB goodS at h2
  simp only [Bool.and_eq_true, decide_eq_true_eq] at h2
  obtain ⟨t4, hf⟩ := h2
  have hf2 := hf
  rw [t4] at hf2
  simp [fitsS] at hf2
  have e1 : headN x = valS x / 16 := by unfold headN; rw [if_pos h]
  have e2 : headK x = valS x % 16 := by unfold headK; rw [if_pos h]
  have ok : funOk (headN x) (headK x) = true := by unfold funOk; rw [e1, e2]; simp; omega
  refine ⟨by unfold funC; rw [if_pos ok], ?_, ?_⟩
  · unfold funS; rw [if_pos ok, e1, e2]
    have := t4
    unfold tagS at this
    unfold valS
    have hv : 0 ≤ valS x ∧ valS x < 16384 := by omega
    unfold valS at hv
    split <;> omega
  · unfold placeB; rw [t4]; simp
theorem back_cases (x : Int) (h0 : 0 ≤ x) (h1 : x ≤ 18446744073709551615) : (goodS x = true ∧ packC (tagS x) (valS x) = [] ∧ (packS (tagS x) (valS x) == x) = true) ∨ (goodS x = false ∧ packC (tagS x) (valS x) = [] ∧ (packS (tagS x) (valS x) == x) = false) ∨ (goodS x = false ∧ packC (tagS x) (valS x) ≠ []) := by
  have h := good_pack x h0 h1
  by_cases a : packC (tagS x) (valS x) = []
  · by_cases b : packS (tagS x) (valS x) = x
    · left; rw [h]; simp [a, b]
    · right; left; rw [h]; simp [a, b]
  · right; right; rw [h]; simp [a]
set_option maxRecDepth 100000 in
theorem WordBack_walk (t v x : Int) (w : World) (t0 : -9223372036854775808 ≤ t) (t1 : t ≤ 9223372036854775807) (v0 : -9223372036854775808 ≤ v) (v1 : v ≤ 9223372036854775807) (h0 : 0 ≤ x) (h1 : x ≤ 18446744073709551615) : Calls Tryd.prog 5 #[.int .i64 t, .int .i64 v, .int .u64 x] w (LawT w) := by
  have hr := valS_range x h0 h1
  have CT : ∀ y : Int, ∀ w, 0 ≤ y → y ≤ 18446744073709551615 → Calls Tryd.prog 11 #[.int .u64 y] w fun e w' => e = .returned (.int .i64 (tagS y)) ∧ w = w' := tag_any
  by_cases hp : packC t v = []
  all_goals rcases back_cases x h0 h1 with ⟨g1, g2, g3⟩ | ⟨g1, g2, g3⟩ | ⟨g1, g2⟩
  · clear CT
    obtain ⟨p1, p2, p3, p4, p5⟩ := pack_back hp
    have q1 : (tagS (packS t v) != t) = false := by simpa using p1
    have q2 : (valS (packS t v) != v) = false := by simpa using p2
    clear p1 p2
    have HP := Lib.hid hp; clear hp
    have G2 := Lib.hid g2; clear g2
    go_enter Tryd.func5, Tryd.ntmps5
    go_wp2_with fail
    refine (lives_any _).mono ?_; rintro e w1 ⟨rfl, hb1⟩
    go_wp2_with fail
    refine (pack_any _ _ _ v0 v1).mono ?_; rintro e w2 ⟨x2, rfl, hv2, hb2⟩
    rw [HP.out] at hv2
    cases hv2
    go_wp2_with (first | (go_at_call 13; fail) | (go_at_call 11; refine (tag_any _ _ (by assumption) (by assumption)).mono ?_; rintro e w' ⟨rfl, rfl⟩) | (go_at_call 12; refine (val_any _ _ (by assumption) (by assumption)).mono ?_; rintro e w' ⟨rfl, rfl⟩) | (go_at_call 18; refine (good_any _ _ (by assumption) (by assumption)).mono ?_; rintro e w' ⟨rfl, rfl⟩))
    refine (pack_any _ _ _ (by omega) (by omega)).mono ?_; rintro e w3 ⟨x3, rfl, hv3, hb3⟩
    rw [G2.out] at hv3
    cases hv3
    go_wp2_with fail
    go_quiet ((go_at_call 18; exact Calls.quiet_of_same ((good_any x _ h0 h1).mono fun e w' ⟨he, hw⟩ => ⟨he, hw.symm⟩)))
    go_wp2_with fail
    go_ret
    exact ⟨rfl, below_drewN (below_next (below_next hb1 hb2) hb3) _⟩
  · clear CT
    obtain ⟨p1, p2, p3, p4, p5⟩ := pack_back hp
    have q1 : (tagS (packS t v) != t) = false := by simpa using p1
    have q2 : (valS (packS t v) != v) = false := by simpa using p2
    clear p1 p2
    have HP := Lib.hid hp; clear hp
    have G2 := Lib.hid g2; clear g2
    go_enter Tryd.func5, Tryd.ntmps5
    go_wp2_with fail
    refine (lives_any _).mono ?_; rintro e w1 ⟨rfl, hb1⟩
    go_wp2_with fail
    refine (pack_any _ _ _ v0 v1).mono ?_; rintro e w2 ⟨x2, rfl, hv2, hb2⟩
    rw [HP.out] at hv2
    cases hv2
    go_wp2_with (first | (go_at_call 13; fail) | (go_at_call 11; refine (tag_any _ _ (by assumption) (by assumption)).mono ?_; rintro e w' ⟨rfl, rfl⟩) | (go_at_call 12; refine (val_any _ _ (by assumption) (by assumption)).mono ?_; rintro e w' ⟨rfl, rfl⟩) | (go_at_call 18; refine (good_any _ _ (by assumption) (by assumption)).mono ?_; rintro e w' ⟨rfl, rfl⟩))
    refine (pack_any _ _ _ (by omega) (by omega)).mono ?_; rintro e w3 ⟨x3, rfl, hv3, hb3⟩
    rw [G2.out] at hv3
    cases hv3
    go_wp2_with fail
    go_quiet ((go_at_call 18; exact Calls.quiet_of_same ((good_any x _ h0 h1).mono fun e w' ⟨he, hw⟩ => ⟨he, hw.symm⟩)))
    go_wp2_with fail
    go_ret
    exact ⟨rfl, below_drewN (below_next (below_next hb1 hb2) hb3) _⟩
  · clear CT
    obtain ⟨p1, p2, p3, p4, p5⟩ := pack_back hp
    have q1 : (tagS (packS t v) != t) = false := by simpa using p1
    have q2 : (valS (packS t v) != v) = false := by simpa using p2
    clear p1 p2
    have HP := Lib.hid hp; clear hp
    have G2 := Lib.hid g2; clear g2
    go_enter Tryd.func5, Tryd.ntmps5
    go_wp2_with fail
    refine (lives_any _).mono ?_; rintro e w1 ⟨rfl, hb1⟩
    go_wp2_with fail
    refine (pack_any _ _ _ v0 v1).mono ?_; rintro e w2 ⟨x2, rfl, hv2, hb2⟩
    rw [HP.out] at hv2
    cases hv2
    go_wp2_with (first | (go_at_call 13; fail) | (go_at_call 11; refine (tag_any _ _ (by assumption) (by assumption)).mono ?_; rintro e w' ⟨rfl, rfl⟩) | (go_at_call 12; refine (val_any _ _ (by assumption) (by assumption)).mono ?_; rintro e w' ⟨rfl, rfl⟩) | (go_at_call 18; refine (good_any _ _ (by assumption) (by assumption)).mono ?_; rintro e w' ⟨rfl, rfl⟩))
    refine (pack_any _ _ _ (by omega) (by omega)).mono ?_; rintro e w3 ⟨x3, rfl, hv3, hb3⟩
    cases hc : packC (tagS x) (valS x) with
    | nil => exact absurd hc G2.out
    | cons f fs =>
    rw [hc] at hv3
    cases hv3
    rename_i b3 cc3 aa3 nn3 vv3 l0 l1 l2 l3 l4
    clear l0 l1 l2 l3 l4 hc
    go_wp2_with fail
    go_quiet ((go_at_call 18; exact Calls.quiet_of_same ((good_any x _ h0 h1).mono fun e w' ⟨he, hw⟩ => ⟨he, hw.symm⟩)))
    go_wp2_with fail
    go_ret
    exact ⟨rfl, below_drewN (below_next (below_next hb1 hb2) hb3) _⟩
  · clear CT
    have HP := Lib.hid hp; clear hp
    have G2 := Lib.hid g2; clear g2
    go_enter Tryd.func5, Tryd.ntmps5
    go_wp2_with fail
    refine (lives_any _).mono ?_; rintro e w1 ⟨rfl, hb1⟩
    go_wp2_with fail
    refine (pack_any _ _ _ v0 v1).mono ?_; rintro e w2 ⟨x2, rfl, hv2, hb2⟩
    cases hc : packC t v with
    | nil => exact absurd hc HP.out
    | cons f fs =>
    rw [hc] at hv2
    cases hv2
    rename_i b1 cc aa nn vv k0 k1 k2 k3 k4
    clear k0 k1 k2 k3 k4 hc
    go_wp2_with (first | (go_at_call 13; fail) | (go_at_call 11; refine (tag_any _ _ (by assumption) (by assumption)).mono ?_; rintro e w' ⟨rfl, rfl⟩) | (go_at_call 12; refine (val_any _ _ (by assumption) (by assumption)).mono ?_; rintro e w' ⟨rfl, rfl⟩) | (go_at_call 18; refine (good_any _ _ (by assumption) (by assumption)).mono ?_; rintro e w' ⟨rfl, rfl⟩))
    refine (pack_any _ _ _ (by omega) (by omega)).mono ?_; rintro e w3 ⟨x3, rfl, hv3, hb3⟩
    rw [G2.out] at hv3
    cases hv3
    go_wp2_with fail
    go_quiet ((go_at_call 18; exact Calls.quiet_of_same ((good_any x _ h0 h1).mono fun e w' ⟨he, hw⟩ => ⟨he, hw.symm⟩)))
    go_wp2_with fail
    go_ret
    exact ⟨rfl, below_drewN (below_next (below_next hb1 hb2) hb3) _⟩
  · clear CT
    have HP := Lib.hid hp; clear hp
    have G2 := Lib.hid g2; clear g2
    go_enter Tryd.func5, Tryd.ntmps5
    go_wp2_with fail
    refine (lives_any _).mono ?_; rintro e w1 ⟨rfl, hb1⟩
    go_wp2_with fail
    refine (pack_any _ _ _ v0 v1).mono ?_; rintro e w2 ⟨x2, rfl, hv2, hb2⟩
    cases hc : packC t v with
    | nil => exact absurd hc HP.out
    | cons f fs =>
    rw [hc] at hv2
    cases hv2
    rename_i b1 cc aa nn vv k0 k1 k2 k3 k4
    clear k0 k1 k2 k3 k4 hc
    go_wp2_with (first | (go_at_call 13; fail) | (go_at_call 11; refine (tag_any _ _ (by assumption) (by assumption)).mono ?_; rintro e w' ⟨rfl, rfl⟩) | (go_at_call 12; refine (val_any _ _ (by assumption) (by assumption)).mono ?_; rintro e w' ⟨rfl, rfl⟩) | (go_at_call 18; refine (good_any _ _ (by assumption) (by assumption)).mono ?_; rintro e w' ⟨rfl, rfl⟩))
    refine (pack_any _ _ _ (by omega) (by omega)).mono ?_; rintro e w3 ⟨x3, rfl, hv3, hb3⟩
    rw [G2.out] at hv3
    cases hv3
    go_wp2_with fail
    go_quiet ((go_at_call 18; exact Calls.quiet_of_same ((good_any x _ h0 h1).mono fun e w' ⟨he, hw⟩ => ⟨he, hw.symm⟩)))
    go_wp2_with fail
    go_ret
    exact ⟨rfl, below_drewN (below_next (below_next hb1 hb2) hb3) _⟩
  · clear CT
    have HP := Lib.hid hp; clear hp
    have G2 := Lib.hid g2; clear g2
    go_enter Tryd.func5, Tryd.ntmps5
    go_wp2_with fail
    refine (lives_any _).mono ?_; rintro e w1 ⟨rfl, hb1⟩
    go_wp2_with fail
    refine (pack_any _ _ _ v0 v1).mono ?_; rintro e w2 ⟨x2, rfl, hv2, hb2⟩
    cases hc : packC t v with
    | nil => exact absurd hc HP.out
    | cons f fs =>
    rw [hc] at hv2
    cases hv2
    rename_i b1 cc aa nn vv k0 k1 k2 k3 k4
    clear k0 k1 k2 k3 k4 hc
    go_wp2_with (first | (go_at_call 13; fail) | (go_at_call 11; refine (tag_any _ _ (by assumption) (by assumption)).mono ?_; rintro e w' ⟨rfl, rfl⟩) | (go_at_call 12; refine (val_any _ _ (by assumption) (by assumption)).mono ?_; rintro e w' ⟨rfl, rfl⟩) | (go_at_call 18; refine (good_any _ _ (by assumption) (by assumption)).mono ?_; rintro e w' ⟨rfl, rfl⟩))
    refine (pack_any _ _ _ (by omega) (by omega)).mono ?_; rintro e w3 ⟨x3, rfl, hv3, hb3⟩
    cases hc : packC (tagS x) (valS x) with
    | nil => exact absurd hc G2.out
    | cons f fs =>
    rw [hc] at hv3
    cases hv3
    rename_i b3 cc3 aa3 nn3 vv3 l0 l1 l2 l3 l4
    clear l0 l1 l2 l3 l4 hc
    go_wp2_with fail
    go_quiet ((go_at_call 18; exact Calls.quiet_of_same ((good_any x _ h0 h1).mono fun e w' ⟨he, hw⟩ => ⟨he, hw.symm⟩)))
    go_wp2_with fail
    go_ret
    exact ⟨rfl, below_drewN (below_next (below_next hb1 hb2) hb3) _⟩
theorem WordBack_row (W : World) (t v x : Int) (h : (Lit.int .i64 t).wf = true) (h' : (Lit.int .i64 v).wf = true) (h2 : (Lit.int .u64 x).wf = true) : Calls Tryd.prog 5 #[.int .i64 t, .int .i64 v, .int .u64 x] W (LawT W) :=
  WordBack_walk t v x W (bounds_i64 h).1 (bounds_i64 h).2 (bounds_i64 h').1 (bounds_i64 h').2 (bounds_u64 h2).1 (bounds_u64 h2).2
set_option maxRecDepth 100000 in
theorem WordHeads_walk (t v x : Int) (w : World) (t0 : -9223372036854775808 ≤ t) (t1 : t ≤ 9223372036854775807) (h0 : 0 ≤ x) (h1 : x ≤ 18446744073709551615) : Calls Tryd.prog 7 #[.int .i64 t, .int .i64 v, .int .u64 x] w (LawT w) := by
  by_cases hp : funC t v = []
  all_goals by_cases hh : headB x = true
  · obtain ⟨p1, p2, p3, p6, p4, p5⟩ := heads_fun hp
    have q1 : (headN (funS t v) != t) = false := by simpa using p1
    have q2 : (headK (funS t v) != v) = false := by simpa using p2
    have q3 : (tagS (funS t v) != 4) = false := by simpa using p6
    clear p1 p2 p6
    obtain ⟨r1, r2, r3⟩ := fun_heads h0 h1 hh
    have r2' : (funS (headN x) (headK x) == x) = true := by simpa using r2
    have R1 := Lib.hid r1; clear r1 r2
    have HP := Lib.hid hp; clear hp
    go_enter Tryd.func7, Tryd.ntmps7
    go_wp2_with fail
    refine (lives_any _).mono ?_; rintro e w1 ⟨rfl, hb1⟩
    go_wp2_with fail
    refine (fun_any _ _ _).mono ?_; rintro e w2 ⟨x2, rfl, hv2, hb2⟩
    rw [HP.out] at hv2
    cases hv2
    go_wp2_with (first | (go_at_call 16; fail) | (go_at_call 11; refine (tag_any _ _ (by assumption) (by assumption)).mono ?_; rintro e w' ⟨rfl, rfl⟩) | (go_at_call 19; refine (head_any _ _ (by assumption) (by assumption)).mono ?_; rintro e w' ⟨rfl, rfl⟩) | (go_at_call 21; refine (placeW_any _ _ (by assumption) (by assumption)).mono ?_; rintro e w' ⟨rfl, rfl⟩))
    refine (fun_any _ _ _).mono ?_; rintro e w3 ⟨x3, rfl, hv3, hb3⟩
    rw [R1.out] at hv3
    cases hv3
    go_wp2_with fail
    go_ret
    exact ⟨rfl, below_next (below_next hb1 hb2) hb3⟩
  · obtain ⟨p1, p2, p3, p6, p4, p5⟩ := heads_fun hp
    have q1 : (headN (funS t v) != t) = false := by simpa using p1
    have q2 : (headK (funS t v) != v) = false := by simpa using p2
    have q3 : (tagS (funS t v) != 4) = false := by simpa using p6
    clear p1 p2 p6
    have hh' : headB x = false := by simpa using hh
    have r1 : (headN x == 0) = true := by unfold headN; simp [hh']
    have r2 : (headK x == 0) = true := by unfold headK; simp [hh']
    clear hh
    have HP := Lib.hid hp; clear hp
    go_enter Tryd.func7, Tryd.ntmps7
    go_wp2_with fail
    refine (lives_any _).mono ?_; rintro e w1 ⟨rfl, hb1⟩
    go_wp2_with fail
    refine (fun_any _ _ _).mono ?_; rintro e w2 ⟨x2, rfl, hv2, hb2⟩
    rw [HP.out] at hv2
    cases hv2
    go_wp2_with (first | (go_at_call 16; fail) | (go_at_call 11; refine (tag_any _ _ (by assumption) (by assumption)).mono ?_; rintro e w' ⟨rfl, rfl⟩) | (go_at_call 19; refine (head_any _ _ (by assumption) (by assumption)).mono ?_; rintro e w' ⟨rfl, rfl⟩) | (go_at_call 21; refine (placeW_any _ _ (by assumption) (by assumption)).mono ?_; rintro e w' ⟨rfl, rfl⟩))
    go_ret
    exact ⟨rfl, below_next hb1 hb2⟩
  · have p45 : 0 ≤ funS t v ∧ funS t v ≤ 18446744073709551615 := by unfold funS funOk; split <;> simp_all <;> omega
    obtain ⟨p4, p5⟩ := p45
    obtain ⟨r1, r2, r3⟩ := fun_heads h0 h1 hh
    have r2' : (funS (headN x) (headK x) == x) = true := by simpa using r2
    have R1 := Lib.hid r1; clear r1 r2
    have HP := Lib.hid hp; clear hp
    go_enter Tryd.func7, Tryd.ntmps7
    go_wp2_with fail
    refine (lives_any _).mono ?_; rintro e w1 ⟨rfl, hb1⟩
    go_wp2_with fail
    refine (fun_any _ _ _).mono ?_; rintro e w2 ⟨x2, rfl, hv2, hb2⟩
    cases hc : funC t v with
    | nil => exact absurd hc HP.out
    | cons f fs =>
    rw [hc] at hv2
    cases hv2
    rename_i b1 cc aa nn vv k0 k1 k2 k3 k4
    clear k0 k1 k2 k3 k4 hc
    go_wp2_with (first | (go_at_call 16; fail) | (go_at_call 11; refine (tag_any _ _ (by assumption) (by assumption)).mono ?_; rintro e w' ⟨rfl, rfl⟩) | (go_at_call 19; refine (head_any _ _ (by assumption) (by assumption)).mono ?_; rintro e w' ⟨rfl, rfl⟩) | (go_at_call 21; refine (placeW_any _ _ (by assumption) (by assumption)).mono ?_; rintro e w' ⟨rfl, rfl⟩))
    refine (fun_any _ _ _).mono ?_; rintro e w3 ⟨x3, rfl, hv3, hb3⟩
    rw [R1.out] at hv3
    cases hv3
    go_wp2_with fail
    go_ret
    exact ⟨rfl, below_next (below_next hb1 hb2) hb3⟩
  · have p45 : 0 ≤ funS t v ∧ funS t v ≤ 18446744073709551615 := by unfold funS funOk; split <;> simp_all <;> omega
    obtain ⟨p4, p5⟩ := p45
    have hh' : headB x = false := by simpa using hh
    have r1 : (headN x == 0) = true := by unfold headN; simp [hh']
    have r2 : (headK x == 0) = true := by unfold headK; simp [hh']
    clear hh
    have HP := Lib.hid hp; clear hp
    go_enter Tryd.func7, Tryd.ntmps7
    go_wp2_with fail
    refine (lives_any _).mono ?_; rintro e w1 ⟨rfl, hb1⟩
    go_wp2_with fail
    refine (fun_any _ _ _).mono ?_; rintro e w2 ⟨x2, rfl, hv2, hb2⟩
    cases hc : funC t v with
    | nil => exact absurd hc HP.out
    | cons f fs =>
    rw [hc] at hv2
    cases hv2
    rename_i b1 cc aa nn vv k0 k1 k2 k3 k4
    clear k0 k1 k2 k3 k4 hc
    go_wp2_with (first | (go_at_call 16; fail) | (go_at_call 11; refine (tag_any _ _ (by assumption) (by assumption)).mono ?_; rintro e w' ⟨rfl, rfl⟩) | (go_at_call 19; refine (head_any _ _ (by assumption) (by assumption)).mono ?_; rintro e w' ⟨rfl, rfl⟩) | (go_at_call 21; refine (placeW_any _ _ (by assumption) (by assumption)).mono ?_; rintro e w' ⟨rfl, rfl⟩))
    go_ret
    exact ⟨rfl, below_next hb1 hb2⟩
theorem WordHeads_row (W : World) (t v x : Int) (h : (Lit.int .i64 t).wf = true) (h' : (Lit.int .i64 v).wf = true) (h2 : (Lit.int .u64 x).wf = true) : Calls Tryd.prog 7 #[.int .i64 t, .int .i64 v, .int .u64 x] W (LawT W) :=
  WordHeads_walk t v x W (bounds_i64 h).1 (bounds_i64 h).2 (bounds_u64 h2).1 (bounds_u64 h2).2
end Go.Proofs.YtpmnkabggljpkaaDoor
