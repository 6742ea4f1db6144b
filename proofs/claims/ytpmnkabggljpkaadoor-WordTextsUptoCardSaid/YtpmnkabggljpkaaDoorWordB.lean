/- Walks of word's and tendrilref01's functions that answer faults: Pack, Fun, and of Head and Place. -/
import Derived.Test.YtpmnkabggljpkaaDoorWordA
import Derived.Test.YtpmnkabggljpkaaDoorNumA
set_option linter.unusedVariables false
set_option linter.unusedSimpArgs false
namespace Go.Proofs.YtpmnkabggljpkaaDoor
open Go.RowKit
def e0 : ByteArray := ⟨#[]⟩
def code1 (c : Int) : Chain := [(c, -1, e0)]
def packC (tag v : Int) : Chain := if tag < 0 ∨ 5 < tag then code1 10 else if fitsS tag v = true then [] else code1 11
def packS (tag v : Int) : Int := if tag < 0 ∨ 5 < tag then 0 else if fitsS tag v = true then joinS tag v else 0
def funC (n k : Int) : Chain := if funOk n k = true then [] else code1 11
/-- One value and an error are handed back. -/
def RetE (x : Value) (es : Chain) (w : World) (e : Ending) (w' : World) : Prop := ∃ v, e = .returned (.tuple #[x, v]) ∧ EV w' v es ∧ Below w.heap.size w w'
def RetV (es : Chain) (w : World) (e : Ending) (w' : World) : Prop := ∃ v, e = .returned v ∧ EV w' v es ∧ Below w.heap.size w w'
/-- One value and a tendrilnum.F are handed back. -/
def RetF (x : Value) (fs : Chain) (w : World) (e : Ending) (w' : World) : Prop := ∃ c a n s, e = .returned (.tuple #[x, .agg #[.int .i64 c, .int .i64 a, .string n, s]]) ∧ (∀ W, FV W c a n s fs) ∧ Below w.heap.size w w'
def RetFV (fs : Chain) (w : World) (e : Ending) (w' : World) : Prop := ∃ c a n s, e = .returned (.agg #[.int .i64 c, .int .i64 a, .string n, s]) ∧ (∀ W, FV W c a n s fs) ∧ Below w.heap.size w w'

theorem fault_any (c : Int) (w : World) : Calls Tryd.prog 30 #[.int .i64 c] w (RetV (code1 c) w) := by
  go_enter Tryd.func30, Tryd.ntmps30
  go_wp2
  go_ret
  refine ⟨_, rfl, .cons ?_ ?_ ?_ ?_ .nil, (Below.refl _ _).alloc (Nat.le_refl _) _⟩ <;> simp [go_sem, e0]
theorem of_any (c : Int) (w : World) (hc : c ≠ 0) : Calls Tryd.prog 33 #[.int .i64 c] w (RetFV (code1 c) w) := by
  go_enter Tryd.func33, Tryd.ntmps33
  go_wp2
  refine bodyPost_ret (v := .agg #[.int .i64 c, .int .i64 (-1), .string ⟨#[]⟩, .slice none 0 0]) (by simp [results, Tryd.results33, go_sem]) rfl ?_
  exact ⟨_, _, _, _, rfl, fun _ => .one hc, (Below.refl _ _).alloc (Nat.le_refl _) _⟩
theorem no_any (w : World) : Calls Tryd.prog 35 #[] w (RetFV [] w) := by
  go_enter Tryd.func35, Tryd.ntmps35
  go_wp2
  refine bodyPost_ret (v := .agg #[.int .i64 0, .int .i64 0, .string ⟨#[]⟩, .slice none 0 0]) (by simp [results, Tryd.results35, go_sem]) rfl ?_
  exact ⟨_, _, _, _, rfl, fun _ => .no, (Below.refl _ _).alloc (Nat.le_refl _) _⟩
theorem join_any (t v : Int) (w : World) (h0 : 0 ≤ t) (h1 : t < 8) : Calls Tryd.prog 32 #[.int .i64 t, .int .i64 v] w fun e w' => e = .returned (.int .u64 (joinS t v)) ∧ w = w' := by
  go_enter Tryd.func32, Tryd.ntmps32
  have H := Lib.hid (join_w t v h0 h1)
  go_wp2
  go_ret
  exact ⟨ri (by first | exact H.out | (have := H.out; simp only [wrapu] at this ⊢; rw [← this]; congr 1; omega)), rfl⟩
theorem pack_any (t v : Int) (w : World) (h0 : -9223372036854775808 ≤ v) (h1 : v ≤ 9223372036854775807) :
    Calls Tryd.prog 13 #[.int .i64 t, .int .i64 v] w (RetE (.int .u64 (packS t v)) (packC t v) w) := by
  by_cases ht : t < 0 ∨ 5 < t
  · have e1 : packS t v = 0 := by unfold packS; rw [if_pos ht]
    have e2 : packC t v = code1 10 := by unfold packC; rw [if_pos ht]
    rw [e1, e2]
    clear e1 e2
    go_enter Tryd.func13, Tryd.ntmps13
    go_wp2_with (go_at_call 30; refine (fault_any _ _).mono ?_; rintro e w' ⟨v, rfl, hv, hb⟩)
    all_goals go_ret2
    all_goals exact ⟨_, rfl, ‹_›, ‹_›⟩
  · have g1 : 0 ≤ t := by omega
    have g2 : t ≤ 5 := by omega
    by_cases hf : fitsS t v = true
    · have e1 : packS t v = joinS t v := by unfold packS; rw [if_neg ht, if_pos hf]
      have e2 : packC t v = [] := by unfold packC; rw [if_neg ht, if_pos hf]
      rw [e1, e2]
      clear e1 e2 ht
      go_enter Tryd.func13, Tryd.ntmps13
      go_wp2_with (first | (go_at_call 31; refine (fits_any _ _ _ (by omega)).mono ?_; rintro e w' ⟨rfl, rfl⟩) | (go_at_call 32; refine (join_any _ _ _ (by omega) (by omega)).mono ?_; rintro e w' ⟨rfl, rfl⟩))
      go_ret2
      exact ⟨_, rfl, .nil, Below.refl _ _⟩
    · have hf' : fitsS t v = false := by simpa using hf
      have e1 : packS t v = 0 := by unfold packS; rw [if_neg ht, if_neg hf]
      have e2 : packC t v = code1 11 := by unfold packC; rw [if_neg ht, if_neg hf]
      rw [e1, e2]
      clear e1 e2 ht hf
      go_enter Tryd.func13, Tryd.ntmps13
      go_wp2_with (first | (go_at_call 31; refine (fits_any _ _ _ (by omega)).mono ?_; rintro e w' ⟨rfl, rfl⟩) | (go_at_call 30; refine (fault_any _ _).mono ?_; rintro e w' ⟨v, rfl, hv, hb⟩))
      go_ret2
      exact ⟨_, rfl, ‹_›, ‹_›⟩
/-- A struct's box of the call's own, four cells, behind a call. -/
theorem box4 {w w1 : World} {x0 x1 x2 x3 : Value} {t : TypeId} (hb : Below (w.alloc (.cells #[x0, x1, x2, x3] t)).heap.size (w.alloc (.cells #[x0, x1, x2, x3] t)) w1) :
    (∀ j, j < 4 → w1.cell? ⟨w.heap.size, j, none⟩ = #[x0, x1, x2, x3][j]?) ∧ (∀ j, w1.frozen? ⟨w.heap.size, j, none⟩ = false) ∧ w.heap.size < w1.heap.size := by
  refine ⟨fun j hj => ?_, fun j => ?_, ?_⟩
  · rw [hb.cell (p := ⟨w.heap.size, j, none⟩) (by simp)]; simp [go_sem]
  · rw [hb.frozen (p := ⟨w.heap.size, j, none⟩) (by simp)]; simp [go_sem]
  · have := hb.size; simp at this; omega
/-- A tendrilnum.F handed back beside a box of the caller's. -/
def RetB (fs : Chain) (w : World) (x0 x1 x2 x3 : Value) (e : Ending) (w1 : World) : Prop :=
  ∃ c a n A m k, e = .returned (.agg #[.int .i64 c, .int .i64 a, .string n, .slice A m k]) ∧ Hid (∀ W, FV W c a n (.slice A m k) fs) ∧ Hid (Below w.heap.size w w1) ∧ w.heap.size < w1.heap.size ∧
    w1.cell? ⟨w.heap.size, 0, none⟩ = some x0 ∧ w1.cell? ⟨w.heap.size, 1, none⟩ = some x1 ∧ w1.cell? ⟨w.heap.size, 2, none⟩ = some x2 ∧ w1.cell? ⟨w.heap.size, 3, none⟩ = some x3 ∧
    w1.frozen? ⟨w.heap.size, 0, none⟩ = false ∧ w1.frozen? ⟨w.heap.size, 1, none⟩ = false ∧ w1.frozen? ⟨w.heap.size, 2, none⟩ = false ∧ w1.frozen? ⟨w.heap.size, 3, none⟩ = false
theorem RetB.of {fs : Chain} {w w1 : World} {x0 x1 x2 x3 : Value} {t : TypeId} {e : Ending} (h : RetFV fs (w.alloc (.cells #[x0, x1, x2, x3] t)) e w1) : RetB fs w x0 x1 x2 x3 e w1 := by
  obtain ⟨c, a, n, s, rfl, hv, hb⟩ := h
  obtain ⟨A, m, k, rfl⟩ := (hv w1).slice
  obtain ⟨b1, b2, b3⟩ := box4 hb
  exact ⟨c, a, n, A, m, k, rfl, Lib.hid hv, Lib.hid (((Below.refl _ _).alloc (Nat.le_refl _) _).trans ⟨hb.os, hb.tape, hb.output, Nat.le_trans (by simp) hb.size, fun i hi => hb.block i (by simp; omega)⟩), b3, b1 0 (by decide), b1 1 (by decide), b1 2 (by decide), b1 3 (by decide), b2 0, b2 1, b2 2, b2 3⟩
theorem ofB (c : Int) (hc : c ≠ 0) (w : World) (x0 x1 x2 x3 : Value) (t : TypeId) : Calls Tryd.prog 33 #[.int .i64 c] (w.alloc (.cells #[x0, x1, x2, x3] t)) (RetB (code1 c) w x0 x1 x2 x3) := (of_any c _ hc).mono fun _ _ h => RetB.of h
theorem noB (w : World) (x0 x1 x2 x3 : Value) (t : TypeId) : Calls Tryd.prog 35 #[] (w.alloc (.cells #[x0, x1, x2, x3] t)) (RetB [] w x0 x1 x2 x3) := (no_any _).mono fun _ _ h => RetB.of h
theorem below4 {B : Nat} {a w : World} (h : Below B a w) (g : Nat) (hg : B ≤ g) (x0 x1 x2 x3 : Value) : Below B a ((((w.setCell ⟨g, 0, none⟩ x0).setCell ⟨g, 1, none⟩ x1).setCell ⟨g, 2, none⟩ x2).setCell ⟨g, 3, none⟩ x3) :=
  (((h.setCell (p := ⟨g, 0, none⟩) hg x0).setCell (p := ⟨g, 1, none⟩) hg x1).setCell (p := ⟨g, 2, none⟩) hg x2).setCell (p := ⟨g, 3, none⟩) hg x3
set_option maxRecDepth 100000 in
theorem rpack_any (t v : Int) (w : World) (h0 : -9223372036854775808 ≤ v) (h1 : v ≤ 9223372036854775807) :
    Calls Tryd.prog 14 #[.int .i64 t, .int .i64 v] w (RetF (.int .u64 (packS t v)) (packC t v) w) := by
  by_cases ht : t < 0 ∨ 5 < t
  · have e1 : packS t v = 0 := by unfold packS; rw [if_pos ht]
    have e2 : packC t v = code1 10 := by unfold packC; rw [if_pos ht]
    rw [e1, e2]
    clear e1 e2
    by_cases ht1 : t < 0
    all_goals
      go_enter Tryd.func14, Tryd.ntmps14
      go_wp2_with (go_at_call 33; refine (ofB _ (by decide) _ _ _ _ _ _).mono ?_; rintro e w' ⟨c, a, n, A, m, k, rfl, hv, hb, hz, c0, c1, c2, c3, f0, f1, f2, f3⟩)
      refine bodyPost_ret (v := .tuple #[.int .u64 0, .agg #[.int .i64 c, .int .i64 a, .string n, .slice A m k]]) (by simp [results, Tryd.results14, go_sem, c0, c1, c2, c3]) rfl ⟨_, _, _, _, rfl, hv.out, below4 hb.out _ (Nat.le_refl _) _ _ _ _⟩
  · have g1 : 0 ≤ t := by omega
    have g2 : t ≤ 5 := by omega
    by_cases hf : fitsS t v = true
    · have e1 : packS t v = joinS t v := by unfold packS; rw [if_neg ht, if_pos hf]
      have e2 : packC t v = [] := by unfold packC; rw [if_neg ht, if_pos hf]
      rw [e1, e2]
      clear e1 e2 ht
      go_enter Tryd.func14, Tryd.ntmps14
      go_wp2_with (first | (go_at_call 34; refine (rfits_any _ _ _ (by omega) (by omega)).mono ?_; rintro e w' ⟨rfl, rfl⟩) | (go_at_call 35; refine (noB _ _ _ _ _ _).mono ?_; rintro e w' ⟨c, a, n, A, m, k, rfl, hv, hb, hz, c0, c1, c2, c3, f0, f1, f2, f3⟩))
      refine bodyPost_ret (v := .tuple #[.int .u64 (joinS t v), .agg #[.int .i64 c, .int .i64 a, .string n, .slice A m k]]) ?_ rfl ⟨_, _, _, _, rfl, hv.out, below4 hb.out _ (Nat.le_refl _) _ _ _ _⟩
      simp [results, Tryd.results14, go_sem, c0, c1, c2, c3]
      simp only [wrapu]; unfold joinS; omega
    · have hf' : fitsS t v = false := by simpa using hf
      have e1 : packS t v = 0 := by unfold packS; rw [if_neg ht, if_neg hf]
      have e2 : packC t v = code1 11 := by unfold packC; rw [if_neg ht, if_neg hf]
      rw [e1, e2]
      clear e1 e2 ht hf
      go_enter Tryd.func14, Tryd.ntmps14
      go_wp2_with (first | (go_at_call 34; refine (rfits_any _ _ _ (by omega) (by omega)).mono ?_; rintro e w' ⟨rfl, rfl⟩) | (go_at_call 33; refine (ofB _ (by decide) _ _ _ _ _ _).mono ?_; rintro e w' ⟨c, a, n, A, m, k, rfl, hv, hb, hz, c0, c1, c2, c3, f0, f1, f2, f3⟩))
      refine bodyPost_ret (v := .tuple #[.int .u64 0, .agg #[.int .i64 c, .int .i64 a, .string n, .slice A m k]]) (by simp [results, Tryd.results14, go_sem, c0, c1, c2, c3]) rfl ⟨_, _, _, _, rfl, hv.out, below4 hb.out _ (Nat.le_refl _) _ _ _ _⟩
theorem fun_any (t v : Int) (w : World) :
    Calls Tryd.prog 16 #[.int .i64 t, .int .i64 v] w (RetE (.int .u64 (funS t v)) (funC t v) w) := by
  by_cases ht : funOk t v = true
  · have e1 : funS t v = joinS 4 (t * 16 + v) := by unfold funS; rw [if_pos ht]; unfold funOk at ht; simp at ht; unfold joinS; omega
    have e2 : funC t v = [] := by unfold funC; rw [if_pos ht]
    rw [e1, e2]
    unfold funOk at ht
    simp at ht
    obtain ⟨h1, h2, h3, h4⟩ := ht
    have HO := Lib.hid (or16 t v h1 (by omega) (by omega) (by omega))
    clear e1 e2
    go_enter Tryd.func16, Tryd.ntmps16
    go_wp2_with (go_at_call 32; rw [HO.out]; refine (join_any _ _ _ (by omega) (by omega)).mono ?_; rintro e w' ⟨rfl, rfl⟩)
    go_ret2
    exact ⟨_, rfl, .nil, Below.refl _ _⟩
  · have e1 : funS t v = 0 := by unfold funS; rw [if_neg ht]
    have e2 : funC t v = code1 11 := by unfold funC; rw [if_neg ht]
    rw [e1, e2]
    have ht' : t < 0 ∨ 1024 ≤ t ∨ v < 1 ∨ 8 < v := by unfold funOk at ht; simp at ht; omega
    clear e1 e2 ht
    by_cases a1 : t < 0
    · clear ht'
      go_enter Tryd.func16, Tryd.ntmps16
      go_wp2_with (go_at_call 30; refine (fault_any _ _).mono ?_; rintro e w' ⟨v, rfl, hv, hb⟩)
      go_ret2
      exact ⟨_, rfl, ‹_›, ‹_›⟩
    · by_cases a2 : 1024 ≤ t
      · clear ht'
        go_enter Tryd.func16, Tryd.ntmps16
        go_wp2_with (go_at_call 30; refine (fault_any _ _).mono ?_; rintro e w' ⟨v, rfl, hv, hb⟩)
        go_ret2
        exact ⟨_, rfl, ‹_›, ‹_›⟩
      · by_cases a3 : v < 1
        · clear ht'
          go_enter Tryd.func16, Tryd.ntmps16
          go_wp2_with (go_at_call 30; refine (fault_any _ _).mono ?_; rintro e w' ⟨v, rfl, hv, hb⟩)
          go_ret2
          exact ⟨_, rfl, ‹_›, ‹_›⟩
        · have a4 : 8 < v := by omega
          clear ht'
          go_enter Tryd.func16, Tryd.ntmps16
          go_wp2_with (go_at_call 30; refine (fault_any _ _).mono ?_; rintro e w' ⟨v, rfl, hv, hb⟩)
          go_ret2
          exact ⟨_, rfl, ‹_›, ‹_›⟩
set_option maxRecDepth 100000 in
theorem rfun_any (t v : Int) (w : World) (b0 : -9223372036854775808 ≤ t ∧ t ≤ 9223372036854775807) :
    Calls Tryd.prog 17 #[.int .i64 t, .int .i64 v] w (RetF (.int .u64 (funS t v)) (funC t v) w) := by
  by_cases ht : funOk t v = true
  · have e1 : funS t v = (t * 16 + v) * 8 + 4 := by unfold funS; rw [if_pos ht]
    have e2 : funC t v = [] := by unfold funC; rw [if_pos ht]
    rw [e1, e2]
    unfold funOk at ht
    simp at ht
    obtain ⟨h1, h2, h3, h4⟩ := ht
    clear e1 e2
    go_enter Tryd.func17, Tryd.ntmps17
    go_wp2_with (go_at_call 35; refine (noB _ _ _ _ _ _).mono ?_; rintro e w' ⟨c, a, n, A, m, k, rfl, hv, hb, hz, c0, c1, c2, c3, f0, f1, f2, f3⟩)
    refine bodyPost_ret (v := .tuple #[.int .u64 ((t * 16 + v) * 8 + 4), .agg #[.int .i64 c, .int .i64 a, .string n, .slice A m k]]) ?_ rfl ⟨_, _, _, _, rfl, hv.out, below4 hb.out _ (Nat.le_refl _) _ _ _ _⟩
    simp [results, Tryd.results17, go_sem, c0, c1, c2, c3]
    try (simp only [wrapu]; omega)
  · have e1 : funS t v = 0 := by unfold funS; rw [if_neg ht]
    have e2 : funC t v = code1 11 := by unfold funC; rw [if_neg ht]
    rw [e1, e2]
    have ht' : t < 0 ∨ 1024 ≤ t ∨ v < 1 ∨ 8 < v := by unfold funOk at ht; simp at ht; omega
    clear e1 e2 ht
    by_cases a1 : t < 0
    · clear ht'
      go_enter Tryd.func17, Tryd.ntmps17
      go_wp2_with (go_at_call 33; refine (ofB _ (by decide) _ _ _ _ _ _).mono ?_; rintro e w' ⟨c, a, n, A, m, k, rfl, hv, hb, hz, c0, c1, c2, c3, f0, f1, f2, f3⟩)
      refine bodyPost_ret (v := .tuple #[.int .u64 0, .agg #[.int .i64 c, .int .i64 a, .string n, .slice A m k]]) (by simp [results, Tryd.results17, go_sem, c0, c1, c2, c3]) rfl ⟨_, _, _, _, rfl, hv.out, below4 hb.out _ (Nat.le_refl _) _ _ _ _⟩
    · by_cases a2 : 1024 ≤ t
      · clear ht'
        go_enter Tryd.func17, Tryd.ntmps17
        go_wp2_with (go_at_call 33; refine (ofB _ (by decide) _ _ _ _ _ _).mono ?_; rintro e w' ⟨c, a, n, A, m, k, rfl, hv, hb, hz, c0, c1, c2, c3, f0, f1, f2, f3⟩)
        refine bodyPost_ret (v := .tuple #[.int .u64 0, .agg #[.int .i64 c, .int .i64 a, .string n, .slice A m k]]) (by simp [results, Tryd.results17, go_sem, c0, c1, c2, c3]) rfl ⟨_, _, _, _, rfl, hv.out, below4 hb.out _ (Nat.le_refl _) _ _ _ _⟩
      · by_cases a3 : v < 1
        · clear ht'
          go_enter Tryd.func17, Tryd.ntmps17
          go_wp2_with (go_at_call 33; refine (ofB _ (by decide) _ _ _ _ _ _).mono ?_; rintro e w' ⟨c, a, n, A, m, k, rfl, hv, hb, hz, c0, c1, c2, c3, f0, f1, f2, f3⟩)
          refine bodyPost_ret (v := .tuple #[.int .u64 0, .agg #[.int .i64 c, .int .i64 a, .string n, .slice A m k]]) (by simp [results, Tryd.results17, go_sem, c0, c1, c2, c3]) rfl ⟨_, _, _, _, rfl, hv.out, below4 hb.out _ (Nat.le_refl _) _ _ _ _⟩
        · have a4 : 8 < v := by omega
          clear ht'
          go_enter Tryd.func17, Tryd.ntmps17
          go_wp2_with (go_at_call 33; refine (ofB _ (by decide) _ _ _ _ _ _).mono ?_; rintro e w' ⟨c, a, n, A, m, k, rfl, hv, hb, hz, c0, c1, c2, c3, f0, f1, f2, f3⟩)
          refine bodyPost_ret (v := .tuple #[.int .u64 0, .agg #[.int .i64 c, .int .i64 a, .string n, .slice A m k]]) (by simp [results, Tryd.results17, go_sem, c0, c1, c2, c3]) rfl ⟨_, _, _, _, rfl, hv.out, below4 hb.out _ (Nat.le_refl _) _ _ _ _⟩
theorem r3 {a b a' b' : Int} {c c' : Bool} (h1 : a = a') (h2 : b = b') (h3 : c = c') : Ending.returned (.tuple #[.int .i64 a, .int .i64 b, .bool c]) = .returned (.tuple #[.int .i64 a', .int .i64 b', .bool c']) := by rw [h1, h2, h3]
theorem r2 {a a' : Int} {c c' : Bool} (h1 : a = a') (h3 : c = c') : Ending.returned (.tuple #[.int .i64 a, .bool c]) = .returned (.tuple #[.int .i64 a', .bool c']) := by rw [h1, h3]
theorem head_any (x : Int) (w : World) (h0 : 0 ≤ x) (h1 : x ≤ 18446744073709551615) :
    Calls Tryd.prog 19 #[.int .u64 x] w fun e w' => e = .returned (.tuple #[.int .i64 (headN x), .int .i64 (headK x), .bool (headB x)]) ∧ w = w' := by
  by_cases hh : headB x = true
  · have hr := head_range hh
    have e1 : headN x = valS x / 16 := by unfold headN; rw [if_pos hh]
    have e2 : headK x = bits .and .i64 (valS x) 15 := by unfold headK; rw [if_pos hh, and15 _ hr.1 (by omega)]
    have q : (tagS x != 4) = false ∧ goodS x = true := by unfold headB at hh; simpa using hh
    rw [e1, e2, hh]
    clear e1 e2 hh
    obtain ⟨q1, q2⟩ := q
    go_enter Tryd.func19, Tryd.ntmps19
    go_wp2_with (first | (go_at_call 11; refine (tag_any x _ h0 h1).mono ?_; rintro e w' ⟨rfl, rfl⟩) | (go_at_call 12; refine (val_any x _ h0 h1).mono ?_; rintro e w' ⟨rfl, rfl⟩) | (go_at_call 18; refine (good_any x _ h0 h1).mono ?_; rintro e w' ⟨rfl, rfl⟩))
    go_ret3
    exact ⟨rfl, rfl⟩
  · have e1 : headN x = 0 := by unfold headN; rw [if_neg hh]
    have e2 : headK x = 0 := by unfold headK; rw [if_neg hh]
    have e3 : headB x = false := by simpa using hh
    rw [e1, e2, e3]
    clear e1 e2 e3
    by_cases q1 : tagS x = 4
    · have q2 : goodS x = false := by unfold headB at hh; simpa [q1] using hh
      have q1' : (tagS x != 4) = false := by simpa using q1
      clear q1 hh
      go_enter Tryd.func19, Tryd.ntmps19
      go_wp2_with (first | (go_at_call 11; refine (tag_any x _ h0 h1).mono ?_; rintro e w' ⟨rfl, rfl⟩) | (go_at_call 18; refine (good_any x _ h0 h1).mono ?_; rintro e w' ⟨rfl, rfl⟩))
      go_ret3
      exact ⟨rfl, rfl⟩
    · have q1' : (tagS x != 4) = true := by simpa using q1
      clear q1 hh
      go_enter Tryd.func19, Tryd.ntmps19
      go_wp2_with (first | (go_at_call 11; refine (tag_any x _ h0 h1).mono ?_; rintro e w' ⟨rfl, rfl⟩) | (go_at_call 18; refine (good_any x _ h0 h1).mono ?_; rintro e w' ⟨rfl, rfl⟩))
      go_ret3
      exact ⟨rfl, rfl⟩
theorem rhead_any (x : Int) (w : World) (h0 : 0 ≤ x) (h1 : x ≤ 18446744073709551615) :
    Calls Tryd.prog 20 #[.int .u64 x] w fun e w' => e = .returned (.tuple #[.int .i64 (headN x), .int .i64 (headK x), .bool (headB x)]) ∧ w = w' := by
  by_cases hh : headB x = true
  · have hr := head_range hh
    have e1 : headN x = valS x / 16 := by unfold headN; rw [if_pos hh]
    have e2 : headK x = valS x % 16 := by unfold headK; rw [if_pos hh]
    have q : (tagS x != 4) = false ∧ goodS x = true := by unfold headB at hh; simpa using hh
    rw [e1, e2, hh]
    clear e1 e2 hh
    obtain ⟨q1, q2⟩ := q
    obtain ⟨hr1, hr2⟩ := hr
    go_enter Tryd.func20, Tryd.ntmps20
    go_wp2_with (first | (go_at_call 23; refine (rtag_any x _ h0 h1).mono ?_; rintro e w' ⟨rfl, rfl⟩) | (go_at_call 24; refine (rval_any x _ h0 h1).mono ?_; rintro e w' ⟨rfl, rfl⟩) | (go_at_call 25; refine (rgood_any x _ h0 h1).mono ?_; rintro e w' ⟨rfl, rfl⟩))
    go_ret3
    exact ⟨rfl, rfl⟩
  · have e1 : headN x = 0 := by unfold headN; rw [if_neg hh]
    have e2 : headK x = 0 := by unfold headK; rw [if_neg hh]
    have e3 : headB x = false := by simpa using hh
    rw [e1, e2, e3]
    clear e1 e2 e3
    by_cases q2 : goodS x = true
    · have q1' : (tagS x != 4) = true := by unfold headB at hh; simpa [q2] using hh
      clear hh
      go_enter Tryd.func20, Tryd.ntmps20
      go_wp2_with (first | (go_at_call 23; refine (rtag_any x _ h0 h1).mono ?_; rintro e w' ⟨rfl, rfl⟩) | (go_at_call 25; refine (rgood_any x _ h0 h1).mono ?_; rintro e w' ⟨rfl, rfl⟩))
      go_ret3
      exact ⟨rfl, rfl⟩
    · have q2' : goodS x = false := by simpa using q2
      clear q2 hh
      go_enter Tryd.func20, Tryd.ntmps20
      go_wp2_with (first | (go_at_call 23; refine (rtag_any x _ h0 h1).mono ?_; rintro e w' ⟨rfl, rfl⟩) | (go_at_call 25; refine (rgood_any x _ h0 h1).mono ?_; rintro e w' ⟨rfl, rfl⟩))
      go_ret3
      exact ⟨rfl, rfl⟩
theorem placeB_cases {x : Int} : (goodS x = false ∧ placeB x = false) ∨ (goodS x = true ∧ (tagS x == 0) = true ∧ placeB x = true) ∨ (goodS x = true ∧ (tagS x == 0) = false ∧ (tagS x == 3) = true ∧ placeB x = true) ∨
    (goodS x = true ∧ (tagS x == 0) = false ∧ (tagS x == 3) = false ∧ (tagS x == 5) = true ∧ placeB x = true) ∨ (goodS x = true ∧ (tagS x == 0) = false ∧ (tagS x == 3) = false ∧ (tagS x == 5) = false ∧ placeB x = false) := by
  unfold placeB
  cases goodS x <;> simp
  omega
theorem place_spec (x : Int) : placeV x = if placeB x = true then valS x else 0 := rfl
theorem placeW_any (x : Int) (w : World) (h0 : 0 ≤ x) (h1 : x ≤ 18446744073709551615) :
    Calls Tryd.prog 21 #[.int .u64 x] w fun e w' => e = .returned (.tuple #[.int .i64 (placeV x), .bool (placeB x)]) ∧ w = w' := by
  have P := Lib.hid (place_spec x)
  rcases @placeB_cases x with ⟨q1, qp⟩ | ⟨q1, q2, qp⟩ | ⟨q1, q2, q3, qp⟩ | ⟨q1, q2, q3, q4, qp⟩ | ⟨q1, q2, q3, q4, qp⟩
  all_goals
    have QP := Lib.hid qp; clear qp
    go_enter Tryd.func21, Tryd.ntmps21
    go_wp2_with (first | (go_at_call 11; refine (tag_any x _ h0 h1).mono ?_; rintro e w' ⟨rfl, rfl⟩) | (go_at_call 12; refine (val_any x _ h0 h1).mono ?_; rintro e w' ⟨rfl, rfl⟩) | (go_at_call 18; refine (good_any x _ h0 h1).mono ?_; rintro e w' ⟨rfl, rfl⟩))
    go_ret2
    exact ⟨r2 (by rw [P.out, QP.out]; rfl) QP.out.symm, rfl⟩
theorem rplace_any (x : Int) (w : World) (h0 : 0 ≤ x) (h1 : x ≤ 18446744073709551615) :
    Calls Tryd.prog 22 #[.int .u64 x] w fun e w' => e = .returned (.tuple #[.int .i64 (placeV x), .bool (placeB x)]) ∧ w = w' := by
  have P := Lib.hid (place_spec x)
  rcases @placeB_cases x with ⟨q1, qp⟩ | ⟨q1, q2, qp⟩ | ⟨q1, q2, q3, qp⟩ | ⟨q1, q2, q3, q4, qp⟩ | ⟨q1, q2, q3, q4, qp⟩
  all_goals
    have QP := Lib.hid qp; clear qp
    have n0 : (tagS x != 0) = !(tagS x == 0) := rfl
    have n3 : (tagS x != 3) = !(tagS x == 3) := rfl
    have n5 : (tagS x != 5) = !(tagS x == 5) := rfl
    try rw [q2] at n0
    try rw [q3] at n3
    try rw [q4] at n5
    try simp only [Bool.not_true, Bool.not_false] at n0 n3 n5
    go_enter Tryd.func22, Tryd.ntmps22
    go_wp2_with (first | (go_at_call 23; refine (rtag_any x _ h0 h1).mono ?_; rintro e w' ⟨rfl, rfl⟩) | (go_at_call 24; refine (rval_any x _ h0 h1).mono ?_; rintro e w' ⟨rfl, rfl⟩) | (go_at_call 25; refine (rgood_any x _ h0 h1).mono ?_; rintro e w' ⟨rfl, rfl⟩))
    go_ret2
    exact ⟨r2 (by rw [P.out, QP.out]; rfl) QP.out.symm, rfl⟩
end Go.Proofs.YtpmnkabggljpkaaDoor
