/- Walks of word's and tendrilref01's functions on plain numbers: each returns what the plain functions say; the world stays as it was. Conditions: the arguments lie in their kinds. -/
import Derived.Test.YtpmnkabggljpkaaDoorProg
import Derived.Test.YtpmnkabggljpkaaDoorWordP
import Derived.Test.YtpmnkabggljpkaaDoorNumA
import Derived.WalkKit
import Derived.IntWalk
import Derived.Lib.Hide
import Derived.WalkLawsBesides
set_option linter.unusedVariables false
set_option linter.unusedSimpArgs false
namespace Go.Proofs.YtpmnkabggljpkaaDoor
open Go.RowKit

theorem tag_any (x : Int) (w : World) (h0 : 0 ≤ x) (h1 : x ≤ 18446744073709551615) :
    Calls Tryd.prog 11 #[.int .u64 x] w fun e w' => e = .returned (.int .i64 (tagS x)) ∧ w = w' := by
  go_enter Tryd.func11, Tryd.ntmps11
  go_wp2
  go_ret
  exact ⟨ri (tag_wrap x h0 h1), rfl⟩
theorem val_any (x : Int) (w : World) (h0 : 0 ≤ x) (h1 : x ≤ 18446744073709551615) :
    Calls Tryd.prog 12 #[.int .u64 x] w fun e w' => e = .returned (.int .i64 (valS x)) ∧ w = w' := by
  go_enter Tryd.func12, Tryd.ntmps12
  go_wp2
  go_ret
  exact ⟨ri (val_wrap x h0 h1), rfl⟩
theorem fits_any (t v : Int) (w : World) (h1 : v ≤ 9223372036854775807) :
    Calls Tryd.prog 31 #[.int .i64 t, .int .i64 v] w fun e w' => e = .returned (.bool (fitsS t v)) ∧ w = w' := by
  have ha := and15 v
  have H := Lib.hid ha; clear ha
  go_enter Tryd.func31, Tryd.ntmps31
  go_wp2
  all_goals go_ret
  all_goals refine ⟨rb ?_, rfl⟩
  all_goals have ha := H.out; clear H
  all_goals grind [fitsS]
theorem rtag_any (x : Int) (w : World) (h0 : 0 ≤ x) (h1 : x ≤ 18446744073709551615) :
    Calls Tryd.prog 23 #[.int .u64 x] w fun e w' => e = .returned (.int .i64 (tagS x)) ∧ w = w' := by
  go_enter Tryd.func23, Tryd.ntmps23
  go_wp2
  go_ret
  exact ⟨ri rfl, rfl⟩
theorem rval_any (x : Int) (w : World) (h0 : 0 ≤ x) (h1 : x ≤ 18446744073709551615) :
    Calls Tryd.prog 24 #[.int .u64 x] w fun e w' => e = .returned (.int .i64 (valS x)) ∧ w = w' := by
  go_enter Tryd.func24, Tryd.ntmps24
  go_wp2
  · go_ret
    exact ⟨ri (rval1 x h0 h1 ‹_›), rfl⟩
  · go_ret
    exact ⟨ri (rval2 x h0 h1 ‹_›), rfl⟩
theorem place_any (v : Int) (w : World) :
    Calls Tryd.prog 45 #[.int .i64 v] w fun e w' => e = .returned (.bool (decide (0 ≤ v ∧ v < 65536))) ∧ w = w' := by
  go_enter Tryd.func45, Tryd.ntmps45
  go_wp2
  all_goals go_ret
  all_goals refine ⟨rb ?_, rfl⟩
  all_goals grind
theorem rfits_any (t v : Int) (w : World) (h0 : -9223372036854775808 ≤ v) (h1 : v ≤ 9223372036854775807) :
    Calls Tryd.prog 34 #[.int .i64 t, .int .i64 v] w fun e w' => e = .returned (.bool (fitsS t v)) ∧ w = w' := by
  by_cases hv : 0 ≤ v
  all_goals
    go_enter Tryd.func34, Tryd.ntmps34
    go_wp2
  all_goals go_ret
  all_goals refine ⟨rb ?_, rfl⟩
  all_goals grind [fitsS]
theorem good_any (x : Int) (w : World) (h0 : 0 ≤ x) (h1 : x ≤ 18446744073709551615) :
    Calls Tryd.prog 18 #[.int .u64 x] w fun e w' => e = .returned (.bool (goodS x)) ∧ w = w' := by
  have hv := valS_range x h0 h1
  go_enter Tryd.func18, Tryd.ntmps18
  go_wp2_with (first | (go_at_call 11; refine (tag_any x _ h0 h1).mono ?_; rintro e w' ⟨rfl, rfl⟩) | (go_at_call 12; refine (val_any x _ h0 h1).mono ?_; rintro e w' ⟨rfl, rfl⟩) | (go_at_call 31; refine (fits_any _ _ _ (by omega)).mono ?_; rintro e w' ⟨rfl, rfl⟩))
  go_ret
  exact ⟨rb rfl, rfl⟩
theorem rgood_any (x : Int) (w : World) (h0 : 0 ≤ x) (h1 : x ≤ 18446744073709551615) :
    Calls Tryd.prog 25 #[.int .u64 x] w fun e w' => e = .returned (.bool (goodS x)) ∧ w = w' := by
  have hv := valS_range x h0 h1
  go_enter Tryd.func25, Tryd.ntmps25
  go_wp2_with (first | (go_at_call 23; refine (rtag_any x _ h0 h1).mono ?_; rintro e w' ⟨rfl, rfl⟩) | (go_at_call 24; refine (rval_any x _ h0 h1).mono ?_; rintro e w' ⟨rfl, rfl⟩) | (go_at_call 34; refine (rfits_any _ _ _ (by omega) (by omega)).mono ?_; rintro e w' ⟨rfl, rfl⟩))
  go_ret
  exact ⟨rb rfl, rfl⟩
end Go.Proofs.YtpmnkabggljpkaaDoor
