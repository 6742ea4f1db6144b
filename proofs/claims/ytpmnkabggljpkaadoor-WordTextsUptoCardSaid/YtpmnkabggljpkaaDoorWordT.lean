/- The texts of words: word.Text; the library's calls as the laws need them. -/
import Derived.Test.YtpmnkabggljpkaaDoorWordL
import Derived.Test.YtpmnkabggljpkaaDoorST
import Derived.Lib.AppendIntMem
import Derived.Lib.AtoiErrMem
import Derived.Lib.LaidTab
import Derived.Lib.AtoiTie
import Derived.Stop.LaidErr
import Derived.Shelf.Strconv.AtoiAll
set_option linter.unusedVariables false
set_option linter.unusedSimpArgs false
namespace Go.Proofs.YtpmnkabggljpkaaDoor
open Go.RowKit
/-- What of the library's variables the calls read: the table of powers, the two sentinels, a bound. -/
structure LibEnv (w : World) : Prop where
  tab : Lib.TabIs Tryd.prog w "internal/strconv.uint64pow10" .u64 Lib.pow10Tab
  cut : ∃ m, w.cell? ⟨0, 0, none⟩ = some (.int .i64 m)
  es : ∃ t p, w.cell? ⟨1, 0, none⟩ = some (.iface t p)
  er : ∃ t p, w.cell? ⟨2, 0, none⟩ = some (.iface t p)
theorem gP : Tryd.prog.globalNamed "internal/strconv.uint64pow10" = some 3 := by kernel_rfl
theorem LibEnv.lt {w : World} (h : LibEnv w) : 6 ≤ w.heap.size → 6 ≤ w.heap.size := id
theorem LibEnv.keep {w w1 : World} (h : LibEnv w) (hb : Below w.heap.size w w1) (h6 : 3 < w.heap.size) : LibEnv w1 := by
  obtain ⟨t, ⟨m, c⟩, ⟨t1, p1, c1⟩, ⟨t2, p2, c2⟩⟩ := h
  exact ⟨var?_below hb gP h6 t, ⟨m, (hb.cell (World.block_lt_of_cell? w _ c)).trans c⟩, ⟨t1, p1, (hb.cell (World.block_lt_of_cell? w _ c1)).trans c1⟩, ⟨t2, p2, (hb.cell (World.block_lt_of_cell? w _ c2)).trans c2⟩⟩
def RetS (s : ByteArray) (w : World) (e : Ending) (w' : World) : Prop := e = .returned (.string s) ∧ Below w.heap.size w w'
theorem itoa_any (n : Int) (w : World) (h0 : -9223372036854775808 ≤ n) (h1 : n ≤ 9223372036854775807) (E : LibEnv w) : Calls Tryd.prog 36 #[.int .i64 n] w (RetS ⟨(Lib.itoa n).toArray⟩ w) :=
  (Tryd.strconv_Itoa n h0 h1 w E.tab).mono fun e w' ⟨he, k, os, hw⟩ => ⟨he, by rw [hw]; exact Lib.below_grow _ _ (Nat.le_refl _) k os⟩
/-- strconv.Atoi at every text: the number, or an error that is not nil. -/
def RetA (l : List UInt8) (w : World) (e : Ending) (w' : World) : Prop :=
  (∃ v, Lib.atoiAll l = .ok v ∧ e = .returned (.tuple #[.int .i64 v, .nilIface]) ∧ Below w.heap.size w w') ∨
  ((∀ v, Lib.atoiAll l ≠ .ok v) ∧ ∃ n t p, e = .returned (.tuple #[.int .i64 n, .iface t p]) ∧ Below w.heap.size w w')
theorem atoi_any (s : ByteArray) (w : World) (hs : s.size ≤ 281474976710656) (E : LibEnv w) : Calls Tryd.prog 42 #[.string s] w (RetA s.data.toList w) := by
  obtain ⟨t, _, ⟨t1, p1, c1⟩, ⟨t2, p2, c2⟩⟩ := E
  cases h : Lib.atoiAll s.data.toList with
  | ok v =>
    refine (Tryd.strconv_Atoi_ok s (by omega) v h w).mono fun e w' ⟨he, hw⟩ => .inl ⟨v, h, he, ?_⟩
    rcases hw with rfl | ⟨t, rfl⟩
    · exact Below.refl _ _
    · exact Lib.bytesWorld_below _ _ _
  | range =>
    refine (Any.strconv_Atoi_range Tryd.laysC172 s hs h _ w c2 (.inr ⟨_, _, rfl⟩)).mono fun e w' ⟨N, he, _, _, hb⟩ => .inr ⟨(fun v hv => by rw [h] at hv; cases hv), _, _, _, he, hb⟩
  | _ =>
    refine (Any.strconv_Atoi_syntax Tryd.laysC172 s hs h _ w c1 (.inr ⟨_, _, rfl⟩)).mono fun e w' ⟨N, he, _, _, hb⟩ => .inr ⟨(fun v hv => by rw [h] at hv; cases hv), _, _, _, he, hb⟩
def labelS (t : Int) : ByteArray := if t = 0 then ⟨#[114, 101, 102, 32]⟩ else if t = 1 then ⟨#[97, 116, 111, 109, 32]⟩ else if t = 2 then ⟨#[105, 110, 116, 32]⟩ else if t = 3 then ⟨#[115, 116, 114, 32]⟩ else if t = 4 then ⟨#[102, 117, 110, 32]⟩ else ⟨#[102, 119, 100, 32]⟩
theorem label_any (t : Int) (w : World) : Calls Tryd.prog 37 #[.int .i64 t] w fun e w' => e = .returned (.string (labelS t)) ∧ w = w' := by
  go_enter Tryd.func37, Tryd.ntmps37
  go_wp2
  all_goals go_ret
  all_goals exact ⟨by unfold labelS; congr 2; first | (simp_all; done) | grind, rfl⟩
def textS (x : Int) : ByteArray :=
  if goodS x = true then
    if headB x = true then ((⟨#[102, 117, 110, 32]⟩ ++ (⟨(Lib.itoa (headN x)).toArray⟩ : ByteArray)) ++ ⟨#[47]⟩) ++ ⟨(Lib.itoa (headK x)).toArray⟩
    else labelS (tagS x) ++ ⟨(Lib.itoa (valS x)).toArray⟩
  else ⟨#[98, 97, 100]⟩
theorem dd_len (n : Nat) : ∀ u : Nat, u < 10 ^ (n + 1) → (Lib.decDigits u).length ≤ n + 1 := by
  induction n with
  | zero => intro u h; rw [Lib.decDigits, dif_pos (by omega)]; simp
  | succ n ih =>
    intro u h
    rw [Lib.decDigits]
    by_cases h1 : u < 10
    · rw [dif_pos h1]; simp
    · rw [dif_neg h1, List.length_append]
      have h2 : u < 10 ^ (n + 1) * 10 := by rw [← Nat.pow_succ]; exact h
      have := ih (u / 10) (by omega)
      simp; omega
theorem itoa_len (n : Int) (h0 : -9223372036854775808 ≤ n) (h1 : n ≤ 9223372036854775807) : (Lib.itoa n).length ≤ 20 := by
  unfold Lib.itoa
  split
  · have := dd_len 18 n.natAbs (by omega); simp; omega
  · have := dd_len 18 n.toNat (by omega); omega
theorem labelS_len (t : Int) : (labelS t).size ≤ 5 := by
  unfold labelS
  repeat' split
  all_goals decide
set_option maxRecDepth 100000 in
theorem text_any (x : Int) (w : World) (h0 : 0 ≤ x) (h1 : x ≤ 18446744073709551615) (E : LibEnv w) (h6 : 3 < w.heap.size) : Calls Tryd.prog 26 #[.int .u64 x] w (RetS (textS x) w) := by
  have hv := valS_range x h0 h1
  by_cases hg : goodS x = true
  · by_cases hh : headB x = true
    · have hr := head_range hh
      have n0 : 0 ≤ headN x ∧ headN x < 1024 := by unfold headN; rw [if_pos hh]; omega
      have k0 : 0 ≤ headK x ∧ headK x < 16 := by unfold headK; rw [if_pos hh]; omega
      have l1 := itoa_len (headN x) (by omega) (by omega)
      have l2 := itoa_len (headK x) (by omega) (by omega)
      have e : textS x = ((⟨#[102, 117, 110, 32]⟩ ++ (⟨(Lib.itoa (headN x)).toArray⟩ : ByteArray)) ++ ⟨#[47]⟩) ++ ⟨(Lib.itoa (headK x)).toArray⟩ := by unfold textS; rw [if_pos hg, if_pos hh]
      rw [e]
      clear e hr hv
      have HE := Lib.hid (And.intro E h6); clear E h6
      go_enter Tryd.func26, Tryd.ntmps26
      go_wp2_with (first | (go_at_call 18; refine (good_any x _ h0 h1).mono ?_; rintro e w' ⟨rfl, rfl⟩) | (go_at_call 19; refine (head_any x _ h0 h1).mono ?_; rintro e w' ⟨rfl, rfl⟩) | (go_at_call 36; fail))
      refine (itoa_any _ _ (by omega) (by omega) HE.out.1).mono ?_; rintro e w1 ⟨rfl, hb1⟩
      go_wp2_with fail
      refine (itoa_any _ _ (by omega) (by omega) (HE.out.1.keep hb1 HE.out.2)).mono ?_; rintro e w2 ⟨rfl, hb2⟩
      go_wp2_with fail
      go_ret
      exact ⟨rfl, below_next hb1 hb2⟩
    · have hh' : headB x = false := by simpa using hh
      have l1 := itoa_len (valS x) (by omega) (by omega)
      have l2 := labelS_len (tagS x)
      have e : textS x = labelS (tagS x) ++ ⟨(Lib.itoa (valS x)).toArray⟩ := by unfold textS; rw [if_pos hg, if_neg hh]
      rw [e]
      clear e hh
      have HE := Lib.hid (And.intro E h6); clear E h6
      go_enter Tryd.func26, Tryd.ntmps26
      go_wp2_with (first | (go_at_call 18; refine (good_any x _ h0 h1).mono ?_; rintro e w' ⟨rfl, rfl⟩) | (go_at_call 19; refine (head_any x _ h0 h1).mono ?_; rintro e w' ⟨rfl, rfl⟩) | (go_at_call 11; refine (tag_any x _ h0 h1).mono ?_; rintro e w' ⟨rfl, rfl⟩) | (go_at_call 12; refine (val_any x _ h0 h1).mono ?_; rintro e w' ⟨rfl, rfl⟩) | (go_at_call 37; refine (label_any _ _).mono ?_; rintro e w' ⟨rfl, rfl⟩) | (go_at_call 36; fail))
      refine (itoa_any _ _ (by omega) (by omega) HE.out.1).mono ?_; rintro e w1 ⟨rfl, hb1⟩
      go_wp2_with fail
      go_ret
      exact ⟨rfl, hb1⟩
  · have hg' : goodS x = false := by simpa using hg
    have e : textS x = ⟨#[98, 97, 100]⟩ := by unfold textS; rw [if_neg hg]
    rw [e]
    clear e hg
    have HE := Lib.hid (And.intro E h6); clear E h6
    go_enter Tryd.func26, Tryd.ntmps26
    go_wp2_with (first | (go_at_call 18; refine (good_any x _ h0 h1).mono ?_; rintro e w' ⟨rfl, rfl⟩))
    go_ret
    exact ⟨rfl, Below.refl _ _⟩
end Go.Proofs.YtpmnkabggljpkaaDoor
