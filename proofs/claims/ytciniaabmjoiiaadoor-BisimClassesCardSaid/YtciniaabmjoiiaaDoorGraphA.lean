import Derived.Test.YtciniaabmjoiiaaDoorGraphP
import Derived.WalkKit
import Derived.IntWalk
import Derived.Lib.Hide
import Derived.WalkLawsBesides
import Derived.WalkSpells
import Derived.Deep.QuietTactic
import Derived.BigQuiet
import Derived.Deep.LoopGhost
import Derived.Outline
/- graph.Check and what it calls: walks over the readable graph. -/
set_option linter.unusedVariables false
set_option linter.unusedSimpArgs false
namespace Go.Proofs.YtciniaabmjoiiaaDoor
open Go.RowKit Go.Proofs.YtciniaabmjoiiaaDoorW.PrintWords Go.Proofs.YtciniaabmjoiiaaDoorW.PrintLast Go.Proofs.YtciniaabmjoiiaaDoorW.PrintMore Go.Proofs.YtciniaabmjoiiaaDoor.PRef
theorem below_next {a w w' : World} (h : Below a.heap.size a w) (k : Below w.heap.size w w') : Below a.heap.size a w' := h.trans ⟨k.os, k.tape, k.output, k.size, fun i hi => k.block i (Nat.lt_of_lt_of_le hi h.size)⟩
theorem out_any (a n : Int) (p : Addr) (w : World) (hp : w.cell? p = some (.int .i64 n)) :
    Calls Tryd.prog 64 #[.int .i64 a, .pointer (some p)] w fun e w' => e = .returned (.bool (outB n a)) ∧ w = w' := by
  by_cases h : a < 0
  all_goals
    go_enter Tryd.func64, Tryd.ntmps64
    go_wp2
    go_ret
    exact ⟨rb (by first | (simp [outB, h]; done) | (simp [outB]; omega)), rfl⟩
def idxS (n : Int) : List Int → Nat → Int
  | [], _ => -1
  | x :: r, i => if outB n x = true then i else idxS n r (i + 1)
theorem idxS_drop (n : Int) (l : List Int) (k : Nat) (h : k < l.length) : idxS n (l.drop k) k = if outB n (rd l k) = true then (k : Int) else idxS n (l.drop (k + 1)) (k + 1) := by
  rw [List.drop_eq_getElem_cons h, rd_get l k h]; rfl
theorem idxS_iff (n : Int) (l : List Int) : ∀ i : Nat, 0 ≤ idxS n l i ↔ argsB n l = false := by
  induction l with
  | nil => intro i; simp [idxS, argsB]
  | cons x r ih =>
    intro i
    have ih' := ih (i + 1)
    unfold argsB at ih' ⊢
    rw [List.all_cons]
    by_cases h : outB n x = true
    · have : decide (0 ≤ x ∧ x < n) = false := by simp [outB] at h ⊢; omega
      rw [this]; simp [idxS, h]
    · have : decide (0 ≤ x ∧ x < n) = true := by simp [outB] at h ⊢; omega
      rw [this]; simp only [idxS, if_neg h, Bool.true_and]; exact ih'
theorem idxS_sign (n : Int) (l : List Int) (i : Nat) : decide (0 ≤ idxS n l i) = !argsB n l := by
  have := idxS_iff n l i
  cases h : argsB n l <;> simp_all
theorem index_any (A : Option Addr) (c : Nat) (l : List Int) (n : Int) (p : Addr) (w : World) (hr : Kd.C (Kd.int .i64) w A l.length l) (hp : w.cell? p = some (.int .i64 n)) (hm : l.length ≤ 9223372036854775807) :
    Calls Tryd.prog 72 #[.slice A l.length c, .func (.func 64) #[] #[.pointer (some p)]] w fun e w' => e = .returned (.int .i64 (idxS n l 0)) ∧ w = w' := by
  go_enter Tryd.func72, Tryd.ntmps72
  go_wp2
  go_loop [8] (fun i => ∃ k : Nat, k ≤ l.length ∧ i = .int .i64 k ∧ Hid (idxS n l 0 = idxS n (l.drop k) k)) (fun i => l.length - (intOf i).toNat)
  case atStart => exact ⟨0, Nat.zero_le _, rfl, Lib.hid rfl⟩
  case round =>
    obtain ⟨k, hk, rfl, HI⟩ := hrel
    by_cases hlt : k < l.length
    · obtain ⟨ad, e1, hx⟩ := Kd.at_int hr (k : Int) (by omega) (by omega)
      subst e1
      simp only [Int.toNat_natCast] at hx
      have hs := idxS_drop n l k hlt
      by_cases ho : outB n (rd l k) = true
      · rw [if_pos ho] at hs
        have HS := Lib.hid hs; clear hs
        go_wp2_with (go_at_call 64; refine (out_any _ n p _ hp).mono ?_; rintro e w' ⟨rfl, rfl⟩)
        go_ret
        exact ⟨ri (by rw [HI.out, HS.out]), rfl⟩
      · rw [if_neg ho] at hs
        have ho' : outB n (rd l k) = false := by simpa using ho
        clear ho
        have HS := Lib.hid hs; clear hs
        go_wp2_with (go_at_call 64; refine (out_any _ n p _ hp).mono ?_; rintro e w' ⟨rfl, rfl⟩)
        go_round
        case rel => exact ⟨k + 1, by omega, by go_num, Lib.hid (by rw [HI.out, HS.out])⟩
        case measure => simp [intOf]; omega
    · have hk' : k = l.length := by omega
      have HK := Lib.hid hk'; clear hk'
      go_wp2
      go_ret
      exact ⟨ri (by rw [HI.out, HK.out]; simp [idxS]), rfl⟩
theorem contains_any (A : Option Addr) (c : Nat) (l : List Int) (n : Int) (p : Addr) (w : World) (hr : Kd.C (Kd.int .i64) w A l.length l) (hp : w.cell? p = some (.int .i64 n)) (hm : l.length ≤ 9223372036854775807) :
    Calls Tryd.prog 65 #[.slice A l.length c, .func (.func 64) #[] #[.pointer (some p)]] w fun e w' => e = .returned (.bool (!argsB n l)) ∧ w = w' := by
  have H := Lib.hid (idxS_sign n l 0)
  go_enter Tryd.func65, Tryd.ntmps65
  go_wp2_with (go_at_call 72; refine (index_any A c l n p _ hr hp hm).mono ?_; rintro e w' ⟨rfl, rfl⟩)
  go_ret
  exact ⟨rb H.out, rfl⟩
theorem name_any (s : ByteArray) (w : World) : Calls Tryd.prog 63 #[.string s] w fun e w' => e = .returned (.bool (nameB s)) ∧ ∃ n, w' = w.drewN n :=
  (names_Good.calls 40 s (nameB s) w (names_f s 40 (by omega))).mono fun e w' ⟨he, hd⟩ => ⟨he, hd.out⟩
theorem good4 (nm : ByteArray) (num : Int) (l : List Int) (n : Int) : goodB 4 nm num l n = (nameB nm && (decide (num = 0 ∧ 1 ≤ l.length ∧ l.length ≤ 8) && argsB n l)) := by simp [goodB]
theorem good1 (nm : ByteArray) (num : Int) (l : List Int) (n : Int) : goodB 1 nm num l n = decide (l.length = 0 ∧ nm.toList = [] ∧ num = 0) := by simp [goodB]
theorem good2 (nm : ByteArray) (num : Int) (l : List Int) (n : Int) : goodB 2 nm num l n = (decide (l.length = 0) && (nameB nm && decide (num = 0))) := by simp [goodB]
theorem good3 (nm : ByteArray) (num : Int) (l : List Int) (n : Int) : goodB 3 nm num l n = decide (l.length = 0 ∧ nm.toList = [] ∧ -1125899906842624 ≤ num ∧ num ≤ 1125899906842624) := by simp [goodB]
theorem good_no (kd : Int) (nm : ByteArray) (num : Int) (l : List Int) (n : Int) (h4 : ¬ kd = 4) (hl : ¬ l.length = 0) : goodB kd nm num l n = false := by
  unfold goodB
  by_cases k1 : kd = 1
  · simp [k1]; intro h; simp [h] at hl
  · by_cases k2 : kd = 2
    · simp [k2]; intro h; simp [h] at hl
    · by_cases k3 : kd = 3
      · simp [k3]; intro h; simp [h] at hl
      · simp [k1, k2, k3, h4]
theorem good_other (kd : Int) (nm : ByteArray) (num : Int) (l : List Int) (n : Int) (k1 : ¬ kd = 1) (k2 : ¬ kd = 2) (k3 : ¬ kd = 3) (k4 : ¬ kd = 4) : goodB kd nm num l n = false := by
  simp [goodB, k1, k2, k3, k4]
theorem below_q2 {w : World} {o1 o2 : Obj} (n : Nat) : Below w.heap.size w (((w.alloc o1).alloc o2).drewN n) := below_drewN (((Below.refl _ _).alloc (Nat.le_refl _) _).alloc (by simp) _) n
theorem below_q0 {w : World} {o1 o2 : Obj} : Below w.heap.size w ((w.alloc o1).alloc o2) := ((Below.refl _ _).alloc (Nat.le_refl _) _).alloc (by simp) _
set_option maxRecDepth 100000 in
set_option maxHeartbeats 1000000 in
theorem good_any (kd : Int) (nm : ByteArray) (num : Int) (A : Option Addr) (c : Nat) (l : List Int) (n : Int) (w : World) (hr : Kd.C (Kd.int .i64) w A l.length l) (hm : l.length ≤ 9223372036854775807) :
    Calls Tryd.prog 44 #[.agg #[.int .i64 kd, .string nm, .int .i64 num, .slice A l.length c], .int .i64 n] w fun e w' => e = .returned (.bool (goodB kd nm num l n)) ∧ Below w.heap.size w w' := by
  have hr2 : ∀ o1 o2, Kd.C (Kd.int .i64) ((w.alloc o1).alloc o2) A l.length l := fun o1 o2 => Kd.C_below hr below_q0
  have HR := Lib.hid hr2; clear hr hr2
  by_cases k4 : kd = 4
  · subst k4
    go_enter Tryd.func44, Tryd.ntmps44
    go_wp2_with (first | (go_at_call 63; refine (name_any _ _).mono ?_; rintro e w' ⟨rfl, nq, rfl⟩) | (go_at_call 65; refine (contains_any A c l n _ _ (Kd.C_drewN (HR.out _ _) _) (by simp [go_sem]) hm).mono ?_; rintro e w' ⟨rfl, rfl⟩))
    all_goals go_ret
    all_goals exact ⟨rb (by rw [good4]; clear HR; grind), below_q2 _⟩
  · by_cases hl : l.length = 0
    · have hl' : decide (0 < l.length) = false := by simp [hl]
      have HL := Lib.hid hl
      by_cases k1 : kd = 1
      · subst k1
        go_enter Tryd.func44, Tryd.ntmps44
        go_wp2
        all_goals go_ret
        all_goals exact ⟨rb (by rw [good1]; have hl0 := HL.out; clear HL HR hl'; grind), by first | exact below_q0 | exact below_q2 _⟩
      · by_cases k2 : kd = 2
        · subst k2
          go_enter Tryd.func44, Tryd.ntmps44
          go_wp2_with (first | (go_at_call 63; refine (name_any _ _).mono ?_; rintro e w' ⟨rfl, nq, rfl⟩))
          all_goals go_ret
          all_goals exact ⟨rb (by rw [good2]; have hl0 := HL.out; clear HL HR hl'; grind), by first | exact below_q0 | exact below_q2 _⟩
        · by_cases k3 : kd = 3
          · subst k3
            go_enter Tryd.func44, Tryd.ntmps44
            go_wp2
            all_goals go_ret
            all_goals exact ⟨rb (by rw [good3]; have hl0 := HL.out; clear HL HR hl'; grind), by first | exact below_q0 | exact below_q2 _⟩
          · have q1 : (kd == 1) = false := by simpa using k1
            have q2 : (kd == 2) = false := by simpa using k2
            have q3 : (kd == 3) = false := by simpa using k3
            have q4 : (kd == 4) = false := by simpa using k4
            go_enter Tryd.func44, Tryd.ntmps44
            go_wp2
            all_goals go_ret
            all_goals exact ⟨rb (good_other _ _ _ _ _ k1 k2 k3 k4).symm, by first | exact below_q0 | exact below_q2 _⟩
    · have q4 : (kd != 4) = true := by simpa using k4
      go_enter Tryd.func44, Tryd.ntmps44
      go_wp2
      all_goals go_ret
      all_goals exact ⟨rb (good_no _ _ _ _ _ k4 hl).symm, by first | exact below_q0 | exact below_q2 _⟩
def RetV (es : Chain) (w : World) (e : Ending) (w' : World) : Prop := ∃ v, e = .returned v ∧ EV w' v es ∧ Below w.heap.size w w'
theorem gfault_any (c a : Int) (w : World) : Calls Tryd.prog 43 #[.int .i64 c, .int .i64 a] w (RetV [(c, a, ⟨#[]⟩)] w) := by
  go_enter Tryd.func43, Tryd.ntmps43
  go_wp2
  go_ret
  refine ⟨_, rfl, .cons ?_ ?_ ?_ ?_ .nil, (Below.refl _ _).alloc (Nat.le_refl _) _⟩ <;> simp [go_sem]
/-- The graph's box: behind whatever was made since. -/
structure GBox (w wr : World) (A : Option Addr) (c n : Nat) (B : Option Addr) (d m : Nat) : Prop where
  lt : w.heap.size < wr.heap.size
  g0 : wr.cell? ⟨w.heap.size, 0, none⟩ = some (.slice A n c)
  g1 : wr.cell? ⟨w.heap.size, 1, none⟩ = some (.slice B m d)
  hb : Hid (Below w.heap.size w wr)
theorem GBox.new {w : World} {A : Option Addr} {c n : Nat} {B : Option Addr} {d m : Nat} {t : TypeId} : GBox w (w.alloc (.cells #[.slice A n c, .slice B m d] t)) A c n B d m :=
  ⟨by simp, by simp [go_sem], by simp [go_sem], Lib.hid ((Below.refl _ _).alloc (Nat.le_refl _) _)⟩
theorem GBox.keep {w wr w1 : World} {A : Option Addr} {c n : Nat} {B : Option Addr} {d m : Nat} (h : GBox w wr A c n B d m) (hb : Below wr.heap.size wr w1) : GBox w w1 A c n B d m :=
  ⟨Nat.lt_of_lt_of_le h.lt hb.size, (hb.cell (p := ⟨w.heap.size, 0, none⟩) h.lt).trans h.g0, (hb.cell (p := ⟨w.heap.size, 1, none⟩) h.lt).trans h.g1, Lib.hid (below_next h.hb.out hb)⟩
theorem badN_drop (n : Int) (l : List Nd) (k : Nat) (h : k < l.length) : badN n (l.drop k) k = if goodN (rd_T35 l k) n = true then badN n (l.drop (k + 1)) (k + 1) else some k := by
  rw [List.drop_eq_getElem_cons h, rdT_get l k h]; rfl
theorem badR_drop (n : Int) (l : List Int) (k : Nat) (h : k < l.length) : badR n (l.drop k) k = if outB n (rd l k) = true then some k else badR n (l.drop (k + 1)) (k + 1) := by
  rw [List.drop_eq_getElem_cons h, rd_get l k h]; rfl
set_option maxRecDepth 100000 in
set_option maxHeartbeats 1000000 in
theorem check_any (A B : Option Addr) (c d : Nat) (nodes : List Nd) (roots : List Int) (w : World) (hn : Kd.C k35 w A nodes.length nodes) (hr : Kd.C (Kd.int .i64) w B roots.length roots) (hm : nodes.length ≤ 9223372036854775807) (hm2 : roots.length ≤ 9223372036854775807) :
    Calls Tryd.prog 14 #[.agg #[.slice A nodes.length c, .slice B roots.length d]] w (RetV (chkC nodes roots) w) := by
  by_cases h1 : 4096 < nodes.length
  · have e : chkC nodes roots = ([(41, (nodes.length : Int), ⟨#[]⟩)] : Chain) := by unfold chkC chk; rw [if_pos h1]; rfl
    rw [e]
    clear e hn hr
    go_enter Tryd.func14, Tryd.ntmps14
    go_wp2_with fail
    refine (gfault_any _ _ _).mono ?_; rintro e w1 ⟨v1, rfl, hv1, hb1⟩
    go_wp2_with fail
    go_ret
    exact ⟨_, rfl, hv1, below_next ((Below.refl _ _).alloc (Nat.le_refl _) _) hb1⟩
  · by_cases h2 : 4096 < roots.length
    · have e : chkC nodes roots = ([(42, (roots.length : Int), ⟨#[]⟩)] : Chain) := by unfold chkC chk; rw [if_neg h1, if_pos h2]; rfl
      rw [e]
      clear e hn hr
      go_enter Tryd.func14, Tryd.ntmps14
      go_wp2_with fail
      refine (gfault_any _ _ _).mono ?_; rintro e w1 ⟨v1, rfl, hv1, hb1⟩
      go_wp2_with fail
      go_ret
      exact ⟨_, rfl, hv1, below_next ((Below.refl _ _).alloc (Nat.le_refl _) _) hb1⟩
    · have h1' : nodes.length ≤ 4096 := by omega
      have h2' : roots.length ≤ 4096 := by omega
      have hc0 : chk nodes roots = match badN nodes.length nodes 0 with | some i => (40, (i : Int)) | none => (match badR nodes.length roots 0 with | some i => (43, (i : Int)) | none => (0, 0)) := by
        unfold chk; rw [if_neg h1, if_neg h2]; rfl
      have HC := Lib.hid hc0; clear hc0
      have HN := Lib.hid hn; clear hn
      have HR := Lib.hid hr; clear hr
      clear h1 h2
      go_enter Tryd.func14, Tryd.ntmps14
      go_wp2_with fail
      go_loopw [26] (fun i wr => ∃ k : Nat, k ≤ nodes.length ∧ i = .int .i64 k ∧ GBox w wr A c nodes.length B d roots.length ∧ Hid (badN nodes.length nodes 0 = badN nodes.length (nodes.drop k) k)) (fun i _ => nodes.length - (intOf i).toNat)
      case atStart => exact ⟨0, Nat.zero_le _, rfl, GBox.new, Lib.hid rfl⟩
      case round =>
        obtain ⟨k, hk, rfl, ⟨hlt, g0, g1, HB⟩, HI⟩ := hrel
        by_cases hlt : k < nodes.length
        · obtain ⟨ad, A3, c3, e1, x0, x1, x2, x3, l3, g3⟩ := at_T35 (Kd.C_below HN.out (HB.out)) (k : Int) (by omega) (by omega)
          subst e1
          simp only [Int.toNat_natCast] at x0 x1 x2 x3
          have hs := badN_drop nodes.length nodes k hlt
          by_cases hg : goodN (rd_T35 nodes k) nodes.length = true
          · rw [if_pos hg] at hs
            have HS := Lib.hid (And.intro hs hg); clear hs hg
            have hl3 : (rd_T35 nodes k).f3.length ≤ 9223372036854775807 := g3.2.1
            have G3 := Lib.hid g3; clear g3
            go_wp2_with fail
            refine (good_any _ _ _ _ _ _ _ _ (Kd.C_below G3.out ((Below.refl _ _).alloc (Nat.le_refl _) _)) hl3).mono ?_; rintro e w1 ⟨rfl, hb1⟩
            have hq : goodB (rd_T35 nodes k).f0 (rd_T35 nodes k).f1 (rd_T35 nodes k).f2 (rd_T35 nodes k).f3 nodes.length = true := HS.out.2
            go_wp2_with fail
            go_roundw
            case rel => exact ⟨k + 1, by omega, by go_num, GBox.keep ⟨‹_›, g0, g1, HB⟩ (below_next ((Below.refl _ _).alloc (Nat.le_refl _) _) hb1), Lib.hid (by rw [HI.out, HS.out.1])⟩
            case measure => simp [intOf]; omega
          · rw [if_neg hg] at hs
            have hq : goodB (rd_T35 nodes k).f0 (rd_T35 nodes k).f1 (rd_T35 nodes k).f2 (rd_T35 nodes k).f3 nodes.length = false := by simpa [goodN] using hg
            clear hg
            have HS := Lib.hid hs; clear hs
            have hl3 : (rd_T35 nodes k).f3.length ≤ 9223372036854775807 := g3.2.1
            have G3 := Lib.hid g3; clear g3
            go_wp2_with fail
            refine (good_any _ _ _ _ _ _ _ _ (Kd.C_below G3.out ((Below.refl _ _).alloc (Nat.le_refl _) _)) hl3).mono ?_; rintro e w1 ⟨rfl, hb1⟩
            go_wp2_with fail
            refine (gfault_any _ _ _).mono ?_; rintro e w2 ⟨v2, rfl, hv2, hb2⟩
            go_wp2_with fail
            go_ret
            refine ⟨_, rfl, ?_, below_next (below_next (below_next HB.out ((Below.refl _ _).alloc (Nat.le_refl _) _)) hb1) hb2⟩
            have : chkC nodes roots = ([(40, (k : Int), ⟨#[]⟩)] : Chain) := by unfold chkC; rw [HC.out, HI.out, HS.out]; rfl
            rw [this]; exact hv2
        · have hk' : nodes.drop k = [] := List.drop_eq_nil_of_le (by omega)
          have HK := Lib.hid hk'; clear hk'
          go_wp2_with fail
          go_loopw [43] (fun i wr => ∃ j : Nat, j ≤ roots.length ∧ i = .int .i64 j ∧ GBox w wr A c nodes.length B d roots.length ∧ Hid (badR nodes.length roots 0 = badR nodes.length (roots.drop j) j)) (fun i _ => roots.length - (intOf i).toNat)
          case atStart => exact ⟨0, Nat.zero_le _, rfl, ⟨‹_›, g0, g1, HB⟩, Lib.hid rfl⟩
          case round =>
            obtain ⟨j, hj, rfl, ⟨hlt2, g0, g1, HB⟩, HJ⟩ := hrel
            by_cases hltj : j < roots.length
            · obtain ⟨bd, e1, x0⟩ := Kd.at_int (Kd.C_below HR.out HB.out) (j : Int) (by omega) (by omega)
              subst e1
              simp only [Int.toNat_natCast] at x0
              have hs := badR_drop nodes.length roots j hltj
              by_cases hg : outB nodes.length (rd roots j) = true
              · rw [if_pos hg] at hs
                have HS := Lib.hid hs; clear hs
                have hlt0 : rd roots j < 0 ∨ (nodes.length : Int) ≤ rd roots j := by simpa [outB] using hg
                clear hg
                by_cases q0 : rd roots j < 0
                all_goals
                  go_wp2_with fail
                  refine (gfault_any _ _ _).mono ?_; rintro e w2 ⟨v2, rfl, hv2, hb2⟩
                  go_wp2_with fail
                  go_ret
                  refine ⟨_, rfl, ?_, below_next HB.out hb2⟩
                  have : chkC nodes roots = ([(43, (j : Int), ⟨#[]⟩)] : Chain) := by unfold chkC; rw [HC.out, HI.out, HK.out, HJ.out, HS.out]; rfl
                  rw [this]; exact hv2
              · rw [if_neg hg] at hs
                have HS := Lib.hid hs; clear hs
                have hq : 0 ≤ rd roots j ∧ rd roots j < nodes.length := by simpa [outB] using hg
                obtain ⟨q0, q1⟩ := hq
                clear hg
                go_wp2_with fail
                go_roundw
                case rel => exact ⟨j + 1, by omega, by go_num, ⟨‹_›, g0, g1, HB⟩, Lib.hid (by rw [HJ.out, HS.out])⟩
                case measure => simp [intOf]; omega
            · have hj' : roots.drop j = [] := List.drop_eq_nil_of_le (by omega)
              have HJ2 := Lib.hid hj'; clear hj'
              go_wp2_with fail
              go_ret
              refine ⟨_, rfl, ?_, HB.out⟩
              have : chkC nodes roots = [] := by unfold chkC; rw [HC.out, HI.out, HK.out, HJ.out, HJ2.out]; rfl
              rw [this]; exact .nil
end Go.Proofs.YtciniaabmjoiiaaDoor
