/- The walk of word.Read. -/
import Derived.Test.YtpmnkabggljpkaaDoorWordR
set_option linter.unusedVariables false
set_option linter.unusedSimpArgs false
namespace Go.Proofs.YtpmnkabggljpkaaDoor
open Go.RowKit
def RdP (s : ByteArray) (w : World) (e : Ending) (w' : World) : Prop := RetE (.int .u64 ((readS s).getD 0)) (if readS s = none then code1 12 else []) w e w'
theorem rd_none {s : ByteArray} {w w' : World} {v : Value} (h : readS s = none) (hv : EV w' v (code1 12)) (hb : Below w.heap.size w w') : RdP s w (.returned (.tuple #[.int .u64 0, v])) w' := by
  unfold RdP; rw [h]; exact ⟨v, rfl, by simpa using hv, hb⟩
theorem rd_some {s : ByteArray} {w w' : World} {x : Int} (h : readS s = some x) (hb : Below w.heap.size w w') : RdP s w (.returned (.tuple #[.int .u64 x, .nilIface])) w' := by
  unfold RdP; rw [h]; exact ⟨_, rfl, by simpa using EV.nil, hb⟩
theorem packS_range (t v : Int) : 0 ≤ packS t v ∧ packS t v ≤ 18446744073709551615 := by
  unfold packS joinS
  repeat' split
  all_goals omega
theorem try_none {s : ByteArray} {k : Int} (h : numT (restL s k) = none) : tryS k s = none := by unfold tryS; rw [h]
theorem try_no {s : ByteArray} {k n : Int} (h : numT (restL s k) = some n) (hc : ¬ (packC k n = [] ∧ textS (packS k n) = s)) : tryS k s = none := by unfold tryS; rw [h]; simp only; rw [if_neg hc]
theorem try_yes {s : ByteArray} {k n : Int} (h : numT (restL s k) = some n) (hc : packC k n = []) (ht : textS (packS k n) = s) : tryS k s = some (packS k n) := by unfold tryS; rw [h]; simp only; rw [if_pos ⟨hc, ht⟩]
theorem numT1 {l : List UInt8} {a b : List UInt8} {two : Bool} (h : Lib.cut l [47] = (a, b, two)) (ha : atoiO a = none) : numT l = none := by unfold numT; rw [h]; simp only [ha]
theorem numT2 {l : List UInt8} {a b : List UInt8} {n : Int} (h : Lib.cut l [47] = (a, b, false)) (ha : atoiO a = some n) : numT l = some n := by unfold numT; rw [h]; simp only [ha]; rfl
theorem numT3 {l : List UInt8} {a b : List UInt8} {n : Int} (h : Lib.cut l [47] = (a, b, true)) (ha : atoiO a = some n) (hb : atoiO b = none) : numT l = none := by unfold numT; rw [h]; simp only [ha, hb]; rfl
theorem numT4 {l : List UInt8} {a b : List UInt8} {n k : Int} (h : Lib.cut l [47] = (a, b, true)) (ha : atoiO a = some n) (hb : atoiO b = some k) : numT l = if k < 0 ∨ 15 < k ∨ n < 0 ∨ 1024 ≤ n then none else some (n * 16 + k) := by unfold numT; rw [h]; simp only [ha, hb]; rfl
set_option maxRecDepth 100000 in
set_option maxHeartbeats 1000000 in
theorem read_any (s : ByteArray) (w : World) (hs : s.size ≤ 1048576) (E : LibEnv w) (h6 : 3 < w.heap.size) : Calls Tryd.prog 28 #[.string s] w (RdP s w) := by
  have HE := Lib.hid (And.intro E h6); clear E h6
  go_enter Tryd.func28, Tryd.ntmps28
  go_wp2_with fail
  go_loop [4] (fun i => ∃ k : Int, 0 ≤ k ∧ k ≤ 6 ∧ i = .int .i64 k ∧ Hid (∀ j, 0 ≤ j → j < k → pre s j = false)) (fun i => (6 - intOf i).toNat)
  case atStart => exact ⟨0, by omega, by omega, rfl, Lib.hid (fun j h0 h1 => by omega)⟩
  case round =>
    obtain ⟨k, k0, k6, rfl, HI⟩ := hrel
    by_cases hk : k ≤ 5
    · go_wp2_with (first | (go_at_call 37; refine (label_any _ _).mono ?_; rintro e w' ⟨rfl, rfl⟩) | (go_at_call 40; fail))
      refine (cp_c s k _ hs).mono ?_; rintro e w' ⟨rest, ok, rfl, rfl, hr, hok, hrs⟩
      cases ok with
      | false =>
        go_wp2_with fail
        go_round
        case rel => exact ⟨k + 1, by omega, by omega, by go_num, Lib.hid (fun j h0 h1 => by
          by_cases e : j = k
          · subst e; exact hok.out
          · exact HI.out j h0 (by omega))⟩
        case measure => simp [intOf]; omega
      | true =>
        have HR := Lib.hid (readS_at k0 hk HI.out hok.out)
        go_wp2_with fail
        refine (cut_c rest _ hrs HE.out.1).mono ?_; rintro e w' ⟨l, r, two, n0, rfl, rfl, hc, hl, hrr⟩
        have HC : Hid (Lib.cut (restL s k) [47] = (l.data.toList, r.data.toList, two)) := Lib.hid (by rw [← hr.out]; exact hc.out)
        have E0 : Hid (LibEnv (w.drewN n0) ∧ 3 < (w.drewN n0).heap.size ∧ Below w.heap.size w (w.drewN n0)) := Lib.hid ⟨HE.out.1.keep (below_drewN (Below.refl _ _) _) HE.out.2, HE.out.2, below_drewN (Below.refl _ _) _⟩
        clear hc hr HI hok
        generalize w.drewN n0 = w0 at *
        go_wp2_with fail
        refine (atoi_c l _ hl E0.out.1).mono ?_; rintro e w1 (⟨n, ha, n1, n2, rfl, hb1⟩ | ⟨n, ta, pa, ha, rfl, hb1⟩)
        · have E1 : Hid (LibEnv w1 ∧ 3 < w1.heap.size ∧ Below w.heap.size w w1) := Lib.hid ⟨E0.out.1.keep hb1.out E0.out.2.1, Nat.lt_of_lt_of_le E0.out.2.1 hb1.out.size, below_next E0.out.2.2 hb1.out⟩
          clear E0 hb1
          cases two with
          | false =>
            have HT := Lib.hid (numT2 HC.out ha.out)
            clear ha HC
            go_wp2_with fail
            have PR := packS_range k (n)
            refine (pack_any k (n) _ (by omega) (by omega)).mono ?_; rintro e w2 ⟨x2, rfl, hv2, hb2⟩
            have E2 : Hid (LibEnv w2 ∧ 3 < w2.heap.size ∧ Below w.heap.size w w2) := Lib.hid ⟨E1.out.1.keep hb2 E1.out.2.1, Nat.lt_of_lt_of_le E1.out.2.1 hb2.size, below_next E1.out.2.2 hb2⟩
            clear E1 hb2
            cases hp : packC k (n) with
            | nil =>
              rw [hp] at hv2
              cases hv2
              have HP := Lib.hid hp; clear hp
              by_cases ht : textS (packS k (n)) = s
              · have HY := Lib.hid (HR.out.trans (try_yes HT.out HP.out ht))
                have hq : (!((textS (packS k (n))).toList == s.toList)) = false := by simp [ht]
                clear ht
                go_wp2_with fail
                refine (text_any (packS k (n)) _ PR.1 PR.2 E2.out.1 E2.out.2.1).mono ?_; rintro e w3 ⟨rfl, hb3⟩
                have B3 := Lib.hid (below_next E2.out.2.2 hb3)
                clear E2 hb3
                generalize textS (packS k (n)) = tx at *
                go_wp2_with fail
                go_ret2
                exact rd_some HY.out B3.out
              · have HN := Lib.hid (HR.out.trans (try_no HT.out (fun h => ht h.2)))
                have hq := str_ne ht
                clear ht
                go_wp2_with fail
                refine (text_any (packS k (n)) _ PR.1 PR.2 E2.out.1 E2.out.2.1).mono ?_; rintro e w3 ⟨rfl, hb3⟩
                have B3 := Lib.hid (below_next E2.out.2.2 hb3)
                clear E2 hb3
                generalize textS (packS k (n)) = tx at *
                go_wp2_with (go_at_call 30; refine (fault_any _ _).mono ?_; rintro e w' ⟨v, rfl, hv, hb⟩)
                go_ret2
                exact rd_none HN.out ‹_› (below_next B3.out ‹_›)
            | cons f fs =>
              have HN := Lib.hid (HR.out.trans (try_no HT.out (fun h => absurd (hp.symm.trans h.1) (by simp))))
              rw [hp] at hv2
              cases hv2
              rename_i b1 cc aa nn vv k0' k1' k2' k3' k4'
              clear k0' k1' k2' k3' k4' hp
              go_wp2_with (go_at_call 30; refine (fault_any _ _).mono ?_; rintro e w' ⟨v, rfl, hv, hb⟩)
              go_ret2
              exact rd_none HN.out ‹_› (below_next E2.out.2.2 ‹_›)
          | true =>
            go_wp2_with fail
            refine (atoi_c r _ hrr E1.out.1).mono ?_; rintro e w2 (⟨m, hm, m1, m2, rfl, hb2⟩ | ⟨m, ta, pa, hm, rfl, hb2⟩)
            · have E3 : Hid (LibEnv w2 ∧ 3 < w2.heap.size ∧ Below w.heap.size w w2) := Lib.hid ⟨E1.out.1.keep hb2.out E1.out.2.1, Nat.lt_of_lt_of_le E1.out.2.1 hb2.out.size, below_next E1.out.2.2 hb2.out⟩
              clear E1 hb2
              have E1 := E3; clear E3
              by_cases hg : m < 0 ∨ 15 < m ∨ n < 0 ∨ 1024 ≤ n
              · have HN := Lib.hid (HR.out.trans (try_none ((numT4 HC.out ha.out hm.out).trans (if_pos hg))))
                clear ha hm HC
                by_cases g1 : m < 0
                · clear hg
                  go_wp2_with (go_at_call 30; refine (fault_any _ _).mono ?_; rintro e w' ⟨v, rfl, hv, hb⟩)
                  go_ret2
                  exact rd_none HN.out ‹_› (below_next E1.out.2.2 ‹_›)
                · by_cases g2 : 15 < m
                  · clear hg
                    go_wp2_with (go_at_call 30; refine (fault_any _ _).mono ?_; rintro e w' ⟨v, rfl, hv, hb⟩)
                    go_ret2
                    exact rd_none HN.out ‹_› (below_next E1.out.2.2 ‹_›)
                  · by_cases g3 : n < 0
                    · clear hg
                      go_wp2_with (go_at_call 30; refine (fault_any _ _).mono ?_; rintro e w' ⟨v, rfl, hv, hb⟩)
                      go_ret2
                      exact rd_none HN.out ‹_› (below_next E1.out.2.2 ‹_›)
                    · have g4 : 1024 ≤ n := by omega
                      clear hg
                      go_wp2_with (go_at_call 30; refine (fault_any _ _).mono ?_; rintro e w' ⟨v, rfl, hv, hb⟩)
                      go_ret2
                      exact rd_none HN.out ‹_› (below_next E1.out.2.2 ‹_›)
              · have HT := Lib.hid ((numT4 HC.out ha.out hm.out).trans (if_neg hg))
                clear ha hm HC
                have g1 : 0 ≤ m := by omega
                have g2 : m ≤ 15 := by omega
                have g3 : 0 ≤ n := by omega
                have g4 : n < 1024 := by omega
                clear hg
                have HO := Lib.hid (or16 n m g3 g4 g1 (by omega))
                go_wp2_with fail
                rw [HO.out]
                have PR := packS_range k (n * 16 + m)
                refine (pack_any k (n * 16 + m) _ (by omega) (by omega)).mono ?_; rintro e w2 ⟨x2, rfl, hv2, hb2⟩
                have E2 : Hid (LibEnv w2 ∧ 3 < w2.heap.size ∧ Below w.heap.size w w2) := Lib.hid ⟨E1.out.1.keep hb2 E1.out.2.1, Nat.lt_of_lt_of_le E1.out.2.1 hb2.size, below_next E1.out.2.2 hb2⟩
                clear E1 hb2
                cases hp : packC k (n * 16 + m) with
                | nil =>
                  rw [hp] at hv2
                  cases hv2
                  have HP := Lib.hid hp; clear hp
                  by_cases ht : textS (packS k (n * 16 + m)) = s
                  · have HY := Lib.hid (HR.out.trans (try_yes HT.out HP.out ht))
                    have hq : (!((textS (packS k (n * 16 + m))).toList == s.toList)) = false := by simp [ht]
                    clear ht
                    go_wp2_with fail
                    refine (text_any (packS k (n * 16 + m)) _ PR.1 PR.2 E2.out.1 E2.out.2.1).mono ?_; rintro e w3 ⟨rfl, hb3⟩
                    have B3 := Lib.hid (below_next E2.out.2.2 hb3)
                    clear E2 hb3
                    generalize textS (packS k (n * 16 + m)) = tx at *
                    go_wp2_with fail
                    go_ret2
                    exact rd_some HY.out B3.out
                  · have HN := Lib.hid (HR.out.trans (try_no HT.out (fun h => ht h.2)))
                    have hq := str_ne ht
                    clear ht
                    go_wp2_with fail
                    refine (text_any (packS k (n * 16 + m)) _ PR.1 PR.2 E2.out.1 E2.out.2.1).mono ?_; rintro e w3 ⟨rfl, hb3⟩
                    have B3 := Lib.hid (below_next E2.out.2.2 hb3)
                    clear E2 hb3
                    generalize textS (packS k (n * 16 + m)) = tx at *
                    go_wp2_with (go_at_call 30; refine (fault_any _ _).mono ?_; rintro e w' ⟨v, rfl, hv, hb⟩)
                    go_ret2
                    exact rd_none HN.out ‹_› (below_next B3.out ‹_›)
                | cons f fs =>
                  have HN := Lib.hid (HR.out.trans (try_no HT.out (fun h => absurd (hp.symm.trans h.1) (by simp))))
                  rw [hp] at hv2
                  cases hv2
                  rename_i b1 cc aa nn vv k0' k1' k2' k3' k4'
                  clear k0' k1' k2' k3' k4' hp
                  go_wp2_with (go_at_call 30; refine (fault_any _ _).mono ?_; rintro e w' ⟨v, rfl, hv, hb⟩)
                  go_ret2
                  exact rd_none HN.out ‹_› (below_next E2.out.2.2 ‹_›)
            · have HN := Lib.hid (HR.out.trans (try_none (numT3 HC.out ha.out hm.out)))
              go_wp2_with (go_at_call 30; refine (fault_any _ _).mono ?_; rintro e w' ⟨v, rfl, hv, hb⟩)
              go_ret2
              exact rd_none HN.out ‹_› (below_next (below_next E1.out.2.2 hb2.out) ‹_›)
        · have HN := Lib.hid (HR.out.trans (try_none (numT1 HC.out ha.out)))
          go_wp2_with (go_at_call 30; refine (fault_any _ _).mono ?_; rintro e w' ⟨v, rfl, hv, hb⟩)
          go_ret2
          exact rd_none HN.out ‹_› (below_next (below_next E0.out.2.2 hb1.out) ‹_›)
    · have HN := Lib.hid (readS_no (fun j h0 h6 => HI.out j h0 (by omega)))
      go_wp2_with (go_at_call 30; refine (fault_any _ _).mono ?_; rintro e w' ⟨v, rfl, hv, hb⟩)
      go_ret2
      exact rd_none HN.out ‹_› ‹_›
end Go.Proofs.YtpmnkabggljpkaaDoor
