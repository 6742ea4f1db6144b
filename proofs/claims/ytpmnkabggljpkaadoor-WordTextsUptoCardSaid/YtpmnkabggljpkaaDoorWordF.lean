/- The walk of tendrilref01.Read. Printed by wordf.py. -/
import Derived.Test.YtpmnkabggljpkaaDoorWordE
set_option linter.unusedVariables false
set_option linter.unusedSimpArgs false
namespace Go.Proofs.YtpmnkabggljpkaaDoor
open Go.RowKit Go.Shelf
def BW (w wr : World) : Prop := Box4 wr w.heap.size (.int .i64 0) (.int .i64 0) (.string ⟨#[]⟩) (.slice none 0 0) ∧ Below w.heap.size w wr
theorem BW.new (w : World) : BW w (w.alloc (.cells #[.int .i64 0, .int .i64 0, .string ⟨#[]⟩, .slice none 0 0] 32)) := ⟨Box4.new, (Below.refl _ _).alloc (Nat.le_refl _) _⟩
theorem BW.keep {w wr w1 : World} (h : BW w wr) (hb : Below wr.heap.size wr w1) : BW w w1 := ⟨h.1.keep hb, below_next h.2 hb⟩
theorem ext_list (s : ByteArray) (a : Nat) : (s.extract a s.size).data.toList = s.data.toList.drop a := by
  rw [Lib.extract_data, List.take_of_length_le (by rw [List.length_drop, ← Lib.size_eq]; omega)]
theorem ext_list0 (s : ByteArray) (a : Nat) : (s.extract 0 a).data.toList = s.data.toList.take a := by
  rw [Lib.extract_data]; simp
theorem ext_size (s : ByteArray) (a : Nat) : (s.extract a s.size).size ≤ s.size := by
  rw [Lib.size_eq, ext_list, List.length_drop, ← Lib.size_eq]; omega
theorem ext_size0 (s : ByteArray) (a : Nat) : (s.extract 0 a).size ≤ s.size := by
  rw [Lib.size_eq, ext_list0, List.length_take, ← Lib.size_eq]; omega
theorem head_of (r : ByteArray) (h : 0 < r.size) : r.data.toList.head? = some r[0] := by
  have := byte_at r 0 h
  rwa [List.head?_eq_getElem?]
theorem head_no (r : ByteArray) (h : r.size = 0) : r.data.toList.head? = none := by
  rw [Lib.size_eq] at h; rw [List.length_eq_zero_iff.1 h]; rfl
theorem rf_some {s : ByteArray} {w w' : World} {x c a : Int} {n : ByteArray} {v : Value} (h : readS s = some x) (hf : ∀ W, FV W c a n v []) (hb : Below w.heap.size w w') : RfP s w (.returned (.tuple #[.int .u64 x, .agg #[.int .i64 c, .int .i64 a, .string n, v]])) w' := by
  unfold RfP; rw [h]; exact ⟨_, _, _, _, rfl, by simpa using hf, hb⟩
theorem rf_none {s : ByteArray} {w w' : World} {c a : Int} {n : ByteArray} {v : Value} (h : readS s = none) (hf : ∀ W, FV W c a n v (code1 12)) (hb : Below w.heap.size w w') : RfP s w (.returned (.tuple #[.int .u64 0, .agg #[.int .i64 c, .int .i64 a, .string n, v]])) w' := by
  unfold RfP; rw [h]; exact ⟨_, _, _, _, rfl, by simpa using hf, hb⟩
theorem fv_nil {w : World} {c a : Int} {n : ByteArray} {v : Value} (h : FV w c a n v []) : c = 0 := by cases h; rfl
theorem fv_cons {w : World} {c a : Int} {n : ByteArray} {v : Value} {f : Int × Int × ByteArray} {fs : Chain} (h : FV w c a n v (f :: fs)) : (c != 0) = true := by
  cases h with
  | one hc => simpa using hc
  | led hc => simpa using hc
def RfN (s : ByteArray) (w : World) (wr : World) : Prop := BW w wr ∧ readS s = none
theorem tl1 {sg : Int} {r : List UInt8} (h : numO (r.take (idxO 47 r)) = none) : refTail sg r = none := by unfold refTail; rw [h]
theorem tl2 {sg : Int} {r : List UInt8} {n : Nat} (h : numO (r.take (idxO 47 r)) = some n) (hc : ¬ idxO 47 r < r.length) : refTail sg r = some (sg * n) := by unfold refTail; rw [h]; simp only; rw [if_neg hc]
theorem tl3 {sg : Int} {r : List UInt8} {n : Nat} (h : numO (r.take (idxO 47 r)) = some n) (hc : idxO 47 r < r.length) (hk : numO (r.drop (idxO 47 r + 1)) = none) : refTail sg r = none := by unfold refTail; rw [h]; simp only; rw [if_pos hc, hk]
theorem tl4 {sg : Int} {r : List UInt8} {n k : Nat} (h : numO (r.take (idxO 47 r)) = some n) (hc : idxO 47 r < r.length) (hk : numO (r.drop (idxO 47 r + 1)) = some k) : refTail sg r = if n < 1024 ∧ k < 16 then some (sg * (16 * n + k)) else none := by unfold refTail; rw [h]; simp only; rw [if_pos hc, hk]
set_option maxRecDepth 100000 in
set_option maxHeartbeats 4000000 in
theorem rread_any (s : ByteArray) (w : World) (hs : s.size ≤ 1048576) : Calls Tryd.prog 29 #[.string s] w (RfP s w) := by
  go_enter Tryd.func29, Tryd.ntmps29
  go_wp2_with fail
  have B0 := Lib.hid (BW.new w)
  generalize w.alloc (.cells #[.int .i64 0, .int .i64 0, .string ⟨#[]⟩, .slice none 0 0] 32) = w0 at *
  go_loop [4] (fun i => ∃ k : Nat, k ≤ s.size ∧ i = .int .i64 k ∧ Hid (idxO 32 s.data.toList = k + idxO 32 (s.data.toList.drop k))) (fun i => s.size - (intOf i).toNat)
  case atStart => exact ⟨0, by omega, rfl, Lib.hid (by simp)⟩
  case round =>
    obtain ⟨k, hk, rfl, HI⟩ := hrel
    by_cases hlt : k < s.size
    · have hb := byte_at s k hlt
      by_cases h32 : s[k] = 32
      · have HA : idxO 32 s.data.toList = k := by rw [HI.out, idxO_drop 32 _ k _ hb, if_pos h32]; omega
        have q : ((s[k].toNat : Int) != 32) = false := by rw [h32]; rfl
        have HF : refNum s.data.toList = refRest (s.extract (k + 1) s.size).data.toList := by
          unfold refNum; rw [HA, if_pos (by rw [← Lib.size_eq]; omega), ext_list]
        have hrs := ext_size s (k + 1)
        clear hb h32 HI HA
        obtain ⟨r, hr⟩ : ∃ r, s.extract (k + 1) s.size = r := ⟨_, rfl⟩
        rw [hr] at HF hrs
        have HF := Lib.hid HF
        have hrs : r.size ≤ 1048576 := by omega
        by_cases hz : 0 < r.size
        · have z : decide (0 < (r.size : Int)) = true := by rw [decide_eq_true_iff]; omega
          by_cases hm : r[0] = 45
          · have qm : ((r[0].toNat : Int) == 45) = true := by rw [hm]; rfl
            have HT : refNum s.data.toList = refTail (-1) (r.extract 1 r.size).data.toList := by
              rw [HF.out]; unfold refRest; rw [head_of r hz, hm, if_pos rfl, ext_list]
            have hr1s : (r.extract 1 r.size).size ≤ 1048576 := by have := ext_size r 1; omega
            obtain ⟨r1, hr1⟩ : ∃ r1, r.extract 1 r.size = r1 := ⟨_, rfl⟩
            rw [hr1] at HT hr1s
            have HT := Lib.hid HT
            clear HF
            go_wp2
            go_loop [7] (fun i => ∃ c : Nat, c ≤ r1.size ∧ i = .int .i64 c ∧ Hid (idxO 47 r1.data.toList = c + idxO 47 (r1.data.toList.drop c))) (fun i => r1.size - (intOf i).toNat)
            case atStart => exact ⟨0, by omega, rfl, Lib.hid (by simp)⟩
            case round =>
              obtain ⟨c, hc, rfl, HI⟩ := hrel
              by_cases hcl : c < r1.size
              · have hb := byte_at r1 c hcl
                by_cases h47 : r1[c] = 47
                · have HA : Hid (idxO 47 r1.data.toList = c) := Lib.hid (by rw [HI.out, idxO_drop 47 _ c _ hb, if_pos h47]; omega)
                  have q2 : ((r1[c].toNat : Int) != 47) = false := by rw [h47]; rfl
                  clear hb h47 HI
                  go_wp2_with fail
                  refine (number_any (r1.extract 0 c) _ (by have := ext_size0 r1 c; omega)).mono ?_; rintro e w1 ⟨rfl, (⟨n, hn, nl, rfl⟩ | ⟨hn, rfl⟩)⟩
                  · rw [ext_list0] at hn
                    have HM := Lib.hid hn; clear hn
                    go_wp2_with fail
                    refine (number_any (r1.extract (c + 1) r1.size) _ (by have := ext_size r1 (c + 1); omega)).mono ?_; rintro e w1 ⟨rfl, (⟨m, hm, ml, rfl⟩ | ⟨hm, rfl⟩)⟩
                    · rw [ext_list] at hm
                      have HG : Hid (refNum s.data.toList = if n < 1024 ∧ m < 16 then some ((-1 : Int) * (16 * n + m)) else none) := Lib.hid (HT.out.trans (tl4 (by rw [HA.out]; exact HM.out) (by rw [HA.out, ← Lib.size_eq]; exact hcl) (by rw [HA.out]; exact hm)))
                      clear HT HM hm HA
                      by_cases g1 : n < 1024
                      · have d1 : decide ((n : Int) < 1024) = true := by rw [decide_eq_true_iff]; omega
                        by_cases g2 : m < 16
                        · have d2 : decide ((m : Int) < 16) = true := by rw [decide_eq_true_iff]; omega
                          have HV : Hid (refNum s.data.toList = some (-(16 * (n : Int) + m))) := Lib.hid ((HG.out.trans (if_pos ⟨g1, g2⟩)).trans (congrArg some (by omega)))
                          go_wp2_with fail
                          go_loopg [12] 6 (fun mm v wr => ∃ t : Int, 0 ≤ t ∧ t ≤ 6 ∧ mm = (6 - t).toNat ∧ v = .int .i64 t ∧ Hid (BW w wr ∧ ∀ j, 0 ≤ j → j < t → ¬ (packC j (-(16 * (n : Int) + m)) = [] ∧ textS (packS j (-(16 * (n : Int) + m))) = s)))
                          case atStart => exact ⟨0, by omega, by omega, rfl, rfl, Lib.hid ⟨B0.out, fun j h0 h1 => by omega⟩⟩
                          case round =>
                            obtain ⟨t, t0, t6, rfl, rfl, HR⟩ := hrel
                            by_cases ht : t ≤ 5
                            · go_wp2_with fail
                              refine (rpack_any t (-(16 * (n : Int) + m)) wr (by omega) (by omega)).mono ?_; rintro e w1 ⟨c', a', n', s', rfl, hf, hb1⟩
                              obtain ⟨A3, m3, k3, rfl⟩ := (hf w1).slice
                              have B1 := Lib.hid (HR.out.1.keep hb1)
                              have HJ := Lib.hid HR.out.2
                              clear HR hb1
                              have PR := packS_range t (-(16 * (n : Int) + m))
                              cases hp : packC t (-(16 * (n : Int) + m)) with
                              | nil =>
                                rw [hp] at hf
                                have hz' : c' = 0 := fv_nil (hf w1)
                                subst hz'
                                have HFV := Lib.hid hf; clear hf
                                have HP := Lib.hid hp; clear hp
                                by_cases htx : textS (packS t (-(16 * (n : Int) + m))) = s
                                · have HS := Lib.hid (readS_hit HP.out htx)
                                  go_wp2_with fail
                                  refine (bad_any _ _ _ _ _ _ _).mono ?_; rintro e w2 ⟨rfl, hb2⟩
                                  have FB := Box4.new.keep hb2
                                  have W2 := Lib.hid ((B1.out.keep ((Below.refl _ _).alloc (Nat.le_refl _) _)).keep hb2)
                                  have HFB := Lib.hid FB
                                  clear hb2 B1 FB
                                  generalize w1.heap.size = gf at *
                                  go_wp2_with fail
                                  refine (rtext_any _ _ PR.1 PR.2).mono ?_; rintro e w3 ⟨rfl, hb3⟩
                                  rw [htx]
                                  have W3 := W2.out.keep hb3
                                  have FB3 := HFB.out.keep hb3
                                  clear hb3 W2 HFB htx
                                  obtain ⟨lt', e0, e1, e2, e3, x0, x1, x2, x3⟩ := FB3
                                  obtain ⟨⟨lt, c0, c1, c2, c3, f0, f1, f2, f3⟩, hb⟩ := W3
                                  have HB := Lib.hid hb; clear hb
                                  generalize packS t (-(16 * (n : Int) + m)) = px at *
                                  go_wp2_with fail
                                  go_region
                                  go_wp2_with fail
                                  refine bodyPost_ret (v := .tuple #[.int .u64 px, .agg #[.int .i64 0, .int .i64 a', .string n', .slice A3 m3 k3]]) (by simp [results, Tryd.results29, go_sem, c0, c1, c2, c3]) rfl ?_
                                  exact rf_some HS.out HFV.out (by repeat first | exact below4 HB.out _ (Nat.le_refl _) _ _ _ _ | exact below_drewN (below4 HB.out _ (Nat.le_refl _) _ _ _ _) _)
                                · have hq : ((textS (packS t (-(16 * (n : Int) + m)))).toList == s.toList) = false := by have := str_ne htx; simpa using this
                                  go_wp2_with fail
                                  refine (bad_any _ _ _ _ _ _ _).mono ?_; rintro e w2 ⟨rfl, hb2⟩
                                  have W2 := Lib.hid ((B1.out.keep ((Below.refl _ _).alloc (Nat.le_refl _) _)).keep hb2)
                                  clear hb2 B1
                                  go_wp2_with fail
                                  refine (rtext_any _ _ PR.1 PR.2).mono ?_; rintro e w3 ⟨rfl, hb3⟩
                                  have W3 := Lib.hid (W2.out.keep hb3)
                                  clear hb3 W2
                                  have HT' := Lib.hid htx; clear htx
                                  go_wp2_with fail
                                  go_roundg (6 - (t + 1)).toNat
                                  case measure => omega
                                  case rel => exact ⟨t + 1, by omega, by omega, rfl, by go_num, Lib.hid ⟨W3.out, fun j j0 j1 => by
                                    by_cases e : j = t
                                    · subst e; exact fun h => HT'.out h.2
                                    · exact HJ.out j j0 (by omega)⟩⟩
                              | cons f fs =>
                                rw [hp] at hf
                                have qc := fv_cons (hf w1)
                                clear hf
                                have HP := Lib.hid hp; clear hp
                                go_wp2_with fail
                                refine (bad_any _ _ _ _ _ _ _).mono ?_; rintro e w2 ⟨rfl, hb2⟩
                                have W2 := Lib.hid ((B1.out.keep ((Below.refl _ _).alloc (Nat.le_refl _) _)).keep hb2)
                                clear hb2 B1
                                go_wp2_with fail
                                go_roundg (6 - (t + 1)).toNat
                                case measure => omega
                                case rel => exact ⟨t + 1, by omega, by omega, rfl, by go_num, Lib.hid ⟨W2.out, fun j j0 j1 => by
                                  by_cases e : j = t
                                  · subst e; exact fun h => absurd (HP.out.symm.trans h.1) (by simp)
                                  · exact HJ.out j j0 (by omega)⟩⟩
                            · have HN : Hid (readS s = none) := Lib.hid (readS_tried HV.out (fun j j0 j6 => HR.out.2 j j0 (by omega)))
                              have B2 := Lib.hid HR.out.1
                              clear HR
                              go_wp2_with fail
                              refine (of_any 12 _ (by decide)).mono ?_; rintro e w1 ⟨c', a', n', s', rfl, hf, hb1⟩
                              obtain ⟨A3, m3, k3, rfl⟩ := (hf w1).slice
                              have HFV := Lib.hid hf; clear hf
                              have B1 := B2.out.keep hb1
                              obtain ⟨⟨lt, c0, c1, c2, c3, f0, f1, f2, f3⟩, hb⟩ := B1
                              have HB := Lib.hid hb; clear hb hb1
                              go_wp2_with fail
                              refine bodyPost_ret (v := .tuple #[.int .u64 0, .agg #[.int .i64 c', .int .i64 a', .string n', .slice A3 m3 k3]]) (by simp [results, Tryd.results29, go_sem, c0, c1, c2, c3]) rfl ?_
                              exact rf_none HN.out HFV.out (below4 HB.out _ (Nat.le_refl _) _ _ _ _)
                        · have d2 : decide ((m : Int) < 16) = false := by rw [decide_eq_false_iff_not]; omega
                          have HN : Hid (readS s = none) := Lib.hid (readS_refnone (HG.out.trans (if_neg (fun h => g2 h.2))))
                          go_wp2_with fail
                          go_loop [12] (fun i => i = .int .i64 0) (fun i => 0)
                          case atStart => rfl
                          case round =>
                            subst hrel
                            go_wp2_with fail
                            refine (of_any 12 _ (by decide)).mono ?_; rintro e w1 ⟨c', a', n', s', rfl, hf, hb1⟩
                            obtain ⟨A3, m3, k3, rfl⟩ := (hf w1).slice
                            have HFV := Lib.hid hf; clear hf
                            have B1 := B0.out.keep hb1
                            obtain ⟨⟨lt, c0, c1, c2, c3, f0, f1, f2, f3⟩, hb⟩ := B1
                            have HB := Lib.hid hb; clear hb hb1
                            go_wp2_with fail
                            refine bodyPost_ret (v := .tuple #[.int .u64 0, .agg #[.int .i64 c', .int .i64 a', .string n', .slice A3 m3 k3]]) (by simp [results, Tryd.results29, go_sem, c0, c1, c2, c3]) rfl ?_
                            exact rf_none HN.out HFV.out (below4 HB.out _ (Nat.le_refl _) _ _ _ _)
                      · have d1 : decide ((n : Int) < 1024) = false := by rw [decide_eq_false_iff_not]; omega
                        have HN : Hid (readS s = none) := Lib.hid (readS_refnone (HG.out.trans (if_neg (fun h => g1 h.1))))
                        go_wp2_with fail
                        go_loop [12] (fun i => i = .int .i64 0) (fun i => 0)
                        case atStart => rfl
                        case round =>
                          subst hrel
                          go_wp2_with fail
                          refine (of_any 12 _ (by decide)).mono ?_; rintro e w1 ⟨c', a', n', s', rfl, hf, hb1⟩
                          obtain ⟨A3, m3, k3, rfl⟩ := (hf w1).slice
                          have HFV := Lib.hid hf; clear hf
                          have B1 := B0.out.keep hb1
                          obtain ⟨⟨lt, c0, c1, c2, c3, f0, f1, f2, f3⟩, hb⟩ := B1
                          have HB := Lib.hid hb; clear hb hb1
                          go_wp2_with fail
                          refine bodyPost_ret (v := .tuple #[.int .u64 0, .agg #[.int .i64 c', .int .i64 a', .string n', .slice A3 m3 k3]]) (by simp [results, Tryd.results29, go_sem, c0, c1, c2, c3]) rfl ?_
                          exact rf_none HN.out HFV.out (below4 HB.out _ (Nat.le_refl _) _ _ _ _)
                    · rw [ext_list] at hm
                      have HN : Hid (readS s = none) := Lib.hid (readS_refnone (HT.out.trans (tl3 (by rw [HA.out]; exact HM.out) (by rw [HA.out, ← Lib.size_eq]; exact hcl) (by rw [HA.out]; exact hm))))
                      clear HT HM hm HA
                      go_wp2_with fail
                      go_loop [12] (fun i => i = .int .i64 0) (fun i => 0)
                      case atStart => rfl
                      case round =>
                        subst hrel
                        go_wp2_with fail
                        refine (of_any 12 _ (by decide)).mono ?_; rintro e w1 ⟨c', a', n', s', rfl, hf, hb1⟩
                        obtain ⟨A3, m3, k3, rfl⟩ := (hf w1).slice
                        have HFV := Lib.hid hf; clear hf
                        have B1 := B0.out.keep hb1
                        obtain ⟨⟨lt, c0, c1, c2, c3, f0, f1, f2, f3⟩, hb⟩ := B1
                        have HB := Lib.hid hb; clear hb hb1
                        go_wp2_with fail
                        refine bodyPost_ret (v := .tuple #[.int .u64 0, .agg #[.int .i64 c', .int .i64 a', .string n', .slice A3 m3 k3]]) (by simp [results, Tryd.results29, go_sem, c0, c1, c2, c3]) rfl ?_
                        exact rf_none HN.out HFV.out (below4 HB.out _ (Nat.le_refl _) _ _ _ _)
                  · rw [ext_list0] at hn
                    have HN : Hid (readS s = none) := Lib.hid (readS_refnone (HT.out.trans (tl1 (by rw [HA.out]; exact hn))))
                    clear HT hn HA
                    go_wp2_with fail
                    go_loop [12] (fun i => i = .int .i64 0) (fun i => 0)
                    case atStart => rfl
                    case round =>
                      subst hrel
                      go_wp2_with fail
                      refine (of_any 12 _ (by decide)).mono ?_; rintro e w1 ⟨c', a', n', s', rfl, hf, hb1⟩
                      obtain ⟨A3, m3, k3, rfl⟩ := (hf w1).slice
                      have HFV := Lib.hid hf; clear hf
                      have B1 := B0.out.keep hb1
                      obtain ⟨⟨lt, c0, c1, c2, c3, f0, f1, f2, f3⟩, hb⟩ := B1
                      have HB := Lib.hid hb; clear hb hb1
                      go_wp2_with fail
                      refine bodyPost_ret (v := .tuple #[.int .u64 0, .agg #[.int .i64 c', .int .i64 a', .string n', .slice A3 m3 k3]]) (by simp [results, Tryd.results29, go_sem, c0, c1, c2, c3]) rfl ?_
                      exact rf_none HN.out HFV.out (below4 HB.out _ (Nat.le_refl _) _ _ _ _)
                · have HA : Hid (idxO 47 r1.data.toList = ((c + 1 : Nat) : Nat) + idxO 47 (r1.data.toList.drop (c + 1))) := Lib.hid (by rw [HI.out, idxO_drop 47 _ c _ hb, if_neg h47]; omega)
                  have q2 : ((r1[c].toNat : Int) != 47) = true := by
                    rw [bne_iff_ne]; intro e; apply h47; apply UInt8.toNat_inj.1; show r1[c].toNat = 47; omega
                  clear hb h47 HI
                  go_wp2
                  go_round
                  case rel => exact ⟨c + 1, by omega, by go_num, HA⟩
                  case measure => simp [intOf]; omega
              · have HA : Hid (idxO 47 r1.data.toList = c ∧ c = r1.size) := Lib.hid ⟨by rw [HI.out, List.drop_of_length_le (by rw [← Lib.size_eq]; omega)]; rfl, by omega⟩
                clear HI
                go_wp2_with fail
                refine (number_any (r1.extract 0 c) _ (by have := ext_size0 r1 c; omega)).mono ?_; rintro e w1 ⟨rfl, (⟨n, hn, nl, rfl⟩ | ⟨hn, rfl⟩)⟩
                · rw [ext_list0] at hn
                  have HV : Hid (refNum s.data.toList = some (-(n : Int))) := Lib.hid ((HT.out.trans (tl2 (by rw [HA.out.1]; exact hn) (by rw [HA.out.1, HA.out.2, ← Lib.size_eq]; omega))).trans (congrArg some (by omega)))
                  clear HT hn HA
                  go_wp2_with fail
                  go_loopg [12] 6 (fun mm v wr => ∃ t : Int, 0 ≤ t ∧ t ≤ 6 ∧ mm = (6 - t).toNat ∧ v = .int .i64 t ∧ Hid (BW w wr ∧ ∀ j, 0 ≤ j → j < t → ¬ (packC j (-(n : Int)) = [] ∧ textS (packS j (-(n : Int))) = s)))
                  case atStart => exact ⟨0, by omega, by omega, rfl, rfl, Lib.hid ⟨B0.out, fun j h0 h1 => by omega⟩⟩
                  case round =>
                    obtain ⟨t, t0, t6, rfl, rfl, HR⟩ := hrel
                    by_cases ht : t ≤ 5
                    · go_wp2_with fail
                      refine (rpack_any t (-(n : Int)) wr (by omega) (by omega)).mono ?_; rintro e w1 ⟨c', a', n', s', rfl, hf, hb1⟩
                      obtain ⟨A3, m3, k3, rfl⟩ := (hf w1).slice
                      have B1 := Lib.hid (HR.out.1.keep hb1)
                      have HJ := Lib.hid HR.out.2
                      clear HR hb1
                      have PR := packS_range t (-(n : Int))
                      cases hp : packC t (-(n : Int)) with
                      | nil =>
                        rw [hp] at hf
                        have hz' : c' = 0 := fv_nil (hf w1)
                        subst hz'
                        have HFV := Lib.hid hf; clear hf
                        have HP := Lib.hid hp; clear hp
                        by_cases htx : textS (packS t (-(n : Int))) = s
                        · have HS := Lib.hid (readS_hit HP.out htx)
                          go_wp2_with fail
                          refine (bad_any _ _ _ _ _ _ _).mono ?_; rintro e w2 ⟨rfl, hb2⟩
                          have FB := Box4.new.keep hb2
                          have W2 := Lib.hid ((B1.out.keep ((Below.refl _ _).alloc (Nat.le_refl _) _)).keep hb2)
                          have HFB := Lib.hid FB
                          clear hb2 B1 FB
                          generalize w1.heap.size = gf at *
                          go_wp2_with fail
                          refine (rtext_any _ _ PR.1 PR.2).mono ?_; rintro e w3 ⟨rfl, hb3⟩
                          rw [htx]
                          have W3 := W2.out.keep hb3
                          have FB3 := HFB.out.keep hb3
                          clear hb3 W2 HFB htx
                          obtain ⟨lt', e0, e1, e2, e3, x0, x1, x2, x3⟩ := FB3
                          obtain ⟨⟨lt, c0, c1, c2, c3, f0, f1, f2, f3⟩, hb⟩ := W3
                          have HB := Lib.hid hb; clear hb
                          generalize packS t (-(n : Int)) = px at *
                          go_wp2_with fail
                          go_region
                          go_wp2_with fail
                          refine bodyPost_ret (v := .tuple #[.int .u64 px, .agg #[.int .i64 0, .int .i64 a', .string n', .slice A3 m3 k3]]) (by simp [results, Tryd.results29, go_sem, c0, c1, c2, c3]) rfl ?_
                          exact rf_some HS.out HFV.out (by repeat first | exact below4 HB.out _ (Nat.le_refl _) _ _ _ _ | exact below_drewN (below4 HB.out _ (Nat.le_refl _) _ _ _ _) _)
                        · have hq : ((textS (packS t (-(n : Int)))).toList == s.toList) = false := by have := str_ne htx; simpa using this
                          go_wp2_with fail
                          refine (bad_any _ _ _ _ _ _ _).mono ?_; rintro e w2 ⟨rfl, hb2⟩
                          have W2 := Lib.hid ((B1.out.keep ((Below.refl _ _).alloc (Nat.le_refl _) _)).keep hb2)
                          clear hb2 B1
                          go_wp2_with fail
                          refine (rtext_any _ _ PR.1 PR.2).mono ?_; rintro e w3 ⟨rfl, hb3⟩
                          have W3 := Lib.hid (W2.out.keep hb3)
                          clear hb3 W2
                          have HT' := Lib.hid htx; clear htx
                          go_wp2_with fail
                          go_roundg (6 - (t + 1)).toNat
                          case measure => omega
                          case rel => exact ⟨t + 1, by omega, by omega, rfl, by go_num, Lib.hid ⟨W3.out, fun j j0 j1 => by
                            by_cases e : j = t
                            · subst e; exact fun h => HT'.out h.2
                            · exact HJ.out j j0 (by omega)⟩⟩
                      | cons f fs =>
                        rw [hp] at hf
                        have qc := fv_cons (hf w1)
                        clear hf
                        have HP := Lib.hid hp; clear hp
                        go_wp2_with fail
                        refine (bad_any _ _ _ _ _ _ _).mono ?_; rintro e w2 ⟨rfl, hb2⟩
                        have W2 := Lib.hid ((B1.out.keep ((Below.refl _ _).alloc (Nat.le_refl _) _)).keep hb2)
                        clear hb2 B1
                        go_wp2_with fail
                        go_roundg (6 - (t + 1)).toNat
                        case measure => omega
                        case rel => exact ⟨t + 1, by omega, by omega, rfl, by go_num, Lib.hid ⟨W2.out, fun j j0 j1 => by
                          by_cases e : j = t
                          · subst e; exact fun h => absurd (HP.out.symm.trans h.1) (by simp)
                          · exact HJ.out j j0 (by omega)⟩⟩
                    · have HN : Hid (readS s = none) := Lib.hid (readS_tried HV.out (fun j j0 j6 => HR.out.2 j j0 (by omega)))
                      have B2 := Lib.hid HR.out.1
                      clear HR
                      go_wp2_with fail
                      refine (of_any 12 _ (by decide)).mono ?_; rintro e w1 ⟨c', a', n', s', rfl, hf, hb1⟩
                      obtain ⟨A3, m3, k3, rfl⟩ := (hf w1).slice
                      have HFV := Lib.hid hf; clear hf
                      have B1 := B2.out.keep hb1
                      obtain ⟨⟨lt, c0, c1, c2, c3, f0, f1, f2, f3⟩, hb⟩ := B1
                      have HB := Lib.hid hb; clear hb hb1
                      go_wp2_with fail
                      refine bodyPost_ret (v := .tuple #[.int .u64 0, .agg #[.int .i64 c', .int .i64 a', .string n', .slice A3 m3 k3]]) (by simp [results, Tryd.results29, go_sem, c0, c1, c2, c3]) rfl ?_
                      exact rf_none HN.out HFV.out (below4 HB.out _ (Nat.le_refl _) _ _ _ _)
                · rw [ext_list0] at hn
                  have HN : Hid (readS s = none) := Lib.hid (readS_refnone (HT.out.trans (tl1 (by rw [HA.out.1]; exact hn))))
                  clear HT hn HA
                  go_wp2_with fail
                  go_loop [12] (fun i => i = .int .i64 0) (fun i => 0)
                  case atStart => rfl
                  case round =>
                    subst hrel
                    go_wp2_with fail
                    refine (of_any 12 _ (by decide)).mono ?_; rintro e w1 ⟨c', a', n', s', rfl, hf, hb1⟩
                    obtain ⟨A3, m3, k3, rfl⟩ := (hf w1).slice
                    have HFV := Lib.hid hf; clear hf
                    have B1 := B0.out.keep hb1
                    obtain ⟨⟨lt, c0, c1, c2, c3, f0, f1, f2, f3⟩, hb⟩ := B1
                    have HB := Lib.hid hb; clear hb hb1
                    go_wp2_with fail
                    refine bodyPost_ret (v := .tuple #[.int .u64 0, .agg #[.int .i64 c', .int .i64 a', .string n', .slice A3 m3 k3]]) (by simp [results, Tryd.results29, go_sem, c0, c1, c2, c3]) rfl ?_
                    exact rf_none HN.out HFV.out (below4 HB.out _ (Nat.le_refl _) _ _ _ _)
          · have qm : ((r[0].toNat : Int) == 45) = false := by
              rw [beq_eq_false_iff_ne]; intro e; apply hm; apply UInt8.toNat_inj.1; show r[0].toNat = 45; omega
            have HT : Hid (refNum s.data.toList = refTail 1 r.data.toList) := Lib.hid (by
              rw [HF.out]; unfold refRest; rw [head_of r hz, if_neg (by simpa using hm)])
            clear HF hm
            go_wp2
            go_loop [7] (fun i => ∃ c : Nat, c ≤ r.size ∧ i = .int .i64 c ∧ Hid (idxO 47 r.data.toList = c + idxO 47 (r.data.toList.drop c))) (fun i => r.size - (intOf i).toNat)
            case atStart => exact ⟨0, by omega, rfl, Lib.hid (by simp)⟩
            case round =>
              obtain ⟨c, hc, rfl, HI⟩ := hrel
              by_cases hcl : c < r.size
              · have hb := byte_at r c hcl
                by_cases h47 : r[c] = 47
                · have HA : Hid (idxO 47 r.data.toList = c) := Lib.hid (by rw [HI.out, idxO_drop 47 _ c _ hb, if_pos h47]; omega)
                  have q2 : ((r[c].toNat : Int) != 47) = false := by rw [h47]; rfl
                  clear hb h47 HI
                  go_wp2_with fail
                  refine (number_any (r.extract 0 c) _ (by have := ext_size0 r c; omega)).mono ?_; rintro e w1 ⟨rfl, (⟨n, hn, nl, rfl⟩ | ⟨hn, rfl⟩)⟩
                  · rw [ext_list0] at hn
                    have HM := Lib.hid hn; clear hn
                    go_wp2_with fail
                    refine (number_any (r.extract (c + 1) r.size) _ (by have := ext_size r (c + 1); omega)).mono ?_; rintro e w1 ⟨rfl, (⟨m, hm, ml, rfl⟩ | ⟨hm, rfl⟩)⟩
                    · rw [ext_list] at hm
                      have HG : Hid (refNum s.data.toList = if n < 1024 ∧ m < 16 then some ((1 : Int) * (16 * n + m)) else none) := Lib.hid (HT.out.trans (tl4 (by rw [HA.out]; exact HM.out) (by rw [HA.out, ← Lib.size_eq]; exact hcl) (by rw [HA.out]; exact hm)))
                      clear HT HM hm HA
                      by_cases g1 : n < 1024
                      · have d1 : decide ((n : Int) < 1024) = true := by rw [decide_eq_true_iff]; omega
                        by_cases g2 : m < 16
                        · have d2 : decide ((m : Int) < 16) = true := by rw [decide_eq_true_iff]; omega
                          have HV : Hid (refNum s.data.toList = some (16 * (n : Int) + m)) := Lib.hid ((HG.out.trans (if_pos ⟨g1, g2⟩)).trans (congrArg some (by omega)))
                          go_wp2_with fail
                          go_loopg [12] 6 (fun mm v wr => ∃ t : Int, 0 ≤ t ∧ t ≤ 6 ∧ mm = (6 - t).toNat ∧ v = .int .i64 t ∧ Hid (BW w wr ∧ ∀ j, 0 ≤ j → j < t → ¬ (packC j (16 * (n : Int) + m) = [] ∧ textS (packS j (16 * (n : Int) + m)) = s)))
                          case atStart => exact ⟨0, by omega, by omega, rfl, rfl, Lib.hid ⟨B0.out, fun j h0 h1 => by omega⟩⟩
                          case round =>
                            obtain ⟨t, t0, t6, rfl, rfl, HR⟩ := hrel
                            by_cases ht : t ≤ 5
                            · go_wp2_with fail
                              refine (rpack_any t (16 * (n : Int) + m) wr (by omega) (by omega)).mono ?_; rintro e w1 ⟨c', a', n', s', rfl, hf, hb1⟩
                              obtain ⟨A3, m3, k3, rfl⟩ := (hf w1).slice
                              have B1 := Lib.hid (HR.out.1.keep hb1)
                              have HJ := Lib.hid HR.out.2
                              clear HR hb1
                              have PR := packS_range t (16 * (n : Int) + m)
                              cases hp : packC t (16 * (n : Int) + m) with
                              | nil =>
                                rw [hp] at hf
                                have hz' : c' = 0 := fv_nil (hf w1)
                                subst hz'
                                have HFV := Lib.hid hf; clear hf
                                have HP := Lib.hid hp; clear hp
                                by_cases htx : textS (packS t (16 * (n : Int) + m)) = s
                                · have HS := Lib.hid (readS_hit HP.out htx)
                                  go_wp2_with fail
                                  refine (bad_any _ _ _ _ _ _ _).mono ?_; rintro e w2 ⟨rfl, hb2⟩
                                  have FB := Box4.new.keep hb2
                                  have W2 := Lib.hid ((B1.out.keep ((Below.refl _ _).alloc (Nat.le_refl _) _)).keep hb2)
                                  have HFB := Lib.hid FB
                                  clear hb2 B1 FB
                                  generalize w1.heap.size = gf at *
                                  go_wp2_with fail
                                  refine (rtext_any _ _ PR.1 PR.2).mono ?_; rintro e w3 ⟨rfl, hb3⟩
                                  rw [htx]
                                  have W3 := W2.out.keep hb3
                                  have FB3 := HFB.out.keep hb3
                                  clear hb3 W2 HFB htx
                                  obtain ⟨lt', e0, e1, e2, e3, x0, x1, x2, x3⟩ := FB3
                                  obtain ⟨⟨lt, c0, c1, c2, c3, f0, f1, f2, f3⟩, hb⟩ := W3
                                  have HB := Lib.hid hb; clear hb
                                  generalize packS t (16 * (n : Int) + m) = px at *
                                  go_wp2_with fail
                                  go_region
                                  go_wp2_with fail
                                  refine bodyPost_ret (v := .tuple #[.int .u64 px, .agg #[.int .i64 0, .int .i64 a', .string n', .slice A3 m3 k3]]) (by simp [results, Tryd.results29, go_sem, c0, c1, c2, c3]) rfl ?_
                                  exact rf_some HS.out HFV.out (by repeat first | exact below4 HB.out _ (Nat.le_refl _) _ _ _ _ | exact below_drewN (below4 HB.out _ (Nat.le_refl _) _ _ _ _) _)
                                · have hq : ((textS (packS t (16 * (n : Int) + m))).toList == s.toList) = false := by have := str_ne htx; simpa using this
                                  go_wp2_with fail
                                  refine (bad_any _ _ _ _ _ _ _).mono ?_; rintro e w2 ⟨rfl, hb2⟩
                                  have W2 := Lib.hid ((B1.out.keep ((Below.refl _ _).alloc (Nat.le_refl _) _)).keep hb2)
                                  clear hb2 B1
                                  go_wp2_with fail
                                  refine (rtext_any _ _ PR.1 PR.2).mono ?_; rintro e w3 ⟨rfl, hb3⟩
                                  have W3 := Lib.hid (W2.out.keep hb3)
                                  clear hb3 W2
                                  have HT' := Lib.hid htx; clear htx
                                  go_wp2_with fail
                                  go_roundg (6 - (t + 1)).toNat
                                  case measure => omega
                                  case rel => exact ⟨t + 1, by omega, by omega, rfl, by go_num, Lib.hid ⟨W3.out, fun j j0 j1 => by
                                    by_cases e : j = t
                                    · subst e; exact fun h => HT'.out h.2
                                    · exact HJ.out j j0 (by omega)⟩⟩
                              | cons f fs =>
                                rw [hp] at hf
                                have qc := fv_cons (hf w1)
                                clear hf
                                have HP := Lib.hid hp; clear hp
                                go_wp2_with fail
                                refine (bad_any _ _ _ _ _ _ _).mono ?_; rintro e w2 ⟨rfl, hb2⟩
                                have W2 := Lib.hid ((B1.out.keep ((Below.refl _ _).alloc (Nat.le_refl _) _)).keep hb2)
                                clear hb2 B1
                                go_wp2_with fail
                                go_roundg (6 - (t + 1)).toNat
                                case measure => omega
                                case rel => exact ⟨t + 1, by omega, by omega, rfl, by go_num, Lib.hid ⟨W2.out, fun j j0 j1 => by
                                  by_cases e : j = t
                                  · subst e; exact fun h => absurd (HP.out.symm.trans h.1) (by simp)
                                  · exact HJ.out j j0 (by omega)⟩⟩
                            · have HN : Hid (readS s = none) := Lib.hid (readS_tried HV.out (fun j j0 j6 => HR.out.2 j j0 (by omega)))
                              have B2 := Lib.hid HR.out.1
                              clear HR
                              go_wp2_with fail
                              refine (of_any 12 _ (by decide)).mono ?_; rintro e w1 ⟨c', a', n', s', rfl, hf, hb1⟩
                              obtain ⟨A3, m3, k3, rfl⟩ := (hf w1).slice
                              have HFV := Lib.hid hf; clear hf
                              have B1 := B2.out.keep hb1
                              obtain ⟨⟨lt, c0, c1, c2, c3, f0, f1, f2, f3⟩, hb⟩ := B1
                              have HB := Lib.hid hb; clear hb hb1
                              go_wp2_with fail
                              refine bodyPost_ret (v := .tuple #[.int .u64 0, .agg #[.int .i64 c', .int .i64 a', .string n', .slice A3 m3 k3]]) (by simp [results, Tryd.results29, go_sem, c0, c1, c2, c3]) rfl ?_
                              exact rf_none HN.out HFV.out (below4 HB.out _ (Nat.le_refl _) _ _ _ _)
                        · have d2 : decide ((m : Int) < 16) = false := by rw [decide_eq_false_iff_not]; omega
                          have HN : Hid (readS s = none) := Lib.hid (readS_refnone (HG.out.trans (if_neg (fun h => g2 h.2))))
                          go_wp2_with fail
                          go_loop [12] (fun i => i = .int .i64 0) (fun i => 0)
                          case atStart => rfl
                          case round =>
                            subst hrel
                            go_wp2_with fail
                            refine (of_any 12 _ (by decide)).mono ?_; rintro e w1 ⟨c', a', n', s', rfl, hf, hb1⟩
                            obtain ⟨A3, m3, k3, rfl⟩ := (hf w1).slice
                            have HFV := Lib.hid hf; clear hf
                            have B1 := B0.out.keep hb1
                            obtain ⟨⟨lt, c0, c1, c2, c3, f0, f1, f2, f3⟩, hb⟩ := B1
                            have HB := Lib.hid hb; clear hb hb1
                            go_wp2_with fail
                            refine bodyPost_ret (v := .tuple #[.int .u64 0, .agg #[.int .i64 c', .int .i64 a', .string n', .slice A3 m3 k3]]) (by simp [results, Tryd.results29, go_sem, c0, c1, c2, c3]) rfl ?_
                            exact rf_none HN.out HFV.out (below4 HB.out _ (Nat.le_refl _) _ _ _ _)
                      · have d1 : decide ((n : Int) < 1024) = false := by rw [decide_eq_false_iff_not]; omega
                        have HN : Hid (readS s = none) := Lib.hid (readS_refnone (HG.out.trans (if_neg (fun h => g1 h.1))))
                        go_wp2_with fail
                        go_loop [12] (fun i => i = .int .i64 0) (fun i => 0)
                        case atStart => rfl
                        case round =>
                          subst hrel
                          go_wp2_with fail
                          refine (of_any 12 _ (by decide)).mono ?_; rintro e w1 ⟨c', a', n', s', rfl, hf, hb1⟩
                          obtain ⟨A3, m3, k3, rfl⟩ := (hf w1).slice
                          have HFV := Lib.hid hf; clear hf
                          have B1 := B0.out.keep hb1
                          obtain ⟨⟨lt, c0, c1, c2, c3, f0, f1, f2, f3⟩, hb⟩ := B1
                          have HB := Lib.hid hb; clear hb hb1
                          go_wp2_with fail
                          refine bodyPost_ret (v := .tuple #[.int .u64 0, .agg #[.int .i64 c', .int .i64 a', .string n', .slice A3 m3 k3]]) (by simp [results, Tryd.results29, go_sem, c0, c1, c2, c3]) rfl ?_
                          exact rf_none HN.out HFV.out (below4 HB.out _ (Nat.le_refl _) _ _ _ _)
                    · rw [ext_list] at hm
                      have HN : Hid (readS s = none) := Lib.hid (readS_refnone (HT.out.trans (tl3 (by rw [HA.out]; exact HM.out) (by rw [HA.out, ← Lib.size_eq]; exact hcl) (by rw [HA.out]; exact hm))))
                      clear HT HM hm HA
                      go_wp2_with fail
                      go_loop [12] (fun i => i = .int .i64 0) (fun i => 0)
                      case atStart => rfl
                      case round =>
                        subst hrel
                        go_wp2_with fail
                        refine (of_any 12 _ (by decide)).mono ?_; rintro e w1 ⟨c', a', n', s', rfl, hf, hb1⟩
                        obtain ⟨A3, m3, k3, rfl⟩ := (hf w1).slice
                        have HFV := Lib.hid hf; clear hf
                        have B1 := B0.out.keep hb1
                        obtain ⟨⟨lt, c0, c1, c2, c3, f0, f1, f2, f3⟩, hb⟩ := B1
                        have HB := Lib.hid hb; clear hb hb1
                        go_wp2_with fail
                        refine bodyPost_ret (v := .tuple #[.int .u64 0, .agg #[.int .i64 c', .int .i64 a', .string n', .slice A3 m3 k3]]) (by simp [results, Tryd.results29, go_sem, c0, c1, c2, c3]) rfl ?_
                        exact rf_none HN.out HFV.out (below4 HB.out _ (Nat.le_refl _) _ _ _ _)
                  · rw [ext_list0] at hn
                    have HN : Hid (readS s = none) := Lib.hid (readS_refnone (HT.out.trans (tl1 (by rw [HA.out]; exact hn))))
                    clear HT hn HA
                    go_wp2_with fail
                    go_loop [12] (fun i => i = .int .i64 0) (fun i => 0)
                    case atStart => rfl
                    case round =>
                      subst hrel
                      go_wp2_with fail
                      refine (of_any 12 _ (by decide)).mono ?_; rintro e w1 ⟨c', a', n', s', rfl, hf, hb1⟩
                      obtain ⟨A3, m3, k3, rfl⟩ := (hf w1).slice
                      have HFV := Lib.hid hf; clear hf
                      have B1 := B0.out.keep hb1
                      obtain ⟨⟨lt, c0, c1, c2, c3, f0, f1, f2, f3⟩, hb⟩ := B1
                      have HB := Lib.hid hb; clear hb hb1
                      go_wp2_with fail
                      refine bodyPost_ret (v := .tuple #[.int .u64 0, .agg #[.int .i64 c', .int .i64 a', .string n', .slice A3 m3 k3]]) (by simp [results, Tryd.results29, go_sem, c0, c1, c2, c3]) rfl ?_
                      exact rf_none HN.out HFV.out (below4 HB.out _ (Nat.le_refl _) _ _ _ _)
                · have HA : Hid (idxO 47 r.data.toList = ((c + 1 : Nat) : Nat) + idxO 47 (r.data.toList.drop (c + 1))) := Lib.hid (by rw [HI.out, idxO_drop 47 _ c _ hb, if_neg h47]; omega)
                  have q2 : ((r[c].toNat : Int) != 47) = true := by
                    rw [bne_iff_ne]; intro e; apply h47; apply UInt8.toNat_inj.1; show r[c].toNat = 47; omega
                  clear hb h47 HI
                  go_wp2
                  go_round
                  case rel => exact ⟨c + 1, by omega, by go_num, HA⟩
                  case measure => simp [intOf]; omega
              · have HA : Hid (idxO 47 r.data.toList = c ∧ c = r.size) := Lib.hid ⟨by rw [HI.out, List.drop_of_length_le (by rw [← Lib.size_eq]; omega)]; rfl, by omega⟩
                clear HI
                go_wp2_with fail
                refine (number_any (r.extract 0 c) _ (by have := ext_size0 r c; omega)).mono ?_; rintro e w1 ⟨rfl, (⟨n, hn, nl, rfl⟩ | ⟨hn, rfl⟩)⟩
                · rw [ext_list0] at hn
                  have HV : Hid (refNum s.data.toList = some ((n : Int))) := Lib.hid ((HT.out.trans (tl2 (by rw [HA.out.1]; exact hn) (by rw [HA.out.1, HA.out.2, ← Lib.size_eq]; omega))).trans (congrArg some (by omega)))
                  clear HT hn HA
                  go_wp2_with fail
                  go_loopg [12] 6 (fun mm v wr => ∃ t : Int, 0 ≤ t ∧ t ≤ 6 ∧ mm = (6 - t).toNat ∧ v = .int .i64 t ∧ Hid (BW w wr ∧ ∀ j, 0 ≤ j → j < t → ¬ (packC j ((n : Int)) = [] ∧ textS (packS j ((n : Int))) = s)))
                  case atStart => exact ⟨0, by omega, by omega, rfl, rfl, Lib.hid ⟨B0.out, fun j h0 h1 => by omega⟩⟩
                  case round =>
                    obtain ⟨t, t0, t6, rfl, rfl, HR⟩ := hrel
                    by_cases ht : t ≤ 5
                    · go_wp2_with fail
                      refine (rpack_any t ((n : Int)) wr (by omega) (by omega)).mono ?_; rintro e w1 ⟨c', a', n', s', rfl, hf, hb1⟩
                      obtain ⟨A3, m3, k3, rfl⟩ := (hf w1).slice
                      have B1 := Lib.hid (HR.out.1.keep hb1)
                      have HJ := Lib.hid HR.out.2
                      clear HR hb1
                      have PR := packS_range t ((n : Int))
                      cases hp : packC t ((n : Int)) with
                      | nil =>
                        rw [hp] at hf
                        have hz' : c' = 0 := fv_nil (hf w1)
                        subst hz'
                        have HFV := Lib.hid hf; clear hf
                        have HP := Lib.hid hp; clear hp
                        by_cases htx : textS (packS t ((n : Int))) = s
                        · have HS := Lib.hid (readS_hit HP.out htx)
                          go_wp2_with fail
                          refine (bad_any _ _ _ _ _ _ _).mono ?_; rintro e w2 ⟨rfl, hb2⟩
                          have FB := Box4.new.keep hb2
                          have W2 := Lib.hid ((B1.out.keep ((Below.refl _ _).alloc (Nat.le_refl _) _)).keep hb2)
                          have HFB := Lib.hid FB
                          clear hb2 B1 FB
                          generalize w1.heap.size = gf at *
                          go_wp2_with fail
                          refine (rtext_any _ _ PR.1 PR.2).mono ?_; rintro e w3 ⟨rfl, hb3⟩
                          rw [htx]
                          have W3 := W2.out.keep hb3
                          have FB3 := HFB.out.keep hb3
                          clear hb3 W2 HFB htx
                          obtain ⟨lt', e0, e1, e2, e3, x0, x1, x2, x3⟩ := FB3
                          obtain ⟨⟨lt, c0, c1, c2, c3, f0, f1, f2, f3⟩, hb⟩ := W3
                          have HB := Lib.hid hb; clear hb
                          generalize packS t ((n : Int)) = px at *
                          go_wp2_with fail
                          go_region
                          go_wp2_with fail
                          refine bodyPost_ret (v := .tuple #[.int .u64 px, .agg #[.int .i64 0, .int .i64 a', .string n', .slice A3 m3 k3]]) (by simp [results, Tryd.results29, go_sem, c0, c1, c2, c3]) rfl ?_
                          exact rf_some HS.out HFV.out (by repeat first | exact below4 HB.out _ (Nat.le_refl _) _ _ _ _ | exact below_drewN (below4 HB.out _ (Nat.le_refl _) _ _ _ _) _)
                        · have hq : ((textS (packS t ((n : Int)))).toList == s.toList) = false := by have := str_ne htx; simpa using this
                          go_wp2_with fail
                          refine (bad_any _ _ _ _ _ _ _).mono ?_; rintro e w2 ⟨rfl, hb2⟩
                          have W2 := Lib.hid ((B1.out.keep ((Below.refl _ _).alloc (Nat.le_refl _) _)).keep hb2)
                          clear hb2 B1
                          go_wp2_with fail
                          refine (rtext_any _ _ PR.1 PR.2).mono ?_; rintro e w3 ⟨rfl, hb3⟩
                          have W3 := Lib.hid (W2.out.keep hb3)
                          clear hb3 W2
                          have HT' := Lib.hid htx; clear htx
                          go_wp2_with fail
                          go_roundg (6 - (t + 1)).toNat
                          case measure => omega
                          case rel => exact ⟨t + 1, by omega, by omega, rfl, by go_num, Lib.hid ⟨W3.out, fun j j0 j1 => by
                            by_cases e : j = t
                            · subst e; exact fun h => HT'.out h.2
                            · exact HJ.out j j0 (by omega)⟩⟩
                      | cons f fs =>
                        rw [hp] at hf
                        have qc := fv_cons (hf w1)
                        clear hf
                        have HP := Lib.hid hp; clear hp
                        go_wp2_with fail
                        refine (bad_any _ _ _ _ _ _ _).mono ?_; rintro e w2 ⟨rfl, hb2⟩
                        have W2 := Lib.hid ((B1.out.keep ((Below.refl _ _).alloc (Nat.le_refl _) _)).keep hb2)
                        clear hb2 B1
                        go_wp2_with fail
                        go_roundg (6 - (t + 1)).toNat
                        case measure => omega
                        case rel => exact ⟨t + 1, by omega, by omega, rfl, by go_num, Lib.hid ⟨W2.out, fun j j0 j1 => by
                          by_cases e : j = t
                          · subst e; exact fun h => absurd (HP.out.symm.trans h.1) (by simp)
                          · exact HJ.out j j0 (by omega)⟩⟩
                    · have HN : Hid (readS s = none) := Lib.hid (readS_tried HV.out (fun j j0 j6 => HR.out.2 j j0 (by omega)))
                      have B2 := Lib.hid HR.out.1
                      clear HR
                      go_wp2_with fail
                      refine (of_any 12 _ (by decide)).mono ?_; rintro e w1 ⟨c', a', n', s', rfl, hf, hb1⟩
                      obtain ⟨A3, m3, k3, rfl⟩ := (hf w1).slice
                      have HFV := Lib.hid hf; clear hf
                      have B1 := B2.out.keep hb1
                      obtain ⟨⟨lt, c0, c1, c2, c3, f0, f1, f2, f3⟩, hb⟩ := B1
                      have HB := Lib.hid hb; clear hb hb1
                      go_wp2_with fail
                      refine bodyPost_ret (v := .tuple #[.int .u64 0, .agg #[.int .i64 c', .int .i64 a', .string n', .slice A3 m3 k3]]) (by simp [results, Tryd.results29, go_sem, c0, c1, c2, c3]) rfl ?_
                      exact rf_none HN.out HFV.out (below4 HB.out _ (Nat.le_refl _) _ _ _ _)
                · rw [ext_list0] at hn
                  have HN : Hid (readS s = none) := Lib.hid (readS_refnone (HT.out.trans (tl1 (by rw [HA.out.1]; exact hn))))
                  clear HT hn HA
                  go_wp2_with fail
                  go_loop [12] (fun i => i = .int .i64 0) (fun i => 0)
                  case atStart => rfl
                  case round =>
                    subst hrel
                    go_wp2_with fail
                    refine (of_any 12 _ (by decide)).mono ?_; rintro e w1 ⟨c', a', n', s', rfl, hf, hb1⟩
                    obtain ⟨A3, m3, k3, rfl⟩ := (hf w1).slice
                    have HFV := Lib.hid hf; clear hf
                    have B1 := B0.out.keep hb1
                    obtain ⟨⟨lt, c0, c1, c2, c3, f0, f1, f2, f3⟩, hb⟩ := B1
                    have HB := Lib.hid hb; clear hb hb1
                    go_wp2_with fail
                    refine bodyPost_ret (v := .tuple #[.int .u64 0, .agg #[.int .i64 c', .int .i64 a', .string n', .slice A3 m3 k3]]) (by simp [results, Tryd.results29, go_sem, c0, c1, c2, c3]) rfl ?_
                    exact rf_none HN.out HFV.out (below4 HB.out _ (Nat.le_refl _) _ _ _ _)
        · have z : decide (0 < (r.size : Int)) = false := by rw [decide_eq_false_iff_not]; omega
          have HT : Hid (refNum s.data.toList = refTail 1 r.data.toList) := Lib.hid (by
            rw [HF.out]; unfold refRest; rw [head_no r (by omega), if_neg (by simp)])
          clear HF
          go_wp2
          go_loop [7] (fun i => ∃ c : Nat, c ≤ r.size ∧ i = .int .i64 c ∧ Hid (idxO 47 r.data.toList = c + idxO 47 (r.data.toList.drop c))) (fun i => r.size - (intOf i).toNat)
          case atStart => exact ⟨0, by omega, rfl, Lib.hid (by simp)⟩
          case round =>
            obtain ⟨c, hc, rfl, HI⟩ := hrel
            by_cases hcl : c < r.size
            · exfalso; omega
            · have HA : Hid (idxO 47 r.data.toList = c ∧ c = r.size) := Lib.hid ⟨by rw [HI.out, List.drop_of_length_le (by rw [← Lib.size_eq]; omega)]; rfl, by omega⟩
              clear HI
              go_wp2_with fail
              refine (number_any (r.extract 0 c) _ (by have := ext_size0 r c; omega)).mono ?_; rintro e w1 ⟨rfl, (⟨n, hn, nl, rfl⟩ | ⟨hn, rfl⟩)⟩
              · rw [ext_list0] at hn
                have HV : Hid (refNum s.data.toList = some ((n : Int))) := Lib.hid ((HT.out.trans (tl2 (by rw [HA.out.1]; exact hn) (by rw [HA.out.1, HA.out.2, ← Lib.size_eq]; omega))).trans (congrArg some (by omega)))
                clear HT hn HA
                go_wp2_with fail
                go_loopg [12] 6 (fun mm v wr => ∃ t : Int, 0 ≤ t ∧ t ≤ 6 ∧ mm = (6 - t).toNat ∧ v = .int .i64 t ∧ Hid (BW w wr ∧ ∀ j, 0 ≤ j → j < t → ¬ (packC j ((n : Int)) = [] ∧ textS (packS j ((n : Int))) = s)))
                case atStart => exact ⟨0, by omega, by omega, rfl, rfl, Lib.hid ⟨B0.out, fun j h0 h1 => by omega⟩⟩
                case round =>
                  obtain ⟨t, t0, t6, rfl, rfl, HR⟩ := hrel
                  by_cases ht : t ≤ 5
                  · go_wp2_with fail
                    refine (rpack_any t ((n : Int)) wr (by omega) (by omega)).mono ?_; rintro e w1 ⟨c', a', n', s', rfl, hf, hb1⟩
                    obtain ⟨A3, m3, k3, rfl⟩ := (hf w1).slice
                    have B1 := Lib.hid (HR.out.1.keep hb1)
                    have HJ := Lib.hid HR.out.2
                    clear HR hb1
                    have PR := packS_range t ((n : Int))
                    cases hp : packC t ((n : Int)) with
                    | nil =>
                      rw [hp] at hf
                      have hz' : c' = 0 := fv_nil (hf w1)
                      subst hz'
                      have HFV := Lib.hid hf; clear hf
                      have HP := Lib.hid hp; clear hp
                      by_cases htx : textS (packS t ((n : Int))) = s
                      · have HS := Lib.hid (readS_hit HP.out htx)
                        go_wp2_with fail
                        refine (bad_any _ _ _ _ _ _ _).mono ?_; rintro e w2 ⟨rfl, hb2⟩
                        have FB := Box4.new.keep hb2
                        have W2 := Lib.hid ((B1.out.keep ((Below.refl _ _).alloc (Nat.le_refl _) _)).keep hb2)
                        have HFB := Lib.hid FB
                        clear hb2 B1 FB
                        generalize w1.heap.size = gf at *
                        go_wp2_with fail
                        refine (rtext_any _ _ PR.1 PR.2).mono ?_; rintro e w3 ⟨rfl, hb3⟩
                        rw [htx]
                        have W3 := W2.out.keep hb3
                        have FB3 := HFB.out.keep hb3
                        clear hb3 W2 HFB htx
                        obtain ⟨lt', e0, e1, e2, e3, x0, x1, x2, x3⟩ := FB3
                        obtain ⟨⟨lt, c0, c1, c2, c3, f0, f1, f2, f3⟩, hb⟩ := W3
                        have HB := Lib.hid hb; clear hb
                        generalize packS t ((n : Int)) = px at *
                        go_wp2_with fail
                        go_region
                        go_wp2_with fail
                        refine bodyPost_ret (v := .tuple #[.int .u64 px, .agg #[.int .i64 0, .int .i64 a', .string n', .slice A3 m3 k3]]) (by simp [results, Tryd.results29, go_sem, c0, c1, c2, c3]) rfl ?_
                        exact rf_some HS.out HFV.out (by repeat first | exact below4 HB.out _ (Nat.le_refl _) _ _ _ _ | exact below_drewN (below4 HB.out _ (Nat.le_refl _) _ _ _ _) _)
                      · have hq : ((textS (packS t ((n : Int)))).toList == s.toList) = false := by have := str_ne htx; simpa using this
                        go_wp2_with fail
                        refine (bad_any _ _ _ _ _ _ _).mono ?_; rintro e w2 ⟨rfl, hb2⟩
                        have W2 := Lib.hid ((B1.out.keep ((Below.refl _ _).alloc (Nat.le_refl _) _)).keep hb2)
                        clear hb2 B1
                        go_wp2_with fail
                        refine (rtext_any _ _ PR.1 PR.2).mono ?_; rintro e w3 ⟨rfl, hb3⟩
                        have W3 := Lib.hid (W2.out.keep hb3)
                        clear hb3 W2
                        have HT' := Lib.hid htx; clear htx
                        go_wp2_with fail
                        go_roundg (6 - (t + 1)).toNat
                        case measure => omega
                        case rel => exact ⟨t + 1, by omega, by omega, rfl, by go_num, Lib.hid ⟨W3.out, fun j j0 j1 => by
                          by_cases e : j = t
                          · subst e; exact fun h => HT'.out h.2
                          · exact HJ.out j j0 (by omega)⟩⟩
                    | cons f fs =>
                      rw [hp] at hf
                      have qc := fv_cons (hf w1)
                      clear hf
                      have HP := Lib.hid hp; clear hp
                      go_wp2_with fail
                      refine (bad_any _ _ _ _ _ _ _).mono ?_; rintro e w2 ⟨rfl, hb2⟩
                      have W2 := Lib.hid ((B1.out.keep ((Below.refl _ _).alloc (Nat.le_refl _) _)).keep hb2)
                      clear hb2 B1
                      go_wp2_with fail
                      go_roundg (6 - (t + 1)).toNat
                      case measure => omega
                      case rel => exact ⟨t + 1, by omega, by omega, rfl, by go_num, Lib.hid ⟨W2.out, fun j j0 j1 => by
                        by_cases e : j = t
                        · subst e; exact fun h => absurd (HP.out.symm.trans h.1) (by simp)
                        · exact HJ.out j j0 (by omega)⟩⟩
                  · have HN : Hid (readS s = none) := Lib.hid (readS_tried HV.out (fun j j0 j6 => HR.out.2 j j0 (by omega)))
                    have B2 := Lib.hid HR.out.1
                    clear HR
                    go_wp2_with fail
                    refine (of_any 12 _ (by decide)).mono ?_; rintro e w1 ⟨c', a', n', s', rfl, hf, hb1⟩
                    obtain ⟨A3, m3, k3, rfl⟩ := (hf w1).slice
                    have HFV := Lib.hid hf; clear hf
                    have B1 := B2.out.keep hb1
                    obtain ⟨⟨lt, c0, c1, c2, c3, f0, f1, f2, f3⟩, hb⟩ := B1
                    have HB := Lib.hid hb; clear hb hb1
                    go_wp2_with fail
                    refine bodyPost_ret (v := .tuple #[.int .u64 0, .agg #[.int .i64 c', .int .i64 a', .string n', .slice A3 m3 k3]]) (by simp [results, Tryd.results29, go_sem, c0, c1, c2, c3]) rfl ?_
                    exact rf_none HN.out HFV.out (below4 HB.out _ (Nat.le_refl _) _ _ _ _)
              · rw [ext_list0] at hn
                have HN : Hid (readS s = none) := Lib.hid (readS_refnone (HT.out.trans (tl1 (by rw [HA.out.1]; exact hn))))
                clear HT hn HA
                go_wp2_with fail
                go_loop [12] (fun i => i = .int .i64 0) (fun i => 0)
                case atStart => rfl
                case round =>
                  subst hrel
                  go_wp2_with fail
                  refine (of_any 12 _ (by decide)).mono ?_; rintro e w1 ⟨c', a', n', s', rfl, hf, hb1⟩
                  obtain ⟨A3, m3, k3, rfl⟩ := (hf w1).slice
                  have HFV := Lib.hid hf; clear hf
                  have B1 := B0.out.keep hb1
                  obtain ⟨⟨lt, c0, c1, c2, c3, f0, f1, f2, f3⟩, hb⟩ := B1
                  have HB := Lib.hid hb; clear hb hb1
                  go_wp2_with fail
                  refine bodyPost_ret (v := .tuple #[.int .u64 0, .agg #[.int .i64 c', .int .i64 a', .string n', .slice A3 m3 k3]]) (by simp [results, Tryd.results29, go_sem, c0, c1, c2, c3]) rfl ?_
                  exact rf_none HN.out HFV.out (below4 HB.out _ (Nat.le_refl _) _ _ _ _)
      · have HA : Hid (idxO 32 s.data.toList = ((k + 1 : Nat) : Nat) + idxO 32 (s.data.toList.drop (k + 1))) := Lib.hid (by rw [HI.out, idxO_drop 32 _ k _ hb, if_neg h32]; omega)
        have q : ((s[k].toNat : Int) != 32) = true := by
          rw [bne_iff_ne]; intro e; apply h32; apply UInt8.toNat_inj.1; show s[k].toNat = 32; omega
        clear hb h32 HI
        go_wp2
        go_round
        case rel => exact ⟨k + 1, by omega, by go_num, HA⟩
        case measure => simp [intOf]; omega
    · have HN : Hid (readS s = none) := Lib.hid (readS_refnone (by
        unfold refNum; rw [if_neg (by rw [HI.out, ← Lib.size_eq]; omega)]))
      clear HI
      go_wp2_with fail
      refine (of_any 12 _ (by decide)).mono ?_; rintro e w1 ⟨c', a', n', s', rfl, hf, hb1⟩
      obtain ⟨A3, m3, k3, rfl⟩ := (hf w1).slice
      have HFV := Lib.hid hf; clear hf
      have B1 := B0.out.keep hb1
      obtain ⟨⟨lt, c0, c1, c2, c3, f0, f1, f2, f3⟩, hb⟩ := B1
      have HB := Lib.hid hb; clear hb hb1
      go_wp2_with fail
      refine bodyPost_ret (v := .tuple #[.int .u64 0, .agg #[.int .i64 c', .int .i64 a', .string n', .slice A3 m3 k3]]) (by simp [results, Tryd.results29, go_sem, c0, c1, c2, c3]) rfl ?_
      exact rf_none HN.out HFV.out (below4 HB.out _ (Nat.le_refl _) _ _ _ _)
end Go.Proofs.YtpmnkabggljpkaaDoor
