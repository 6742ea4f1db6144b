/- The law WordTexts: word and tendrilref01 write alike and read alike. -/
import Derived.Test.YtpmnkabggljpkaaDoorWordF
set_option linter.unusedVariables false
set_option linter.unusedSimpArgs false
namespace Go.Proofs.YtpmnkabggljpkaaDoor
open Go.RowKit Go.Shelf
set_option maxRecDepth 100000 in
set_option maxHeartbeats 1000000 in
theorem WordTexts_walk (x : Int) (s : ByteArray) (w : World) (h0 : 0 ≤ x) (h1 : x ≤ 18446744073709551615) (hs : s.size ≤ 1048576) (E : LibEnv w ∧ 3 < w.heap.size) :
    Calls Tryd.prog 8 #[.int .u64 x, .string s] w (LawT w) := by
  have HE : Hid (EB w w) := Lib.hid ⟨E, Below.refl _ _⟩
  clear E
  go_enter Tryd.func8, Tryd.ntmps8
  go_wp2_with fail
  refine (lives_any _).mono ?_; rintro e w1 ⟨rfl, hb1⟩
  have E1 := Lib.hid (HE.out.step hb1); clear hb1
  go_wp2_with fail
  refine (text_any x _ h0 h1 E1.out.1.1 E1.out.1.2).mono ?_; rintro e w2 ⟨rfl, hb2⟩
  have E2 := Lib.hid (E1.out.step hb2); clear hb2
  go_wp2_with fail
  refine (rtext_any x _ h0 h1).mono ?_; rintro e w3 ⟨rfl, hb3⟩
  have E3 := Lib.hid (E2.out.step hb3); clear hb3
  go_wp2_with fail
  refine (read_any s _ hs E3.out.1.1 E3.out.1.2).mono ?_; rintro e w4 ⟨v4, rfl, hv4, hb4⟩
  have HV4 := Lib.hid hv4
  have E4 := Lib.hid (E3.out.step hb4); clear hb4 hv4
  go_wp2_with fail
  refine (rread_any s _ hs).mono ?_; rintro e w5 ⟨c, a, n, v5, rfl, hf, hb5⟩
  obtain ⟨A5, m5, k5, rfl⟩ := (hf w5).slice
  have HV5 := Lib.hid (HV4.out.keep hb5)
  have E5 := Lib.hid (E4.out.step hb5); clear hb5
  have HF := Lib.hid hf; clear hf
  go_wp2_with fail
  refine (is_any _ _ _ _ _ _ _ _ (HV5.out.keep ((Below.refl _ _).alloc (Nat.le_refl _) _)) (HF.out _)).mono ?_; rintro e w6 ⟨rfl, hb6⟩
  have E6 := Lib.hid ((E5.out.step ((Below.refl _ _).alloc (Nat.le_refl _) _)).step hb6); clear hb6
  go_wp2_with fail
  go_ret
  exact ⟨by simp, E6.out.2⟩
theorem WordTexts_row (W : World) (x : Int) (s : ByteArray) (h : (Lit.int .u64 x).wf = true) (hs : s.size ≤ 140737488351232) (hL : laidMetH Tryd.prog Rows.wordTextsUptoRow.laid W) (hsh : W.ShapedOpen Tryd.prog) {H : Type} {d : DataW H} (hk : Rows.uptoSmall H ([d, DataW.lit (.string s.data.toList)] ++ []) = true) :
    Calls Tryd.prog 8 #[.int .u64 x, .string s] W (LawT W) :=
  WordTexts_walk x s W (bounds_u64 h).1 (bounds_u64 h).2 (by rw [Lib.size_eq]; exact small_str hk) (lib_env hL hsh)
end Go.Proofs.YtpmnkabggljpkaaDoor
