/- The law WordThere: what is written reads back; what reads writes back. And the library's variables out of what a row lists. -/
import Derived.Test.YtpmnkabggljpkaaDoorWordS
import Derived.Test.YtpmnkabggljpkaaDoorRows
import Derived.Shelf.Vars
import Derived.LaidMore
import Derived.HandedShaped
import Derived.ProofKit
set_option linter.unusedVariables false
set_option linter.unusedSimpArgs false
namespace Go.Proofs.YtpmnkabggljpkaaDoor
open Go.RowKit Go.Shelf
theorem gES : Tryd.prog.globalNamed "strconv.ErrSyntax" = some 1 := by kernel_rfl
theorem gER : Tryd.prog.globalNamed "strconv.ErrRange" = some 2 := by kernel_rfl
theorem star : "*" ++ "errors.errorString" = "*errors.errorString" := by decide
theorem rowES (u : TypeId) (h : Tryd.prog.typeName? 3 u = some "*errors.errorString") : u = 97 :=
  typeName_ptr_named (nm := "errors.errorString") (by rw [star]; kernel_rfl) (by kernel_rfl) (by decide) u (by rw [star]; exact h)
theorem lib_env {W : World} (hL : laidMetH Tryd.prog Rows.wordThereUptoRow.laid W) (hsh : W.ShapedOpen Tryd.prog) : LibEnv W ∧ 3 < W.heap.size := by
  rw [MakeChecks.laidMetH_plain _ _ _ (by kernel_rfl)] at hL
  have h2 : laidMet Tryd.prog (("internal/strconv.uint64pow10", Lib.tabData .u64 Lib.pow10Tab) :: ("strconv.ErrRange", Rows.laid_strconv_ErrRange) :: ("strconv.ErrSyntax", Rows.laid_strconv_ErrSyntax) :: []) W := hL.tail.tail
  have ht := Lib.tabIs_of_head gP (t := 88) (e := 22) (n := 20) (by kernel_rfl) (by kernel_rfl) (by kernel_rfl) (by kernel_rfl) (by kernel_rfl) h2
  obtain ⟨a0, s0, hv0, -, -, -⟩ := laid_sentinel (ti := 27) (tp := 97) (te := 99) (ts := 9) h2.tail gER (by kernel_rfl) Tryd.underlying27 rowES Tryd.underlying97 Tryd.underlying99 rfl rfl (by kernel_rfl) (by kernel_rfl) (by kernel_rfl)
  obtain ⟨a1, s1, hv1, -, -, -⟩ := laid_sentinel (ti := 27) (tp := 97) (te := 99) (ts := 9) h2.tail.tail gES (by kernel_rfl) Tryd.underlying27 rowES Tryd.underlying97 Tryd.underlying99 rfl rfl (by kernel_rfl) (by kernel_rfl) (by kernel_rfl)
  refine ⟨⟨ht, ?_, ⟨97, .pointer (some a1), ?_⟩, ⟨97, .pointer (some a0), ?_⟩⟩, ?_⟩
  · exact cell_of_shapedOpen_int (P := Tryd.prog) (g := 0) (t := 3) (zero := #[.int .i64 0]) hsh (of_decide_eq_true (by kernel_rfl)) (by kernel_rfl) rfl (by kernel_rfl) (by kernel_rfl) Tryd.underlying3
  · have h0 := World.var?_cell gES hv1 0; simpa using h0
  · have h0 := World.var?_cell gER hv0 0; simpa using h0
  · exact World.block_lt_of_cell? W _ (ht.cell gP 0 (by decide))
def RdO (s : ByteArray) (w : World) (e : Ending) (w' : World) : Prop :=
  (∃ x, readS s = some x ∧ e = .returned (.tuple #[.int .u64 x, .nilIface]) ∧ Hid (Below w.heap.size w w')) ∨ (∃ t p, readS s = none ∧ e = .returned (.tuple #[.int .u64 0, .iface t p]) ∧ Hid (Below w.heap.size w w'))
theorem read_c (s : ByteArray) (w : World) (hs : s.size ≤ 1048576) (E : LibEnv w ∧ 3 < w.heap.size) : Calls Tryd.prog 28 #[.string s] w (RdO s w) :=
  (read_any s w hs E.1 E.2).mono fun e w' h => by
    obtain ⟨v, he, hv, hb⟩ := h
    cases hr : readS s with
    | some x =>
      rw [hr] at hv he
      simp at hv
      cases hv
      exact .inl ⟨x, hr, he, Lib.hid hb⟩
    | none =>
      rw [hr] at hv he
      simp [code1] at hv
      cases hv
      exact .inr ⟨_, _, hr, he, Lib.hid hb⟩
theorem textS_len (x : Int) (h0 : 0 ≤ x) (h1 : x ≤ 18446744073709551615) : (textS x).size ≤ 1048576 := by
  have hv := valS_range x h0 h1
  unfold textS
  split
  · split
    · rename_i hg hh
      have hr := head_range hh
      have en : headN x = valS x / 16 := by unfold headN; rw [if_pos hh]
      have ek : headK x = valS x % 16 := by unfold headK; rw [if_pos hh]
      have l1 := itoa_len (headN x) (by omega) (by omega)
      have l2 := itoa_len (headK x) (by omega) (by omega)
      simp only [ByteArray.size_append]
      rw [show (⟨(Lib.itoa (headN x)).toArray⟩ : ByteArray).size = (Lib.itoa (headN x)).length from rfl, show (⟨(Lib.itoa (headK x)).toArray⟩ : ByteArray).size = (Lib.itoa (headK x)).length from rfl, show (⟨#[102, 117, 110, 32]⟩ : ByteArray).size = 4 from rfl, show (⟨#[47]⟩ : ByteArray).size = 1 from rfl]
      omega
    · have l1 := itoa_len (valS x) (by omega) (by omega)
      have l2 := labelS_len (tagS x)
      simp only [ByteArray.size_append]
      rw [show (⟨(Lib.itoa (valS x)).toArray⟩ : ByteArray).size = (Lib.itoa (valS x)).length from rfl]
      omega
  · decide
def EB (w0 w : World) : Prop := (LibEnv w ∧ 3 < w.heap.size) ∧ Below w0.heap.size w0 w
theorem EB.step {w0 w w' : World} (h : EB w0 w) (hb : Below w.heap.size w w') : EB w0 w' := ⟨⟨h.1.1.keep hb h.1.2, Nat.lt_of_lt_of_le h.1.2 hb.size⟩, below_next h.2 hb⟩
theorem readS_good {s : ByteArray} {y : Int} (h : readS s = some y) : goodS y = true ∧ textS y = s ∧ 0 ≤ y ∧ y ≤ 18446744073709551615 := by
  obtain ⟨t, n, hp, rfl, ht⟩ := readS_some h
  obtain ⟨_, _, g, p0, p1⟩ := pack_back hp
  exact ⟨g, ht, p0, p1⟩
set_option maxRecDepth 100000 in
set_option maxHeartbeats 1000000 in
theorem WordThere_walk (x : Int) (s : ByteArray) (w : World) (h0 : 0 ≤ x) (h1 : x ≤ 18446744073709551615) (hs : s.size ≤ 1048576) (E : LibEnv w ∧ 3 < w.heap.size) :
    Calls Tryd.prog 9 #[.int .u64 x, .string s] w (LawT w) := by
  have HE : Hid (EB w w) := Lib.hid ⟨E, Below.refl _ _⟩
  clear E
  have htl := textS_len x h0 h1
  cases hg : goodS x
  all_goals
    have hrt := hg
    first | replace hrt := readS_text h0 h1 hrt | replace hrt := readS_text_bad hrt
    have HRT := Lib.hid hrt; clear hrt
    have HL := Lib.hid htl; clear htl
    go_enter Tryd.func9, Tryd.ntmps9
    go_wp2_with fail
    refine (lives_any _).mono ?_; rintro e w1 ⟨rfl, hb1⟩
    have E1 := Lib.hid (HE.out.step hb1); clear hb1
    go_wp2_with fail
    refine (text_any x _ h0 h1 E1.out.1.1 E1.out.1.2).mono ?_; rintro e w2 ⟨rfl, hb2⟩
    have E2 := Lib.hid (E1.out.step hb2); clear hb2
    generalize textS x = tx at *
    go_wp2_with fail
    refine (read_c tx _ HL.out E2.out.1).mono ?_; rintro e w3 (⟨x3, hr, rfl, hb3⟩ | ⟨t3, p3, hr, rfl, hb3⟩) <;> rw [HRT.out] at hr <;> cases hr
    have E3 := Lib.hid (E2.out.step hb3.out); clear hb3
    go_wp2_with fail
    go_quiet ((go_at_call 18; exact Calls.quiet_of_same ((good_any x _ h0 h1).mono fun e w' ⟨he, hw⟩ => ⟨he, hw.symm⟩)))
    have E3 := Lib.hid (E3.out.step (below_drewN (Below.refl _ _) nq))
    generalize w3.drewN nq = w3' at *
    go_wp2_with fail
    refine (read_c s _ hs E3.out.1).mono ?_; rintro e w4 (⟨y, hr, rfl, hb4⟩ | ⟨t4, p4, hr, rfl, hb4⟩)
    · obtain ⟨g1, g2, y0, y1⟩ := readS_good hr
      have E4 := Lib.hid (E3.out.step hb4.out); clear hb4
      have G2 := Lib.hid g2; clear g2 hr
      go_wp2_with (first | (go_at_call 18; refine (good_any y _ y0 y1).mono ?_; rintro e w' ⟨rfl, rfl⟩))
      refine (text_any y _ y0 y1 E4.out.1.1 E4.out.1.2).mono ?_; rintro e w5 ⟨rfl, hb5⟩
      rw [G2.out]
      go_wp2_with fail
      go_ret
      exact ⟨by simp, (E4.out.step hb5).2⟩
    · have E4 := Lib.hid (E3.out.step hb4.out); clear hb4
      go_wp2_with fail
      go_ret
      exact ⟨by simp, E4.out.2⟩
theorem small_str {H : Type} {d : DataW H} {s : List UInt8} (h : Rows.uptoSmall H ([d, DataW.lit (.string s)] ++ []) = true) : s.length ≤ 1048576 := by
  simp [Rows.uptoSmall, Rows.uptoBulkAll, Rows.uptoBulk] at h; omega
theorem WordThere_row (W : World) (x : Int) (s : ByteArray) (h : (Lit.int .u64 x).wf = true) (hs : s.size ≤ 140737488351232) (hL : laidMetH Tryd.prog Rows.wordThereUptoRow.laid W) (hsh : W.ShapedOpen Tryd.prog) {H : Type} {d : DataW H} (hk : Rows.uptoSmall H ([d, DataW.lit (.string s.data.toList)] ++ []) = true) :
    Calls Tryd.prog 9 #[.int .u64 x, .string s] W (LawT W) :=
  WordThere_walk x s W (bounds_u64 h).1 (bounds_u64 h).2 (by rw [Lib.size_eq]; exact small_str hk) (lib_env hL hsh)
end Go.Proofs.YtpmnkabggljpkaaDoor
