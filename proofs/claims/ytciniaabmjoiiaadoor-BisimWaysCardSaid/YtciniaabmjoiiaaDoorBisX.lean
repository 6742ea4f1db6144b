/- The row of BisimWays out of its walk. -/
import Derived.Test.YtciniaabmjoiiaaDoorBisW
import Derived.Test.YtciniaabmjoiiaaDoorRows
import Derived.Shelf.Vars
import Derived.Stop.LaidErr
import Derived.LaidMore
import Derived.HandedShaped
import Derived.ProofKit
import Derived.ChangeSame
set_option maxRecDepth 100000
set_option linter.unusedVariables false
set_option linter.unusedSimpArgs false
namespace Go.Proofs.YtciniaabmjoiiaaDoor
open Go.ChangeShapes Go.RowKit Go.Shelf Go.ChangeShapes Go.WideShapes Go.Proofs.YtciniaabmjoiiaaDoorW.PrintWords Go.Proofs.YtciniaabmjoiiaaDoorW.PrintLast Go.Proofs.YtciniaabmjoiiaaDoorW.PrintMore Go.Proofs.YtciniaabmjoiiaaDoor.PRef
theorem tab_envW {W : World} (hL : laidMetH Tryd.prog Rows.bisimWaysRow.laid W) : TabE W := by
  rw [MakeChecks.laidMetH_plain _ _ _ (by kernel_rfl)] at hL
  have h1 : laidMet Tryd.prog (("math/bits.deBruijn32tab", Rows.laid_math_bits_deBruijn32tab) :: ("math/bits.deBruijn64tab", Rows.laid_math_bits_deBruijn64tab) :: ("internal/strconv.uint64pow10", Lib.tabData .u64 Lib.pow10Tab) :: []) W := hL
  have h2 : laidMet Tryd.prog (("internal/strconv.uint64pow10", Lib.tabData .u64 Lib.pow10Tab) :: []) W := laidMet.tail (laidMet.tail h1)
  have ht := Lib.tabIs_of_head gTab (t := 132) (e := 125) (n := 20) (by kernel_rfl) (by kernel_rfl) (by kernel_rfl) (by kernel_rfl) (by kernel_rfl) h2
  exact ⟨ht, World.block_lt_of_cell? W _ (ht.cell gTab 0 (by decide))⟩
theorem way_read {H : Type} {enc : TypeId × Value → H} {w : World} {r : Reach} {b0 base : Nat} {held : Bool} {v : Value} {d : DataW H} {p : List MemPlace} (hv : Value.okWide Tryd.prog w r b0 51 v) (h : DataW.Trod enc Tryd.prog w base (fun _ => true) held 51 v d p) :
    ∃ A B P c c2 pc nodes roots path i j, v = .agg #[.slice A (List.length nodes) c, .slice B (List.length roots) c2, .int .i64 i, .int .i64 j, .slice P (List.length path) pc] ∧ GIn w (.agg #[.slice A nodes.length c, .slice B roots.length c2]) A B c c2 nodes roots ∧ (Kd.int .i64).C w P path.length path ∧ (∀ x ∈ path, wfI x) ∧ wfI i ∧ wfI j := by
  obtain ⟨cs, rfl, hsz⟩ := okWide_struct Tryd.underlying51 hv
  have e5 : Tryd.prog.cellsOf 51 = 5 := by kernel_rfl
  have e2 : Tryd.prog.cellsOf 25 = 2 := by kernel_rfl
  have c0 : Tryd.prog.cellsOf 3 = 1 := by kernel_rfl
  have c2 : Tryd.prog.cellsOf 23 = 1 := by kernel_rfl
  have c3 : Tryd.prog.cellsOf 22 = 1 := by kernel_rfl
  rw [e5] at hsz
  obtain ⟨cl⟩ := cs
  match cl, hsz with
  | [a0, a1, a2, a3, a4], _ =>
    obtain ⟨fuel, hf⟩ := h
    obtain ⟨y0, y1, y2, y3, n, _, _, h0, h1, h2, h3⟩ := Joins.trod_struct4 Tryd.underlying51 hf
    simp only [e2, c0, c2] at h0 h1 h2 h3
    obtain ⟨z0, z1, n2, _, _, g0, g1⟩ := trod_struct2 Tryd.underlying25 h0
    simp only [c2, c3] at g0 g1
    obtain ⟨A, c, nodes, r0, qn, hn, hw⟩ := nodes_read (v := a0) (by simpa [Value.cells] using g0)
    obtain ⟨B, c5, roots, r1, qr, hr, hwr⟩ := ints_read (v := a1) (by simpa [Value.cells] using g1)
    obtain ⟨n3, s2, _, w2⟩ := DataW.trod_int Tryd.underlying3 h1
    obtain ⟨n4, s3, _, w3⟩ := DataW.trod_int Tryd.underlying3 h2
    simp [Value.cells] at s2 s3
    obtain ⟨P, pc, path, r4, _, hp, hwp⟩ := ints_read (v := a4) (by simpa [Value.cells] using h3)
    subst r0 r1 s2 s3 r4
    exact ⟨A, B, P, c, c5, pc, nodes, roots, path, n3, n4, rfl, ⟨rfl, hn, hr, qn, qr, hw, hwr⟩, hp, hwp, wfI_of w2, wfI_of w3⟩
set_option maxHeartbeats 4000000 in
theorem BisimWays_walk (w : World) (A B P : Option Addr) (c d pc : Nat) (nodes : List Nd) (roots path : List Int) (i j : Int) (hg : GIn w (.agg #[.slice A nodes.length c, .slice B roots.length d]) A B c d nodes roots) (HPp : Kd.C (Kd.int .i64) w P path.length path) (hpw : ∀ x ∈ path, wfI x) (hi : wfI i) (hj : wfI j) (E : TabE w) :
    Calls Tryd.prog 5 #[.agg #[.slice A nodes.length c, .slice B roots.length d, .int .i64 i, .int .i64 j, .slice P path.length pc]] w (LawT w) := by
  have HB : Hid (Below w.heap.size w (w.alloc (.cells #[.slice A nodes.length c, .slice B roots.length d, .int .i64 i, .int .i64 j, .slice P path.length pc] 51))) := Lib.hid ((Below.refl _ _).alloc (Nat.le_refl _) _)
  have HE := Lib.hid (E.keep HB.out)
  have HG : Hid (GIn (w.alloc (.cells #[.slice A nodes.length c, .slice B roots.length d, .int .i64 i, .int .i64 j, .slice P path.length pc] 51)) (.agg #[.slice A nodes.length c, .slice B roots.length d]) A B c d nodes roots) := Lib.hid ⟨rfl, Kd.C_below hg.n HB.out, Kd.C_below hg.r HB.out, hg.nc, hg.rc, hg.wf, hg.wr⟩
  have HP := Lib.hid (Kd.C_below HPp HB.out)
  have HH := Lib.hid (And.intro hpw (And.intro hi hj))
  clear hg E HPp hpw hi hj
  have b1 := blk_new w (.cells #[.slice A nodes.length c, .slice B roots.length d, .int .i64 i, .int .i64 j, .slice P path.length pc] 51)
  have c0 := blk_cell b1 0
  have c1 := blk_cell b1 1
  have c2 := blk_cell b1 2
  have c3 := blk_cell b1 3
  have c4 := blk_cell b1 4
  clear b1
  go_enter Tryd.func5, Tryd.ntmps5
  go_upto_region 1 with fail
  generalize hW : w.alloc (.cells #[.slice A nodes.length c, .slice B roots.length d, .int .i64 i, .int .i64 j, .slice P path.length pc] 51) = W at *
  clear hW
  go_wp2_with fail
  refine (paths_any W A B P c d pc nodes roots path i j HG.out HP.out HH.out.1 HH.out.2.1 HH.out.2.2 HE.out).mono ?_; rintro e w1 ⟨rfl, hb1⟩
  go_wp2_with fail
  go_ret
  exact ⟨rfl, below_next HB.out hb1⟩
theorem BisimWays_row {H : Type} {enc : TypeId × Value → H} (W : World) (v : Value) (d : DataW H) (p : List MemPlace) {b0 : Nat} (ok : Value.okWide Tryd.prog W .any b0 51 v) (h : DataW.Trod enc Tryd.prog W 0 (fun _ => true) true 51 v d p)
    (hL : laidMetH Tryd.prog Rows.bisimWaysRow.laid W) (hsh : W.ShapedOpen Tryd.prog) : Calls Tryd.prog 5 #[v] W (LawT W) := by
  obtain ⟨A, B, P, c, c2, pc, nodes, roots, path, i, j, rfl, hg, hp, hwp, hi, hj⟩ := way_read ok h
  exact BisimWays_walk W A B P c c2 pc nodes roots path i j hg hp hwp hi hj (tab_envW hL)
end Go.Proofs.YtciniaabmjoiiaaDoor
