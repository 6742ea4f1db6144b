import Derived.Test.YtciniaabmjoiiaaDoorBisV
import Derived.Test.YtciniaabmjoiiaaDoorRows
import Derived.Shelf.Vars
import Derived.Stop.LaidErr
import Derived.LaidMore
import Derived.HandedShaped
import Derived.ProofKit
/- The row of BisimClasses out of its walk. -/
set_option maxRecDepth 100000
set_option linter.unusedVariables false
set_option linter.unusedSimpArgs false
namespace Go.Proofs.YtciniaabmjoiiaaDoor
open Go.RowKit Go.Shelf
theorem tab_envC {W : World} (hL : laidMetH Tryd.prog Rows.bisimClassesRow.laid W) : TabE W := by
  rw [MakeChecks.laidMetH_plain _ _ _ (by kernel_rfl)] at hL
  have h1 : laidMet Tryd.prog (("math/bits.deBruijn32tab", Rows.laid_math_bits_deBruijn32tab) :: ("math/bits.deBruijn64tab", Rows.laid_math_bits_deBruijn64tab) :: ("internal/strconv.uint64pow10", Lib.tabData .u64 Lib.pow10Tab) :: []) W := hL
  have h2 : laidMet Tryd.prog (("internal/strconv.uint64pow10", Lib.tabData .u64 Lib.pow10Tab) :: []) W := laidMet.tail (laidMet.tail h1)
  have ht := Lib.tabIs_of_head gTab (t := 132) (e := 125) (n := 20) (by kernel_rfl) (by kernel_rfl) (by kernel_rfl) (by kernel_rfl) (by kernel_rfl) h2
  exact ⟨ht, World.block_lt_of_cell? W _ (ht.cell gTab 0 (by decide))⟩
theorem BisimClasses_row {H : Type} {enc : TypeId × Value → H} (W : World) (v : Value) (d : DataW H) (p : List MemPlace) (i j : Int) {b0 : Nat} (ok : Value.okWide Tryd.prog W .any b0 25 v) (h : DataW.Trod enc Tryd.prog W 0 (fun _ => true) true 25 v d p) (hi : (Lit.int .i64 i).wf = true) (hj : (Lit.int .i64 j).wf = true)
    (hL : laidMetH Tryd.prog Rows.bisimClassesRow.laid W) (hsh : W.ShapedOpen Tryd.prog) : Calls Tryd.prog 4 #[v, .int .i64 i, .int .i64 j] W (LawT W) := by
  obtain ⟨A, B, c, d2, nodes, roots, hg⟩ := graph_read ok h
  have e := hg.v
  subst e
  exact BisimClasses_walk W A B c d2 nodes roots i j hg (wfI_of hi) (wfI_of hj) (tab_envC hL)
end Go.Proofs.YtciniaabmjoiiaaDoor
