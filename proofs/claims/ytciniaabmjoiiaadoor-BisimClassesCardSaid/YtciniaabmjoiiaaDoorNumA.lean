import Derived.Test.YtciniaabmjoiiaaDoorProg
import Derived.WalkKit
import Derived.IntWalk
import Derived.Lib.Hide
import Derived.WalkLawsBesides
import Derived.WalkSpells
import Derived.Deep.QuietTactic
import Derived.BigQuiet
import Derived.Deep.LoopGhost
import Derived.Outline
import Derived.Deep.Draws
import Derived.WalkSmall
import Derived.Lib.Strings
/- Faults as chains: what an error value and a tendrilnum.F hold, and tendrilnum.Is: it tells whether the two chains are one. The world is as it was but for new blocks and draws. -/
set_option linter.unusedVariables false
set_option linter.unusedSimpArgs false
namespace Go.Proofs.YtciniaabmjoiiaaDoor
open Go.RowKit
theorem rb {a b : Bool} (h : a = b) : Ending.returned (.bool a) = .returned (.bool b) := by rw [h]
theorem ri {k : IntKind} {a b : Int} (h : a = b) : Ending.returned (.int k a) = .returned (.int k b) := by rw [h]
abbrev Chain := List (Int × Int × ByteArray)
/-- An error value and its chain. -/
inductive EV (w : World) : Value → Chain → Prop where
  | nil : EV w .nilIface []
  | cons {b : Nat} {c a : Int} {n : ByteArray} {v : Value} {es : Chain} : w.cell? ⟨b, 0, none⟩ = some (.int .i64 c) → w.cell? ⟨b, 1, none⟩ = some (.int .i64 a) → w.cell? ⟨b, 2, none⟩ = some (.string n) → w.cell? ⟨b, 3, none⟩ = some v → EV w v es →
      EV w (.iface 70 (.pointer (some ⟨b, 0, none⟩))) ((c, a, n) :: es)
theorem setCell_drewN (w : World) (n : Nat) (p : Addr) (v : Value) : (w.drewN n).setCell p v = (w.setCell p v).drewN n := rfl
theorem put4 (w : World) (k : Nat) (x0 x1 x2 x3 y0 y1 y2 y3 : Value) (t : TypeId) :
    (((((w.alloc (.cells #[x0, x1, x2, x3] t)).drewN k).setCell ⟨w.heap.size, 0, none⟩ y0).setCell ⟨w.heap.size, 1, none⟩ y1).setCell ⟨w.heap.size, 2, none⟩ y2).setCell ⟨w.heap.size, 3, none⟩ y3 = (w.alloc (.cells #[y0, y1, y2, y3] t)).drewN k := by
  simp only [setCell_drewN]
  simp [go_sem]
/-- A tendrilnum.F and its chain. -/
inductive FV (w : World) : Int → Int → ByteArray → Value → Chain → Prop where
  | no {a : Int} {n : ByteArray} {A : Option Addr} {m k : Nat} : FV w 0 a n (.slice A m k) []
  | one {c a : Int} {n : ByteArray} {A : Option Addr} {k : Nat} : c ≠ 0 → FV w c a n (.slice A 0 k) [(c, a, n)]
  | led {c a : Int} {n : ByteArray} {b o k : Nat} {c1 a1 : Int} {n1 : ByteArray} {s1 : Value} {fs : Chain} : c ≠ 0 →
      w.cell? ⟨b, o, none⟩ = some (.int .i64 c1) → w.cell? ⟨b, o + 1, none⟩ = some (.int .i64 a1) → w.cell? ⟨b, o + 2, none⟩ = some (.string n1) → w.cell? ⟨b, o + 3, none⟩ = some s1 → FV w c1 a1 n1 s1 fs →
      FV w c a n (.slice (some ⟨b, o, none⟩) 1 k) ((c, a, n) :: fs)
theorem EV.keep {w w1 : World} {v : Value} {es : Chain} (h : EV w v es) (hb : Below w.heap.size w w1) : EV w1 v es := by
  induction h with
  | nil => exact .nil
  | cons h0 h1 h2 h3 _ ih => exact .cons ((hb.cell (World.block_lt_of_cell? w _ h0)).trans h0) ((hb.cell (World.block_lt_of_cell? w _ h1)).trans h1) ((hb.cell (World.block_lt_of_cell? w _ h2)).trans h2) ((hb.cell (World.block_lt_of_cell? w _ h3)).trans h3) ih
theorem FV.keep {w w1 : World} {c a : Int} {n : ByteArray} {s : Value} {fs : Chain} (h : FV w c a n s fs) (hb : Below w.heap.size w w1) : FV w1 c a n s fs := by
  induction h with
  | no => exact .no
  | one hc => exact .one hc
  | led hc h0 h1 h2 h3 _ ih => exact .led hc ((hb.cell (World.block_lt_of_cell? w _ h0)).trans h0) ((hb.cell (World.block_lt_of_cell? w _ h1)).trans h1) ((hb.cell (World.block_lt_of_cell? w _ h2)).trans h2) ((hb.cell (World.block_lt_of_cell? w _ h3)).trans h3) ih

theorem FV.slice {w : World} {c a : Int} {n : ByteArray} {s : Value} {fs : Chain} (h : FV w c a n s fs) : ∃ A m k, s = .slice A m k := by
  cases h with
  | no => exact ⟨_, _, _, rfl⟩
  | one => exact ⟨_, _, _, rfl⟩
  | led => exact ⟨_, _, _, rfl⟩
theorem str_inj {a b : ByteArray} (h : a.toList = b.toList) : a = b := by
  obtain ⟨⟨l⟩⟩ := a
  obtain ⟨⟨m⟩⟩ := b
  simpa using h
theorem str_ne {a b : ByteArray} (h : ¬ a = b) : (!(a.toList == b.toList)) = true := by
  rw [Bool.not_eq_true', beq_eq_false_iff_ne]
  exact fun e => h (str_inj e)
@[local go_sem] theorem as_fault (v : Value) (w : World) : (Instr.typeAssert (.iface 70 v) 29 70 true).run Tryd.prog w = .ok (.tuple #[v, .bool true]) w := by kernel_rfl
@[local go_sem] theorem as_nil (w : World) : (Instr.typeAssert .nilIface 29 70 true).run Tryd.prog w = .ok (.tuple #[.pointer none, .bool false]) w := by kernel_rfl
def IsRel (w : World) (T : Bool) (gk : Nat) (v : Value) (wr : World) : Prop :=
  ∃ es fs c a n s k, decide (es = fs) = T ∧ gk = fs.length ∧ EV w v es ∧ FV w c a n s fs ∧ wr = (w.alloc (.cells #[.int .i64 c, .int .i64 a, .string n, s] 39)).drewN k

set_option maxRecDepth 100000 in
set_option maxHeartbeats 2000000 in
theorem is_any (v : Value) (c a : Int) (n : ByteArray) (s : Value) (es fs : Chain) (w : World) (he : EV w v es) (hf : FV w c a n s fs) :
    Calls Tryd.prog 18 #[v, .agg #[.int .i64 c, .int .i64 a, .string n, s]] w fun e w' => e = .returned (.bool (decide (es = fs))) ∧ Below w.heap.size w w' := by
  have H0 : Hid (EV w v es ∧ FV w c a n s fs) := Lib.hid ⟨he, hf⟩
  clear he hf
  generalize hT : decide (es = fs) = T
  have HT := Lib.hid hT
  clear hT
  go_enter Tryd.func18, Tryd.ntmps18
  go_wp2
  go_loopg [0] fs.length (fun k v0 wr => IsRel w T k v0 wr)
  case atStart => exact ⟨es, fs, c, a, n, s, 0, HT.out, rfl, H0.out.1, H0.out.2, rfl⟩
  case round =>
    obtain ⟨es, fs, c, a, n, s, k, hT, rfl, he, hf, rfl⟩ := hrel
    have HT1 := Lib.hid hT; clear hT
    cases hf with
    | no =>
      cases he with
      | nil =>
        go_wp2
        go_ret
        exact ⟨by simp [← HT1.out], by repeat (first | exact Below.refl _ _ | refine below_drewN ?_ _ | refine Below.alloc ?_ (Nat.le_refl _) _)⟩
      | cons h0 h1 h2 h3 h4 =>
        go_wp2
        go_ret
        exact ⟨by simp [← HT1.out], by repeat (first | exact Below.refl _ _ | refine below_drewN ?_ _ | refine Below.alloc ?_ (Nat.le_refl _) _)⟩
    | @one c a n A0 k0 hc =>
      have hc0 : (c == 0) = false := by simpa using hc
      cases he with
      | nil =>
        go_wp2
        go_quiet (fail)
        go_wp2
        go_ret
        exact ⟨by simp [← HT1.out], by repeat (first | exact Below.refl _ _ | refine below_drewN ?_ _ | refine Below.alloc ?_ (Nat.le_refl _) _)⟩
      | @cons b c1 a1 n1 v1 es h0 h1 h2 h3 h4 =>
        have hb : b < w.heap.size := World.block_lt_of_cell? w _ h0
        by_cases e1 : c1 = c
        · have q1 : (c1 != c) = false := by simpa using e1
          by_cases e2 : a1 = a
          · have q2 : (a1 != a) = false := by simpa using e2
            by_cases e3 : n1 = n
            · have q3 : (!(n1.toList == n.toList)) = false := by simp [e3]
              have E := Lib.hid (And.intro e1 (And.intro e2 e3)); clear e1 e2 e3
              cases h4 with
              | nil =>
                go_wp2
                go_quiet (fail)
                go_wp2
                go_ret
                exact ⟨by rw [← HT1.out]; simp [E.out], by repeat (first | exact Below.refl _ _ | refine below_drewN ?_ _ | refine Below.alloc ?_ (Nat.le_refl _) _)⟩
              | cons i0 i1 i2 i3 i4 =>
                go_wp2
                go_quiet (fail)
                go_wp2
                go_ret
                exact ⟨by rw [← HT1.out]; simp, by repeat (first | exact Below.refl _ _ | refine below_drewN ?_ _ | refine Below.alloc ?_ (Nat.le_refl _) _)⟩
            · have q3 := str_ne e3
              have H4 := Lib.hid h4; clear h4
              have E := Lib.hid (And.intro e1 (And.intro e2 e3)); clear e1 e2 e3
              go_wp2
              go_quiet (fail)
              go_wp2
              go_ret
              exact ⟨by rw [← HT1.out]; simp [E.out.2.2], by repeat (first | exact Below.refl _ _ | refine below_drewN ?_ _ | refine Below.alloc ?_ (Nat.le_refl _) _)⟩
          · have q2 : (a1 != a) = true := by simpa using e2
            have H4 := Lib.hid h4; clear h4
            have E := Lib.hid (And.intro e1 e2); clear e1 e2
            go_wp2
            go_quiet (fail)
            go_wp2
            go_ret
            exact ⟨by rw [← HT1.out]; simp [E.out.2], by repeat (first | exact Below.refl _ _ | refine below_drewN ?_ _ | refine Below.alloc ?_ (Nat.le_refl _) _)⟩
        · have q1 : (c1 != c) = true := by simpa using e1
          have H4 := Lib.hid h4; clear h4
          have E := Lib.hid e1; clear e1
          go_wp2
          go_quiet (fail)
          go_wp2
          go_ret
          exact ⟨by rw [← HT1.out]; simp [E.out], by repeat (first | exact Below.refl _ _ | refine below_drewN ?_ _ | refine Below.alloc ?_ (Nat.le_refl _) _)⟩
    | @led c a n B o kk c9 a9 n9 s9 fs hc g0 g1 g2 g3 g4 =>
      have hc0 : (c == 0) = false := by simpa using hc
      have hB : B < w.heap.size := World.block_lt_of_cell? w _ g0
      have G0 := g4.slice; obtain ⟨A9, m9, k9, rfl⟩ := G0
      have G := Lib.hid g4; clear g4
      cases he with
      | nil =>
        go_wp2
        go_quiet (fail)
        go_wp2
        go_ret
        exact ⟨by simp [← HT1.out], by repeat (first | exact Below.refl _ _ | refine below_drewN ?_ _ | refine Below.alloc ?_ (Nat.le_refl _) _)⟩
      | @cons b c1 a1 n1 v1 es h0 h1 h2 h3 h4 =>
        have hb : b < w.heap.size := World.block_lt_of_cell? w _ h0
        by_cases e1 : c1 = c
        · have q1 : (c1 != c) = false := by simpa using e1
          by_cases e2 : a1 = a
          · have q2 : (a1 != a) = false := by simpa using e2
            by_cases e3 : n1 = n
            · have q3 : (!(n1.toList == n.toList)) = false := by simp [e3]
              have E := Lib.hid (And.intro e1 (And.intro e2 e3)); clear e1 e2 e3
              have H4 := Lib.hid h4; clear h4
              go_wp2
              go_quiet (fail)
              go_wp2
              go_roundg fs.length
              case measure => simp
              case rel => exact ⟨es, fs, c9, a9, n9, _, _, by rw [← HT1.out]; simp [E.out], rfl, H4.out, G.out, put4 _ _ _ _ _ _ _ _ _ _ _⟩
            · have q3 := str_ne e3
              have H4 := Lib.hid h4; clear h4
              have E := Lib.hid (And.intro e1 (And.intro e2 e3)); clear e1 e2 e3
              go_wp2
              go_quiet (fail)
              go_wp2
              go_ret
              exact ⟨by rw [← HT1.out]; simp [E.out.2.2], by repeat (first | exact Below.refl _ _ | refine below_drewN ?_ _ | refine Below.alloc ?_ (Nat.le_refl _) _)⟩
          · have q2 : (a1 != a) = true := by simpa using e2
            have H4 := Lib.hid h4; clear h4
            have E := Lib.hid (And.intro e1 e2); clear e1 e2
            go_wp2
            go_quiet (fail)
            go_wp2
            go_ret
            exact ⟨by rw [← HT1.out]; simp [E.out.2], by repeat (first | exact Below.refl _ _ | refine below_drewN ?_ _ | refine Below.alloc ?_ (Nat.le_refl _) _)⟩
        · have q1 : (c1 != c) = true := by simpa using e1
          have H4 := Lib.hid h4; clear h4
          have E := Lib.hid e1; clear e1
          go_wp2
          go_quiet (fail)
          go_wp2
          go_ret
          exact ⟨by rw [← HT1.out]; simp [E.out], by repeat (first | exact Below.refl _ _ | refine below_drewN ?_ _ | refine Below.alloc ?_ (Nat.le_refl _) _)⟩
end Go.Proofs.YtciniaabmjoiiaaDoor
