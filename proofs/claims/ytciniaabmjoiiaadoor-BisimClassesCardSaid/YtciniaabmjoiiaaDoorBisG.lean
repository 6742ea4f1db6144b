import Derived.Test.YtciniaabmjoiiaaDoorBisF
import Derived.Test.YtciniaabmjoiiaaDoorBisO
/- bisim.Classes; the law's fixed fact; Small. -/
set_option maxRecDepth 100000
set_option linter.unusedVariables false
set_option linter.unusedSimpArgs false
namespace Go.Proofs.YtciniaabmjoiiaaDoor
open Go.RowKit Go.Shelf Go.Maps Go.Proofs.YtciniaabmjoiiaaDoorW.PrintWords Go.Proofs.YtciniaabmjoiiaaDoorW.PrintLast Go.Proofs.YtciniaabmjoiiaaDoorW.PrintMore Go.Proofs.YtciniaabmjoiiaaDoor.PRef
def LawT (w : World) (e : Ending) (w' : World) : Prop := e = .returned (.bool true) ∧ Below w.heap.size w w'
theorem badN_none {n : Int} : ∀ (l : List Nd) (i : Nat), badN n l i = none → ∀ x ∈ l, goodN x n = true := by
  intro l
  induction l with
  | nil => intro i _ x hx; cases hx
  | cons a r ih =>
    intro i h x hx
    unfold badN at h
    by_cases hg : goodN a n = true
    · rw [if_pos hg] at h
      rw [List.mem_cons] at hx
      rcases hx with rfl | hx
      · exact hg
      · exact ih _ h x hx
    · rw [if_neg hg] at h; cases h
theorem goodG_of {nodes : List Nd} {roots : List Int} (h : chkC nodes roots = []) : GoodG nodes := by
  have h1 : (chk nodes roots).1 = 0 := by
    unfold chkC chainOf at h
    by_cases h1 : (chk nodes roots).1 = 0
    · exact h1
    · rw [if_neg h1] at h; cases h
  unfold chk at h1
  by_cases a : nodes.length > 4096
  · rw [if_pos a] at h1; cases h1
  · rw [if_neg a] at h1
    by_cases b : roots.length > 4096
    · rw [if_pos b] at h1; cases h1
    · rw [if_neg b] at h1
      cases hb : badN nodes.length nodes 0 with
      | some i => rw [hb] at h1; cases h1
      | none =>
        refine ⟨by omega, fun i i0 i1 => ?_⟩
        have hi : i.toNat < nodes.length := by omega
        have e : ndT nodes i = nodes[i.toNat] := by
          have := rdT_get nodes i.toNat hi
          unfold ndT
          rw [← this]
          rw [show ((i.toNat : Nat) : Int) = i from by omega]
        rw [e]
        exact badN_none nodes 0 hb _ (List.getElem_mem hi)
/-- What Classes answers. -/
def ClsPost (nodes : List Nd) (roots : List Int) (w : World) (e : Ending) (w' : World) : Prop :=
  Hid (Below w.heap.size w w') ∧ ((chkC nodes roots = [] ∧ ∃ A L c, e = .returned (.tuple #[.slice A L.length c, .nilIface]) ∧ Hid ((Kd.int .i64).R 3 w' w.heap.size (fun _ => True) (.slice A L.length c) L ∧ Spec nodes L)) ∨
    (chkC nodes roots ≠ [] ∧ ∃ b, e = .returned (.tuple #[.slice none 0 0, .iface 70 (.pointer (some ⟨b, 0, none⟩))]) ∧ Hid (EV w' (.iface 70 (.pointer (some ⟨b, 0, none⟩))) (chkC nodes roots))))
theorem EV_cases {w : World} {v : Value} {es : Chain} (h : EV w v es) : (es = [] ∧ v = .nilIface) ∨ (es ≠ [] ∧ ∃ b, v = .iface 70 (.pointer (some ⟨b, 0, none⟩))) := by
  cases h with
  | nil => exact .inl ⟨rfl, rfl⟩
  | cons => exact .inr ⟨by simp, _, rfl⟩
set_option maxHeartbeats 4000000 in
theorem classes_any (w : World) (A B : Option Addr) (c d : Nat) (nodes : List Nd) (roots : List Int) (HN : Kd.C k35 w A nodes.length nodes) (HR : Kd.C (Kd.int .i64) w B roots.length roots) (E : TabE w) :
    Calls Tryd.prog 13 #[.agg #[.slice A nodes.length c, .slice B roots.length d]] w (ClsPost nodes roots w) := by
  have HB : Hid (Below w.heap.size w (w.alloc (.cells #[.slice A nodes.length c, .slice B roots.length d] 25))) := Lib.hid ((Below.refl _ _).alloc (Nat.le_refl _) _)
  have HNn := Lib.hid (Kd.C_below HN HB.out)
  have HRn := Lib.hid (Kd.C_below HR HB.out)
  have HE := Lib.hid (E.keep HB.out)
  have hm1 := HN.2.1
  have hm2 := HR.2.1
  have hsz : w.heap.size < (w.alloc (.cells #[.slice A nodes.length c, .slice B roots.length d] 25)).heap.size := by simp
  clear HN HR E
  go_enter Tryd.func13, Tryd.ntmps13
  have c0 : (w.alloc (.cells #[.slice A nodes.length c, .slice B roots.length d] 25)).cell? ⟨w.heap.size, 0, none⟩ = some (.slice A nodes.length c) := by simp [go_sem]
  have c1 : (w.alloc (.cells #[.slice A nodes.length c, .slice B roots.length d] 25)).cell? ⟨w.heap.size, 1, none⟩ = some (.slice B roots.length d) := by simp [go_sem]
  go_upto_region 1 with fail
  generalize hW : w.alloc (.cells #[.slice A nodes.length c, .slice B roots.length d] 25) = W at *
  clear hW
  generalize hgb : w.heap.size = gb at *
  have Hgb := Lib.hid hgb; clear hgb
  go_wp2_with fail
  refine (check_any A B c d nodes roots W HNn.out HRn.out hm1 hm2).mono ?_; rintro e w1 ⟨v1, rfl, hv1, hb1⟩
  have HB1 := Lib.hid hb1
  have d0 := (hb1.cell (p := ⟨gb, 0, none⟩) hsz).trans c0
  have d1 := (hb1.cell (p := ⟨gb, 1, none⟩) hsz).trans c1
  have HV := Lib.hid hv1
  have key := EV_cases hv1
  clear hv1 hb1 c0 c1
  rcases key with ⟨hc, rfl⟩ | ⟨hc, b, rfl⟩
  · have HCk := Lib.hid hc; clear hc
    have HN2 := Lib.hid (Kd.C_below HNn.out HB1.out)
    have HE2 := Lib.hid (HE.out.keep HB1.out)
    clear HNn HRn HE HV
    go_wp2_with fail
    refine (refined_any w1 A B c d roots.length nodes (goodG_of HCk.out) HN2.out HE2.out).mono ?_; rintro e w2 ⟨v2, L, rfl, hb2, hr2, hs2⟩
    have HB2 := Lib.hid hb2
    have HR2 := Lib.hid (And.intro hr2 hs2)
    obtain ⟨A2, c2, rfl⟩ := Kd.R_slice hr2
    clear hb2 hr2 hs2
    go_wp2_with fail
    go_ret2
    refine ⟨Lib.hid (by
      have h0 := HB.out
      rw [← Hgb.out] at h0
      exact below_next (below_next h0 HB1.out) HB2.out), .inl ⟨HCk.out, A2, L, c2, rfl, Lib.hid ⟨Kd.R_lower HR2.out.1 ?_, HR2.out.2⟩⟩⟩
    have h1 := HB.out.size
    have h2 := HB1.out.size
    omega
  · have HCk := Lib.hid hc; clear hc
    go_wp2_with fail
    go_ret2
    exact ⟨Lib.hid (by have := HB.out; rw [← Hgb.out] at this; exact below_next this HB1.out), .inr ⟨HCk.out, b, rfl, HV⟩⟩
end Go.Proofs.YtciniaabmjoiiaaDoor
set_option maxRecDepth 100000
set_option linter.unusedVariables false
set_option linter.unusedSimpArgs false
namespace Go.Proofs.YtciniaabmjoiiaaDoor
open Go.RowKit Go.Shelf Go.Maps Go.Proofs.YtciniaabmjoiiaaDoorW.PrintWords Go.Proofs.YtciniaabmjoiiaaDoorW.PrintLast Go.Proofs.YtciniaabmjoiiaaDoorW.PrintMore Go.Proofs.YtciniaabmjoiiaaDoor.PRef
def nf (i : Int) : Nd := ⟨4, ⟨#[102]⟩, 0, [i]⟩
def nv : Nd := ⟨1, ⟨#[]⟩, 0, []⟩
def liveG : List Nd := [nf 1, nf 0, nf 2, nv]
theorem live_good : chkC liveG [] = [] := by decide +kernel
theorem live_alike (i j : Int) (i0 : 0 ≤ i) (i1 : i < 3) (j0 : 0 ≤ j) (j1 : j < 3) : Alike liveG i j := by
  refine ⟨fun a b => (0 ≤ a ∧ a < 3) ∧ (0 ≤ b ∧ b < 3), ⟨⟨i0, i1⟩, ⟨j0, j1⟩⟩, fun a b hab => ?_⟩
  obtain ⟨⟨a0, a1⟩, ⟨b0, b1⟩⟩ := hab
  have key : ∀ a : Int, 0 ≤ a → a < 3 → (ndT liveG a).f0 = 4 ∧ (ndT liveG a).f1 = ⟨#[102]⟩ ∧ (ndT liveG a).f2 = 0 ∧ (argsN liveG a).length = 1 ∧ ∀ k : Nat, 0 ≤ rd (argsN liveG a) k ∧ rd (argsN liveG a) k < 3 := by
    intro a a0 a1
    have : a = 0 ∨ a = 1 ∨ a = 2 := by omega
    rcases this with rfl | rfl | rfl
    all_goals
      refine ⟨rfl, rfl, rfl, rfl, fun k => ?_⟩
      cases k with
      | zero => exact ⟨by decide, by decide⟩
      | succ k => exact ⟨by simp [rd, argsN, rd_T35, liveG, nf], by simp [rd, argsN, rd_T35, liveG, nf]⟩
  obtain ⟨p0, p1, p2, p3, p4⟩ := key a a0 a1
  obtain ⟨q0, q1, q2, q3, q4⟩ := key b b0 b1
  have hl : (liveG.length : Int) = 4 := rfl
  refine ⟨⟨a0, by rw [hl]; omega⟩, ⟨b0, by rw [hl]; omega⟩, ⟨by rw [p0, q0], by rw [p1, q1], by rw [p2, q2], by rw [p3, q3], fun h => by rw [p0] at h; cases h⟩, fun k _ => ⟨p4 k, q4 k⟩⟩
theorem live_apart : ¬ Alike liveG 2 3 := fun h => by
  have := h.out.2.2.1.1
  revert this
  decide
theorem live_spec {L : List Int} (h : Spec liveG L) : L.length = 4 ∧ rd L 0 = 0 ∧ rd L 1 = 0 ∧ rd L 2 = 0 ∧ rd L 3 = 1 := by
  have hl : liveG.length = 4 := rfl
  have e := h.len
  have h01 := (h.iff 0 1 (by omega) (by rw [hl]; omega) (by omega) (by rw [hl]; omega)).2 (live_alike 0 1 (by omega) (by omega) (by omega) (by omega))
  have h02 := (h.iff 0 2 (by omega) (by rw [hl]; omega) (by omega) (by rw [hl]; omega)).2 (live_alike 0 2 (by omega) (by omega) (by omega) (by omega))
  have h23 : ¬ rd L 2 = rd L 3 := fun h9 => live_apart ((h.iff 2 3 (by omega) (by rw [hl]; omega) (by omega) (by rw [hl]; omega)).1 h9)
  obtain ⟨m, m0, hm⟩ := h.num
  have q0 := hm 0 (by rw [hl]; omega)
  have q1 := hm 1 (by rw [hl]; omega)
  have q2 := hm 2 (by rw [hl]; omega)
  have q3 := hm 3 (by rw [hl]; omega)
  simp only [Int.natCast_zero, Int.natCast_one, Nat.reduceAdd, m0] at q0 q1 q2 q3
  have e2 : ((2 : Nat) : Int) = 2 := rfl
  have e3 : ((3 : Nat) : Int) = 3 := rfl
  rw [e2] at q2
  rw [e3] at q3
  refine ⟨by rw [e, hl], ?_⟩
  omega
theorem small_some (nodes : List Nd) (roots : List Int) (m : Int) (hN : nodes.length ≤ 9223372036854775807) : ∃ k b, tendrilhand_Small.f k nodes roots m = some b := by
  have key : ∀ (d i k : Nat), i + d = nodes.length → nodes.length ≤ 9223372036854775807 → d < k → ∃ b, tendrilhand_Small.l0 k nodes (nodes.length : Int) (i : Int) = some b := by
    intro d
    induction d with
    | zero =>
      intro i k hi hN hk
      obtain ⟨k, rfl⟩ : ∃ m, k = m + 1 := ⟨k - 1, by omega⟩
      simp only [tendrilhand_Small.l0]
      rw [if_neg (by omega)]
      exact ⟨_, rfl⟩
    | succ d ih =>
      intro i k hi hN hk
      obtain ⟨k, rfl⟩ : ∃ m, k = m + 1 := ⟨k - 1, by omega⟩
      simp only [tendrilhand_Small.l0]
      rw [if_pos (by omega), if_pos (by omega), if_pos (by omega)]
      split
      · exact ⟨_, rfl⟩
      · have e : wrap64 ((i : Int) + 1) = ((i + 1 : Nat) : Int) := by rw [w64 (by omega) (by omega)]; omega
        rw [e]
        exact ih (i + 1) k (by omega) hN (by omega)
  refine ⟨nodes.length + 3, ?_⟩
  unfold tendrilhand_Small.f
  have hj : ∀ b, ∃ r, tendrilhand_Small.j0 (nodes.length + 3) b nodes roots = some r := fun b => by
    simp only [tendrilhand_Small.j0]
    split
    · exact ⟨_, rfl⟩
    · exact key nodes.length 0 (nodes.length + 2) (by omega) hN (by omega)
  split
  · exact hj _
  · exact hj _
theorem keep_blk {w : World} {b : Nat} {o : Obj} (h : w.heap[b]? = some o) (o2 : Obj) : (w.alloc o2).heap[b]? = some o := (((Below.refl w.heap.size w).alloc (Nat.le_refl _) o2).block b (blk_lt h)).trans h
theorem row_cell {w : World} {g : Nat} {cs : Array Value} {t : TypeId} (h : w.heap[g]? = some (.cells cs t (0, 0))) (i : Nat) {u : Value} (hu : cs[i]? = some u) : w.cell? ((⟨g, 0, none⟩ : Addr).add i) = some u := by
  rw [add_at, Nat.zero_add]; exact (blk_cell h i).trans hu
def lrow (b : Nat) : Array Value := #[.int .i64 4, .string ⟨#[102]⟩, .int .i64 0, .slice (some ⟨b, 0, none⟩) 1 1, .int .i64 4, .string ⟨#[102]⟩, .int .i64 0, .slice (some ⟨b + 1, 0, none⟩) 1 1, .int .i64 4, .string ⟨#[102]⟩, .int .i64 0, .slice (some ⟨b + 1 + 1, 0, none⟩) 1 1, .int .i64 1, .string ⟨#[]⟩, .int .i64 0, .slice none 0 0]
def liveW (w : World) : World := ((((w.alloc (.cells #[.int .i64 1] 3)).alloc (.cells #[.int .i64 0] 3)).alloc (.cells #[.int .i64 2] 3)).alloc (.cells (lrow w.heap.size) 35)).alloc (.cells #[.slice (some ⟨w.heap.size + 1 + 1 + 1, 0, none⟩) 4 4, .slice none 0 0] 25)
theorem one_C {w : World} {b : Nat} {x : Int} (h : w.heap[b]? = some (.cells #[.int .i64 x] 3 (0, 0))) : (Kd.int .i64).C w (some ⟨b, 0, none⟩) 1 [x] := by
  refine ⟨rfl, by decide, fun _ => ⟨_, rfl, fun j p hj => ?_⟩⟩
  cases j with
  | zero =>
    simp at hj
    subst hj
    refine ⟨[.int .i64 x], rfl, rfl, fun i u hu => ?_⟩
    cases i with
    | zero => exact row_cell h 0 (by simpa using hu)
    | succ i => simp at hu
  | succ j => simp at hj
theorem live_C (w : World) : Kd.C k35 (liveW w) (some ⟨w.heap.size + 1 + 1 + 1, 0, none⟩) liveG.length liveG ∧ Below w.heap.size w (liveW w) ∧ (liveW w).cell? ⟨w.heap.size + 1 + 1 + 1 + 1, 0, none⟩ = some (.slice (some ⟨w.heap.size + 1 + 1 + 1, 0, none⟩) 4 4) ∧ (liveW w).cell? ⟨w.heap.size + 1 + 1 + 1 + 1, 1, none⟩ = some (.slice none 0 0) := by
  have s1 : (w.alloc (.cells #[.int .i64 1] 3)).heap.size = w.heap.size + 1 := by simp
  have s2 : ((w.alloc (.cells #[.int .i64 1] 3)).alloc (.cells #[.int .i64 0] 3)).heap.size = w.heap.size + 1 + 1 := by simp
  have s3 : (((w.alloc (.cells #[.int .i64 1] 3)).alloc (.cells #[.int .i64 0] 3)).alloc (.cells #[.int .i64 2] 3)).heap.size = w.heap.size + 1 + 1 + 1 := by simp
  have s4 : ((((w.alloc (.cells #[.int .i64 1] 3)).alloc (.cells #[.int .i64 0] 3)).alloc (.cells #[.int .i64 2] 3)).alloc (.cells (lrow w.heap.size) 35)).heap.size = w.heap.size + 1 + 1 + 1 + 1 := by simp
  have h1 : (liveW w).heap[w.heap.size]? = some (.cells #[.int .i64 1] 3 (0, 0)) := keep_blk (keep_blk (keep_blk (keep_blk (blk_new _ _) _) _) _) _
  have h2 : (liveW w).heap[w.heap.size + 1]? = some (.cells #[.int .i64 0] 3 (0, 0)) := by
    have := blk_new (w.alloc (.cells #[.int .i64 1] 3)) (.cells #[.int .i64 0] 3)
    rw [s1] at this
    exact keep_blk (keep_blk (keep_blk this _) _) _
  have h3 : (liveW w).heap[w.heap.size + 1 + 1]? = some (.cells #[.int .i64 2] 3 (0, 0)) := by
    have := blk_new ((w.alloc (.cells #[.int .i64 1] 3)).alloc (.cells #[.int .i64 0] 3)) (.cells #[.int .i64 2] 3)
    rw [s2] at this
    exact keep_blk (keep_blk this _) _
  have h4 : (liveW w).heap[w.heap.size + 1 + 1 + 1]? = some (.cells (lrow w.heap.size) 35 (0, 0)) := by
    have := blk_new (((w.alloc (.cells #[.int .i64 1] 3)).alloc (.cells #[.int .i64 0] 3)).alloc (.cells #[.int .i64 2] 3)) (.cells (lrow w.heap.size) 35)
    rw [s3] at this
    exact keep_blk this _
  have h5 : (liveW w).heap[w.heap.size + 1 + 1 + 1 + 1]? = some (.cells #[.slice (some ⟨w.heap.size + 1 + 1 + 1, 0, none⟩) 4 4, .slice none 0 0] 25 (0, 0)) := by
    have := blk_new ((((w.alloc (.cells #[.int .i64 1] 3)).alloc (.cells #[.int .i64 0] 3)).alloc (.cells #[.int .i64 2] 3)).alloc (.cells (lrow w.heap.size) 35)) (.cells #[.slice (some ⟨w.heap.size + 1 + 1 + 1, 0, none⟩) 4 4, .slice none 0 0] 25)
    rw [s4] at this
    exact this
  refine ⟨?_, ((((Below.refl _ _).alloc (Nat.le_refl _) _).alloc (by simp) _).alloc (by simp; omega) _).alloc (by simp; omega) _ |>.alloc (by simp; omega) _, blk_cell h5 0, blk_cell h5 1⟩
  generalize liveW w = W at *
  have K1 : ∀ (b : Nat) (x : Int), W.heap[b]? = some (.cells #[.int .i64 x] 3 (0, 0)) → k35.K W (nf x) [.int .i64 4, .string ⟨#[102]⟩, .int .i64 0, .slice (some ⟨b, 0, none⟩) 1 1] := fun b x h =>
    ⟨[.int .i64 4], [.string ⟨#[102]⟩, .int .i64 0, .slice (some ⟨b, 0, none⟩) 1 1], rfl, rfl, ⟨[.string ⟨#[102]⟩], [.int .i64 0, .slice (some ⟨b, 0, none⟩) 1 1], rfl, rfl, ⟨[.int .i64 0], [.slice (some ⟨b, 0, none⟩) 1 1], rfl, rfl, ⟨some ⟨b, 0, none⟩, 1, rfl, Nat.le_refl _, one_C h⟩⟩⟩⟩
  have K2 : k35.K W nv [.int .i64 1, .string ⟨#[]⟩, .int .i64 0, .slice none 0 0] :=
    ⟨[.int .i64 1], [.string ⟨#[]⟩, .int .i64 0, .slice none 0 0], rfl, rfl, ⟨[.string ⟨#[]⟩], [.int .i64 0, .slice none 0 0], rfl, rfl, ⟨[.int .i64 0], [.slice none 0 0], rfl, rfl, ⟨none, 0, rfl, Nat.le_refl _, Kd.C_nil _ _⟩⟩⟩⟩
  have cell : ∀ (j i : Nat) (u : Value), (lrow w.heap.size)[j * 4 + i]? = some u → W.cell? ((⟨w.heap.size + 1 + 1 + 1, 0, none⟩ : Addr).add (j * 4 + i)) = some u := fun j i u hu => row_cell h4 _ hu
  refine ⟨rfl, by decide, fun _ => ⟨_, rfl, fun j p hj => ?_⟩⟩
  have get4 : ∀ (a b c d u : Value) (i : Nat), ([a, b, c, d] : List Value)[i]? = some u → (i = 0 ∧ u = a) ∨ (i = 1 ∧ u = b) ∨ (i = 2 ∧ u = c) ∨ (i = 3 ∧ u = d) := by
    intro a b c d u i h
    match i with
    | 0 => simp at h; exact .inl ⟨rfl, h.symm⟩
    | 1 => simp at h; exact .inr (.inl ⟨rfl, h.symm⟩)
    | 2 => simp at h; exact .inr (.inr (.inl ⟨rfl, h.symm⟩))
    | 3 => simp at h; exact .inr (.inr (.inr ⟨rfl, h.symm⟩))
    | i + 4 => simp at h
  have hjl : j < 4 := (List.getElem?_eq_some_iff.1 hj).1
  have hj4 : j = 0 ∨ j = 1 ∨ j = 2 ∨ j = 3 := by omega
  rcases hj4 with rfl | rfl | rfl | rfl
  · have e : p = nf 1 := by simpa [liveG] using hj.symm
    subst e
    refine ⟨_, rfl, K1 _ _ h1, fun i u hu => ?_⟩
    rcases get4 _ _ _ _ _ _ hu with ⟨rfl, rfl⟩ | ⟨rfl, rfl⟩ | ⟨rfl, rfl⟩ | ⟨rfl, rfl⟩ <;> exact cell 0 _ _ rfl
  · have e : p = nf 0 := by simpa [liveG] using hj.symm
    subst e
    refine ⟨_, rfl, K1 _ _ h2, fun i u hu => ?_⟩
    rcases get4 _ _ _ _ _ _ hu with ⟨rfl, rfl⟩ | ⟨rfl, rfl⟩ | ⟨rfl, rfl⟩ | ⟨rfl, rfl⟩ <;> exact cell 1 _ _ rfl
  · have e : p = nf 2 := by simpa [liveG] using hj.symm
    subst e
    refine ⟨_, rfl, K1 _ _ h3, fun i u hu => ?_⟩
    rcases get4 _ _ _ _ _ _ hu with ⟨rfl, rfl⟩ | ⟨rfl, rfl⟩ | ⟨rfl, rfl⟩ | ⟨rfl, rfl⟩ <;> exact cell 2 _ _ rfl
  · have e : p = nv := by simpa [liveG] using hj.symm
    subst e
    refine ⟨_, rfl, K2, fun i u hu => ?_⟩
    rcases get4 _ _ _ _ _ _ hu with ⟨rfl, rfl⟩ | ⟨rfl, rfl⟩ | ⟨rfl, rfl⟩ | ⟨rfl, rfl⟩ <;> exact cell 3 _ _ rfl
set_option maxHeartbeats 4000000 in
theorem lives_any (w : World) (E : TabE w) : Calls Tryd.prog 11 #[] w fun e w' => e = .returned (.bool true) ∧ Hid (Below w.heap.size w w') := by
  obtain ⟨HN, hb, c0, c1⟩ := live_C w
  have HNn := Lib.hid HN
  have HB := Lib.hid hb
  have HE := Lib.hid (E.keep hb); clear E HN hb
  go_enter Tryd.func11, Tryd.ntmps11
  go_upto_region 2 with fail
  change Code.wp _ _ _ _ (liveW w)
  generalize liveW w = W at *
  generalize hgb : w.heap.size = gb at *
  have Hgb := Lib.hid hgb; clear hgb
  go_wp2_with fail
  refine (classes_any W (some ⟨gb + 1 + 1 + 1, 0, none⟩) none 4 0 liveG [] HNn.out (Kd.C_nil _ _) HE.out).mono ?_; rintro e w2 ⟨hb2, h2⟩
  rcases h2 with ⟨_, A2, L, c2, rfl, HR2⟩ | ⟨hc, _⟩
  · obtain ⟨l1, l2, l3, l4, l5⟩ := live_spec HR2.out.2
    have hr := HR2.out.1
    obtain ⟨g2, cap2, e2, _, _, _, _⟩ := Kd.R_form hr (by omega)
    injection e2 with e3 _ e4
    subst e3
    have x0 := (Kd.R_celln 0 hr 0 (by omega) (by omega)).1
    have x1 := (Kd.R_celln 0 hr 1 (by omega) (by omega)).1
    have x2 := (Kd.R_celln 0 hr 2 (by omega) (by omega)).1
    have x3 := (Kd.R_celln 0 hr 3 (by omega) (by omega)).1
    rw [show rdOf 0 L 0 = 0 from l2] at x0
    rw [show rdOf 0 L 1 = 0 from l3] at x1
    rw [show rdOf 0 L 2 = 0 from l4] at x2
    rw [show rdOf 0 L 3 = 1 from l5] at x3
    simp only [Int.toNat_zero, Int.toNat_one, show (2 : Int).toNat = 2 from rfl, show (3 : Int).toNat = 3 from rfl] at x0 x1 x2 x3
    have HBB : Hid (Below w.heap.size w w2) := Lib.hid (by
      have h0 := HB.out
      rw [← Hgb.out] at h0
      exact below_next h0 hb2.out)
    clear hr HR2 l2 l3 l4 l5 e4
    rw [l1]
    clear l1
    go_wp2_with fail
    all_goals go_ret
    all_goals exact ⟨rfl, HBB⟩
  · exact absurd live_good hc
end Go.Proofs.YtciniaabmjoiiaaDoor
