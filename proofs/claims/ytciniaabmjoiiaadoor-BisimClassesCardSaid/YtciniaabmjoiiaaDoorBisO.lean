import Derived.Test.YtciniaabmjoiiaaDoorGraphP
import Derived.Lib.SmallJoins
import Derived.Deep.Slices
import Derived.OpenShut
/- A graph that came in, read as the walks want it. -/
set_option maxRecDepth 100000
set_option linter.unusedVariables false
set_option linter.unusedSimpArgs false
namespace Go.Proofs.YtciniaabmjoiiaaDoor
open Go.RowKit Go.ChangeShapes Go.WideShapes Go.Proofs.YtciniaabmjoiiaaDoorW.PrintWords Go.Proofs.YtciniaabmjoiiaaDoorW.PrintLast Go.Proofs.YtciniaabmjoiiaaDoorW.PrintMore Go.Proofs.YtciniaabmjoiiaaDoor.PRef
def wfI (x : Int) : Prop := -9223372036854775808 ≤ x ∧ x ≤ 9223372036854775807
theorem wfI_of {x : Int} (h : (Lit.int .i64 x).wf = true) : wfI x := bounds_i64 h
section
variable {H : Type} {enc : TypeId × Value → H} {w : World} {base : Nat} {held : Bool}
theorem ints_read {fuel : Nat} {v : Value} {x : DataW H × List MemPlace} (h : DataW.trod enc Tryd.prog w base (fun _ => true) held fuel 23 [v] = some x) : ∃ (A : Option Addr) (c : Nat) (l : List Int), v = .slice A l.length c ∧ l.length ≤ c ∧ (Kd.int .i64).C w A l.length l ∧ ∀ n ∈ l, wfI n := by
  rcases open_ints Tryd.underlying23 Tryd.underlying3 (by kernel_rfl) h with ⟨hcs, _⟩ | ⟨a, len, cap, zs, hcs, _, hl, hm, hz, _, hcell, hwf⟩
  · injection hcs with hcs _
    subst hcs
    exact ⟨none, 0, [], rfl, Nat.le_refl _, Kd.C_nil _ _, by simp⟩
  · injection hcs with hcs _
    subst hcs
    simp only [if_true] at hz
    have hle : len ≤ zs.length := by omega
    have e : (zs.take len).length = len := by rw [List.length_take]; omega
    refine ⟨some a, cap, zs.take len, by rw [e], by omega, ?_, fun n hn => wfI_of (hwf n (List.mem_of_mem_take hn))⟩
    refine ⟨rfl, by rw [e]; unfold maxLen at hm; omega, fun _ => ⟨a, rfl, fun j p hj => ⟨[.int .i64 p], rfl, rfl, fun i u hu => ?_⟩⟩⟩
    obtain ⟨hjl, hp⟩ := List.getElem?_eq_some_iff.1 hj
    rw [e] at hjl
    have h1 := hcell j (by omega)
    cases i with
    | zero =>
      simp at hu
      subst hu
      have e2 : zs.getD j 0 = p := by
        rw [← hp, List.getElem_take, List.getD_eq_getElem?_getD, List.getElem?_eq_getElem (by omega)]; rfl
      rw [e2] at h1
      show w.cell? (a.add (j * 1 + 0)) = _
      simpa using h1
    | succ i => simp at hu
theorem node_read {fuel : Nat} {cs : List Value} {x : DataW H × List MemPlace} (h : DataW.trod enc Tryd.prog w base (fun _ => true) held fuel 35 cs = some x) : ∃ nd : Nd, k35.K w nd cs ∧ (wfI nd.f0 ∧ wfI nd.f2) ∧ nd.f1.size ≤ maxLen := by
  obtain ⟨y0, y1, y2, y3, n, _, hl, h0, h1, h2, h3⟩ := Joins.trod_struct4 Tryd.underlying35 h
  have e0 : Tryd.prog.cellsOf 35 = 4 := by kernel_rfl
  have c0 : Tryd.prog.cellsOf 3 = 1 := by kernel_rfl
  have c1 : Tryd.prog.cellsOf 9 = 1 := by kernel_rfl
  have c2 : Tryd.prog.cellsOf 23 = 1 := by kernel_rfl
  rw [e0] at hl
  match cs, hl with
  | [a0, a1, a2, a3], _ =>
    simp only [c0, c1, c2] at h0 h1 h2 h3
    obtain ⟨n0, r0, _, w0⟩ := DataW.trod_int Tryd.underlying3 h0
    obtain ⟨s1, r1, _, w1⟩ := DataW.trod_string Tryd.underlying9 h1
    obtain ⟨n2, r2, _, w2⟩ := DataW.trod_int Tryd.underlying3 h2
    simp at r0 r1 r2
    subst r0 r1 r2
    obtain ⟨A3, c3, l3, r3, q3, g3, _⟩ := ints_read (v := a3) (by simpa using h3)
    subst r3
    exact ⟨⟨n0, s1, n2, l3⟩, ⟨[.int .i64 n0], [.string s1, .int .i64 n2, .slice A3 l3.length c3], rfl, rfl, ⟨[.string s1], [.int .i64 n2, .slice A3 l3.length c3], rfl, rfl, ⟨[.int .i64 n2], [.slice A3 l3.length c3], rfl, rfl, ⟨A3, c3, rfl, q3, g3⟩⟩⟩⟩, ⟨wfI_of w0, wfI_of w2⟩, w1⟩
theorem nodes_read {fuel : Nat} {v : Value} {x : DataW H × List MemPlace} (h : DataW.trod enc Tryd.prog w base (fun _ => true) held fuel 22 [v] = some x) : ∃ (A : Option Addr) (c : Nat) (l : List Nd), v = .slice A l.length c ∧ l.length ≤ c ∧ Kd.C k35 w A l.length l ∧ ∀ nd ∈ l, (wfI nd.f0 ∧ wfI nd.f2) ∧ nd.f1.size ≤ maxLen := by
  rcases Deep.open_slice Tryd.underlying22 h with ⟨hcs, _⟩ | ⟨a, len, cap, m, n, D, Pl, hcs, _, hl, hm, hmm, _, hx⟩
  · injection hcs with hcs _
    subst hcs
    exact ⟨none, 0, [], rfl, Nat.le_refl _, Kd.C_nil _ _, by simp⟩
  · injection hcs with hcs _
    subst hcs
    simp only [if_true] at hmm
    have e0 : Tryd.prog.cellsOf 35 = 4 := by kernel_rfl
    rw [e0] at hx
    have hex : ∀ i, i < len → ∃ nd : Nd, ∃ cs', w.cells? base (a.add (i * 4)) 4 = some cs' ∧ k35.K w nd cs' ∧ (wfI nd.f0 ∧ wfI nd.f2) ∧ nd.f1.size ≤ maxLen := fun i hi => by
      obtain ⟨cs', h1, h2⟩ := hx i (by omega)
      obtain ⟨nd, k1, k2⟩ := node_read h2
      exact ⟨nd, cs', h1, k1, k2⟩
    haveI : Inhabited Nd := ⟨z35⟩
    obtain ⟨f, hf⟩ := Deep.choose_lt hex
    have e : ((List.range len).map f).length = len := by simp
    refine ⟨some a, cap, (List.range len).map f, by rw [e], by rw [e]; exact hl, ?_, fun nd hnd => ?_⟩
    · refine ⟨rfl, by rw [e]; unfold maxLen at hm; omega, fun _ => ⟨a, rfl, fun j p hj => ?_⟩⟩
      obtain ⟨hjl, hp⟩ := List.getElem?_eq_some_iff.1 hj
      rw [e] at hjl
      simp at hp
      subst hp
      obtain ⟨cs', h1, h2, _⟩ := hf j hjl
      refine ⟨cs', k35.K_len h2, h2, fun i u hu => ?_⟩
      obtain ⟨_, hlen, hcell⟩ := World.cells?_some h1
      have hil : i < cs'.length := (List.getElem?_eq_some_iff.1 hu).1
      have h3 := hcell i (by omega)
      show w.cell? (a.add (j * 4 + i)) = _
      rw [← Deep.add_add, h3, hu]
    · simp at hnd
      obtain ⟨i, hi, rfl⟩ := hnd
      obtain ⟨_, _, _, h3⟩ := hf i hi
      exact h3
/-- What is known of a graph that came in. -/
structure GIn (w : World) (v : Value) (A B : Option Addr) (c d : Nat) (nodes : List Nd) (roots : List Int) : Prop where
  v : v = .agg #[.slice A nodes.length c, .slice B roots.length d]
  n : Kd.C k35 w A nodes.length nodes
  r : (Kd.int .i64).C w B roots.length roots
  nc : nodes.length ≤ c
  rc : roots.length ≤ d
  wf : ∀ nd ∈ nodes, (wfI nd.f0 ∧ wfI nd.f2) ∧ nd.f1.size ≤ maxLen
  wr : ∀ x ∈ roots, wfI x
theorem graph_read {r : Reach} {b0 : Nat} {v : Value} {d : DataW H} {p : List MemPlace} (hv : Value.okWide Tryd.prog w r b0 25 v) (h : DataW.Trod enc Tryd.prog w base (fun _ => true) held 25 v d p) : ∃ A B c c2 nodes roots, GIn w v A B c c2 nodes roots := by
  obtain ⟨v0, v1, y0, y1, n, rfl, _, _, h0, h1⟩ := Joins.open_agg2 Tryd.underlying25 (by kernel_rfl) (by kernel_rfl) hv h
  obtain ⟨A, c, nodes, rfl, qn, hn, hw⟩ := nodes_read h0
  obtain ⟨B, c2, roots, rfl, qr, hr, hwr⟩ := ints_read h1
  exact ⟨A, B, c, c2, nodes, roots, rfl, hn, hr, qn, qr, hw, hwr⟩
end
end Go.Proofs.YtciniaabmjoiiaaDoor
