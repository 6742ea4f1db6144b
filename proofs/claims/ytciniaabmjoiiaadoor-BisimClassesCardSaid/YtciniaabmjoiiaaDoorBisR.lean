import Derived.Test.YtciniaabmjoiiaaDoorBisM
import Derived.Maps.RangeWalk
import Derived.Deep.CutRange
import Derived.Deep.RegionWith
/- The walk of one round. -/
set_option linter.unusedVariables false
set_option linter.unusedSimpArgs false
namespace Go.Proofs.YtciniaabmjoiiaaDoor
open Go.RowKit Go.Shelf Go.Maps Go.Proofs.YtciniaabmjoiiaaDoorW.PrintWords Go.Proofs.YtciniaabmjoiiaaDoorW.PrintLast Go.Proofs.YtciniaabmjoiiaaDoorW.PrintMore Go.Proofs.YtciniaabmjoiiaaDoor.PRef
theorem foldl_take {α β : Type} (f : β → α → β) (z : β) (l : List α) (k : Nat) (h : k < l.length) : (l.take (k + 1)).foldl f z = f ((l.take k).foldl f z) l[k] := by
  rw [List.take_succ_eq_append_getElem h, List.foldl_append]; rfl
theorem wfi {x : Int} (h0 : -9223372036854775808 ≤ x) (h1 : x ≤ 9223372036854775807) : (Lit.int .i64 x).wf = true := WalkArith.wf_i64 ⟨h0, h1⟩
section
variable {w : World} {b n m : Nat}
theorem ii_look {f : Int → Option Int} (h : MapF LII w b n m f) (x : Int) (hx : (Lit.int .i64 x).wf = true) : (Instr.lookup 83 (.map (some b)) (.int .i64 x) true).run Tryd.prog w = .ok (.tuple #[.int .i64 ((f x).getD 0), .bool (f x).isSome]) w := h.look hx
theorem ii_look1 {f : Int → Option Int} (h : MapF LII w b n m f) (x : Int) (hx : (Lit.int .i64 x).wf = true) : (Instr.lookup 83 (.map (some b)) (.int .i64 x) false).run Tryd.prog w = .ok (.int .i64 ((f x).getD 0)) w := h.look1 hx
theorem si_look {f : ByteArray → Option Int} (h : MapF LSI w b n m f) (x : ByteArray) (hx : x.size ≤ maxLen) : (Instr.lookup 102 (.map (some b)) (.string x) true).run Tryd.prog w = .ok (.tuple #[.int .i64 ((f x).getD 0), .bool (f x).isSome]) w := h.look hx
theorem is_look {f : Int → Option ByteArray} (h : MapF LIS w b n m f) (x : Int) (hx : (Lit.int .i64 x).wf = true) : (Instr.lookup 104 (.map (some b)) (.int .i64 x) true).run Tryd.prog w = .ok (.tuple #[.string ((f x).getD ⟨#[]⟩), .bool (f x).isSome]) w := h.look hx
end
/-- What a round asks of the numbers. -/
structure ROk (nodes : List Nd) (cl sz look : List Int) (ab : List (List Int)) : Prop where
  n4 : nodes.length ≤ 4096
  lc : cl.length = nodes.length
  la : ab.length = nodes.length
  ll : look.length ≤ 4096
  ls : sz.length ≤ 8192
  lk : ∀ i, i < look.length → 0 ≤ rd look i ∧ rd look i < nodes.length
  cr : ∀ i, 0 ≤ rd cl i ∧ rd cl i < sz.length
  sr : ∀ i, -8192 ≤ rd sz i ∧ rd sz i ≤ 8192
  ar : ∀ n : Nat, n < nodes.length → (rd_T35 nodes n).f3.length ≤ 8 ∧ ∀ j : Nat, j < (rd_T35 nodes n).f3.length → 0 ≤ rd (rd_T35 nodes n).f3 j ∧ rd (rd_T35 nodes n).f3 j < nodes.length
  br : ∀ n : Nat, n < nodes.length → (ab.getD n []).length ≤ 40000 ∧ ∀ a ∈ ab.getD n [], 0 ≤ a ∧ a < nodes.length
/-- The map of how many are looked at, after k of them. -/
def M1 (w : World) (b k : Nat) (cl look : List Int) : Prop := (∃ m, MapF LII w b k m ((look.take k).foldl (looked1 cl) (fun _ => none))) ∧ ∀ x, 0 ≤ (((look.take k).foldl (looked1 cl) (fun _ => none)) x).getD 0 ∧ (((look.take k).foldl (looked1 cl) (fun _ => none)) x).getD 0 ≤ k
theorem M1.below {w w1 : World} {b k : Nat} {cl look : List Int} (h : M1 w b k cl look) (hb : Below w.heap.size w w1) : M1 w1 b k cl look := by
  obtain ⟨⟨m, h⟩, h2⟩ := h; exact ⟨⟨m, h.below hb⟩, h2⟩
theorem M1_step {cl look : List Int} {k : Nat} (hlt : k < look.length) (n : Int) (hn : rd look k = n) (h2 : ∀ x, 0 ≤ (((look.take k).foldl (looked1 cl) (fun _ => none)) x).getD 0 ∧ (((look.take k).foldl (looked1 cl) (fun _ => none)) x).getD 0 ≤ k) :
    (look.take (k + 1)).foldl (looked1 cl) (fun _ => none) = updF ((look.take k).foldl (looked1 cl) (fun _ => none)) (rd cl n) ((((look.take k).foldl (looked1 cl) (fun _ => none)) (rd cl n)).getD 0 + 1) ∧
    ∀ x, 0 ≤ (((look.take (k + 1)).foldl (looked1 cl) (fun _ => none)) x).getD 0 ∧ (((look.take (k + 1)).foldl (looked1 cl) (fun _ => none)) x).getD 0 ≤ ((k + 1 : Nat) : Int) := by
  have hs := foldl_take (looked1 cl) (fun _ => none) look k hlt
  rw [← rd_get look k hlt, hn] at hs
  refine ⟨hs, fun x => ?_⟩
  rw [hs]
  generalize (look.take k).foldl (looked1 cl) (fun _ => none) = g at *
  unfold looked1 updF
  by_cases e : x = rd cl n
  · rw [if_pos e]; have := h2 (rd cl n); simp only [Option.getD_some]; omega
  · rw [if_neg e]; have := h2 x; omega
theorem MapF.same {K V : Type} {L : KVL K V} {w w1 : World} {b n m : Nat} {f : K → Option V} (h : MapF L w b n m f) (hb : w1.heap[b]? = w.heap[b]?) : MapF L w1 b n m f := by
  obtain ⟨D, ⟨es, ck, h1, h2⟩, hs, hf⟩ := h
  exact ⟨D, ⟨es, ck, hb.trans h1, h2⟩, hs, hf⟩
theorem MapF.upto {K V : Type} {L : KVL K V} {w : World} {b n n' m : Nat} {f : K → Option V} (h : MapF L w b n m f) (hn : n ≤ n') : MapF L w b n' m f := by
  obtain ⟨D, h0, hs, hf⟩ := h
  exact ⟨D, h0.mono hn, hs, hf⟩
theorem al3 (w : World) : Below w.heap.size w (((w.alloc (.map #[] 0)).alloc (.map #[] 0)).alloc (.map #[] 0)) := (((Below.refl _ _).alloc (Nat.le_refl _) _).alloc (by simp) _).alloc (by simp; omega) _
/-- The four maps of the second loop. -/
structure Mm (w : World) (b1 b2 b3 b4 K k : Nat) (lk : Int → Option Int) (s : S2) : Prop where
  m1 : ∃ m, MapF LII w b1 K m lk
  m2 : ∃ m, MapF LIS w b2 k m s.keeps
  m3 : ∃ m, MapF LSI w b3 k m s.known
  m4 : ∃ m, MapF LII w b4 k m s.fresh
theorem Mm.same {w w1 : World} {b1 b2 b3 b4 K k : Nat} {lk : Int → Option Int} {s : S2} (h : Mm w b1 b2 b3 b4 K k lk s) (hb : ∀ (b : Nat) (es : Array MapEntry) (ck : Nat), w.heap[b]? = some (Obj.map es ck) → w1.heap[b]? = w.heap[b]?) : Mm w1 b1 b2 b3 b4 K k lk s := by
  obtain ⟨⟨n1, h1⟩, ⟨n2, h2⟩, ⟨n3, h3⟩, ⟨n4, h4⟩⟩ := h
  have key : ∀ {K V : Type} {L : KVL K V} {b n m : Nat} {f : K → Option V}, MapF L w b n m f → MapF L w1 b n m f := fun h => by
    obtain ⟨es, ck, hh⟩ := h.map_block
    exact h.same (hb _ _ _ hh)
  exact ⟨⟨n1, key h1⟩, ⟨n2, key h2⟩, ⟨n3, key h3⟩, ⟨n4, key h4⟩⟩
theorem Mm.new {w : World} {b1 K : Nat} {lk : Int → Option Int} {sz : List Int} (h : ∃ m, MapF LII w b1 K m lk) : Mm (((w.alloc (.map #[] 0)).alloc (.map #[] 0)).alloc (.map #[] 0)) b1 w.heap.size (w.heap.size + 1) (w.heap.size + 1 + 1) K 0 lk (s20 sz) := by
  obtain ⟨m, h⟩ := h
  have h3 := MapF.made LSI (w.alloc (.map #[] 0))
  have h4 := MapF.made LII ((w.alloc (.map #[] 0)).alloc (.map #[] 0))
  rw [show (w.alloc (.map #[] 0)).heap.size = w.heap.size + 1 from by simp] at h3
  rw [show ((w.alloc (.map #[] 0)).alloc (.map #[] 0)).heap.size = w.heap.size + 1 + 1 from by simp] at h4
  exact ⟨⟨m, h.below (al3 w)⟩, ⟨0, ((MapF.made LIS w).below ((Below.refl _ _).alloc (Nat.le_refl _) _)).below ((Below.refl _ _).alloc (Nat.le_refl _) _)⟩, ⟨0, h3.below ((Below.refl _ _).alloc (Nat.le_refl _) _)⟩, ⟨0, h4⟩⟩
theorem Mm.below {w w1 : World} {b1 b2 b3 b4 K k : Nat} {lk : Int → Option Int} {s : S2} (h : Mm w b1 b2 b3 b4 K k lk s) (hb : Below w.heap.size w w1) : Mm w1 b1 b2 b3 b4 K k lk s := h.same (fun b es ck hh => hb.block b (blk_lt hh))
theorem Mm.up {w : World} {b1 b2 b3 b4 K k k' : Nat} {lk : Int → Option Int} {s : S2} (h : Mm w b1 b2 b3 b4 K k lk s) (hk : k ≤ k') : Mm w b1 b2 b3 b4 K k' lk s := by
  obtain ⟨h1, ⟨n2, h2⟩, ⟨n3, h3⟩, ⟨n4, h4⟩⟩ := h
  exact ⟨h1, ⟨n2, h2.upto hk⟩, ⟨n3, h3.upto hk⟩, ⟨n4, h4.upto hk⟩⟩
/-- What holds of the second loop's state. -/
structure I2 (sz : List Int) (k : Nat) (s : S2) : Prop where
  szl : s.sz.length ≤ 8192 + k
  sz0 : sz.length ≤ s.sz.length
  kn : ∀ key v, s.known key = some v → 0 ≤ v ∧ v < s.sz.length
  fr : ∀ n v, s.fresh n = some v → 0 ≤ v ∧ v < s.sz.length
  sr : ∀ i, -8192 ≤ rd s.sz i ∧ rd s.sz i ≤ 8192
theorem rd_snoc0 (l : List Int) (i : Int) : rd (l ++ [0]) i = rd l i := by
  unfold rd
  simp only [List.getD_eq_getElem?_getD]
  by_cases h : i.toNat < l.length
  · rw [List.getElem?_append_left h]
  · rw [List.getElem?_append_right (by omega), List.getElem?_eq_none (by omega : l.length ≤ i.toNat)]
    cases hi : i.toNat - l.length with
    | zero => rfl
    | succ j => rfl
theorem I2.assign {sz : List Int} {k : Nat} {s : S2} (h : I2 sz k s) (n : Int) (key : ByteArray) : I2 sz (k + 1) (s.assign n key) := by
  unfold S2.assign
  split
  · rename_i u hu
    refine ⟨by have := h.szl; show s.sz.length ≤ _; omega, h.sz0, h.kn, fun x v hv => ?_, h.sr⟩
    simp only [updF] at hv
    split at hv
    · cases hv; exact h.kn _ _ hu
    · exact h.fr _ _ hv
  · have hl : (s.sz ++ [0]).length = s.sz.length + 1 := by simp
    refine ⟨by have := h.szl; show (s.sz ++ [0]).length ≤ _; omega, by have := h.sz0; show sz.length ≤ (s.sz ++ [0]).length; omega, fun x v hv => ?_, fun x v hv => ?_, fun i => ?_⟩
    · show 0 ≤ v ∧ v < ((s.sz ++ [0]).length : Int)
      simp only [updF] at hv
      split at hv
      · cases hv; omega
      · have := h.kn _ _ hv; omega
    · show 0 ≤ v ∧ v < ((s.sz ++ [0]).length : Int)
      simp only [updF] at hv
      split at hv
      · cases hv; omega
      · have := h.fr _ _ hv; omega
    · show -8192 ≤ rd (s.sz ++ [0]) i ∧ rd (s.sz ++ [0]) i ≤ 8192
      rw [rd_snoc0]; exact h.sr i
theorem I2.up {sz : List Int} {k : Nat} {s : S2} (h : I2 sz k s) : I2 sz (k + 1) s := ⟨by have := h.szl; omega, h.sz0, h.kn, h.fr, h.sr⟩
theorem I2.step {nodes : List Nd} {cl sz : List Int} {lk : Int → Option Int} {k : Nat} {s : S2} (h : I2 sz k s) (n : Int) : I2 sz (k + 1) (step2 nodes cl lk s n) := by
  unfold step2
  split
  · split
    · exact ⟨by have := h.szl; show s.sz.length ≤ _; omega, h.sz0, h.kn, h.fr, h.sr⟩
    · split
      · exact h.up
      · exact h.assign _ _
  · exact h.assign _ _
theorem st2_keep {nodes : List Nd} {cl : List Int} {lk : Int → Option Int} {s : S2} {n : Int} (h : (lk (rd cl n)).getD 0 = rd s.sz (rd cl n)) (hk : s.keeps (rd cl n) = none) : step2 nodes cl lk s n = { s with keeps := updF s.keeps (rd cl n) (sgn nodes cl n) } := by
  unfold step2; rw [if_pos h, hk]
theorem st2_same {nodes : List Nd} {cl : List Int} {lk : Int → Option Int} {s : S2} {n : Int} {fst : ByteArray} (h : (lk (rd cl n)).getD 0 = rd s.sz (rd cl n)) (hk : s.keeps (rd cl n) = some fst) (hf : fst = sgn nodes cl n) : step2 nodes cl lk s n = s := by
  unfold step2; rw [if_pos h, hk]; simp only; rw [if_pos hf]
theorem st2_asg {nodes : List Nd} {cl : List Int} {lk : Int → Option Int} {s : S2} {n : Int} {fst : ByteArray} (h : (lk (rd cl n)).getD 0 = rd s.sz (rd cl n)) (hk : s.keeps (rd cl n) = some fst) (hf : ¬ fst = sgn nodes cl n) : step2 nodes cl lk s n = s.assign n (sgn nodes cl n) := by
  unfold step2; rw [if_pos h, hk]; simp only; rw [if_neg hf]
theorem st2_asg2 {nodes : List Nd} {cl : List Int} {lk : Int → Option Int} {s : S2} {n : Int} (h : ¬ (lk (rd cl n)).getD 0 = rd s.sz (rd cl n)) : step2 nodes cl lk s n = s.assign n (sgn nodes cl n) := by
  unfold step2; rw [if_neg h]
theorem asg_old {s : S2} {key : ByteArray} {u : Int} (n : Int) (h : s.known key = some u) : s.assign n key = { s with fresh := updF s.fresh n u } := by unfold S2.assign; rw [h]
theorem asg_new {s : S2} {key : ByteArray} (n : Int) (h : s.known key = none) : s.assign n key = { s with sz := s.sz ++ [0], known := updF s.known key s.sz.length, fresh := updF s.fresh n s.sz.length } := by unfold S2.assign; rw [h]
theorem Mm.put2 {w w1 : World} {b1 b2 b3 b4 K k : Nat} {lk : Int → Option Int} {s : S2} (h : Mm w b1 b2 b3 b4 K k lk s) (hd : b1 ≠ b2 ∧ b3 ≠ b2 ∧ b4 ≠ b2) (hg : w.grownBy w1 (some b2)) {f : Int → Option ByteArray} (h2 : ∃ m, MapF LIS w1 b2 (k + 1) m f) : Mm w1 b1 b2 b3 b4 K (k + 1) lk { s with keeps := f } := by
  obtain ⟨⟨n1, h1⟩, _, ⟨n3, h3⟩, ⟨n4, h4⟩⟩ := h
  exact ⟨⟨n1, h1.grown hg (by simp; omega)⟩, h2, ⟨n3, (h3.grown hg (by simp; omega)).upto (by omega)⟩, ⟨n4, (h4.grown hg (by simp; omega)).upto (by omega)⟩⟩
theorem Mm.put4 {w w1 : World} {b1 b2 b3 b4 K k : Nat} {lk : Int → Option Int} {s : S2} (h : Mm w b1 b2 b3 b4 K k lk s) (hd : b1 ≠ b4 ∧ b2 ≠ b4 ∧ b3 ≠ b4) (hg : w.grownBy w1 (some b4)) {f : Int → Option Int} (h2 : ∃ m, MapF LII w1 b4 (k + 1) m f) : Mm w1 b1 b2 b3 b4 K (k + 1) lk { s with fresh := f } := by
  obtain ⟨⟨n1, h1⟩, ⟨n2, h2'⟩, ⟨n3, h3⟩, _⟩ := h
  exact ⟨⟨n1, h1.grown hg (by simp; omega)⟩, ⟨n2, (h2'.grown hg (by simp; omega)).upto (by omega)⟩, ⟨n3, (h3.grown hg (by simp; omega)).upto (by omega)⟩, h2⟩
theorem Mm.grow {w w1 : World} {b1 b2 b3 b4 K k : Nat} {lk : Int → Option Int} {s : S2} (h : Mm w b1 b2 b3 b4 K k lk s) {α : Type} {d : Kd α} {e base : Nat} {ok : Nat → Prop} {v : Value} {xs : List α} (hr : d.R e w base ok v xs) {pb : Nat} {cs : Array Value} {t : TypeId} (hbk : w1.heap[pb]? = some (.cells cs t (0, 0))) (hg : w.grownBy w1 v.ownBlock) (u : Value) : Mm (w1.setCell ⟨pb, 3, none⟩ u) b1 b2 b3 b4 K k lk s := by
  refine h.same fun b es ck hh => ?_
  have hne : some b ≠ v.ownBlock := fun he => by
    obtain ⟨inner, ho⟩ := Kd.R_own hr
    obtain ⟨cells, hc⟩ := own_typed ho b he.symm
    rw [hh] at hc; cases hc
  have h1 := hg.block b (blk_lt hh) hne
  have hbp : b ≠ pb := by
    rintro rfl
    rw [h1, hh] at hbk; cases hbk
  exact (Below.heap_setCell w1 ⟨pb, 3, none⟩ u b hbp).trans h1
theorem intInfo : (Tryd.prog.info? 3).map (fun i => (i.zero, i.size, i.bytes)) = some (some (.int .i64 0), 1, 8) := by kernel_rfl
theorem Mm.put34 {w w1 w2 : World} {b1 b2 b3 b4 K k : Nat} {lk : Int → Option Int} {s : S2} (h : Mm w b1 b2 b3 b4 K k lk s) (hd : b1 ≠ b4 ∧ b2 ≠ b4 ∧ b3 ≠ b4 ∧ b1 ≠ b3 ∧ b2 ≠ b3) (hg : w.grownBy w1 (some b3)) {f3 : ByteArray → Option Int} (h3 : ∃ m, MapF LSI w1 b3 (k + 1) m f3) (hg2 : w1.grownBy w2 (some b4)) {f4 : Int → Option Int} (h4 : ∃ m, MapF LII w2 b4 (k + 1) m f4) (z : List Int) : Mm w2 b1 b2 b3 b4 K (k + 1) lk { s with sz := z, known := f3, fresh := f4 } := by
  obtain ⟨⟨n1, h1⟩, ⟨n2, h2⟩, _, _⟩ := h
  obtain ⟨n3, h3⟩ := h3
  exact ⟨⟨n1, (h1.grown hg (by simp; omega)).grown hg2 (by simp; omega)⟩, ⟨n2, ((h2.grown hg (by simp; omega)).grown hg2 (by simp; omega)).upto (by omega)⟩, ⟨n3, h3.grown hg2 (by simp; omega)⟩, h4⟩
theorem signP_len' (cl l : List Int) (n : Int) (hc : ∀ i, 0 ≤ rd cl i ∧ rd cl i ≤ 1048576) : (signL cl l n).length ≤ 20 + 21 * l.length := by
  rw [← signP_end]; exact signP_len cl l n hc _
theorem sgn_size (nodes : List Nd) (cl : List Int) (n : Int) {sz look : List Int} {ab : List (List Int)} (ok : ROk nodes cl sz look ab) (hn : 0 ≤ n ∧ n < nodes.length) : (sgn nodes cl n).size ≤ 1048576 := by
  obtain ⟨m, rfl⟩ := Int.eq_ofNat_of_zero_le hn.1
  have h1 := signP_len' cl (argsN nodes m) m (fun i => by have := ok.cr i; have := ok.ls; omega)
  have h2 := (ok.ar m (by omega)).1
  unfold sgn
  rw [sz_mk]
  unfold argsN at *
  omega
theorem sign_st {w0 W : World} {pb : Nat} {A : Option Addr} {c : Nat} {nodes : List Nd} {vB vS vA : Value} {gc capc : Nat} {cl sz0 sz look : List Int} {ab : List (List Int)} (hp : PSt w0 W pb A c nodes vB (.slice (some ⟨gc, 0, none⟩) cl.length capc) vS vA cl sz0 ab) (E : TabE w0) (HN : Kd.C k35 w0 A nodes.length nodes) (ok : ROk nodes cl sz look ab) (n : Int) (hn : 0 ≤ n ∧ n < nodes.length) (hs : ∀ i, 0 ≤ rd cl i ∧ rd cl i ≤ 1048576) :
    Calls Tryd.prog 74 #[.pointer (some ⟨pb, 0, none⟩), .int .i64 n] W fun e w' => e = .returned (.string (sgn nodes cl n)) ∧ w'.cell? ⟨pb, 2, none⟩ = some (.slice (some ⟨gc, 0, none⟩) cl.length capc) ∧ w'.cell? ⟨gc, n.toNat, none⟩ = some (.int .i64 (rd cl n)) ∧ Hid (Below W.heap.size W w') := by
  obtain ⟨m, rfl⟩ := Int.eq_ofNat_of_zero_le hn.1
  have hm : m < nodes.length := by omega
  have hr := ok.ar m hm
  have hc2 := Kd.R_reads' (w := W) (A := some ⟨gc, 0, none⟩) (n := cl.length) (c := capc) hp.rc
  have y2 := blk_cell hp.blk 2
  have yc := (Kd.R_celln 0 hp.rc (m : Int) (by omega) (by have := ok.lc; omega)).1
  refine (sign_any pb A c nodes (some ⟨gc, 0, none⟩) capc cl m W ⟨blk_cell hp.blk 0, y2, Lib.hid (Kd.C_below HN hp.hb), Lib.hid hc2.2.2⟩ (E.keep hp.hb) hm ok.lc hs hr.1 hr.2).mono ?_
  rintro e w' ⟨rfl, hb⟩
  exact ⟨rfl, (hb.cell (p := ⟨pb, 2, none⟩) (blk_lt hp.blk)).trans y2, (hb.cell (p := ⟨gc, (m : Int).toNat, none⟩) (World.block_lt_of_cell? W _ yc)).trans yc, Lib.hid hb⟩
set_option maxRecDepth 100000 in
set_option maxHeartbeats 4000000 in
theorem round_any (w0 w : World) (pb : Nat) (A : Option Addr) (c : Nat) (nodes : List Nd) (vB vC vS vA vL : Value) (cl sz look : List Int) (ab : List (List Int)) (hp : PSt w0 w pb A c nodes vB vC vS vA cl sz ab) (hl : Beside w0 w vC vS vL look) (E : TabE w0) (HN : Kd.C k35 w0 A nodes.length nodes) (ok : ROk nodes cl sz look ab) (hne : 0 < look.length) :
    Calls Tryd.prog 62 #[.pointer (some ⟨pb, 0, none⟩), vL] w fun e w' => ∃ vS' vO, e = .returned vO ∧ PSt w0 w' pb A c nodes vB vC vS' vA (roundS nodes ab cl sz look).cl (roundS nodes ab cl sz look).sz ab ∧ Beside w0 w' vC vS' vO (roundS nodes ab cl sz look).out := by
  obtain ⟨gl, capl, rfl, hgl, hglt, cellsl, hcl⟩ := Kd.R_form hl hne
  have hNp : 0 < cl.length := by have := ok.lk 0 (by omega); have := ok.lc; omega
  obtain ⟨gc, capc, rfl, hgc, hgct, cellsc, hcc⟩ := Kd.R_form hp.rc hNp
  have HP : Hid (PSt w0 w pb A c nodes vB (.slice (some ⟨gc, 0, none⟩) cl.length capc) vS vA cl sz ab) := Lib.hid hp
  have HL : Hid (Beside w0 w (.slice (some ⟨gc, 0, none⟩) cl.length capc) vS (.slice (some ⟨gl, 0, none⟩) look.length capl) look) := Lib.hid hl
  have HE := Lib.hid E
  have HNn := Lib.hid HN
  have HO := Lib.hid ok
  have l1 := ok.ll
  have l2 := ok.lc
  have l3 := ok.n4
  clear hp hl E HN ok hcl hcc hgl hglt hgc hgct
  have hmm := @run_makeMap Tryd.prog
  go_enter Tryd.func62, Tryd.ntmps62
  go_wp2_with fail
  have HM : Hid (M1 (w.alloc (.map #[] 0)) w.heap.size 0 cl look) := Lib.hid ⟨⟨0, MapF.made LII w⟩, fun x => by simp⟩
  have HP1 := Lib.hid (HP.out.below ((Below.refl _ _).alloc (Nat.le_refl _) (.map #[] 0)))
  have HL1 := Lib.hid (HL.out.below ((Below.refl _ _).alloc (Nat.le_refl _) (.map #[] 0)))
  have hb1 : w0.heap.size ≤ w.heap.size := HP.out.hb.size
  clear HP HL
  generalize w.alloc (.map #[] 0) = w1 at *
  generalize w.heap.size = b1 at *
  go_loopw [30] (fun i wr => ∃ k : Nat, k ≤ look.length ∧ i = .int .i64 k ∧ Hid (PSt w0 wr pb A c nodes vB (.slice (some ⟨gc, 0, none⟩) cl.length capc) vS vA cl sz ab) ∧ Hid (Beside w0 wr (.slice (some ⟨gc, 0, none⟩) cl.length capc) vS (.slice (some ⟨gl, 0, none⟩) look.length capl) look) ∧ Hid (M1 wr b1 k cl look)) (fun i _ => look.length - (intOf i).toNat)
  case atStart => exact ⟨0, Nat.zero_le _, rfl, HP1, HL1, HM⟩
  case round =>
    obtain ⟨k, hk, rfl, HP, HL, HM⟩ := hrel
    clear HP1 HL1
    by_cases hlt : k < look.length
    · have x0 := (Kd.R_celln 0 HL.out (k : Int) (by omega) (by omega)).1
      have x1 := blk_cell HP.out.blk 2
      have hn := HO.out.lk k (by omega)
      simp only [Int.toNat_natCast] at x0
      have e0 : rdOf 0 look (k : Int) = rd look k := rfl
      rw [e0] at x0
      obtain ⟨⟨m, hm⟩, hm2⟩ := HM.out
      obtain ⟨hs, hs2⟩ := M1_step hlt _ rfl hm2
      have hcnt := hm2 (rd cl (rd look k))
      generalize rd look (k : Int) = n at *
      have x2 := (Kd.R_celln 0 HP.out.rc n hn.1 (by omega)).1
      have e1 : rdOf 0 cl n = rd cl n := rfl
      rw [e1] at x2
      have hc := HO.out.cr n
      have l5 := HO.out.ls
      have hrun := ii_look1 hm (rd cl n) (wfi (by omega) (by omega))
      have HS := Lib.hid (And.intro hs hs2); clear hs hs2 hm2
      have HMM := Lib.hid hm; clear hm HM
      clear e0 e1
      go_wp2_with (first | (at_mapUpdate; refine at_put LII HMM.out (rd cl n) _ (wfi (by omega) (by omega)) (wfi (by omega) (by omega)) (by unfold maxLen; omega) rfl _ _ _ rfl rfl rfl rfl ?_; intro w2 hM2 hg2))
      go_roundw
      case rel => exact ⟨k + 1, by omega, by go_num, Lib.hid (HP.out.mapped hg2 HMM.out.map_block hb1), Lib.hid (HL.out.mapped hg2 HMM.out.map_block), Lib.hid ⟨⟨_, by rw [HS.out.1]; exact hM2⟩, HS.out.2⟩⟩
      case measure => simp [intOf]; omega
    · have hk' : k = look.length := by omega
      have HM1 : Hid ((∃ m, MapF LII wr b1 look.length m (lookedS cl look)) ∧ ∀ x, 0 ≤ (lookedS cl look x).getD 0 ∧ (lookedS cl look x).getD 0 ≤ look.length) := Lib.hid (by
        have := HM.out; unfold M1 at this; rw [hk', List.take_length] at this; exact this)
      clear HM hk'
      go_wp2_with fail
      have HP3 := Lib.hid (HP.out.below (al3 wr))
      have HL3 := Lib.hid (HL.out.below (al3 wr))
      have HQ := Lib.hid (Mm.new (sz := sz) HM1.out.1)
      have hq : w0.heap.size ≤ wr.heap.size := HP.out.hb.size
      have HK := Lib.hid HM1.out.2
      have hbq : b1 < wr.heap.size := HM1.out.1.choose_spec.lt
      clear HP HL HM1 hk hlt
      generalize ((wr.alloc (.map #[] 0)).alloc (.map #[] 0)).alloc (.map #[] 0) = w3 at *
      generalize wr.heap.size = q at *
      go_loopw [50] (fun i wr => ∃ k : Nat, k ≤ look.length ∧ i = .int .i64 k ∧ ∃ vS', Hid (PSt w0 wr pb A c nodes vB (.slice (some ⟨gc, 0, none⟩) cl.length capc) vS' vA cl ((look.take k).foldl (step2 nodes cl (lookedS cl look)) (s20 sz)).sz ab) ∧ Hid (Beside w0 wr (.slice (some ⟨gc, 0, none⟩) cl.length capc) vS' (.slice (some ⟨gl, 0, none⟩) look.length capl) look) ∧ Hid (Mm wr b1 q (q + 1) (q + 1 + 1) look.length k (lookedS cl look) ((look.take k).foldl (step2 nodes cl (lookedS cl look)) (s20 sz))) ∧ Hid (I2 sz k ((look.take k).foldl (step2 nodes cl (lookedS cl look)) (s20 sz)))) (fun i _ => look.length - (intOf i).toNat)
      case atStart => exact ⟨0, Nat.zero_le _, rfl, vS, HP3, HL3, HQ, Lib.hid ⟨HO.out.ls, Nat.le_refl _, (fun _ _ h => by cases h), (fun _ _ h => by cases h), HO.out.sr⟩⟩
      case round =>
        obtain ⟨k, hk, rfl, vS', HP, HL, HM, HI⟩ := hrel
        clear HP3 HL3 HQ
        by_cases hlt : k < look.length
        · have x0 := (Kd.R_celln 0 HL.out (k : Int) (by omega) (by omega)).1
          have hn := HO.out.lk k (by omega)
          simp only [Int.toNat_natCast] at x0
          have e0 : rdOf 0 look (k : Int) = rd look k := rfl
          rw [e0] at x0
          have hs := foldl_take (step2 nodes cl (lookedS cl look)) (s20 sz) look k hlt
          rw [← rd_get look k hlt] at hs
          generalize (look.take k).foldl (step2 nodes cl (lookedS cl look)) (s20 sz) = st at *
          generalize rd look (k : Int) = n at *
          have HS := Lib.hid hs; clear hs e0
          have hc := HO.out.cr n
          have l5 := HO.out.ls
          have x1 := blk_cell HP.out.blk 2
          have x2 := (Kd.R_celln 0 HP.out.rc n hn.1 (by omega)).1
          have e1 : rdOf 0 cl n = rd cl n := rfl
          rw [e1] at x2; clear e1
          have hcl : ∀ i, 0 ≤ rd cl i ∧ rd cl i ≤ 1048576 := fun i => by have := HO.out.cr i; omega
          have HC := Lib.hid hcl; clear hcl
          go_upto_region 13 with fail
          go_cut [13, 14, 50] from 50 to 117 (fun s13 s14 s50 wx => s50 = .int .i64 k ∧ s13 = .int .i64 (rd cl n) ∧ s14 = .string (sgn nodes cl n) ∧ Hid (Below wr.heap.size wr wx))
          case first =>
            go_region_with (go_at_call 74; refine (sign_st (by first | exact HP.out | exact HP.out.below (Below.refl _ _).drew | exact HP.out.below (below_drewN (Below.refl _ _) _)) HE.out HNn.out HO.out n hn HC.out).mono ?_; rintro e w5 ⟨rfl, y1, y2, hb5⟩)
            all_goals go_wp2_with fail
            all_goals go_meet
            all_goals exact ⟨rfl, rfl, rfl, Lib.hid (below_next (by first | exact Below.refl _ _ | exact (Below.refl _ _).drew | exact below_drewN (Below.refl _ _) _) hb5.out)⟩
          case rest =>
            obtain ⟨rfl, rfl, rfl, HW⟩ := hcut
            have hst : 0 < st.sz.length := by have := HI.out.sz0; omega
            obtain ⟨gs, caps, rfl, hgs, hgst, cellss, hcs⟩ := Kd.R_form HP.out.rs hst
            clear hgs hgst hcs cellss x0 x1 x2
            have hlt2 : rd cl n < st.sz.length := by have := HI.out.sz0; omega
            have x3 := blk_cell (HP.out.below HW.out).blk 3
            have x4 := (Kd.R_celln 0 (HP.out.below HW.out).rs (rd cl n) (by omega) (by omega)).1
            have e4 : rdOf 0 st.sz (rd cl n) = rd st.sz (rd cl n) := rfl
            rw [e4] at x4; clear e4
            have hrun1 := ii_look1 (HM.out.below HW.out).m1.choose_spec (rd cl n) (wfi (by omega) (by omega))
            have hks : (sgn nodes cl n).size ≤ 1048576 := sgn_size nodes cl n HO.out hn
            have hst5 := HI.out.szl
            have hrun1d := ii_look1 (HM.out.below (HW.out.drew)).m1.choose_spec (rd cl n) (wfi (by omega) (by omega))
            go_upto_region 14 with fail
            go_cut [50, 74] from 50 to 117 (fun s50 s74 wx => s50 = .int .i64 k ∧ s74 = .bool ((lookedS cl look (rd cl n)).getD 0 == rd st.sz (rd cl n)) ∧ Hid (Below wr.heap.size wr wx))
            case first =>
              go_region
              all_goals go_wp2_with fail
              all_goals go_meet
              all_goals exact ⟨rfl, rfl, Lib.hid (by first | exact HW.out | exact HW.out.drew | exact HW.out.drew.drew | exact below_drewN HW.out _)⟩
            case rest =>
            obtain ⟨rfl, rfl, HW2⟩ := hcut
            have HPd := Lib.hid (HP.out.below HW2.out)
            have HLd := Lib.hid (HL.out.below HW2.out)
            have HMd := Lib.hid (HM.out.below HW2.out)
            clear HP HL HM HW HW2 x3 x4 hrun1 hrun1d
            rename_i wd
            by_cases hq14 : (lookedS cl look (rd cl n)).getD 0 = rd st.sz (rd cl n)
            · have hq' : ((lookedS cl look (rd cl n)).getD 0 == rd st.sz (rd cl n)) = true := by rw [beq_iff_eq]; exact hq14
              rw [hq']
              have hrunK := is_look HMd.out.m2.choose_spec (rd cl n) (wfi (by omega) (by omega))
              cases hkc : st.keeps (rd cl n) with
              | none =>
                rw [hkc] at hrunK
                have HA := Lib.hid (HS.out.trans (st2_keep hq14 hkc))
                clear hq14
                go_wp2_with (first | (at_mapUpdate; refine at_put LIS HMd.out.m2.choose_spec (rd cl n) (sgn nodes cl n) (wfi (by omega) (by omega)) (show (sgn nodes cl n).size ≤ maxLen by unfold maxLen; omega) (by unfold maxLen; omega) rfl _ _ _ rfl rfl rfl rfl ?_; intro w6 hM6 hg6))
                go_roundw
                case rel => exact ⟨k + 1, by omega, by go_num, _, Lib.hid (by rw [HA.out]; exact HPd.out.mapped hg6 (HMd.out.m2.choose_spec).map_block (by omega)), Lib.hid (HLd.out.mapped hg6 (HMd.out.m2.choose_spec).map_block), Lib.hid (by rw [HA.out]; exact HMd.out.put2 (by omega) hg6 ⟨_, hM6⟩), Lib.hid (by rw [HS.out]; exact HI.out.step n)⟩
                case measure => simp [intOf]; omega
              | some fst =>
                rw [hkc] at hrunK
                by_cases hf : fst = sgn nodes cl n
                · have HA := Lib.hid (HS.out.trans (st2_same hq14 hkc hf))
                  have hfq : (fst.toList == (sgn nodes cl n).toList) = true := by rw [hf]; simp
                  clear hq14 hf
                  go_wp2_with fail
                  go_roundw
                  case rel => exact ⟨k + 1, by omega, by go_num, _, Lib.hid (by rw [HA.out]; exact HPd.out), Lib.hid HLd.out, Lib.hid (by rw [HA.out]; exact HMd.out.up (by omega)), Lib.hid (by rw [HS.out]; exact HI.out.step n)⟩
                  case measure => simp [intOf]; omega
                · have HAs := Lib.hid (st2_asg (nodes := nodes) hq14 hkc hf)
                  have hfq : (fst.toList == (sgn nodes cl n).toList) = false := by have := str_ne hf; simpa using this
                  clear hq14 hf
                  have hrunS := si_look HMd.out.m3.choose_spec (sgn nodes cl n) (by unfold maxLen; omega)
                  cases hkk : st.known (sgn nodes cl n) with
                  | some u =>
                    rw [hkk] at hrunS
                    have hu := HI.out.kn _ _ hkk
                    have HA := Lib.hid ((HS.out.trans HAs.out).trans (asg_old n hkk))
                    have hsl := HI.out.szl
                    go_wp2_with (first | (at_mapUpdate; refine at_put LII HMd.out.m4.choose_spec n u (wfi (by omega) (by omega)) (wfi (by omega) (by omega)) (by unfold maxLen; omega) rfl _ _ _ rfl rfl rfl rfl ?_; intro w6 hM6 hg6))
                    go_roundw
                    case rel => exact ⟨k + 1, by omega, by go_num, _, Lib.hid (by rw [HA.out]; exact HPd.out.mapped hg6 (HMd.out.m4.choose_spec).map_block (by omega)), Lib.hid (HLd.out.mapped hg6 (HMd.out.m4.choose_spec).map_block), Lib.hid (by rw [HA.out]; exact HMd.out.put4 (by omega) hg6 ⟨_, hM6⟩), Lib.hid (by rw [HS.out]; exact HI.out.step n)⟩
                    case measure => simp [intOf]; omega
                  | none =>
                    rw [hkk] at hrunS
                    have HA := Lib.hid ((HS.out.trans HAs.out).trans (asg_new n hkk))
                    have hsl := HI.out.szl
                    have x3 := blk_cell HPd.out.blk 3
                    go_wp2_with (first | (at_builtin; refine Kd.R_append (Kd.int .i64) (w0 := w0) w0.heap.size rfl _ _ 23 3 (.int .i64 0) 8 rfl Tryd.underlying23 intInfo rfl (by decide) (by omega) (.slice (some ⟨gs, 0, none⟩) st.sz.length caps) st.sz 0 [.int .i64 0] (fun k_ => some k_ ≠ (Value.slice (some ⟨gc, 0, none⟩) cl.length capc).ownBlock) (fun _ => False) rfl rfl ?aP (fun _ hk => hk.elim) ?aF HPd.out.rs HPd.out.hb HPd.out.hb.size ?aL ?_))
                    case aP => exact rfl
                    case aF => exact fun k_ hk he => by have := Kd.R_lt HPd.out.rc k_ he.symm; omega
                    case aL => omega
                    intro v7 w7 hr7 hb7 hg7 hat7
                    obtain ⟨A7, c7, rfl⟩ := Kd.R_slice hr7
                    have hne7 : some pb ≠ (Value.slice (some ⟨gs, 0, none⟩) st.sz.length caps).ownBlock := Kd.R_ne HPd.out.rs HPd.out.blk (by decide)
                    have hbk7 := blk_grown HPd.out.blk hg7 hne7
                    have d3 := blk_cell hbk7 3
                    have f3 := blk_frozen hbk7 3
                    have HP7 := Lib.hid (HPd.out.grow hr7 hg7 hat7)
                    have HL7 := Lib.hid (HLd.out.grow hg7 hat7 hbk7)
                    have HM7 := Lib.hid (HMd.out.grow (HPd.out.rs) hbk7 hg7 (.slice A7 (st.sz ++ [0]).length c7))
                    clear hr7 hb7 hg7 hat7 hne7 hbk7 x3 HPd HLd HMd
                    have hlen : (st.sz ++ [0]).length = st.sz.length + 1 := by simp
                    rw [hlen] at HP7 HL7 HM7
                    clear hlen
                    go_upto_region 23 with fail
                    generalize w7.setCell ⟨pb, 3, none⟩ (.slice A7 (st.sz.length + 1) c7) = w8 at *
                    clear d3 f3
                    go_wp2_with (first | (at_mapUpdate; refine at_put LSI HM7.out.m3.choose_spec (sgn nodes cl n) (st.sz.length : Int) (show (sgn nodes cl n).size ≤ maxLen by unfold maxLen; omega) (wfi (by omega) (by omega)) (by unfold maxLen; omega) rfl _ _ _ rfl rfl rfl rfl ?_; intro w9 hM9 hg9; have hM4 := Lib.hid (HM7.out.m4.choose_spec.grown hg9 (by simp))) | (at_mapUpdate; refine at_put LII hM4.out n (st.sz.length : Int) (wfi (by omega) (by omega)) (wfi (by omega) (by omega)) (by unfold maxLen; omega) rfl _ _ _ rfl rfl rfl rfl ?_; intro w10 hM10 hg10))
                    go_roundw
                    case rel => exact ⟨k + 1, by omega, by go_num, _, Lib.hid (by rw [HA.out]; exact (HP7.out.mapped hg9 (HM7.out.m3.choose_spec).map_block (by omega)).mapped hg10 hM4.out.map_block (by omega)), Lib.hid ((HL7.out.mapped hg9 (HM7.out.m3.choose_spec).map_block).mapped hg10 hM4.out.map_block), Lib.hid (by rw [HA.out]; exact HM7.out.put34 (by omega) hg9 ⟨_, hM9⟩ hg10 ⟨_, hM10⟩ _), Lib.hid (by rw [HS.out]; exact HI.out.step n)⟩
                    case measure => simp [intOf]; omega
            · have hq' : ((lookedS cl look (rd cl n)).getD 0 == rd st.sz (rd cl n)) = false := by rw [beq_eq_false_iff_ne]; exact hq14
              have HAs := Lib.hid (st2_asg2 (nodes := nodes) hq14)
              clear hq14
              rw [hq']
              have hrunS := si_look HMd.out.m3.choose_spec (sgn nodes cl n) (by unfold maxLen; omega)
              cases hkk : st.known (sgn nodes cl n) with
              | some u =>
                rw [hkk] at hrunS
                have hu := HI.out.kn _ _ hkk
                have HA := Lib.hid ((HS.out.trans HAs.out).trans (asg_old n hkk))
                have hsl := HI.out.szl
                go_wp2_with (first | (at_mapUpdate; refine at_put LII HMd.out.m4.choose_spec n u (wfi (by omega) (by omega)) (wfi (by omega) (by omega)) (by unfold maxLen; omega) rfl _ _ _ rfl rfl rfl rfl ?_; intro w6 hM6 hg6))
                go_roundw
                case rel => exact ⟨k + 1, by omega, by go_num, _, Lib.hid (by rw [HA.out]; exact HPd.out.mapped hg6 (HMd.out.m4.choose_spec).map_block (by omega)), Lib.hid (HLd.out.mapped hg6 (HMd.out.m4.choose_spec).map_block), Lib.hid (by rw [HA.out]; exact HMd.out.put4 (by omega) hg6 ⟨_, hM6⟩), Lib.hid (by rw [HS.out]; exact HI.out.step n)⟩
                case measure => simp [intOf]; omega
              | none =>
                rw [hkk] at hrunS
                have HA := Lib.hid ((HS.out.trans HAs.out).trans (asg_new n hkk))
                have hsl := HI.out.szl
                have x3 := blk_cell HPd.out.blk 3
                go_wp2_with (first | (at_builtin; refine Kd.R_append (Kd.int .i64) (w0 := w0) w0.heap.size rfl _ _ 23 3 (.int .i64 0) 8 rfl Tryd.underlying23 intInfo rfl (by decide) (by omega) (.slice (some ⟨gs, 0, none⟩) st.sz.length caps) st.sz 0 [.int .i64 0] (fun k_ => some k_ ≠ (Value.slice (some ⟨gc, 0, none⟩) cl.length capc).ownBlock) (fun _ => False) rfl rfl ?aP (fun _ hk => hk.elim) ?aF HPd.out.rs HPd.out.hb HPd.out.hb.size ?aL ?_))
                case aP => exact rfl
                case aF => exact fun k_ hk he => by have := Kd.R_lt HPd.out.rc k_ he.symm; omega
                case aL => omega
                intro v7 w7 hr7 hb7 hg7 hat7
                obtain ⟨A7, c7, rfl⟩ := Kd.R_slice hr7
                have hne7 : some pb ≠ (Value.slice (some ⟨gs, 0, none⟩) st.sz.length caps).ownBlock := Kd.R_ne HPd.out.rs HPd.out.blk (by decide)
                have hbk7 := blk_grown HPd.out.blk hg7 hne7
                have d3 := blk_cell hbk7 3
                have f3 := blk_frozen hbk7 3
                have HP7 := Lib.hid (HPd.out.grow hr7 hg7 hat7)
                have HL7 := Lib.hid (HLd.out.grow hg7 hat7 hbk7)
                have HM7 := Lib.hid (HMd.out.grow (HPd.out.rs) hbk7 hg7 (.slice A7 (st.sz ++ [0]).length c7))
                clear hr7 hb7 hg7 hat7 hne7 hbk7 x3 HPd HLd HMd
                have hlen : (st.sz ++ [0]).length = st.sz.length + 1 := by simp
                rw [hlen] at HP7 HL7 HM7
                clear hlen
                go_upto_region 23 with fail
                generalize w7.setCell ⟨pb, 3, none⟩ (.slice A7 (st.sz.length + 1) c7) = w8 at *
                clear d3 f3
                go_wp2_with (first | (at_mapUpdate; refine at_put LSI HM7.out.m3.choose_spec (sgn nodes cl n) (st.sz.length : Int) (show (sgn nodes cl n).size ≤ maxLen by unfold maxLen; omega) (wfi (by omega) (by omega)) (by unfold maxLen; omega) rfl _ _ _ rfl rfl rfl rfl ?_; intro w9 hM9 hg9; have hM4 := Lib.hid (HM7.out.m4.choose_spec.grown hg9 (by simp))) | (at_mapUpdate; refine at_put LII hM4.out n (st.sz.length : Int) (wfi (by omega) (by omega)) (wfi (by omega) (by omega)) (by unfold maxLen; omega) rfl _ _ _ rfl rfl rfl rfl ?_; intro w10 hM10 hg10))
                go_roundw
                case rel => exact ⟨k + 1, by omega, by go_num, _, Lib.hid (by rw [HA.out]; exact (HP7.out.mapped hg9 (HM7.out.m3.choose_spec).map_block (by omega)).mapped hg10 hM4.out.map_block (by omega)), Lib.hid ((HL7.out.mapped hg9 (HM7.out.m3.choose_spec).map_block).mapped hg10 hM4.out.map_block), Lib.hid (by rw [HA.out]; exact HM7.out.put34 (by omega) hg9 ⟨_, hM9⟩ hg10 ⟨_, hM10⟩ _), Lib.hid (by rw [HS.out]; exact HI.out.step n)⟩
                case measure => simp [intOf]; omega
        · have hk' : k = look.length := by omega
          have e : (look.take k).foldl (step2 nodes cl (lookedS cl look)) (s20 sz) = loop2 nodes cl sz look := by rw [hk', List.take_length]; rfl
          rw [e] at HP HM HI
          clear e hk'
          have HR : Hid (roundS nodes ab cl sz look = look.foldl (step3 ab (loop2 nodes cl sz look).fresh) ⟨cl, (loop2 nodes cl sz look).sz, fun _ => none, []⟩) := Lib.hid rfl
          generalize loop2 nodes cl sz look = st at *
          have hst : 0 < st.sz.length := by have := HI.out.sz0; have := HO.out.cr 0; omega
          obtain ⟨gs, caps, rfl, hgs, hgst, cellss, hcs⟩ := Kd.R_form HP.out.rs hst
          obtain ⟨Aa, ca, hva, hca, hAC⟩ := Kd.R_reads HP.out.ra
          subst hva
          clear hgs hgst hcs cellss hca hAC
          have l6 := HI.out.szl
          go_wp2_with fail
          have HT : Hid (T3 w0 (wr.alloc (.map #[] 0)) pb A c nodes vB (.slice (some ⟨gc, 0, none⟩) cl.length capc) (.slice (some ⟨gs, 0, none⟩) st.sz.length caps) (.slice Aa ab.length ca) (.slice (some ⟨gl, 0, none⟩) look.length capl) (.slice none 0 0) (q + 1 + 1) wr.heap.size k 0 cl st.sz look [] ab st.fresh (fun _ => none)) := Lib.hid (T3.new HP.out HL.out HM.out.m4)
          have HI3 : Hid (I3 nodes.length st.sz.length 0 ⟨cl, st.sz, fun _ => none, []⟩) := Lib.hid ⟨HO.out.lc, rfl, (fun i => by have := HO.out.cr i; have := HI.out.sz0; show 0 ≤ rd cl i ∧ rd cl i < (st.sz.length : Int); omega), (fun i => by have := HI.out.sr i; show -(8192 + 2 * ((0 : Nat) : Int)) ≤ rd st.sz i ∧ rd st.sz i ≤ 8192 + 2 * ((0 : Nat) : Int); omega), Nat.zero_le _⟩
          clear HP HL HM
          generalize wr.alloc (.map #[] 0) = w4 at *
          generalize wr.heap.size = b5 at *
          go_loopw [20, 121] (fun vo i wr => ∃ k3 kk : Nat, k3 ≤ look.length ∧ kk ≤ 40000 * k3 ∧ i = .int .i64 k3 ∧ Hid (T3 w0 wr pb A c nodes vB (.slice (some ⟨gc, 0, none⟩) cl.length capc) (.slice (some ⟨gs, 0, none⟩) st.sz.length caps) (.slice Aa ab.length ca) (.slice (some ⟨gl, 0, none⟩) look.length capl) vo (q + 1 + 1) b5 k kk ((look.take k3).foldl (step3 ab st.fresh) ⟨cl, st.sz, fun _ => none, []⟩).cl ((look.take k3).foldl (step3 ab st.fresh) ⟨cl, st.sz, fun _ => none, []⟩).sz look ((look.take k3).foldl (step3 ab st.fresh) ⟨cl, st.sz, fun _ => none, []⟩).out ab st.fresh ((look.take k3).foldl (step3 ab st.fresh) ⟨cl, st.sz, fun _ => none, []⟩).next) ∧ Hid (I3 nodes.length st.sz.length k3 ((look.take k3).foldl (step3 ab st.fresh) ⟨cl, st.sz, fun _ => none, []⟩))) (fun _ i _ => look.length - (intOf i).toNat)
          case atStart => exact ⟨0, 0, Nat.zero_le _, Nat.zero_le _, rfl, HT, HI3⟩
          case round =>
            obtain ⟨k3, kk, hk3, hkk, rfl, HT, HI3⟩ := hrel
            obtain ⟨Ao, co, rfl⟩ := Kd.R_slice HT.out.o
            by_cases hlt3 : k3 < look.length
            · have x0 := (Kd.R_celln 0 HT.out.l (k3 : Int) (by omega) (by omega)).1
              have hn := HO.out.lk k3 (by omega)
              simp only [Int.toNat_natCast] at x0
              have e0 : rdOf 0 look (k3 : Int) = rd look k3 := rfl
              rw [e0] at x0
              have hs := foldl_take (step3 ab st.fresh) ⟨cl, st.sz, fun _ => none, []⟩ look k3 hlt3
              rw [← rd_get look k3 hlt3] at hs
              generalize (look.take k3).foldl (step3 ab st.fresh) ⟨cl, st.sz, fun _ => none, []⟩ = s3 at *
              generalize rd look (k3 : Int) = n at *
              have HS := Lib.hid hs; clear hs e0
              have hbr := HO.out.br n.toNat (by omega)
              have HBR := Lib.hid hbr; clear hbr
              have HI4 := Lib.hid (HI3.out.step (ab := ab) (fresh := st.fresh) HI.out.fr n HBR.out.1)
              have hrunF := ii_look HT.out.f.choose_spec n (wfi (by omega) (by omega))
              cases hfr : st.fresh n with
              | none =>
                rw [hfr] at hrunF
                have HA := Lib.hid (HS.out.trans (step3_none hfr))
                go_wp2_with fail
                go_roundw
                case rel => exact ⟨k3 + 1, kk, by omega, by omega, by go_num, Lib.hid (by rw [HA.out]; exact HT.out), Lib.hid (by rw [HS.out]; exact HI4.out)⟩
                case measure => simp [intOf]; omega
              | some u =>
                rw [hfr] at hrunF
                have HA := Lib.hid (HS.out.trans (step3_some hfr))
                obtain ⟨row, hrow⟩ : ∃ row, ab.getD n.toNat [] = row := ⟨_, rfl⟩
                rw [hrow] at HA HBR
                have HROW := Lib.hid hrow; clear hrow
                have hu := HI.out.fr n u hfr
                have hc3 := HI3.out.cr n
                have x1 := blk_cell HT.out.p.blk 2
                have x2 := blk_cell HT.out.p.blk 3
                have i1 := HI3.out.lc
                have i2 := HI3.out.ls
                have x3 := (Kd.R_celln 0 HT.out.p.rc n hn.1 (by omega)).1
                have e3 : rdOf 0 s3.cl n = rd s3.cl n := rfl
                rw [e3] at x3
                have x4 := Kd.R_celln 0 HT.out.p.rs (rd s3.cl n) (by omega) (by omega)
                have e4 : rdOf 0 s3.sz (rd s3.cl n) = rd s3.sz (rd s3.cl n) := rfl
                rw [e4] at x4
                obtain ⟨x4, x5⟩ := x4
                have hsr := HI3.out.sr (rd s3.cl n)
                clear e3 e4
                go_upto_region 33 with fail
                go_cut [121] from 121 to 187 (fun s121 wx => s121 = .int .i64 k3 ∧ Hid (T3 w0 wx pb A c nodes vB (.slice (some ⟨gc, 0, none⟩) cl.length capc) (.slice (some ⟨gs, 0, none⟩) st.sz.length caps) (.slice Aa ab.length ca) (.slice (some ⟨gl, 0, none⟩) look.length capl) (.slice Ao s3.out.length co) (q + 1 + 1) b5 k kk s3.cl (setI s3.sz (rd s3.cl n) (rd s3.sz (rd s3.cl n) - 1)) look s3.out ab st.fresh s3.next))
                case first =>
                  go_region
                  all_goals go_wp2_with fail
                  all_goals go_meet
                  all_goals exact ⟨rfl, Lib.hid (by first | exact (HT.out.setS _ _).below (Below.refl _ _).drew | exact HT.out.setS _ _ | exact (HT.out.setS _ _).below (below_drewN (Below.refl _ _) _))⟩
                case rest =>
                  obtain ⟨rfl, HT5⟩ := hcut
                  clear HT x0 x1 x2 x3 x4 x5 hrunF
                  have hsr2 : -20000 ≤ rd (setI s3.sz (rd s3.cl n) (rd s3.sz (rd s3.cl n) - 1)) u ∧ rd (setI s3.sz (rd s3.cl n) (rd s3.sz (rd s3.cl n) - 1)) u ≤ 20000 := by
                    rw [rd_setI]
                    have a1 := HI3.out.sr (rd s3.cl n)
                    have a2 := HI3.out.sr u
                    split <;> omega
                  have y1 := blk_cell HT5.out.p.blk 3
                  have hsl : (setI s3.sz (rd s3.cl n) (rd s3.sz (rd s3.cl n) - 1)).length = st.sz.length := by unfold setI; rw [List.length_set]; exact i2
                  have y2 := Kd.R_celln 0 HT5.out.p.rs u hu.1 (by omega)
                  have e5 : rdOf 0 (setI s3.sz (rd s3.cl n) (rd s3.sz (rd s3.cl n) - 1)) u = rd (setI s3.sz (rd s3.cl n) (rd s3.sz (rd s3.cl n) - 1)) u := rfl
                  rw [e5] at y2
                  obtain ⟨y2, y3⟩ := y2
                  clear e5 hsl
                  have HT6 := Lib.hid (HT5.out.setS u (rd (setI s3.sz (rd s3.cl n) (rd s3.sz (rd s3.cl n) - 1)) u + 1))
                  clear HT5
                  generalize rd (setI s3.sz (rd s3.cl n) (rd s3.sz (rd s3.cl n) - 1)) u = zu at *
                  go_upto_region 35 with fail
                  clear y1 y2 y3
                  generalize wc.setCell ⟨gs, u.toNat, none⟩ (.int .i64 (zu + 1)) = w6 at *
                  have y1 := blk_cell HT6.out.p.blk 2
                  have y2 := Kd.R_celln 0 HT6.out.p.rc n hn.1 (by omega)
                  obtain ⟨y2, y3⟩ := y2
                  have HT7 := Lib.hid (HT6.out.setC n u)
                  clear HT6
                  go_upto_region 36 with fail
                  clear y1 y2 y3
                  generalize w6.setCell ⟨gc, n.toNat, none⟩ (.int .i64 u) = w7 at *
                  have y1 := blk_cell HT7.out.p.blk 4
                  have l7 := HO.out.la
                  obtain ⟨ad, A3, c3, e6, y2, g3⟩ := at_row (Kd.R_reads' HT7.out.a).2.2 n hn.1 (by omega)
                  subst e6
                  rw [HROW.out] at y2 g3
                  have lab := (Kd.R_reads' HT7.out.a).2.2.2.1
                  have hRow := HBR.out.1
                  have HC7 := Lib.hid y2
                  clear g3
                  go_wp2_with fail
                  go_loopw [20, 172] (fun vo i wr => ∃ j kk2 : Nat, j ≤ row.length ∧ kk2 ≤ 40000 * k3 + j ∧ i = .int .i64 j ∧ Hid (T3 w0 wr pb A c nodes vB (.slice (some ⟨gc, 0, none⟩) cl.length capc) (.slice (some ⟨gs, 0, none⟩) st.sz.length caps) (.slice (some ad) ab.length ca) (.slice (some ⟨gl, 0, none⟩) look.length capl) vo (q + 1 + 1) b5 k kk2 (setI s3.cl n u) (setI (setI s3.sz (rd s3.cl n) (rd s3.sz (rd s3.cl n) - 1)) u (zu + 1)) look ((row.take j).foldl mark (s3.next, s3.out)).2 ab st.fresh ((row.take j).foldl mark (s3.next, s3.out)).1) ∧ Hid (wr.cell? (ad.add n.toNat) = some (.slice A3 row.length c3)) ∧ Hid (((row.take j).foldl mark (s3.next, s3.out)).2.length ≤ 40000 * k3 + j)) (fun _ i _ => row.length - (intOf i).toNat)
                  case atStart => exact ⟨0, kk, Nat.zero_le _, by omega, rfl, HT7, HC7, Lib.hid (by have := HI3.out.lo; simpa using this)⟩
                  case round =>
                    obtain ⟨j, kk2, hj, hkk2, rfl, HT8, HC8, HL8⟩ := hrel
                    clear HT7 HC7
                    obtain ⟨Ao2, co2, rfl⟩ := Kd.R_slice HT8.out.o
                    by_cases hjl : j < row.length
                    · have hC3 := (HT8.out.row n hn.1 (by omega) HC8.out).1
                      rw [HROW.out] at hC3
                      obtain ⟨rd3, e7, z1⟩ := Kd.at_int hC3 (j : Int) (by omega) (by omega)
                      subst e7
                      simp only [Int.toNat_natCast] at z1
                      have ha := HBR.out.2 (rd row j) (by rw [rd_get _ j hjl]; exact List.getElem_mem hjl)
                      have hm := foldl_take mark (s3.next, s3.out) row j hjl
                      rw [← rd_get _ j hjl] at hm
                      generalize rd row (j : Int) = a at *
                      generalize (row.take j).foldl mark (s3.next, s3.out) = mk at *
                      have hrunX := ii_look1 HT8.out.x.choose_spec a (wfi (by omega) (by omega))
                      by_cases hz : (mk.1 a).getD 0 = 0
                      · have hzq : ((mk.1 a).getD 0 == 0) = true := by rw [beq_iff_eq]; exact hz
                        have hmk : mark mk a = (updF mk.1 a 1, mk.2 ++ [a]) := by unfold mark; rw [if_pos hz]
                        have HK2 := Lib.hid (hm.trans hmk)
                        have l8 := HL8.out
                        clear hm hmk hz hC3
                        go_wp2_with (first | (at_mapUpdate; refine at_put LII HT8.out.x.choose_spec a 1 (wfi (by omega) (by omega)) (wfi (by decide) (by decide)) (by unfold maxLen; omega) rfl _ _ _ rfl rfl rfl rfl ?_; intro w9 hM9 hg9; have HT9 := Lib.hid (HT8.out.put hg9 ⟨_, hM9⟩); have HC9 := Lib.hid ((HT8.out.row_grown (p := ad.add n.toNat) (add_block _ _) HC8.out).2 hg9)) | (at_builtin; refine Kd.R_append (Kd.int .i64) (w0 := w0) w0.heap.size rfl _ _ 23 3 (.int .i64 0) 8 rfl Tryd.underlying23 intInfo rfl (by decide) (by omega) (.slice Ao2 mk.2.length co2) mk.2 a [.int .i64 a] (fun k_ => some k_ ≠ (Value.slice (some ⟨gc, 0, none⟩) cl.length capc).ownBlock ∧ some k_ ≠ (Value.slice (some ⟨gs, 0, none⟩) st.sz.length caps).ownBlock) (fun _ => False) rfl rfl ?aP (fun _ hk => hk.elim) ?aF HT9.out.o HT9.out.p.hb HT9.out.p.hb.size ?aL ?_))
                        case aP => exact rfl
                        case aF => exact fun k_ hk => ⟨fun he => by have := Kd.R_lt HT9.out.p.rc k_ he.symm; omega, fun he => by have := Kd.R_lt HT9.out.p.rs k_ he.symm; omega⟩
                        case aL => omega
                        intro v10 w10 hr10 hb10 hg10 hat10
                        obtain ⟨A10, c10, rfl⟩ := Kd.R_slice hr10
                        have HT10 := Lib.hid (HT9.out.grow hr10 hg10 hat10)
                        have HC10 := Lib.hid ((HT9.out.row_grown (p := ad.add n.toNat) (add_block _ _) HC9.out).1 hg10)
                        clear hr10 hb10 hg10 hat10
                        go_wp2_with fail
                        try go_frame
                        go_roundw
                        case rel =>
                          exact ⟨j + 1, kk2 + 1, by omega, by omega, by go_num, Lib.hid (by rw [HK2.out]; exact HT10.out), HC10, Lib.hid (by rw [HK2.out]; simp; omega)⟩
                        case measure => simp [intOf]; omega
                      · have hzq : ((mk.1 a).getD 0 == 0) = false := by rw [beq_eq_false_iff_ne]; exact hz
                        have hmk : mark mk a = mk := by unfold mark; rw [if_neg hz]
                        have HK2 := Lib.hid (hm.trans hmk)
                        have l8 := HL8.out
                        clear hm hmk hz hC3
                        go_wp2_with fail
                        go_roundw
                        case rel => exact ⟨j + 1, kk2, by omega, by omega, by go_num, Lib.hid (by rw [HK2.out]; exact HT8.out), HC8, Lib.hid (by rw [HK2.out]; omega)⟩
                        case measure => simp [intOf]; omega
                    · have hjl' : j = row.length := by omega
                      have HE9 : Hid (row.take j = row) := Lib.hid (by rw [hjl', List.take_length])
                      have HE10 : Hid ((row.take j).foldl mark (s3.next, s3.out) = row.foldl mark (s3.next, s3.out)) := Lib.hid (by rw [HE9.out])
                      go_wp2_with fail
                      go_roundw
                      case rel => exact ⟨k3 + 1, kk2, by omega, by omega, by go_num, Lib.hid (by rw [HA.out, ← HE10.out]; exact HT8.out), Lib.hid (by rw [HS.out]; exact HI4.out)⟩
                      case measure => simp [intOf]; omega
            · have hT := HT.out
              rw [List.take_of_length_le (by omega : look.length ≤ k3)] at hT
              have HTz := Lib.hid hT; clear hT
              go_wp2_with fail
              go_ret
              refine ⟨.slice (some ⟨gs, 0, none⟩) st.sz.length caps, .slice Ao (look.foldl (step3 ab st.fresh) ⟨cl, st.sz, fun _ => none, []⟩).out.length co, by first | rfl | (rw [List.take_of_length_le (by omega : look.length ≤ k3)]; rfl), ?_, ?_⟩
              · rw [HR.out, ← l2]; exact HTz.out.p
              · rw [HR.out, ← l2]; exact HTz.out.o
end Go.Proofs.YtciniaabmjoiiaaDoor
