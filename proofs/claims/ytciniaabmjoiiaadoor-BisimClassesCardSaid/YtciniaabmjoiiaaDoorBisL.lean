import Derived.Test.YtciniaabmjoiiaaDoorBld
import Derived.Test.YtciniaabmjoiiaaDoorGraphA
import Derived.Lib.AppendIntMem
import Derived.Lib.LaidTab
import Derived.Deep.RegionWith
/- bisim.label and bisim's sign: what texts they are. -/
set_option linter.unusedVariables false
set_option linter.unusedSimpArgs false
namespace Go.Proofs.YtciniaabmjoiiaaDoor
open Go.RowKit Go.Shelf Go.Proofs.YtciniaabmjoiiaaDoorW.PrintWords Go.Proofs.YtciniaabmjoiiaaDoorW.PrintLast Go.Proofs.YtciniaabmjoiiaaDoorW.PrintMore Go.Proofs.YtciniaabmjoiiaaDoor.PRef
def TabE (w : World) : Prop := Lib.TabIs Tryd.prog w "internal/strconv.uint64pow10" .u64 Lib.pow10Tab ∧ 0 < w.heap.size
theorem gTab : Tryd.prog.globalNamed "internal/strconv.uint64pow10" = some 0 := by kernel_rfl
theorem TabE.keep {w w1 : World} (h : TabE w) (hb : Below w.heap.size w w1) : TabE w1 := ⟨var?_below hb gTab h.2 h.1, Nat.lt_of_lt_of_le h.2 hb.size⟩
def RetS (s : ByteArray) (w : World) (e : Ending) (w' : World) : Prop := e = .returned (.string s) ∧ Below w.heap.size w w'
theorem itoa_any (n : Int) (w : World) (h0 : -9223372036854775808 ≤ n) (h1 : n ≤ 9223372036854775807) (E : TabE w) : Calls Tryd.prog 77 #[.int .i64 n] w (RetS ⟨(Lib.itoa n).toArray⟩ w) :=
  (Tryd.strconv_Itoa n h0 h1 w E.1).mono fun e w' ⟨he, k, os, hw⟩ => ⟨he, by rw [hw]; exact Lib.below_grow _ _ (Nat.le_refl _) k os⟩
theorem dd_len (n : Nat) : ∀ u : Nat, u < 10 ^ (n + 1) → (Lib.decDigits u).length ≤ n + 1 := by
  induction n with
  | zero => intro u h; rw [Lib.decDigits, dif_pos (by omega)]; simp
  | succ n ih =>
    intro u h
    rw [Lib.decDigits]
    by_cases h1 : u < 10
    · rw [dif_pos h1]; simp
    · rw [dif_neg h1, List.length_append]
      have h2 : u < 10 ^ (n + 1) * 10 := by rw [← Nat.pow_succ]; exact h
      have := ih (u / 10) (by omega)
      simp; omega
theorem itoa_len (n : Int) (h0 : -9223372036854775808 ≤ n) (h1 : n ≤ 9223372036854775807) : (Lib.itoa n).length ≤ 20 := by
  unfold Lib.itoa
  split
  · have := dd_len 18 n.natAbs (by omega); simp; omega
  · have := dd_len 18 n.toNat (by omega); omega
/-- A node's label as text. -/
def labelB (kd : Int) (nm : ByteArray) (num : Int) (k : Nat) (i : Int) : ByteArray :=
  if kd = 1 then ⟨#[118]⟩ ++ ⟨(Lib.itoa i).toArray⟩ else if kd = 3 then ⟨#[105]⟩ ++ ⟨(Lib.itoa num).toArray⟩ else if kd = 2 then ⟨#[97]⟩ ++ nm else (⟨(Lib.itoa k).toArray⟩ ++ ⟨#[99]⟩) ++ nm
theorem itoa_box (n : Int) (W : World) (b : Nat) (nm : ByteArray) (h0 : -9223372036854775808 ≤ n) (h1 : n ≤ 9223372036854775807) (E : TabE W) (hc : W.cell? ⟨b, 1, none⟩ = some (.string nm)) :
    Calls Tryd.prog 77 #[.int .i64 n] W fun e w' => e = .returned (.string ⟨(Lib.itoa n).toArray⟩) ∧ w'.cell? ⟨b, 1, none⟩ = some (.string nm) ∧ Hid (Below W.heap.size W w') :=
  (itoa_any n W h0 h1 E).mono fun e w' ⟨he, hb⟩ => ⟨he, (hb.cell (p := ⟨b, 1, none⟩) (World.block_lt_of_cell? W _ hc)).trans hc, Lib.hid hb⟩
theorem sz_mk (l : List UInt8) : (⟨l.toArray⟩ : ByteArray).size = l.length := rfl
set_option maxRecDepth 100000 in
set_option maxHeartbeats 8000000 in
theorem label_any (kd : Int) (nm : ByteArray) (num : Int) (A : Option Addr) (k c : Nat) (i : Int) (w : World) (hn : nm.size ≤ 1048576) (hk : k ≤ 1048576) (i0 : 0 ≤ i) (i1 : i ≤ 1048576) (m0 : -9223372036854775808 ≤ num) (m1 : num ≤ 9223372036854775807) (E : TabE w) :
    Calls Tryd.prog 73 #[.agg #[.int .i64 kd, .string nm, .int .i64 num, .slice A k c], .int .i64 i] w (RetS (labelB kd nm num k i) w) := by
  have l1 := itoa_len i (by omega) (by omega)
  have l2 := itoa_len num (by omega) (by omega)
  have l3 := itoa_len k (by omega) (by omega)
  have HE := Lib.hid E; clear E
  have hE1 : ∀ o, TabE (w.alloc o) := fun o => HE.out.keep ((Below.refl _ _).alloc (Nat.le_refl _) _)
  have hE2 : ∀ o n, TabE ((w.alloc o).drewN n) := fun o n => HE.out.keep (below_drewN ((Below.refl _ _).alloc (Nat.le_refl _) _) _)
  have HE1 := Lib.hid (And.intro hE1 hE2); clear hE1 hE2
  by_cases k1 : kd = 1
  · subst k1
    have e : labelB 1 nm num k i = ⟨#[118]⟩ ++ ⟨(Lib.itoa i).toArray⟩ := rfl
    rw [e]; clear e
    clear l2 l3
    go_enter Tryd.func73, Tryd.ntmps73
    go_wp2_with fail
    refine (itoa_any i _ (by omega) (by omega) (HE1.out.1 _)).mono ?_; rintro e w1 ⟨rfl, hb1⟩
    go_wp2_with fail
    go_ret
    exact ⟨rfl, below_next ((Below.refl _ _).alloc (Nat.le_refl _) _) hb1⟩
  · by_cases k3 : kd = 3
    · subst k3
      have e : labelB 3 nm num k i = ⟨#[105]⟩ ++ ⟨(Lib.itoa num).toArray⟩ := rfl
      rw [e]; clear e k1
      clear l1 l3
      go_enter Tryd.func73, Tryd.ntmps73
      go_wp2_with fail
      refine (itoa_any num _ (by omega) (by omega) (HE1.out.1 _)).mono ?_; rintro e w1 ⟨rfl, hb1⟩
      go_wp2_with fail
      go_ret
      exact ⟨rfl, below_next ((Below.refl _ _).alloc (Nat.le_refl _) _) hb1⟩
    · by_cases k2 : kd = 2
      · subst k2
        have e : labelB 2 nm num k i = ⟨#[97]⟩ ++ nm := rfl
        rw [e]; clear e k1 k3 l1 l2 l3
        go_enter Tryd.func73, Tryd.ntmps73
        go_wp2_with fail
        go_ret
        exact ⟨rfl, (Below.refl _ _).alloc (Nat.le_refl _) _⟩
      · have e : labelB kd nm num k i = (⟨(Lib.itoa k).toArray⟩ ++ ⟨#[99]⟩) ++ nm := by unfold labelB; rw [if_neg k1, if_neg k3, if_neg k2]
        rw [e]; clear e
        have q1 : (kd == 1) = false := by simpa using k1
        have q2 : (kd == 2) = false := by simpa using k2
        have q3 : (kd == 3) = false := by simpa using k3
        clear l1 l2 k1 k2 k3
        go_enter Tryd.func73, Tryd.ntmps73
        go_wp2_with fail
        have c1 : (w.alloc (.cells #[.int .i64 kd, .string nm, .int .i64 num, .slice A k c] 35)).cell? ⟨w.heap.size, 1, none⟩ = some (.string nm) := by simp [go_sem]
        have c3 : (w.alloc (.cells #[.int .i64 kd, .string nm, .int .i64 num, .slice A k c] 35)).cell? ⟨w.heap.size, 3, none⟩ = some (.slice A k c) := by simp [go_sem]
        have HB : Hid (Below w.heap.size w (w.alloc (.cells #[.int .i64 kd, .string nm, .int .i64 num, .slice A k c] 35)) ∧ TabE (w.alloc (.cells #[.int .i64 kd, .string nm, .int .i64 num, .slice A k c] 35))) := Lib.hid ⟨(Below.refl _ _).alloc (Nat.le_refl _) _, HE1.out.1 _⟩
        clear HE1
        generalize hW : w.alloc (.cells #[.int .i64 kd, .string nm, .int .i64 num, .slice A k c] 35) = W at *
        have HW := Lib.hid hW; clear hW
        go_region_with (go_at_call 77; refine (itoa_box k _ w.heap.size nm (by omega) (by omega) (by first | exact HB.out.2 | exact HB.out.2.keep (below_drewN (Below.refl _ _) 1) | exact HB.out.2.keep (below_drewN (Below.refl _ _) _)) (by first | exact c1 | simpa [go_sem] using c1)).mono ?_; rintro e w1 ⟨rfl, c1', hb1⟩)
        all_goals go_wp2
        all_goals go_ret
        all_goals exact ⟨rfl, below_next (below_next HB.out.1 (Below.refl _ _).drew) hb1.out⟩
/- sign -/
def signL (cl : List Int) (l : List Int) (n : Int) : List UInt8 := Lib.itoa (rd cl n) ++ (l.flatMap fun a => 32 :: Lib.itoa (rd cl a))
def signP (cl : List Int) (l : List Int) (n : Int) (j : Nat) : List UInt8 := Lib.itoa (rd cl n) ++ ((l.take j).flatMap fun a => 32 :: Lib.itoa (rd cl a))
theorem signP_step (cl l : List Int) (n : Int) (j : Nat) (h : j < l.length) : signP cl l n (j + 1) = signP cl l n j ++ 32 :: Lib.itoa (rd cl (rd l j)) := by
  unfold signP
  rw [List.take_succ_eq_append_getElem h, rd_get l j h, List.flatMap_append]
  simp
theorem signP_end (cl l : List Int) (n : Int) : signP cl l n l.length = signL cl l n := by unfold signP signL; rw [List.take_length]
theorem signP_len (cl l : List Int) (n : Int) (hc : ∀ i, 0 ≤ rd cl i ∧ rd cl i ≤ 1048576) : ∀ j, (signP cl l n j).length ≤ 20 + 21 * j := by
  intro j
  induction j with
  | zero => simp [signP]; exact itoa_len _ (by have := hc n; omega) (by have := hc n; omega)
  | succ j ih =>
    by_cases h : j < l.length
    · rw [signP_step _ _ _ _ h]
      have := itoa_len (rd cl (rd l j)) (by have := hc (rd l j); omega) (by have := hc (rd l j); omega)
      simp; omega
    · have e : signP cl l n (j + 1) = signP cl l n j := by
        unfold signP; rw [List.take_of_length_le (by omega), List.take_of_length_le (by omega)]
      rw [e]; omega
theorem IsB.keep {B b : Nat} {l : List Value} {w w1 : World} (h : IsB B b l w) (hb : Below w.heap.size w w1) : IsB B b l w1 := by
  have key : ∀ p, Lib.BuilderAt 115 5 B b p l w → Lib.BuilderAt 115 5 B b p l w1 := fun p h => by
    have hlt := h.lt
    obtain ⟨hB, v, hbk, hown, hne⟩ := h
    exact ⟨hB, v, (hb.block b hlt).trans hbk, own_move hown (fun k hk => hb.block k (hown.lt k hk).2), hne⟩
  exact h.elim (fun x => .inl (key _ x)) (fun x => .inr (key _ x))
theorem IsB.fresh (w : World) : IsB w.heap.size w.heap.size [] (w.alloc (.cells #[.pointer none, .slice none 0 0] 115)) :=
  .inl ⟨Nat.le_refl _, .slice none 0 0, blk_new _ _, World.ownsRow_nil _ _ _ _, by simp [Value.ownBlock]⟩
/-- What the partition says, as a call of its reads it. -/
structure PRd (w : World) (pb : Nat) (A : Option Addr) (c : Nat) (nodes : List Nd) (G : Option Addr) (gc : Nat) (cl : List Int) : Prop where
  c0 : w.cell? ⟨pb, 0, none⟩ = some (.slice A nodes.length c)
  c2 : w.cell? ⟨pb, 2, none⟩ = some (.slice G cl.length gc)
  hn : Hid (Kd.C k35 w A nodes.length nodes)
  hc : Hid (Kd.C (Kd.int .i64) w G cl.length cl)
theorem PRd.keep {w w1 : World} {pb : Nat} {A : Option Addr} {c : Nat} {nodes : List Nd} {G : Option Addr} {gc : Nat} {cl : List Int} (h : PRd w pb A c nodes G gc cl) (hb : Below w.heap.size w w1) : PRd w1 pb A c nodes G gc cl :=
  ⟨(hb.cell (p := ⟨pb, 0, none⟩) (World.block_lt_of_cell? w _ h.c0)).trans h.c0, (hb.cell (p := ⟨pb, 2, none⟩) (World.block_lt_of_cell? w _ h.c2)).trans h.c2, Lib.hid (Kd.C_below h.hn.out hb), Lib.hid (Kd.C_below h.hc.out hb)⟩
set_option maxRecDepth 100000 in
set_option maxHeartbeats 4000000 in
theorem sign_any (pb : Nat) (A : Option Addr) (c : Nat) (nodes : List Nd) (G : Option Addr) (gc : Nat) (cl : List Int) (n : Nat) (w : World) (hp : PRd w pb A c nodes G gc cl) (E : TabE w) (hn : n < nodes.length) (hl : cl.length = nodes.length)
    (hcl : ∀ i, 0 ≤ rd cl i ∧ rd cl i ≤ 1048576) (ha : (rd_T35 nodes n).f3.length ≤ 8) (hr : ∀ j : Nat, j < (rd_T35 nodes n).f3.length → 0 ≤ rd (rd_T35 nodes n).f3 j ∧ rd (rd_T35 nodes n).f3 j < nodes.length) :
    Calls Tryd.prog 74 #[.pointer (some ⟨pb, 0, none⟩), .int .i64 n] w (RetS ⟨(signL cl (rd_T35 nodes n).f3 n).toArray⟩ w) := by
  obtain ⟨ad, A3, c3, e1, x0, x1, x2, x3, l3, g3⟩ := at_T35 hp.hn.out (n : Int) (by omega) (by omega)
  subst e1
  simp only [Int.toNat_natCast] at x0 x1 x2 x3
  obtain ⟨gd, e2, y0⟩ := Kd.at_int hp.hc.out (n : Int) (by omega) (by omega)
  subst e2
  simp only [Int.toNat_natCast] at y0
  have hmax : cl.length ≤ 9223372036854775807 := hp.hc.out.2.1
  have hmax2 : nodes.length ≤ 9223372036854775807 := hp.hn.out.2.1
  have HE := Lib.hid E; clear E
  have G3 := Lib.hid g3; clear g3
  have HP := Lib.hid hp
  obtain ⟨c0, c2, HN, HC⟩ := hp
  have b0 : pb < w.heap.size := World.block_lt_of_cell? w _ c0
  have b1 : (ad.add (n * 4)).block < w.heap.size := World.block_lt_of_cell? w _ x0
  have b2 : (gd.add n).block < w.heap.size := World.block_lt_of_cell? w _ y0
  generalize hargs : (rd_T35 nodes n).f3 = args at *
  have HA := Lib.hid hargs; clear hargs
  go_enter Tryd.func74, Tryd.ntmps74
  go_wp2_with fail
  refine (itoa_any (rd cl n) _ (by have := hcl n; omega) (by have := hcl n; omega) (HE.out.keep ((Below.refl _ _).alloc (Nat.le_refl _) _))).mono ?_; rintro e w1 ⟨rfl, hb1⟩
  have I1 : Hid (IsB w.heap.size w.heap.size [] w1 ∧ Below w.heap.size w w1) := Lib.hid ⟨(IsB.fresh w).keep hb1, below_next ((Below.refl _ _).alloc (Nat.le_refl _) _) hb1⟩
  clear hb1
  have sz := itoa_len (rd cl n) (by have := hcl n; omega) (by have := hcl n; omega)
  go_wp2_with fail
  refine (wstr_any w.heap.size w.heap.size [] _ _ I1.out.1 (by rw [sz_mk]; simp; omega) I1.out.2.size).mono ?_; rintro e w2 ⟨rfl, h2, hb2⟩
  have I2 : Hid (IsB w.heap.size w.heap.size (Lib.byteCells (signP cl args n 0)) w2 ∧ Below w.heap.size w w2) := Lib.hid ⟨by simpa [signP, Lib.strCells_toArray] using h2, I1.out.2.trans hb2⟩
  clear I1 h2 hb2 sz
  have d0 := (I2.out.2.cell (p := ⟨pb, 0, none⟩) b0).trans c0
  have d3 := (I2.out.2.cell (p := ⟨(ad.add (n * 4)).block, (ad.add (n * 4)).off + 3, none⟩) b1).trans x3
  go_wp2_with fail
  go_loopw [27] (fun i wr => ∃ j : Nat, j ≤ args.length ∧ i = .int .i64 j ∧ Hid (IsB w.heap.size w.heap.size (Lib.byteCells (signP cl args n j)) wr ∧ Below w.heap.size w wr)) (fun i _ => args.length - (intOf i).toNat)
  case atStart => exact ⟨0, Nat.zero_le _, rfl, I2⟩
  case round =>
    obtain ⟨j, hj, rfl, HI⟩ := hrel
    have sl := signP_len cl args n hcl j
    by_cases hlt : j < args.length
    · obtain ⟨qd, e1, z0⟩ := Kd.at_int (Kd.C_below G3.out HI.out.2) (j : Int) (by omega) (by omega)
      subst e1
      simp only [Int.toNat_natCast] at z0
      have hrj := hr j hlt
      have ss := signP_step cl args n j hlt
      have SS := Lib.hid ss; clear ss
      generalize rd args j = a at *
      obtain ⟨gd', e2, y1⟩ := Kd.at_int HC.out a (by omega) (by omega)
      cases e2
      have b3 : (gd.add a.toNat).block < w.heap.size := World.block_lt_of_cell? w _ y1
      have sz := itoa_len (rd cl a) (by have := hcl a; omega) (by have := hcl a; omega)
      go_wp2_with fail
      refine (wbyte_any w.heap.size w.heap.size _ _ _ HI.out.1 (by rw [Lib.byteCells_length]; omega) HI.out.2.size).mono ?_; rintro e w3 ⟨rfl, h3, hb3⟩
      have I3 : Hid (IsB w.heap.size w.heap.size (Lib.byteCells (signP cl args n j ++ [32])) w3 ∧ Below w.heap.size w w3) := Lib.hid ⟨by simpa [Lib.byteCells_append, Lib.byteCells] using h3, HI.out.2.trans hb3⟩
      clear h3 hb3 HI
      have d2 := (I3.out.2.cell (p := ⟨pb, 2, none⟩) b0).trans c2
      have d4 := (I3.out.2.cell (p := gd.add a.toNat) b3).trans y1
      go_wp2_with fail
      refine (itoa_any (rd cl a) _ (by have := hcl a; omega) (by have := hcl a; omega) (HE.out.keep I3.out.2)).mono ?_; rintro e w4 ⟨rfl, hb4⟩
      have I4 : Hid (IsB w.heap.size w.heap.size (Lib.byteCells (signP cl args n j ++ [32])) w4 ∧ Below w.heap.size w w4) := Lib.hid ⟨I3.out.1.keep hb4, below_next I3.out.2 hb4⟩
      clear hb4 I3 d2 d4
      go_wp2_with fail
      refine (wstr_any w.heap.size w.heap.size _ _ _ I4.out.1 (by rw [sz_mk, Lib.byteCells_length]; simp; omega) I4.out.2.size).mono ?_; rintro e w5 ⟨rfl, h5, hb5⟩
      have I5 : Hid (IsB w.heap.size w.heap.size (Lib.byteCells (signP cl args n (j + 1))) w5 ∧ Below w.heap.size w w5) := Lib.hid ⟨by rw [SS.out]; simpa [Lib.strCells_toArray, Lib.byteCells_append, Lib.byteCells] using h5, I4.out.2.trans hb5⟩
      clear h5 hb5 I4
      go_wp2_with fail
      go_roundw
      case rel => exact ⟨j + 1, by omega, by go_num, I5⟩
      case measure => simp [intOf]; omega
    · have hj' : j = args.length := by omega
      have HJ := Lib.hid hj'; clear hj'
      go_wp2_with fail
      refine (Tryd.Builder_String_any w.heap.size w.heap.size _ _ HI.out.1 HI.out.2.size).mono ?_; rintro e w3 ⟨rfl, hb3⟩
      go_wp2_with fail
      go_ret
      have e : signP cl args n j = signL cl args n := by rw [HJ.out, signP_end]
      exact ⟨by rw [← e]; rfl, HI.out.2.trans hb3⟩
end Go.Proofs.YtciniaabmjoiiaaDoor
