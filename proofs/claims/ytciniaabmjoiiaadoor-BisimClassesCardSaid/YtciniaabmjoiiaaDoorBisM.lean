import Derived.Test.YtciniaabmjoiiaaDoorBisL
import Derived.Maps.Own
import Derived.Maps.OwnSet
import Derived.Maps.OwnOps
import Derived.Maps.Views
import Derived.Maps.Keyed
import Derived.Maps.StringElems
/- Maps of the call's own as functions; bisim's rounds as plain functions; the partition in memory, and what each write leaves of it. -/
set_option linter.unusedVariables false
set_option linter.unusedSimpArgs false
namespace Go.Proofs.YtciniaabmjoiiaaDoor
open Go.RowKit Go.Shelf Go.Maps
/-- A kind of map: its keys and elements. -/
structure KVL (K V : Type) where
  kt : TypeId
  et : TypeId
  t : TypeId
  kl : K → Lit
  kv : K → Value
  okk : K → Prop
  el : V → Lit
  ev : V → Value
  oke : V → Prop
  z : V
  keyed : Keyed Tryd.prog kt
  ht : Tryd.prog.underlying t = some (.map kt et)
  hz : ∀ w, (zeroValue et).run Tryd.prog w = .ok (ev z) w
  key : ∀ {x}, okk x → keyOf Tryd.prog kt (kv x) = some (kl x)
  isk : ∀ {x}, WideAt.IsKeyLit (kl x)
  inj : ∀ {x y}, kl x = kl y → x = y
  elem : ∀ {y}, oke y → plainElem (H := Unit) Tryd.prog et (ev y) = some (.lit (el y), [])
  inv : ∀ {v y ps}, plainElem (H := Unit) Tryd.prog et v = some (.lit (el y), ps) → v = ev y
  okz : oke z
def MapF {K V : Type} (L : KVL K V) (w : World) (b n m : Nat) (f : K → Option V) : Prop :=
  ∃ D : DataW Unit, w.ownsMap Tryd.prog L.kt (plainElem Tryd.prog L.et) b n D ∧ Maps.size D = m ∧ ∀ x, Maps.has D (L.kl x) = (f x).isSome ∧ D.atKey (L.kl x) (.lit (L.el L.z)) = .lit (L.el ((f x).getD L.z))
def updF {K V : Type} [DecidableEq K] (f : K → Option V) (x : K) (v : V) : K → Option V := fun y => if y = x then some v else f y
section
variable {K V : Type} {L : KVL K V} {w : World} {b n m : Nat} {f : K → Option V}
theorem MapF.made (L : KVL K V) (w : World) : MapF L (w.alloc (.map #[] 0)) w.heap.size 0 0 (fun _ => none) :=
  ⟨.map [], World.ownsMap_made _ _ _ _, rfl, fun x => ⟨rfl, rfl⟩⟩
theorem MapF.lt (h : MapF L w b n m f) : b < w.heap.size := by obtain ⟨D, h, _⟩ := h; exact h.lt
theorem MapF.grown (h : MapF L w b n m f) {w1 : World} {row : Option Nat} (hg : w.grownBy w1 row) (hne : some b ≠ row) : MapF L w1 b n m f := by
  obtain ⟨D, h, hs, hf⟩ := h; exact ⟨D, h.kept hg hne, hs, hf⟩
theorem MapF.set (h : MapF L w b n m f) {a : Addr} (ha : b ≠ a.block) (u : Value) : MapF L (w.setCell a u) b n m f := by
  obtain ⟨D, h, hs, hf⟩ := h; exact ⟨D, h.setCell ha u, hs, hf⟩
theorem MapF.below (h : MapF L w b n m f) {w1 : World} (hb : Below w.heap.size w w1) : MapF L w1 b n m f :=
  h.grown (row := none) ⟨hb.os, hb.tape, hb.output, hb.size, fun i hi _ => hb.block i hi⟩ (by simp)
theorem MapF.map_block (h : MapF L w b n m f) : ∃ es c, w.heap[b]? = some (.map es c) := by
  obtain ⟨D, ⟨es, c, hb, _⟩, _⟩ := h; exact ⟨es, c, hb⟩
/-- A map's block is no row's. -/
theorem MapF.ne (h : MapF L w b n m f) {g : Nat} {cs : Array Value} {t : TypeId} {fr : Nat × Nat} (hg : w.heap[g]? = some (.cells cs t fr)) : b ≠ g := by
  obtain ⟨es, c, hb⟩ := h.map_block
  rintro rfl
  rw [hb] at hg; cases hg
theorem MapF.look (h : MapF L w b n m f) {x : K} (hx : L.okk x) :
    (Instr.lookup L.t (.map (some b)) (L.kv x) true).run Tryd.prog w = .ok (.tuple #[L.ev ((f x).getD L.z), .bool (f x).isSome]) w := by
  obtain ⟨D, h, hs, hf⟩ := h
  obtain ⟨v, ps, hr, hv⟩ := h.look_ok L.keyed L.ht (L.hz w) (L.elem L.okz) (L.key hx)
  rw [(hf x).2] at hv
  rw [hr, L.inv hv, (hf x).1]
theorem MapF.look1 (h : MapF L w b n m f) {x : K} (hx : L.okk x) :
    (Instr.lookup L.t (.map (some b)) (L.kv x) false).run Tryd.prog w = .ok (L.ev ((f x).getD L.z)) w := by
  obtain ⟨D, h, hs, hf⟩ := h
  obtain ⟨v, ps, hr, hv⟩ := h.lookup L.keyed L.ht (L.hz w) (L.elem L.okz) (L.key hx)
  rw [(hf x).2] at hv
  rw [hr, L.inv hv]
theorem MapF.put [DecidableEq K] (h : MapF L w b n m f) (hn : n < maxLen) {x : K} {v : V} (hx : L.okk x) (hv : L.oke v) {w1 : World} (D1 : DataW Unit) (D : DataW Unit) (h0 : w.ownsMap Tryd.prog L.kt (plainElem Tryd.prog L.et) b n D) (hs : Maps.size D = m)
    (hf : ∀ x, Maps.has D (L.kl x) = (f x).isSome ∧ D.atKey (L.kl x) (.lit (L.el L.z)) = .lit (L.el ((f x).getD L.z))) (h1 : w1.ownsMap Tryd.prog L.kt (plainElem Tryd.prog L.et) b (n + 1) (D.put (L.kl x) (.lit (L.el v)))) :
    MapF L w1 b (n + 1) (if (f x).isSome = true then m else m + 1) (updF f x v) := by
  have hI := h0.isMap
  refine ⟨_, h1, ?_, fun y => ?_⟩
  · rw [size_put (h0.tidy L.keyed), (hf x).1, hs]
  · unfold updF
    by_cases e : y = x
    · subst e
      rw [if_pos rfl, has_put_same hI L.isk, atKey_put_same hI L.isk]
      exact ⟨rfl, rfl⟩
    · have hne : L.kl y ≠ L.kl x := fun h => e (L.inj h)
      rw [if_neg e, has_put_other hne, atKey_put_other hne]
      exact hf y
end
section
variable {K V : Type} (L : KVL K V) {w : World} {b n m : Nat} {f : K → Option V} {ops : Array Oper} {rest : List Oper} {o : Oper} {a : Act} {Q : Exit → Act → World → Prop}
/-- m[x] = v at the operation. -/
theorem at_put [DecidableEq K] (h : MapF L w b n m f) (x : K) (v : V) (hx : L.okk x) (hv : L.oke v) (hn : n < maxLen) (hg : o.guard = none) (om ox ov : Operand) (hop : o.op = Op.mapUpdate L.t om ox ov) (hm : a.eval om = .map (some b)) (hxv : a.eval ox = L.kv x) (hvv : a.eval ov = L.ev v)
    (hK : ∀ w', MapF L w' b (n + 1) (if (f x).isSome = true then m else m + 1) (updF f x v) → w.grownBy w' (some b) → wpList Tryd.prog ops Q rest (a.put o.dst undef) w') : wpList Tryd.prog ops Q (o :: rest) a w := by
  obtain ⟨D, h0, hs, hf⟩ := h
  exact wpList_mapUpdate_own w hg om ox ov L.t hop L.kt L.et L.keyed L.ht (plainElem Tryd.prog L.et) b n D hm h0 hn _ _ _ hxv hvv (L.key hx) (.lit (L.el v)) [] (L.elem hv)
    (fun w' h1 hg1 => hK w' (MapF.put ⟨D, h0, hs, hf⟩ hn hx hv (w1 := w') .nil D h0 hs hf h1) hg1)
end
theorem str_lit {a b : ByteArray} (h : a.data.toList = b.data.toList) : a = b := by
  obtain ⟨⟨l⟩⟩ := a
  obtain ⟨⟨m⟩⟩ := b
  simpa using h
theorem zeroI (w : World) : (zeroValue 3).run Tryd.prog w = .ok (.int .i64 0) w := by kernel_rfl
theorem zeroS (w : World) : (zeroValue 9).run Tryd.prog w = .ok (.string ⟨#[]⟩) w := by kernel_rfl
def LII : KVL Int Int where
  kt := 3
  et := 3
  t := 83
  kl := fun x => .int .i64 x
  kv := fun x => .int .i64 x
  okk := fun x => (Lit.int .i64 x).wf = true
  el := fun x => .int .i64 x
  ev := fun x => .int .i64 x
  oke := fun x => (Lit.int .i64 x).wf = true
  z := 0
  keyed := int_keyed Tryd.underlying3
  ht := Tryd.underlying83
  hz := zeroI
  key := fun h => keyOf_int_mk Tryd.underlying3 h
  isk := by intro x; first | exact trivial | decide | simp [WideAt.IsKeyLit]
  inj := fun h => by cases h; rfl
  elem := fun h => plainElem_int Tryd.underlying3 h
  inv := fun h => by
    obtain ⟨c, rfl, hc, _⟩ := plainElem_int_inv Tryd.underlying3 h
    have := congrArg Prod.fst hc
    simp at this
    rw [this]
  okz := by decide
def LSI : KVL ByteArray Int where
  kt := 9
  et := 3
  t := 102
  kl := fun x => .string x.data.toList
  kv := fun x => .string x
  okk := fun x => x.size ≤ maxLen
  el := fun x => .int .i64 x
  ev := fun x => .int .i64 x
  oke := fun x => (Lit.int .i64 x).wf = true
  z := 0
  keyed := string_keyed Tryd.underlying9
  ht := Tryd.underlying102
  hz := zeroI
  key := fun h => Go.WideMaps.keyOf_string_mk Tryd.underlying9 h
  isk := by intro x; first | exact trivial | decide | simp [WideAt.IsKeyLit]
  inj := fun h => by injection h with h; exact str_lit h
  elem := fun h => plainElem_int Tryd.underlying3 h
  inv := fun h => by
    obtain ⟨c, rfl, hc, _⟩ := plainElem_int_inv Tryd.underlying3 h
    have := congrArg Prod.fst hc
    simp at this
    rw [this]
  okz := by decide
def LIS : KVL Int ByteArray where
  kt := 3
  et := 9
  t := 104
  kl := fun x => .int .i64 x
  kv := fun x => .int .i64 x
  okk := fun x => (Lit.int .i64 x).wf = true
  el := fun x => .string x.data.toList
  ev := fun x => .string x
  oke := fun x => x.size ≤ maxLen
  z := ⟨#[]⟩
  keyed := int_keyed Tryd.underlying3
  ht := Tryd.underlying104
  hz := zeroS
  key := fun h => keyOf_int_mk Tryd.underlying3 h
  isk := by intro x; first | exact trivial | decide | simp [WideAt.IsKeyLit]
  inj := fun h => by cases h; rfl
  elem := fun h => plainElem_string Tryd.underlying9 h
  inv := fun h => by
    obtain ⟨s, rfl, hc, _⟩ := plainElem_string_inv Tryd.underlying9 h
    have := congrArg Prod.fst hc
    simp at this
    have e := this
    exact congrArg Value.string (ByteArray.ext e.symm)
  okz := by decide
end Go.Proofs.YtciniaabmjoiiaaDoor
set_option linter.unusedVariables false
set_option linter.unusedSimpArgs false
namespace Go.Proofs.YtciniaabmjoiiaaDoor
open Go.RowKit Go.Shelf Go.Maps Go.Proofs.YtciniaabmjoiiaaDoorW.PrintWords Go.Proofs.YtciniaabmjoiiaaDoorW.PrintLast Go.Proofs.YtciniaabmjoiiaaDoorW.PrintMore Go.Proofs.YtciniaabmjoiiaaDoor.PRef
def argsN (nodes : List Nd) (n : Int) : List Int := (rd_T35 nodes n).f3
def sgn (nodes : List Nd) (cl : List Int) (n : Int) : ByteArray := ⟨(signL cl (argsN nodes n) n).toArray⟩
/-- How many of each class are looked at. -/
def looked1 (cl : List Int) (f : Int → Option Int) (n : Int) : Int → Option Int := updF f (rd cl n) ((f (rd cl n)).getD 0 + 1)
def lookedS (cl : List Int) (look : List Int) : Int → Option Int := look.foldl (looked1 cl) (fun _ => none)
structure S2 where
  keeps : Int → Option ByteArray
  known : ByteArray → Option Int
  fresh : Int → Option Int
  sz : List Int
def S2.assign (s : S2) (n : Int) (key : ByteArray) : S2 :=
  match s.known key with
  | some u => { s with fresh := updF s.fresh n u }
  | none => { s with sz := s.sz ++ [0], known := updF s.known key s.sz.length, fresh := updF s.fresh n s.sz.length }
def step2 (nodes : List Nd) (cl : List Int) (lk : Int → Option Int) (s : S2) (n : Int) : S2 :=
  if (lk (rd cl n)).getD 0 = rd s.sz (rd cl n) then
    match s.keeps (rd cl n) with
    | none => { s with keeps := updF s.keeps (rd cl n) (sgn nodes cl n) }
    | some first => if first = sgn nodes cl n then s else s.assign n (sgn nodes cl n)
  else s.assign n (sgn nodes cl n)
def s20 (sz : List Int) : S2 := ⟨fun _ => none, fun _ => none, fun _ => none, sz⟩
def loop2 (nodes : List Nd) (cl sz look : List Int) : S2 := look.foldl (step2 nodes cl (lookedS cl look)) (s20 sz)
structure S3 where
  cl : List Int
  sz : List Int
  next : Int → Option Int
  out : List Int
def mark (p : (Int → Option Int) × List Int) (a : Int) : (Int → Option Int) × List Int := if (p.1 a).getD 0 = 0 then (updF p.1 a 1, p.2 ++ [a]) else p
def setI (l : List Int) (i x : Int) : List Int := l.set i.toNat x
def step3 (ab : List (List Int)) (fresh : Int → Option Int) (s : S3) (n : Int) : S3 :=
  match fresh n with
  | none => s
  | some u =>
    let sz1 := setI s.sz (rd s.cl n) (rd s.sz (rd s.cl n) - 1)
    let p := (ab.getD n.toNat []).foldl mark (s.next, s.out)
    ⟨setI s.cl n u, setI sz1 u (rd sz1 u + 1), p.1, p.2⟩
def roundS (nodes : List Nd) (ab : List (List Int)) (cl sz look : List Int) : S3 :=
  look.foldl (step3 ab (loop2 nodes cl sz look).fresh) ⟨cl, (loop2 nodes cl sz look).sz, fun _ => none, []⟩
/-- The partition in memory. -/
structure PSt (w0 w : World) (pb : Nat) (A : Option Addr) (c : Nat) (nodes : List Nd) (vB vC vS vA : Value) (cl sz : List Int) (ab : List (List Int)) : Prop where
  blk : w.heap[pb]? = some (.cells #[.slice A nodes.length c, vB, vC, vS, vA] 93 (0, 0))
  hb : Below w0.heap.size w0 w
  le : w0.heap.size ≤ pb
  rc : (Kd.int .i64).R 3 w w0.heap.size (fun _ => True) vC cl
  rs : (Kd.int .i64).R 3 w w0.heap.size (fun k => some k ≠ vC.ownBlock) vS sz
  ra : (Kd.slice 3 (Kd.int .i64)).R 23 w w0.heap.size (fun k => some k ≠ vC.ownBlock ∧ some k ≠ vS.ownBlock) vA ab
/-- A row of numbers beside it. -/
def Beside (w0 w : World) (vC vS vL : Value) (l : List Int) : Prop := (Kd.int .i64).R 3 w w0.heap.size (fun k => some k ≠ vC.ownBlock ∧ some k ≠ vS.ownBlock) vL l
theorem MapF.apart {K V : Type} {L : KVL K V} {w : World} {b n m : Nat} {f : K → Option V} (h : MapF L w b n m f) {α : Type} {d : Kd α} {e base : Nat} {ok : Nat → Prop} {v : Value} {xs : List α} (hr : d.R e w base ok v xs) : some b ≠ v.ownBlock := by
  intro he
  obtain ⟨inner, ho⟩ := Kd.R_own hr
  obtain ⟨cells, hc⟩ := own_typed ho b he.symm
  exact h.ne hc rfl
section
variable {w0 w : World} {pb : Nat} {A : Option Addr} {c : Nat} {nodes : List Nd} {vB vC vS vA vL : Value} {cl sz l : List Int} {ab : List (List Int)} {g n cap : Nat}
theorem PSt.below (h : PSt w0 w pb A c nodes vB vC vS vA cl sz ab) {w1 : World} (hb : Below w.heap.size w w1) : PSt w0 w1 pb A c nodes vB vC vS vA cl sz ab :=
  ⟨(hb.block pb (blk_lt h.blk)).trans h.blk, below_next h.hb hb, h.le, Kd.R_below h.rc hb, Kd.R_below h.rs hb, Kd.R_below h.ra hb⟩
theorem Beside.below (h : Beside w0 w vC vS vL l) {w1 : World} (hb : Below w.heap.size w w1) : Beside w0 w1 vC vS vL l := Kd.R_below h hb
/-- A map was written. -/
theorem PSt.mapped (h : PSt w0 w pb A c nodes vB vC vS vA cl sz ab) {w1 : World} {b : Nat} (hg : w.grownBy w1 (some b)) (hm : ∃ es ck, w.heap[b]? = some (.map es ck)) (hb : w0.heap.size ≤ b) : PSt w0 w1 pb A c nodes vB vC vS vA cl sz ab := by
  obtain ⟨es, ck, hm⟩ := hm
  have far : ∀ {α : Type} {d : Kd α} {e base : Nat} {ok : Nat → Prop} {v : Value} {xs : List α}, d.R e w base ok v xs → d.R e w1 base ok v xs := fun hr =>
    Kd.R_mono (Kd.R_grown (Kd.R_bound hr) hg (fun k hk he => by
      obtain ⟨_, _, _, q, hq, cells, hc⟩ := hk
      injection he with he
      subst he
      rw [hm] at hc; cases hc)) (fun _ hk => hk.1)
  have hne : pb ≠ b := by
    rintro rfl
    have := h.blk; rw [hm] at this; cases this
  exact ⟨(hg.block pb (blk_lt h.blk) (fun he => hne (by injection he))).trans h.blk, h.hb.grown hg (h.hb.size) (fun k hk => by injection hk with hk; omega), h.le, far h.rc, far h.rs, far h.ra⟩
theorem Beside.mapped (h : Beside w0 w vC vS vL l) {w1 : World} {b : Nat} (hg : w.grownBy w1 (some b)) (hm : ∃ es ck, w.heap[b]? = some (.map es ck)) : Beside w0 w1 vC vS vL l := by
  obtain ⟨es, ck, hm⟩ := hm
  exact Kd.R_mono (Kd.R_grown (Kd.R_bound h) hg (fun k hk he => by
      obtain ⟨_, _, _, q, hq, cells, hc⟩ := hk
      injection he with he
      subst he
      rw [hm] at hc; cases hc)) (fun _ hk => hk.1)
/-- The sizes' row has grown, and its slice been stored. -/
theorem PSt.grow (h : PSt w0 w pb A c nodes vB vC vS vA cl sz ab) {w1 : World} {v1 : Value} {sz1 : List Int} (hr : (Kd.int .i64).R 3 w1 w0.heap.size (fun k => some k ≠ vC.ownBlock) v1 sz1)
    (hg : w.grownBy w1 vS.ownBlock) (hat : v1.ownBlock = vS.ownBlock ∨ ∃ b, v1.ownBlock = some b ∧ w.heap.size ≤ b) : PSt w0 (w1.setCell ⟨pb, 3, none⟩ v1) pb A c nodes vB vC v1 vA cl sz1 ab := by
  have hne : some pb ≠ vS.ownBlock := Kd.R_ne h.rs h.blk (by decide)
  have hbk := blk_grown h.blk hg hne
  have rc1 : (Kd.int .i64).R 3 w1 w0.heap.size (fun _ => True) vC cl := by
    have h2 : (Kd.int .i64).R 3 w w0.heap.size (fun k => some k ≠ vS.ownBlock) vC cl := by
      obtain ⟨h0, inner, ho, hi⟩ := h.rc
      exact ⟨fun k hk he => h.rs.1 k he.symm hk.symm, inner, ho, hi.imp_ (fun _ _ hp => hp)⟩
    exact Kd.R_mono (Kd.R_grown h2 hg (fun k hk => hk)) (fun _ _ => trivial)
  have ra1 := Kd.R_after (ok := fun k => some k ≠ vC.ownBlock) h.ra hg hat
  have hb1 : Below w0.heap.size w0 w1 := h.hb.grown hg h.hb.size (fun k hk => Kd.R_base h.rs k hk)
  refine ⟨blk_put hbk 3 v1 rfl, hb1.setCell (p := ⟨pb, 3, none⟩) h.le _, h.le, Kd.R_set rc1 hbk (by decide) 3 v1, Kd.R_set hr hbk (by decide) 3 v1, Kd.R_set ra1 hbk (by decide) 3 v1⟩
theorem Beside.grow (h : Beside w0 w vC vS vL l) {w1 : World} {v1 : Value} (hg : w.grownBy w1 vS.ownBlock) (hat : v1.ownBlock = vS.ownBlock ∨ ∃ b, v1.ownBlock = some b ∧ w.heap.size ≤ b) {cs : Array Value} (hbk : w1.heap[pb]? = some (.cells cs 93 (0, 0))) : Beside w0 (w1.setCell ⟨pb, 3, none⟩ v1) vC v1 vL l :=
  Kd.R_set (Kd.R_after (ok := fun k => some k ≠ vC.ownBlock) h hg hat) hbk (by decide) 3 v1
/-- A store into the classes' row. -/
theorem PSt.setC (h : PSt w0 w pb A c nodes vB (.slice (some ⟨g, 0, none⟩) n cap) vS vA cl sz ab) (i x : Int) : PSt w0 (w.setCell ⟨g, i.toNat, none⟩ (.int .i64 x)) pb A c nodes vB (.slice (some ⟨g, 0, none⟩) n cap) vS vA (setI cl i x) sz ab := by
  obtain ⟨r1, hg⟩ := Kd.R_putg h.rc i x
  have hne : some pb ≠ (Value.slice (some ⟨g, 0, none⟩) n cap).ownBlock := Kd.R_ne h.rc h.blk (by decide)
  have hok : ∀ k, some k ≠ (Value.slice (some ⟨g, 0, none⟩) n cap).ownBlock → some k ≠ some g := fun k hk => hk
  exact ⟨blk_grown h.blk hg hne, h.hb.grown hg h.hb.size (fun k hk => Kd.R_base h.rc k hk), h.le, r1, Kd.R_grown h.rs hg hok, Kd.R_grown h.ra hg (fun k hk => hok k hk.1)⟩
theorem Beside.setC (h : Beside w0 w (.slice (some ⟨g, 0, none⟩) n cap) vS vL l) (hr : (Kd.int .i64).R 3 w w0.heap.size (fun _ => True) (.slice (some ⟨g, 0, none⟩) n cap) cl) (i x : Int) : Beside w0 (w.setCell ⟨g, i.toNat, none⟩ (.int .i64 x)) (.slice (some ⟨g, 0, none⟩) n cap) vS vL l :=
  Kd.R_grown h (Kd.R_putg hr i x).2 (fun k hk => hk.1)
/-- A store into the sizes' row. -/
theorem PSt.setS (h : PSt w0 w pb A c nodes vB vC (.slice (some ⟨g, 0, none⟩) n cap) vA cl sz ab) (i x : Int) : PSt w0 (w.setCell ⟨g, i.toNat, none⟩ (.int .i64 x)) pb A c nodes vB vC (.slice (some ⟨g, 0, none⟩) n cap) vA cl (setI sz i x) ab := by
  obtain ⟨r1, hg⟩ := Kd.R_putg h.rs i x
  have hne : some pb ≠ (Value.slice (some ⟨g, 0, none⟩) n cap).ownBlock := Kd.R_ne h.rs h.blk (by decide)
  have hok : ∀ k, some k ≠ (Value.slice (some ⟨g, 0, none⟩) n cap).ownBlock → some k ≠ some g := fun k hk => hk
  have h2 : (Kd.int .i64).R 3 w w0.heap.size (fun k => some k ≠ some g) vC cl := by
    obtain ⟨h0, inner, ho, hi⟩ := h.rc
    exact ⟨fun k hk he => h.rs.1 k he.symm hk.symm, inner, ho, hi.imp_ (fun _ _ hp => hp)⟩
  exact ⟨blk_grown h.blk hg hne, h.hb.grown hg h.hb.size (fun k hk => Kd.R_base h.rs k hk), h.le, Kd.R_mono (Kd.R_grown h2 hg (fun k hk => hk)) (fun _ _ => trivial), r1, Kd.R_grown h.ra hg (fun k hk => hok k hk.2)⟩
theorem Beside.setS (h : Beside w0 w vC (.slice (some ⟨g, 0, none⟩) n cap) vL l) (hr : (Kd.int .i64).R 3 w w0.heap.size (fun k => some k ≠ vC.ownBlock) (.slice (some ⟨g, 0, none⟩) n cap) sz) (i x : Int) : Beside w0 (w.setCell ⟨g, i.toNat, none⟩ (.int .i64 x)) vC (.slice (some ⟨g, 0, none⟩) n cap) vL l :=
  Kd.R_grown h (Kd.R_putg hr i x).2 (fun k hk => hk.2)
end
end Go.Proofs.YtciniaabmjoiiaaDoor
set_option linter.unusedVariables false
set_option linter.unusedSimpArgs false
namespace Go.Proofs.YtciniaabmjoiiaaDoor
open Go.RowKit Go.Shelf Go.Maps Go.Proofs.YtciniaabmjoiiaaDoorW.PrintWords Go.Proofs.YtciniaabmjoiiaaDoorW.PrintLast Go.Proofs.YtciniaabmjoiiaaDoorW.PrintMore Go.Proofs.YtciniaabmjoiiaaDoor.PRef
structure T3 (w0 w : World) (pb : Nat) (A : Option Addr) (c : Nat) (nodes : List Nd) (vB vC vS vA vL vo : Value) (b4 b5 K kk : Nat) (cl sz look out : List Int) (ab : List (List Int)) (fresh next : Int → Option Int) : Prop where
  p : PSt w0 w pb A c nodes vB vC vS vA cl sz ab
  l : (Kd.int .i64).R 3 w w0.heap.size (fun k => (some k ≠ vC.ownBlock ∧ some k ≠ vS.ownBlock) ∧ some k ≠ vo.ownBlock) vL look
  a : (Kd.slice 3 (Kd.int .i64)).R 23 w w0.heap.size (fun k => (some k ≠ vC.ownBlock ∧ some k ≠ vS.ownBlock) ∧ some k ≠ vo.ownBlock) vA ab
  o : Beside w0 w vC vS vo out
  f : ∃ m, MapF LII w b4 K m fresh
  x : ∃ m, MapF LII w b5 kk m next
  b5le : w0.heap.size ≤ b5
  b45 : b4 ≠ b5
theorem MapF.at {K V : Type} {L : KVL K V} {w w1 : World} {b n m : Nat} {f : K → Option V} (h : MapF L w b n m f) (hb : w1.heap[b]? = w.heap[b]?) : MapF L w1 b n m f := by
  obtain ⟨D, ⟨es, ck, h1, h2⟩, hs, hf⟩ := h
  exact ⟨D, ⟨es, ck, hb.trans h1, h2⟩, hs, hf⟩
theorem MapF.over {K V : Type} {L : KVL K V} {w w1 : World} {b n m : Nat} {f : K → Option V} (h : MapF L w b n m f) {α : Type} {d : Kd α} {e base : Nat} {ok : Nat → Prop} {v : Value} {xs : List α} (hr : d.R e w base ok v xs) (hg : w.grownBy w1 v.ownBlock) : MapF L w1 b n m f :=
  h.grown hg (h.apart hr)
section
variable {w0 w : World} {pb : Nat} {A : Option Addr} {c : Nat} {nodes : List Nd} {vB vC vS vA vL vo : Value} {b4 b5 K kk : Nat} {cl sz look out : List Int} {ab : List (List Int)} {fresh next : Int → Option Int} {g n cap : Nat}
theorem T3.below (h : T3 w0 w pb A c nodes vB vC vS vA vL vo b4 b5 K kk cl sz look out ab fresh next) {w1 : World} (hb : Below w.heap.size w w1) : T3 w0 w1 pb A c nodes vB vC vS vA vL vo b4 b5 K kk cl sz look out ab fresh next := by
  obtain ⟨mf, hf⟩ := h.f
  obtain ⟨mx, hx⟩ := h.x
  exact ⟨h.p.below hb, Kd.R_below h.l hb, Kd.R_below h.a hb, h.o.below hb, ⟨mf, hf.below hb⟩, ⟨mx, hx.below hb⟩, h.b5le, h.b45⟩
theorem T3.setS (h : T3 w0 w pb A c nodes vB vC (.slice (some ⟨g, 0, none⟩) n cap) vA vL vo b4 b5 K kk cl sz look out ab fresh next) (i x : Int) : T3 w0 (w.setCell ⟨g, i.toNat, none⟩ (.int .i64 x)) pb A c nodes vB vC (.slice (some ⟨g, 0, none⟩) n cap) vA vL vo b4 b5 K kk cl (setI sz i x) look out ab fresh next := by
  obtain ⟨mf, hf⟩ := h.f
  obtain ⟨mx, hx⟩ := h.x
  have hg := (Kd.R_putg h.p.rs i x).2
  exact ⟨h.p.setS i x, Kd.R_grown h.l hg (fun k hk => hk.1.2), Kd.R_grown h.a hg (fun k hk => hk.1.2), h.o.setS h.p.rs i x, ⟨mf, hf.over h.p.rs hg⟩, ⟨mx, hx.over h.p.rs hg⟩, h.b5le, h.b45⟩
theorem T3.setC (h : T3 w0 w pb A c nodes vB (.slice (some ⟨g, 0, none⟩) n cap) vS vA vL vo b4 b5 K kk cl sz look out ab fresh next) (i x : Int) : T3 w0 (w.setCell ⟨g, i.toNat, none⟩ (.int .i64 x)) pb A c nodes vB (.slice (some ⟨g, 0, none⟩) n cap) vS vA vL vo b4 b5 K kk (setI cl i x) sz look out ab fresh next := by
  obtain ⟨mf, hf⟩ := h.f
  obtain ⟨mx, hx⟩ := h.x
  have hg := (Kd.R_putg h.p.rc i x).2
  exact ⟨h.p.setC i x, Kd.R_grown h.l hg (fun k hk => hk.1.1), Kd.R_grown h.a hg (fun k hk => hk.1.1), h.o.setC h.p.rc i x, ⟨mf, hf.over h.p.rc hg⟩, ⟨mx, hx.over h.p.rc hg⟩, h.b5le, h.b45⟩
/-- The map of those marked was written. -/
theorem T3.put (h : T3 w0 w pb A c nodes vB vC vS vA vL vo b4 b5 K kk cl sz look out ab fresh next) {w1 : World} (hg : w.grownBy w1 (some b5)) {next1 : Int → Option Int} {kk1 : Nat} (hx1 : ∃ m, MapF LII w1 b5 kk1 m next1) : T3 w0 w1 pb A c nodes vB vC vS vA vL vo b4 b5 K kk1 cl sz look out ab fresh next1 := by
  obtain ⟨mf, hf⟩ := h.f
  obtain ⟨mx, hx⟩ := h.x
  have hm := hx.map_block
  obtain ⟨es, ck, hh⟩ := hx.map_block
  have far : ∀ {α : Type} {d : Kd α} {e base : Nat} {ok : Nat → Prop} {v : Value} {xs : List α}, d.R e w base ok v xs → d.R e w1 base ok v xs := fun hr =>
    Kd.R_mono (Kd.R_grown (Kd.R_bound hr) hg (fun k hk he => by
      obtain ⟨_, _, _, q, hq, cells, hc⟩ := hk
      injection he with he
      subst he
      rw [hh] at hc; cases hc)) (fun _ hk => hk.1)
  exact ⟨h.p.mapped hg hm h.b5le, far h.l, far h.a, h.o.mapped hg hm, ⟨mf, hf.grown hg (by simpa using h.b45)⟩, hx1, h.b5le, h.b45⟩
/-- The row handed back has grown. -/
theorem T3.grow (h : T3 w0 w pb A c nodes vB vC vS vA vL vo b4 b5 K kk cl sz look out ab fresh next) {w1 : World} {v1 : Value} {out1 : List Int} (hr : Beside w0 w1 vC vS v1 out1) (hg : w.grownBy w1 vo.ownBlock) (hat : v1.ownBlock = vo.ownBlock ∨ ∃ b, v1.ownBlock = some b ∧ w.heap.size ≤ b) : T3 w0 w1 pb A c nodes vB vC vS vA vL v1 b4 b5 K kk cl sz look out1 ab fresh next := by
  obtain ⟨mf, hf⟩ := h.f
  obtain ⟨mx, hx⟩ := h.x
  have hne : some pb ≠ vo.ownBlock := Kd.R_ne h.o h.p.blk (by decide)
  have rc1 : (Kd.int .i64).R 3 w1 w0.heap.size (fun _ => True) vC cl := by
    have h2 : (Kd.int .i64).R 3 w w0.heap.size (fun k => some k ≠ vo.ownBlock) vC cl := by
      obtain ⟨h0, inner, ho, hi⟩ := h.p.rc
      exact ⟨fun k hk he => (h.o.1 k he.symm).1 hk.symm, inner, ho, hi.imp_ (fun _ _ hp => hp)⟩
    exact Kd.R_mono (Kd.R_grown h2 hg (fun k hk => hk)) (fun _ _ => trivial)
  have rs1 : (Kd.int .i64).R 3 w1 w0.heap.size (fun k => some k ≠ vC.ownBlock) vS sz := by
    have h2 : (Kd.int .i64).R 3 w w0.heap.size (fun k => some k ≠ vC.ownBlock ∧ some k ≠ vo.ownBlock) vS sz := by
      obtain ⟨h0, inner, ho, hi⟩ := h.p.rs
      exact ⟨fun k hk => ⟨h0 k hk, fun he => (h.o.1 k he.symm).2 hk.symm⟩, inner, ho, hi.imp_ (fun _ _ hp => hp)⟩
    exact Kd.R_mono (Kd.R_grown h2 hg (fun k hk => hk.2)) (fun _ hk => hk.1)
  have a1 := Kd.R_after h.a hg hat
  exact ⟨⟨blk_grown h.p.blk hg hne, h.p.hb.grown hg h.p.hb.size (fun k hk => Kd.R_base h.o k hk), h.p.le, rc1, rs1, Kd.R_mono a1 (fun _ hk => hk.1)⟩, Kd.R_after h.l hg hat, a1, hr, ⟨mf, hf.over h.o hg⟩, ⟨mx, hx.over h.o hg⟩, h.b5le, h.b45⟩
/-- A row of the rows above. -/
theorem at_row {w : World} {A : Option Addr} {n : Nat} {xs : List (List Int)} (h : (Kd.slice 3 (Kd.int .i64)).C w A n xs) (i : Int) (h0 : 0 ≤ i) (h1 : i < n) : ∃ ad A3 c3, A = some ad ∧ w.cell? (ad.add i.toNat) = some (.slice A3 (xs.getD i.toNat []).length c3) ∧ (Kd.int .i64).C w A3 (xs.getD i.toNat []).length (xs.getD i.toNat []) := by
  obtain ⟨ad, cs, e, hl, hK, hc⟩ := Kd.C_get h [] i h0 h1
  obtain ⟨A3, c3, rfl, l3, g3⟩ := hK
  have := hc 0 _ rfl
  rw [show i.toNat * (Kd.slice 3 (Kd.int .i64)).sz + 0 = i.toNat from by show i.toNat * 1 + 0 = _; omega] at this
  exact ⟨ad, A3, c3, e, this, g3⟩
/-- The first of it: no row is handed back yet, nothing is marked. -/
theorem T3.new (hp : PSt w0 w pb A c nodes vB vC vS vA cl sz ab) (hl : Beside w0 w vC vS vL look) (hf : ∃ m, MapF LII w b4 K m fresh) : T3 w0 (w.alloc (.map #[] 0)) pb A c nodes vB vC vS vA vL (.slice none 0 0) b4 w.heap.size K 0 cl sz look [] ab fresh (fun _ => none) := by
  obtain ⟨m, hf⟩ := hf
  have hb : Below w.heap.size w (w.alloc (.map #[] 0)) := (Below.refl _ _).alloc (Nat.le_refl _) _
  exact ⟨hp.below hb, Kd.R_apart_nil (hl.below hb), Kd.R_apart_nil (hp.below hb).ra, Kd.R_nil _ _ _ _ _, ⟨m, hf.below hb⟩, ⟨0, MapF.made LII w⟩, hp.hb.size, by have := hf.lt; omega⟩
end
theorem T3.row {w0 w : World} {pb : Nat} {A : Option Addr} {c : Nat} {nodes : List Nd} {vB vC vS vL vo : Value} {b4 b5 K kk : Nat} {cl sz look out : List Int} {ab : List (List Int)} {fresh next : Int → Option Int} {ad : Addr} {ca : Nat} (h : T3 w0 w pb A c nodes vB vC vS (.slice (some ad) ab.length ca) vL vo b4 b5 K kk cl sz look out ab fresh next) (i : Int) (h0 : 0 ≤ i) (h1 : i < ab.length) {A3 : Option Addr} {m c3 : Nat} (hc : w.cell? (ad.add i.toNat) = some (.slice A3 m c3)) :
    (Kd.int .i64).C w A3 (ab.getD i.toNat []).length (ab.getD i.toNat []) ∧ m = (ab.getD i.toNat []).length := by
  obtain ⟨ad', A3', c3', e, hc', hC⟩ := at_row (Kd.R_reads' h.a).2.2 i h0 h1
  cases e
  rw [hc] at hc'
  cases hc'
  exact ⟨hC, rfl⟩
/-- The row above stays where another row, or the map, is written. -/
theorem T3.row_grown {w0 w : World} {pb : Nat} {A : Option Addr} {c : Nat} {nodes : List Nd} {vB vC vS vL vo : Value} {b4 b5 K kk : Nat} {cl sz look out : List Int} {ab : List (List Int)} {fresh next : Int → Option Int} {ad : Addr} {ca : Nat} (h : T3 w0 w pb A c nodes vB vC vS (.slice (some ad) ab.length ca) vL vo b4 b5 K kk cl sz look out ab fresh next) {p : Addr} (hp : p.block = ad.block) {v : Value} (hc : w.cell? p = some v) {w1 : World} :
    (w.grownBy w1 vo.ownBlock → w1.cell? p = some v) ∧ (w.grownBy w1 (some b5) → w1.cell? p = some v) := by
  have ho := h.a.1 ad.block rfl
  refine ⟨fun hg => hg.cell hc (by rw [hp]; exact ho.2), fun hg => hg.cell hc ?_⟩
  rw [hp]
  intro he
  injection he with he
  obtain ⟨inner, hw⟩ := Kd.R_own h.a
  obtain ⟨cells, hcc⟩ := own_typed hw ad.block rfl
  obtain ⟨m, hx⟩ := h.x
  obtain ⟨es, ck, hh⟩ := hx.map_block
  rw [← he, hcc] at hh; cases hh
theorem rd_setI (l : List Int) (i x j : Int) : rd (setI l i x) j = if i.toNat = j.toNat ∧ i.toNat < l.length then x else rd l j := by
  unfold rd setI
  simp only [List.getD_eq_getElem?_getD, List.getElem?_set]
  by_cases h : i.toNat = j.toNat
  · by_cases h2 : i.toNat < l.length
    · simp [h, h2]; rw [← h]; simp [h2]
    · simp [h, h2]; rw [← h, List.getElem?_eq_none (by omega)]; simp [h2]
  · simp [h]
theorem mark_len (l : List Int) : ∀ p : (Int → Option Int) × List Int, (l.foldl mark p).2.length ≤ p.2.length + l.length := by
  induction l with
  | nil => intro p; simp
  | cons a r ih =>
    intro p
    have h1 := ih (mark p a)
    have h2 : (mark p a).2.length ≤ p.2.length + 1 := by unfold mark; split <;> simp
    simp only [List.foldl_cons, List.length_cons]
    omega
structure I3 (N szl k : Nat) (s : S3) : Prop where
  lc : s.cl.length = N
  ls : s.sz.length = szl
  cr : ∀ i, 0 ≤ rd s.cl i ∧ rd s.cl i < szl
  sr : ∀ i, -(8192 + 2 * (k : Int)) ≤ rd s.sz i ∧ rd s.sz i ≤ 8192 + 2 * k
  lo : s.out.length ≤ 40000 * k
theorem I3.up {N szl k : Nat} {s : S3} (h : I3 N szl k s) : I3 N szl (k + 1) s := ⟨h.lc, h.ls, h.cr, fun i => by have := h.sr i; omega, by have := h.lo; omega⟩
theorem step3_none {ab : List (List Int)} {fresh : Int → Option Int} {s : S3} {n : Int} (h : fresh n = none) : step3 ab fresh s n = s := by unfold step3; rw [h]
theorem step3_some {ab : List (List Int)} {fresh : Int → Option Int} {s : S3} {n u : Int} (h : fresh n = some u) : step3 ab fresh s n = ⟨setI s.cl n u, setI (setI s.sz (rd s.cl n) (rd s.sz (rd s.cl n) - 1)) u (rd (setI s.sz (rd s.cl n) (rd s.sz (rd s.cl n) - 1)) u + 1), ((ab.getD n.toNat []).foldl mark (s.next, s.out)).1, ((ab.getD n.toNat []).foldl mark (s.next, s.out)).2⟩ := by unfold step3; rw [h]
theorem I3.step {N szl k : Nat} {s : S3} (h : I3 N szl k s) {ab : List (List Int)} {fresh : Int → Option Int} (hf : ∀ n v, fresh n = some v → 0 ≤ v ∧ v < szl) (n : Int) (hb : (ab.getD n.toNat []).length ≤ 40000) : I3 N szl (k + 1) (step3 ab fresh s n) := by
  cases hfr : fresh n with
  | none => rw [step3_none hfr]; exact h.up
  | some u =>
    rw [step3_some hfr]
    have hu := hf n u hfr
    refine ⟨?_, ?_, fun i => ?_, fun i => ?_, ?_⟩
    · show (setI s.cl n u).length = N; unfold setI; rw [List.length_set]; exact h.lc
    · show (setI (setI s.sz _ _) _ _).length = szl; unfold setI; rw [List.length_set, List.length_set]; exact h.ls
    · show 0 ≤ rd (setI s.cl n u) i ∧ rd (setI s.cl n u) i < szl
      rw [rd_setI]; split
      · exact hu
      · exact h.cr i
    · show -(8192 + 2 * ((k + 1 : Nat) : Int)) ≤ rd (setI (setI s.sz (rd s.cl n) (rd s.sz (rd s.cl n) - 1)) u (rd (setI s.sz (rd s.cl n) (rd s.sz (rd s.cl n) - 1)) u + 1)) i ∧ rd (setI (setI s.sz (rd s.cl n) (rd s.sz (rd s.cl n) - 1)) u (rd (setI s.sz (rd s.cl n) (rd s.sz (rd s.cl n) - 1)) u + 1)) i ≤ 8192 + 2 * ((k + 1 : Nat) : Int)
      have a1 := h.sr (rd s.cl n)
      have a2 := h.sr u
      have a3 := h.sr i
      simp only [rd_setI]
      repeat' split
      all_goals omega
    · show ((ab.getD n.toNat []).foldl mark (s.next, s.out)).2.length ≤ 40000 * (k + 1)
      have := mark_len (ab.getD n.toNat []) (s.next, s.out)
      have := h.lo
      simp only at *
      omega
end Go.Proofs.YtciniaabmjoiiaaDoor
