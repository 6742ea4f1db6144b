import Derived.Test.YtciniaabmjoiiaaDoorBisI
/- The walk of bisim.begin. -/
set_option linter.unusedVariables false
set_option linter.unusedSimpArgs false
namespace Go.Proofs.YtciniaabmjoiiaaDoor
open Go.RowKit Go.Shelf Go.Maps Go.Proofs.YtciniaabmjoiiaaDoorW.PrintWords Go.Proofs.YtciniaabmjoiiaaDoorW.PrintLast Go.Proofs.YtciniaabmjoiiaaDoorW.PrintMore Go.Proofs.YtciniaabmjoiiaaDoor.PRef
theorem rowInfo : (Tryd.prog.info? 23).map (fun i => (i.zero, i.size, i.bytes)) = some (some (.slice none 0 0), 1, 24) := by kernel_rfl
theorem rinfo1 (W : World) (N : Nat) (base : Nat) (hb : base ≤ W.heap.size) (hN : N ≤ 4096) (ok : Nat → Prop) (hok : ok W.heap.size) : (Kd.int .i64).R 3 (W.alloc (.cells (madeCells #[.int .i64 0] N) 3)) base ok (.slice (some ⟨W.heap.size, 0, none⟩) N N) (List.replicate N 0) := by
  have := R_made (Kd.int .i64) base 3 W (.int .i64 0) N (0 : Int) (ok := ok) (okp := ok) rfl (by decide) rfl (fun _ h => h) hok hb (by omega)
  have e : N * (Kd.int .i64).sz = N := Nat.mul_one N
  rw [e] at this
  exact this
theorem rinfo2 (W : World) (N : Nat) (base : Nat) (hb : base ≤ W.heap.size) (hN : N ≤ 4096) (ok : Nat → Prop) (hok : ok W.heap.size) : Kd.S (Kd.slice 3 (Kd.int .i64)) 23 (W.alloc (.cells (madeCells #[.slice none 0 0] N) 23)) base ok (.slice (some ⟨W.heap.size, 0, none⟩) N N) (List.replicate N []) := by
  have := R_made (Kd.bare (Kd.slice 3 (Kd.int .i64))) base 23 W (.slice none 0 0) N ([] : List Int) (ok := ok) (okp := ok) rfl (by decide) ⟨.slice none 0 0, rfl, Kd.R_nil _ _ _ _ _⟩ (fun _ h => h) hok hb (by omega)
  have e : N * (Kd.bare (Kd.slice 3 (Kd.int .i64))).sz = N := Nat.mul_one N
  rw [e] at this
  exact Kd.S_bare this
/-- What begin makes first, in either order. -/
theorem BSt.new (w0 W : World) (A B : Option Addr) (c d m : Nat) (nodes : List Nd) (hb : Below w0.heap.size w0 W) (hN : nodes.length ≤ 4096) :
    BSt w0 (((W.alloc (.cells (madeCells #[.int .i64 0] nodes.length) 3)).alloc (.cells (madeCells #[.slice none 0 0] nodes.length) 23)).alloc (.cells #[.slice A nodes.length c, .slice B m d, .slice (some ⟨W.heap.size, 0, none⟩) nodes.length nodes.length, .slice none 0 0, .slice (some ⟨W.heap.size + 1, 0, none⟩) nodes.length nodes.length] 93)) (W.heap.size + 1 + 1) A c nodes (.slice B m d) (.slice (some ⟨W.heap.size, 0, none⟩) nodes.length nodes.length) (.slice none 0 0) (.slice (some ⟨W.heap.size + 1, 0, none⟩) nodes.length nodes.length) (sB0 nodes.length).cl (sB0 nodes.length).sz (sB0 nodes.length).ab := by
  have hs := hb.size
  have r1 := rinfo1 W nodes.length w0.heap.size hs hN (fun _ => True) trivial
  have r2 := rinfo2 (W.alloc (.cells (madeCells #[.int .i64 0] nodes.length) 3)) nodes.length w0.heap.size (by simp; omega) hN (okB (.slice (some ⟨W.heap.size, 0, none⟩) nodes.length nodes.length) (.slice none 0 0)) (by simp [okB, Value.ownBlock])
  have b1 : Below w0.heap.size w0 (W.alloc (.cells (madeCells #[.int .i64 0] nodes.length) 3)) := hb.alloc hs _
  have b2 := b1.alloc b1.size (.cells (madeCells #[.slice none 0 0] nodes.length) 23)
  have b3 := b2.alloc b2.size (.cells #[.slice A nodes.length c, .slice B m d, .slice (some ⟨W.heap.size, 0, none⟩) nodes.length nodes.length, .slice none 0 0, .slice (some ⟨W.heap.size + 1, 0, none⟩) nodes.length nodes.length] 93)
  have e1 : (W.alloc (.cells (madeCells #[.int .i64 0] nodes.length) 3)).heap.size = W.heap.size + 1 := by simp
  rw [e1] at r2
  have s3 := Kd.S_alloc r2 (.cells #[.slice A nodes.length c, .slice B m d, .slice (some ⟨W.heap.size, 0, none⟩) nodes.length nodes.length, .slice none 0 0, .slice (some ⟨W.heap.size + 1, 0, none⟩) nodes.length nodes.length] 93)
  refine ⟨⟨?_, b3, by omega, Kd.R_alloc (Kd.R_alloc r1 _) _, Kd.R_nil _ _ _ _ _, Kd.S_R s3⟩, s3⟩
  have := blk_new ((W.alloc (.cells (madeCells #[.int .i64 0] nodes.length) 3)).alloc (.cells (madeCells #[.slice none 0 0] nodes.length) 23)) (.cells #[.slice A nodes.length c, .slice B m d, .slice (some ⟨W.heap.size, 0, none⟩) nodes.length nodes.length, .slice none 0 0, .slice (some ⟨W.heap.size + 1, 0, none⟩) nodes.length nodes.length] 93)
  simpa using this
theorem BSt.new' (w0 W : World) (A B : Option Addr) (c d m : Nat) (nodes : List Nd) (hb : Below w0.heap.size w0 W) (hN : nodes.length ≤ 4096) :
    BSt w0 (((W.alloc (.cells (madeCells #[.slice none 0 0] nodes.length) 23)).alloc (.cells (madeCells #[.int .i64 0] nodes.length) 3)).alloc (.cells #[.slice A nodes.length c, .slice B m d, .slice (some ⟨W.heap.size + 1, 0, none⟩) nodes.length nodes.length, .slice none 0 0, .slice (some ⟨W.heap.size, 0, none⟩) nodes.length nodes.length] 93)) (W.heap.size + 1 + 1) A c nodes (.slice B m d) (.slice (some ⟨W.heap.size + 1, 0, none⟩) nodes.length nodes.length) (.slice none 0 0) (.slice (some ⟨W.heap.size, 0, none⟩) nodes.length nodes.length) (sB0 nodes.length).cl (sB0 nodes.length).sz (sB0 nodes.length).ab := by
  have hs := hb.size
  have e1 : (W.alloc (.cells (madeCells #[.slice none 0 0] nodes.length) 23)).heap.size = W.heap.size + 1 := by simp
  have r2 := rinfo2 W nodes.length w0.heap.size hs hN (okB (.slice (some ⟨W.heap.size + 1, 0, none⟩) nodes.length nodes.length) (.slice none 0 0)) (by simp [okB, Value.ownBlock])
  have r1 := rinfo1 (W.alloc (.cells (madeCells #[.slice none 0 0] nodes.length) 23)) nodes.length w0.heap.size (by simp; omega) hN (fun _ => True) trivial
  rw [e1] at r1
  have b1 : Below w0.heap.size w0 (W.alloc (.cells (madeCells #[.slice none 0 0] nodes.length) 23)) := hb.alloc hs _
  have b2 := b1.alloc b1.size (.cells (madeCells #[.int .i64 0] nodes.length) 3)
  have b3 := b2.alloc b2.size (.cells #[.slice A nodes.length c, .slice B m d, .slice (some ⟨W.heap.size + 1, 0, none⟩) nodes.length nodes.length, .slice none 0 0, .slice (some ⟨W.heap.size, 0, none⟩) nodes.length nodes.length] 93)
  have s3 := Kd.S_alloc (Kd.S_alloc r2 (.cells (madeCells #[.int .i64 0] nodes.length) 3)) (.cells #[.slice A nodes.length c, .slice B m d, .slice (some ⟨W.heap.size + 1, 0, none⟩) nodes.length nodes.length, .slice none 0 0, .slice (some ⟨W.heap.size, 0, none⟩) nodes.length nodes.length] 93)
  refine ⟨⟨?_, b3, by omega, Kd.R_alloc r1 _, Kd.R_nil _ _ _ _ _, Kd.S_R s3⟩, s3⟩
  have := blk_new ((W.alloc (.cells (madeCells #[.slice none 0 0] nodes.length) 23)).alloc (.cells (madeCells #[.int .i64 0] nodes.length) 3)) (.cells #[.slice A nodes.length c, .slice B m d, .slice (some ⟨W.heap.size + 1, 0, none⟩) nodes.length nodes.length, .slice none 0 0, .slice (some ⟨W.heap.size, 0, none⟩) nodes.length nodes.length] 93)
  simpa using this
theorem IB.rz {nodes : List Nd} {k : Nat} {s : SB} (h : IB nodes k s) (key : ByteArray) (c : Int) : 0 ≤ rd (szB s key) c ∧ rd (szB s key) c ≤ nodes.length := by
  have e : rd (szB s key) c = rd s.sz c := by
    rcases mid_cases s key with ⟨_, _, _, h3, _⟩ | ⟨_, _, h3, _⟩ <;> rw [h3]
    rw [rd_snocZ]
  rw [e]
  by_cases hc : c.toNat < s.sz.length
  · have e2 : rd s.sz c = rd s.sz ((c.toNat : Nat) : Int) := rfl
    rw [e2, h.ct _ (by omega) (by omega)]
    have h1 : (s.cl.take k).count ((c.toNat : Nat) : Int) ≤ (s.cl.take k).length := List.count_le_length
    have h2 := h.lc
    rw [List.length_take] at h1
    omega
  · rw [rd_out _ _ hc]; omega
set_option maxRecDepth 100000 in
set_option maxHeartbeats 4000000 in
theorem begin_any (w : World) (A B : Option Addr) (c d m : Nat) (nodes : List Nd) (G : GoodG nodes) (HN : Kd.C k35 w A nodes.length nodes) (E : TabE w) :
    Calls Tryd.prog 61 #[.agg #[.slice A nodes.length c, .slice B m d]] w fun e w' => ∃ pb vC vS vA, e = .returned (.pointer (some ⟨pb, 0, none⟩)) ∧ PSt w w' pb A c nodes (.slice B m d) vC vS vA (sBk nodes nodes.length).cl (sBk nodes nodes.length).sz (sBk nodes nodes.length).ab := by
  have hN := G.1
  have HG := Lib.hid G
  have HNn := Lib.hid HN
  have HE := Lib.hid E
  clear G HN E
  have hm1 := print_make_of (P := Tryd.prog) 23 3 (.int .i64 0) 8 Tryd.underlying23 intInfo rfl (by decide) nodes.length (by omega)
  have hm2 := print_make_of (P := Tryd.prog) 62 23 (.slice none 0 0) 24 Tryd.underlying62 rowInfo rfl (by decide) nodes.length (by omega)
  have hmm := @run_makeMap Tryd.prog
  go_enter Tryd.func61, Tryd.ntmps61
  go_upto_region 1 with fail
  have c0 : (w.alloc (.cells #[.slice A nodes.length c, .slice B m d] 25)).cell? ⟨w.heap.size, 0, none⟩ = some (.slice A nodes.length c) := by simp [go_sem]
  have c1 : (w.alloc (.cells #[.slice A nodes.length c, .slice B m d] 25)).cell? ⟨w.heap.size, 1, none⟩ = some (.slice B m d) := by simp [go_sem]
  have HB : Hid (Below w.heap.size w (w.alloc (.cells #[.slice A nodes.length c, .slice B m d] 25))) := Lib.hid ((Below.refl _ _).alloc (Nat.le_refl _) _)
  have hsz : (w.alloc (.cells #[.slice A nodes.length c, .slice B m d] 25)).heap.size = w.heap.size + 1 := by simp
  generalize hW : w.alloc (.cells #[.slice A nodes.length c, .slice B m d] 25) = W at *
  clear hW
  generalize hgb : w.heap.size = gb at *
  go_cut [3] from 3 to 22 (fun s3 wx => ∃ pb vC vA, s3 = .pointer (some ⟨pb, 0, none⟩) ∧ Hid (BSt w wx pb A c nodes (.slice B m d) vC (.slice none 0 0) vA (sB0 nodes.length).cl (sB0 nodes.length).sz (sB0 nodes.length).ab) ∧ Hid (wx.cell? ⟨gb, 0, none⟩ = some (.slice A nodes.length c)))
  case first =>
    go_region
    all_goals go_wp2_with fail
    all_goals go_meet
    · refine ⟨gb + 1 + 1 + 1, .slice (some ⟨gb + 1, 0, none⟩) nodes.length nodes.length, .slice (some ⟨gb + 1 + 1, 0, none⟩) nodes.length nodes.length, rfl, Lib.hid ?_, Lib.hid ?_⟩
      · have := BSt.new w W A B c d m nodes (by rw [hgb]; exact HB.out) hN
        rw [hsz] at this
        exact this.below (Below.refl _ _).drew
      · exact (((((Below.refl _ _).alloc (Nat.le_refl W.heap.size) _).alloc (by simp) _).alloc (by simp; omega) _).cell (p := ⟨gb, 0, none⟩) (by show gb < _; omega)).trans c0
    · refine ⟨gb + 1 + 1 + 1, .slice (some ⟨gb + 1 + 1, 0, none⟩) nodes.length nodes.length, .slice (some ⟨gb + 1, 0, none⟩) nodes.length nodes.length, rfl, Lib.hid ?_, Lib.hid ?_⟩
      · have := BSt.new' w W A B c d m nodes (by rw [hgb]; exact HB.out) hN
        rw [hsz] at this
        exact this.below (Below.refl _ _).drew
      · exact (((((Below.refl _ _).alloc (Nat.le_refl W.heap.size) _).alloc (by simp) _).alloc (by simp; omega) _).cell (p := ⟨gb, 0, none⟩) (by show gb < _; omega)).trans c0
  case rest =>
    obtain ⟨pb, vC, vA, rfl, HS, HC⟩ := hcut
    clear c0 c1 HB hsz hm1 hm2
    have Hgb := Lib.hid hgb; clear hgb
    have c0 := HC.out
    clear HC
    go_upto_region 3 with fail
    have HM : Hid (∃ mm, MapF LSI (wc.alloc (.map #[] 0)) wc.heap.size 0 mm (sB0 nodes.length).known) := Lib.hid ⟨0, MapF.made LSI wc⟩
    have HS1 := Lib.hid (HS.out.below ((Below.refl _ _).alloc (Nat.le_refl _) (.map #[] 0)))
    have hbm : w.heap.size ≤ wc.heap.size := HS.out.p.hb.size
    have c1 := (((Below.refl wc.heap.size wc).alloc (Nat.le_refl _) (.map #[] 0)).cell (p := ⟨gb, 0, none⟩) (World.block_lt_of_cell? wc _ c0)).trans c0
    clear HS c0
    generalize wc.alloc (.map #[] 0) = w1 at *
    generalize wc.heap.size = bm at *
    go_upto_region 3 with fail
    go_wp2_with fail
    go_loopw [27] (fun i wr => ∃ (k : Nat) (vS : Value), k ≤ nodes.length ∧ i = .int .i64 k ∧ Hid (BSt w wr pb A c nodes (.slice B m d) vC vS vA (sBk nodes k).cl (sBk nodes k).sz (sBk nodes k).ab) ∧ Hid (∃ mm, MapF LSI wr bm k mm (sBk nodes k).known)) (fun i _ => nodes.length - (intOf i).toNat)
    case atStart => exact ⟨0, _, Nat.zero_le _, rfl, HS1, HM⟩
    case round =>
      obtain ⟨k, vS, hk, rfl, HS, HM⟩ := hrel
      clear HS1 c1
      by_cases hlt : k < nodes.length
      · have HI := Lib.hid (IB.at HG.out k hk)
        have HZ := Lib.hid (sBk_succ nodes k)
        generalize sBk nodes k = s at *
        have hcl := HI.out.lc
        have hal := HI.out.la
        obtain ⟨gc, capc, rfl, _, _, _, _⟩ := Kd.R_form HS.out.p.rc (by omega)
        obtain ⟨ga, capa, rfl, _, _, _, _⟩ := Kd.S_form HS.out.s (by omega)
        have HCL := Lib.hid (And.intro hcl hal); clear hcl hal
        obtain ⟨ad, A3, c3, e1, x0, x1, x2, x3, l3, g3⟩ := at_T35 HNn.out (k : Int) (by omega) (by omega)
        subst e1
        simp only [Int.toNat_natCast] at x0 x1 x2 x3
        replace x0 := (HS.out.p.hb.cell (World.block_lt_of_cell? w _ x0)).trans x0
        replace x1 := (HS.out.p.hb.cell (World.block_lt_of_cell? w _ x1)).trans x1
        replace x2 := (HS.out.p.hb.cell (World.block_lt_of_cell? w _ x2)).trans x2
        replace x3 := (HS.out.p.hb.cell (World.block_lt_of_cell? w _ x3)).trans x3
        have hgood := HG.out.2 (k : Int) (by omega) (by omega)
        have hname := name_size (show goodB _ _ _ _ _ = true from hgood)
        have hkinds := kind_cases (show goodB _ _ _ _ _ = true from hgood)
        have hargs := good_args HG.out (k : Int) (by omega) (by omega)
        have hls := labT_size HG.out k hlt
        have hlab : labelB (rd_T35 nodes k).f0 (rd_T35 nodes k).f1 (rd_T35 nodes k).f2 (rd_T35 nodes k).f3.length (k : Int) = labT nodes k := rfl
        have harg : (rd_T35 nodes k).f3 = argsN nodes k := rfl
        have hnum : -9223372036854775808 ≤ (rd_T35 nodes k).f2 ∧ (rd_T35 nodes k).f2 ≤ 9223372036854775807 := by
          show -9223372036854775808 ≤ (ndT nodes k).f2 ∧ (ndT nodes k).f2 ≤ 9223372036854775807
          rcases hkinds with a | a | a | a <;> omega
        have hname2 : (rd_T35 nodes k).f1.size ≤ 32 := hname
        clear hkinds hgood hname
        generalize rd_T35 nodes (k : Int) = nd at *
        obtain ⟨kd, nm, num, args⟩ := nd
        simp only at *
        have G3 := Lib.hid g3; clear g3
        have HL := Lib.hid hlab; clear hlab
        have HAr := Lib.hid (And.intro harg hargs); clear harg hargs
        have ha8 : args.length ≤ 8 := by rw [HAr.out.1]; exact HAr.out.2.1
        go_upto_region 6 with fail
        have HN0 : Hid (BN w (wr.alloc (.cells #[.int .i64 kd, .string nm, .int .i64 num, .slice A3 args.length c3] 35)) pb (some ad) c nodes (.slice B m d) (.slice (some ⟨gc, 0, none⟩) s.cl.length capc) vS (.slice (some ⟨ga, 0, none⟩) s.ab.length capa) s.cl s.sz s.ab wr.heap.size #[.int .i64 kd, .string nm, .int .i64 num, .slice A3 args.length c3]) := Lib.hid ⟨HS.out.below ((Below.refl _ _).alloc (Nat.le_refl _) _), blk_new _ _⟩
        have HM0 : Hid (∃ mm, MapF LSI (wr.alloc (.cells #[.int .i64 kd, .string nm, .int .i64 num, .slice A3 args.length c3] 35)) bm k mm s.known) := Lib.hid ⟨_, HM.out.choose_spec.below ((Below.refl _ _).alloc (Nat.le_refl _) _)⟩
        clear HS HM x0 x1 x2 x3
        generalize wr.alloc (.cells #[.int .i64 kd, .string nm, .int .i64 num, .slice A3 args.length c3] 35) = W2 at *
        generalize wr.heap.size = bk at *
        have y0 := blk_cell HN0.out.x 0
        have y1 := blk_cell HN0.out.x 1
        have y2 := blk_cell HN0.out.x 2
        have y3 := blk_cell HN0.out.x 3
        go_wp2_with fail
        refine (label_any kd nm num A3 args.length c3 k W2 (by omega) (by omega) (by omega) (by omega) hnum.1 hnum.2 (HE.out.keep HN0.out.b.p.hb)).mono ?_; rintro e w9 ⟨rfl, hb2⟩
        rw [HL.out]
        have HN1 := Lib.hid (HN0.out.below hb2)
        have HM1 : Hid (∃ mm, MapF LSI w9 bm k mm s.known) := Lib.hid ⟨_, HM0.out.choose_spec.below hb2⟩
        clear HN0 HM0 y0 y1 y2 y3 hb2
        have hrunS := si_look HM1.out.choose_spec (labT nodes k) (by unfold maxLen; omega)
        have hsl := HI.out.ls
        have hrz := HI.out.rz (labT nodes k)
        rcases mid_cases s (labT nodes k) with ⟨u, hkk, e1, e2, e3⟩ | ⟨hkk, e1, e2, e3⟩
        · rw [hkk] at hrunS
          have hu := HI.out.kr _ _ hkk
          have hz : 0 ≤ u ∧ u < (szB s (labT nodes k)).length := by rw [e2]; exact hu
          have HCc := Lib.hid e1
          have HB9 : Hid (BN w w9 pb (some ad) c nodes (.slice B m d) (.slice (some ⟨gc, 0, none⟩) s.cl.length capc) vS (.slice (some ⟨ga, 0, none⟩) s.ab.length capa) s.cl (szB s (labT nodes k)) s.ab bk #[.int .i64 kd, .string nm, .int .i64 num, .slice A3 args.length c3]) := Lib.hid (by rw [e2]; exact HN1.out)
          have HM9 : Hid (∃ mm, MapF LSI w9 bm (k + 1) mm (knB s (labT nodes k))) := Lib.hid ⟨_, by rw [e3]; exact HM1.out.choose_spec.upto (by omega)⟩
          clear HN1 HM1 e1 e2 e3 hkk
          go_upto_region 12 with fail
          clear hrunS hu
          obtain ⟨gs, caps, rfl, _, _, _, _⟩ := Kd.R_form HB9.out.b.p.rs (by omega)
          generalize hzz : szB s (labT nodes k) = z at *
          have HZz := Lib.hid hzz; clear hzz
          have y1 := blk_cell HB9.out.b.p.blk 2
          have y2 := Kd.R_celln 0 HB9.out.b.p.rc (k : Int) (by omega) (by have := HCL.out.1; omega)
          obtain ⟨y2, y3⟩ := y2
          have HB10 := Lib.hid (HB9.out.setC (k : Int) u)
          have HM10 : Hid (∃ mm, MapF LSI (w9.setCell ⟨gc, (k : Int).toNat, none⟩ (.int .i64 u)) bm (k + 1) mm (knB s (labT nodes k))) := Lib.hid ⟨_, HM9.out.choose_spec.over HB9.out.b.p.rc (Kd.R_putg HB9.out.b.p.rc (k : Int) u).2⟩
          simp only [Int.toNat_natCast] at y2 y3 HB10 HM10
          clear HB9 HM9
          have hcln := HCL.out.1
          go_upto_region 13 with fail
          clear y1 y2 y3
          generalize w9.setCell ⟨gc, k, none⟩ (.int .i64 u) = w10 at *
          clear hcln
          have y1 := blk_cell HB10.out.b.p.blk 3
          have y2 := Kd.R_celln 0 HB10.out.b.p.rs u hz.1 hz.2
          have e5 : rdOf 0 z u = rd z u := rfl
          rw [e5] at y2
          clear e5
          obtain ⟨y2, y3⟩ := y2
          have hzu := hrz u
          have HB11 := Lib.hid (HB10.out.setS u (rd z u + 1))
          have HM11 : Hid (∃ mm, MapF LSI (w10.setCell ⟨gs, u.toNat, none⟩ (.int .i64 (rd z u + 1))) bm (k + 1) mm (knB s (labT nodes k))) := Lib.hid ⟨_, HM10.out.choose_spec.over HB10.out.b.p.rs (Kd.R_putg HB10.out.b.p.rs u (rd z u + 1)).2⟩
          clear HB10 HM10 hrz
          generalize hzv : rd z u = zv at *
          have HZV := Lib.hid hzv; clear hzv
          obtain ⟨hz0, hz1⟩ := hz
          go_upto_region 14 with fail
          clear y1 y2 y3
          generalize w10.setCell ⟨gs, u.toNat, none⟩ (.int .i64 (zv + 1)) = w11 at *
          have y3 := blk_cell HB11.out.x 3
          have HS11 := Lib.hid HB11.out.b
          clear HB11
          go_wp2_with fail
          go_loopw [79] (fun i wr => ∃ j : Nat, j ≤ args.length ∧ i = .int .i64 j ∧ Hid (BSt w wr pb (some ad) c nodes (.slice B m d) (.slice (some ⟨gc, 0, none⟩) s.cl.length capc) (.slice (some ⟨gs, 0, none⟩) z.length caps) (.slice (some ⟨ga, 0, none⟩) s.ab.length capa) (setI s.cl k u) (setI z u (zv + 1)) ((args.take j).foldl (pushA k) s.ab)) ∧ Hid (∃ mm, MapF LSI wr bm (k + 1) mm (knB s (labT nodes k)))) (fun i _ => args.length - (intOf i).toNat)
          case atStart => exact ⟨0, Nat.zero_le _, rfl, HS11, HM11⟩
          case round =>
            obtain ⟨j, hj, rfl, HS12, HM12⟩ := hrel
            clear HS11 HM11 y3
            by_cases hjl : j < args.length
            · obtain ⟨qd, e7, z1⟩ := Kd.at_int (Kd.C_below G3.out HS12.out.p.hb) (j : Int) (by omega) (by omega)
              subst e7
              simp only [Int.toNat_natCast] at z1
              have ha : 0 ≤ rd args j ∧ rd args j < nodes.length := HAr.out.2.2 _ (by rw [← HAr.out.1, rd_get _ j hjl]; exact List.getElem_mem hjl)
              have hm := foldl_take (pushA (k : Int)) s.ab args j hjl
              rw [← rd_get _ j hjl] at hm
              have hpl := push_len (k : Int) (args.take j) s.ab (rd args j).toNat
              have hpl2 := HI.out.al (rd args j).toNat
              rw [List.length_take] at hpl
              generalize rd args (j : Int) = a at *
              have HA := Lib.hid hm; clear hm
              generalize (args.take j).foldl (pushA (k : Int)) s.ab = ab2 at *
              have hab := HCL.out.2
              obtain ⟨va, oki, p0, p1, pR, pok, pback⟩ := HS12.out.push a ha.1 (by omega)
              obtain ⟨Av, cv, rfl⟩ := Kd.R_slice pR
              clear hab
              have hrl : (ab2.getD a.toNat []).length ≤ 40000 := by omega
              have hpush : pushA (k : Int) ab2 a = ab2.set a.toNat (ab2.getD a.toNat [] ++ [(k : Int)]) := rfl
              have HPu := Lib.hid hpush; clear hpush hpl hpl2
              generalize ab2.getD a.toNat [] = row at *
              obtain ⟨ha0, ha1⟩ := ha
              have y1 := blk_cell HS12.out.p.blk 4
              have PR := Lib.hid pR
              have PB := Lib.hid pback
              have PO := Lib.hid pok
              clear pR pback pok
              have HF : Hid (∀ q, wr.heap.size ≤ q → okB (.slice (some ⟨gc, 0, none⟩) s.cl.length capc) (.slice (some ⟨gs, 0, none⟩) z.length caps) q) := Lib.hid (fun q hq => ⟨fun he => by have := Kd.R_lt HS12.out.p.rc q he.symm; omega, fun he => by have := Kd.R_lt HS12.out.p.rs q he.symm; omega⟩)
              have HQ : Hid (∀ W9 w9 : World, Below wr.heap.size wr W9 → W9.grownBy w9 (Value.slice Av row.length cv).ownBlock → w9.cell? ⟨pb, 4, none⟩ = some (.slice (some ⟨ga, 0, none⟩) s.ab.length capa) ∧ w9.cell? ⟨ga, a.toNat, none⟩ = some (.slice Av row.length cv) ∧ w9.frozen? ⟨ga, a.toNat, none⟩ = false) := Lib.hid (fun W9 w9 hbW hg => by
                have hne : some pb ≠ (Value.slice Av row.length cv).ownBlock := Kd.R_ne PR.out HS12.out.p.blk (by decide)
                have b1 := (hbW.block pb (blk_lt HS12.out.p.blk)).trans HS12.out.p.blk
                have b2 := blk_grown b1 hg hne
                obtain ⟨cells, hc⟩ := Kd.S_typed HS12.out.s ga (by simp [Value.ownBlock])
                have hnv : some ga ≠ (Value.slice Av row.length cv).ownBlock := fun he => (PO.out ga (PR.out.1 ga he.symm)).2 rfl
                have g2 := blk_grown ((hbW.block ga (blk_lt hc)).trans hc) hg hnv
                exact ⟨blk_cell b2 4, hg.cell ((hbW.cell (p := ⟨ga, a.toNat, none⟩) (World.block_lt_of_cell? wr _ p0)).trans p0) hnv, blk_frozen g2 a.toNat⟩)
              have HM13 : Hid (∀ W9 w9 : World, ∀ v9 : Value, Below wr.heap.size wr W9 → W9.grownBy w9 (Value.slice Av row.length cv).ownBlock → ∃ mm, MapF LSI (w9.setCell ⟨ga, a.toNat, none⟩ v9) bm (k + 1) mm (knB s (labT nodes k))) := Lib.hid (fun W9 w9 v9 hbW hg => by
                have h1 := HM12.out.choose_spec
                have hne : some bm ≠ (Value.slice Av row.length cv).ownBlock := h1.apart PR.out
                obtain ⟨cells, hc⟩ := Kd.S_typed HS12.out.s ga (by simp [Value.ownBlock])
                exact ⟨_, ((h1.below hbW).grown hg hne).set (a := ⟨ga, a.toNat, none⟩) (h1.ne hc) v9⟩)
              have hcln := HCL.out.2
              have h17 : a < (s.ab.length : Int) := by omega
              clear hcln
              have y5 : wr.cell? ⟨pb, 4, none⟩ = some (.slice (some ⟨ga, 0, none⟩) s.ab.length capa) := y1
              clear y1
              have p4 := (((Below.refl wr.heap.size wr).alloc (Nat.le_refl _) (.cells #[.int .i64 (k : Int)] 3)).cell (p := ⟨ga, a.toNat, none⟩) (World.block_lt_of_cell? wr _ p0)).trans p0
              have y4 := (((Below.refl wr.heap.size wr).alloc (Nat.le_refl _) (.cells #[.int .i64 (k : Int)] 3)).cell (p := ⟨pb, 4, none⟩) (World.block_lt_of_cell? wr _ y5)).trans y5
              go_upto_region 17 with fail
              go_region_law (rw [show (wr.alloc (.cells #[.int .i64 (k : Int)] 3)).drew = wr.drew.alloc (.cells #[.int .i64 (k : Int)] 3) from rfl]; refine Kd.R_append_step (Kd.int .i64) (w0 := w) (W := wr.drew) w.heap.size (by rfl) (.tmp 94) (.tmp 96) 23 3 (.int .i64 0) 8 (by rfl) Tryd.underlying23 intInfo rfl (by decide) (by omega) (.slice Av row.length cv) row (k : Int) [.int .i64 k] (fun q => oki q ∨ okB (.slice (some ⟨gc, 0, none⟩) s.cl.length capc) (.slice (some ⟨gs, 0, none⟩) z.length caps) q ∧ wr.heap.size ≤ q) (fun _ => False) (by simp [Act.eval, Act.put]) (by simp [Act.eval, Act.put]) rfl (fun _ h => h.elim) (fun q hq => .inr ⟨HF.out q hq, hq⟩) (by first | exact Kd.R_mono PR.out (fun _ h => .inl h) | exact Kd.R_mono (Kd.R_below PR.out (Below.refl _ _).drew) (fun _ h => .inl h) | exact Kd.R_mono (Kd.R_below PR.out (below_drewN (Below.refl _ _) _)) (fun _ h => .inl h)) (by first | exact HS12.out.p.hb | exact HS12.out.p.hb.drew | exact below_drewN HS12.out.p.hb _) HS12.out.p.hb.size (by omega) ?_; intro v1 w1 hr1 hb1 hg1 hat1; obtain ⟨A1, c1, rfl⟩ := Kd.R_slice hr1; obtain ⟨q1, q2, q3⟩ := HQ.out _ _ (by first | exact Below.refl _ _ | exact (Below.refl _ _).drew | exact below_drewN (Below.refl _ _) _) hg1)
              all_goals (have HS13 : Hid (BSt w _ pb (some ad) c nodes (.slice B m d) (.slice (some ⟨gc, 0, none⟩) s.cl.length capc) (.slice (some ⟨gs, 0, none⟩) z.length caps) (.slice (some ⟨ga, 0, none⟩) s.ab.length capa) (setI s.cl k u) (setI z u (zv + 1)) (pushA (k : Int) ab2 a)) := Lib.hid (by rw [HPu.out]; exact PB.out _ _ _ _ (Below.refl _ _).drew hr1 hg1)
                         have HM14 := HM13.out _ _ (.slice A1 (row ++ [(k : Int)]).length c1) (Below.refl _ _).drew hg1
                         have hlen9 : (row ++ [(k : Int)]).length = row.length + 1 := by simp
                         rw [hlen9] at HS13 HM14
                         clear hlen9
                         have HA2 := HA
                         clear p0 p1 p4 y4 y5 PR PB PO HF HQ HM13 HS12 HM12 z1 hrl hr1 hg1 hb1 hat1 q1 q2 q3
                         go_wp2_with fail
                         go_roundw
                         case rel => exact ⟨j + 1, by omega, by go_num, Lib.hid (by rw [HA2.out]; exact HS13.out), Lib.hid HM14⟩
                         case measure => simp [intOf]; omega)
            · have hjl' : j = args.length := by omega
              have HE9 : Hid (args.take j = args) := Lib.hid (by rw [hjl', List.take_length])
              go_wp2_with fail
              go_roundw
              case rel => exact ⟨k + 1, _, by omega, by go_num, Lib.hid (by
                rw [HZ.out]
                show BSt w _ pb (some ad) c nodes _ _ _ _ (setI s.cl k (cB s (labT nodes k))) (setI (szB s (labT nodes k)) (cB s (labT nodes k)) (rd (szB s (labT nodes k)) (cB s (labT nodes k)) + 1)) ((argsN nodes k).foldl (pushA k) s.ab)
                rw [HCc.out, HZz.out, HZV.out, ← HAr.out.1]
                have := HS12.out
                rw [HE9.out] at this
                exact this), Lib.hid (by rw [HZ.out]; exact HM12.out)⟩
              case measure => simp [intOf]; omega
        · rw [hkk] at hrunS
          obtain ⟨As, cs, rfl⟩ := Kd.R_slice HN1.out.b.p.rs
          have hz : 0 ≤ (s.sz.length : Int) ∧ (s.sz.length : Int) < (szB s (labT nodes k)).length := by rw [e2]; simp; omega
          have HCc := Lib.hid e1
          have HE2 := Lib.hid e2
          have HE3 := Lib.hid e3
          clear e1 e2 e3
          have x3 := blk_cell HN1.out.b.p.blk 3
          go_wp2_with (first | (at_mapUpdate; refine at_put LSI HM1.out.choose_spec (labT nodes k) (s.sz.length : Int) (show (labT nodes k).size ≤ maxLen by unfold maxLen; omega) (wfi (by omega) (by omega)) (by unfold maxLen; omega) rfl _ _ _ rfl rfl rfl rfl ?_; intro w3 hM3 hg3; have HN3 := Lib.hid (HN1.out.mapped hg3 HM1.out.choose_spec.map_block (by omega)); have x4 := blk_cell HN3.out.b.p.blk 3) | (at_builtin; refine Kd.R_append (Kd.int .i64) (w0 := w) w.heap.size rfl _ _ 23 3 (.int .i64 0) 8 rfl Tryd.underlying23 intInfo rfl (by decide) (by omega) (.slice As s.sz.length cs) s.sz 0 [.int .i64 0] (fun k_ => some k_ ≠ (Value.slice (some ⟨gc, 0, none⟩) s.cl.length capc).ownBlock) (fun _ => False) rfl rfl ?aP (fun _ hk => hk.elim) ?aF HN3.out.b.p.rs HN3.out.b.p.hb HN3.out.b.p.hb.size ?aL ?_))
          case aP => exact rfl
          case aF => exact fun k_ hk he => by have := Kd.R_lt HN3.out.b.p.rc k_ he.symm; omega
          case aL => omega
          intro v7 w7 hr7 hb7 hg7 hat7
          obtain ⟨A7, c7, rfl⟩ := Kd.R_slice hr7
          have hne7 : some pb ≠ (Value.slice As s.sz.length cs).ownBlock := Kd.R_ne HN3.out.b.p.rs HN3.out.b.p.blk (by decide)
          have hbk7 := blk_grown HN3.out.b.p.blk hg7 hne7
          have d3 := blk_cell hbk7 3
          have f3 := blk_frozen hbk7 3
          have HB9 := Lib.hid (HN3.out.grow hr7 hg7 hat7)
          have HM9 : Hid (∃ mm, MapF LSI (w7.setCell ⟨pb, 3, none⟩ (.slice A7 (s.sz ++ [0]).length c7)) bm (k + 1) mm (knB s (labT nodes k))) := Lib.hid ⟨_, by rw [HE3.out]; have h9 := hM3.over HN3.out.b.p.rs hg7; exact h9.set (a := ⟨pb, 3, none⟩) (h9.ne hbk7) _⟩
          clear hr7 hb7 hg7 hat7 hne7 hbk7 x3 x4 HN1 HM1 HN3 hM3 hg3
          have hlen : (s.sz ++ [0]).length = s.sz.length + 1 := by simp
          rw [hlen] at HB9 HM9
          go_upto_region 12 with fail
          try rw [hlen]
          clear hlen
          generalize w7.setCell ⟨pb, 3, none⟩ (.slice A7 (s.sz.length + 1) c7) = w9 at *
          generalize Value.slice A7 (s.sz.length + 1) c7 = vS at *
          replace HB9 : Hid (BN w w9 pb (some ad) c nodes (.slice B m d) (.slice (some ⟨gc, 0, none⟩) s.cl.length capc) vS (.slice (some ⟨ga, 0, none⟩) s.ab.length capa) s.cl (szB s (labT nodes k)) s.ab bk #[.int .i64 kd, .string nm, .int .i64 num, .slice A3 args.length c3]) := Lib.hid (by rw [HE2.out]; exact HB9.out)
          clear d3 f3 hrunS hkk HE2 HE3
          generalize hcc : (s.sz.length : Int) = u at *
          have Hcc := Lib.hid hcc; clear hcc
          obtain ⟨gs, caps, rfl, _, _, _, _⟩ := Kd.R_form HB9.out.b.p.rs (by omega)
          generalize hzz : szB s (labT nodes k) = z at *
          have HZz := Lib.hid hzz; clear hzz
          have y1 := blk_cell HB9.out.b.p.blk 2
          have y2 := Kd.R_celln 0 HB9.out.b.p.rc (k : Int) (by omega) (by have := HCL.out.1; omega)
          obtain ⟨y2, y3⟩ := y2
          have HB10 := Lib.hid (HB9.out.setC (k : Int) u)
          have HM10 : Hid (∃ mm, MapF LSI (w9.setCell ⟨gc, (k : Int).toNat, none⟩ (.int .i64 u)) bm (k + 1) mm (knB s (labT nodes k))) := Lib.hid ⟨_, HM9.out.choose_spec.over HB9.out.b.p.rc (Kd.R_putg HB9.out.b.p.rc (k : Int) u).2⟩
          simp only [Int.toNat_natCast] at y2 y3 HB10 HM10
          clear HB9 HM9
          have hcln := HCL.out.1
          go_upto_region 13 with fail
          clear y1 y2 y3
          generalize w9.setCell ⟨gc, k, none⟩ (.int .i64 u) = w10 at *
          clear hcln
          have y1 := blk_cell HB10.out.b.p.blk 3
          have y2 := Kd.R_celln 0 HB10.out.b.p.rs u hz.1 hz.2
          have e5 : rdOf 0 z u = rd z u := rfl
          rw [e5] at y2
          clear e5
          obtain ⟨y2, y3⟩ := y2
          have hzu := hrz u
          have HB11 := Lib.hid (HB10.out.setS u (rd z u + 1))
          have HM11 : Hid (∃ mm, MapF LSI (w10.setCell ⟨gs, u.toNat, none⟩ (.int .i64 (rd z u + 1))) bm (k + 1) mm (knB s (labT nodes k))) := Lib.hid ⟨_, HM10.out.choose_spec.over HB10.out.b.p.rs (Kd.R_putg HB10.out.b.p.rs u (rd z u + 1)).2⟩
          clear HB10 HM10 hrz
          generalize hzv : rd z u = zv at *
          have HZV := Lib.hid hzv; clear hzv
          obtain ⟨hz0, hz1⟩ := hz
          go_upto_region 14 with fail
          clear y1 y2 y3
          generalize w10.setCell ⟨gs, u.toNat, none⟩ (.int .i64 (zv + 1)) = w11 at *
          have y3 := blk_cell HB11.out.x 3
          have HS11 := Lib.hid HB11.out.b
          clear HB11
          go_wp2_with fail
          go_loopw [79] (fun i wr => ∃ j : Nat, j ≤ args.length ∧ i = .int .i64 j ∧ Hid (BSt w wr pb (some ad) c nodes (.slice B m d) (.slice (some ⟨gc, 0, none⟩) s.cl.length capc) (.slice (some ⟨gs, 0, none⟩) z.length caps) (.slice (some ⟨ga, 0, none⟩) s.ab.length capa) (setI s.cl k u) (setI z u (zv + 1)) ((args.take j).foldl (pushA k) s.ab)) ∧ Hid (∃ mm, MapF LSI wr bm (k + 1) mm (knB s (labT nodes k)))) (fun i _ => args.length - (intOf i).toNat)
          case atStart => exact ⟨0, Nat.zero_le _, rfl, HS11, HM11⟩
          case round =>
            obtain ⟨j, hj, rfl, HS12, HM12⟩ := hrel
            clear HS11 HM11 y3
            by_cases hjl : j < args.length
            · obtain ⟨qd, e7, z1⟩ := Kd.at_int (Kd.C_below G3.out HS12.out.p.hb) (j : Int) (by omega) (by omega)
              subst e7
              simp only [Int.toNat_natCast] at z1
              have ha : 0 ≤ rd args j ∧ rd args j < nodes.length := HAr.out.2.2 _ (by rw [← HAr.out.1, rd_get _ j hjl]; exact List.getElem_mem hjl)
              have hm := foldl_take (pushA (k : Int)) s.ab args j hjl
              rw [← rd_get _ j hjl] at hm
              have hpl := push_len (k : Int) (args.take j) s.ab (rd args j).toNat
              have hpl2 := HI.out.al (rd args j).toNat
              rw [List.length_take] at hpl
              generalize rd args (j : Int) = a at *
              have HA := Lib.hid hm; clear hm
              generalize (args.take j).foldl (pushA (k : Int)) s.ab = ab2 at *
              have hab := HCL.out.2
              obtain ⟨va, oki, p0, p1, pR, pok, pback⟩ := HS12.out.push a ha.1 (by omega)
              obtain ⟨Av, cv, rfl⟩ := Kd.R_slice pR
              clear hab
              have hrl : (ab2.getD a.toNat []).length ≤ 40000 := by omega
              have hpush : pushA (k : Int) ab2 a = ab2.set a.toNat (ab2.getD a.toNat [] ++ [(k : Int)]) := rfl
              have HPu := Lib.hid hpush; clear hpush hpl hpl2
              generalize ab2.getD a.toNat [] = row at *
              obtain ⟨ha0, ha1⟩ := ha
              have y1 := blk_cell HS12.out.p.blk 4
              have PR := Lib.hid pR
              have PB := Lib.hid pback
              have PO := Lib.hid pok
              clear pR pback pok
              have HF : Hid (∀ q, wr.heap.size ≤ q → okB (.slice (some ⟨gc, 0, none⟩) s.cl.length capc) (.slice (some ⟨gs, 0, none⟩) z.length caps) q) := Lib.hid (fun q hq => ⟨fun he => by have := Kd.R_lt HS12.out.p.rc q he.symm; omega, fun he => by have := Kd.R_lt HS12.out.p.rs q he.symm; omega⟩)
              have HQ : Hid (∀ W9 w9 : World, Below wr.heap.size wr W9 → W9.grownBy w9 (Value.slice Av row.length cv).ownBlock → w9.cell? ⟨pb, 4, none⟩ = some (.slice (some ⟨ga, 0, none⟩) s.ab.length capa) ∧ w9.cell? ⟨ga, a.toNat, none⟩ = some (.slice Av row.length cv) ∧ w9.frozen? ⟨ga, a.toNat, none⟩ = false) := Lib.hid (fun W9 w9 hbW hg => by
                have hne : some pb ≠ (Value.slice Av row.length cv).ownBlock := Kd.R_ne PR.out HS12.out.p.blk (by decide)
                have b1 := (hbW.block pb (blk_lt HS12.out.p.blk)).trans HS12.out.p.blk
                have b2 := blk_grown b1 hg hne
                obtain ⟨cells, hc⟩ := Kd.S_typed HS12.out.s ga (by simp [Value.ownBlock])
                have hnv : some ga ≠ (Value.slice Av row.length cv).ownBlock := fun he => (PO.out ga (PR.out.1 ga he.symm)).2 rfl
                have g2 := blk_grown ((hbW.block ga (blk_lt hc)).trans hc) hg hnv
                exact ⟨blk_cell b2 4, hg.cell ((hbW.cell (p := ⟨ga, a.toNat, none⟩) (World.block_lt_of_cell? wr _ p0)).trans p0) hnv, blk_frozen g2 a.toNat⟩)
              have HM13 : Hid (∀ W9 w9 : World, ∀ v9 : Value, Below wr.heap.size wr W9 → W9.grownBy w9 (Value.slice Av row.length cv).ownBlock → ∃ mm, MapF LSI (w9.setCell ⟨ga, a.toNat, none⟩ v9) bm (k + 1) mm (knB s (labT nodes k))) := Lib.hid (fun W9 w9 v9 hbW hg => by
                have h1 := HM12.out.choose_spec
                have hne : some bm ≠ (Value.slice Av row.length cv).ownBlock := h1.apart PR.out
                obtain ⟨cells, hc⟩ := Kd.S_typed HS12.out.s ga (by simp [Value.ownBlock])
                exact ⟨_, ((h1.below hbW).grown hg hne).set (a := ⟨ga, a.toNat, none⟩) (h1.ne hc) v9⟩)
              have hcln := HCL.out.2
              have h17 : a < (s.ab.length : Int) := by omega
              clear hcln
              have y5 : wr.cell? ⟨pb, 4, none⟩ = some (.slice (some ⟨ga, 0, none⟩) s.ab.length capa) := y1
              clear y1
              have p4 := (((Below.refl wr.heap.size wr).alloc (Nat.le_refl _) (.cells #[.int .i64 (k : Int)] 3)).cell (p := ⟨ga, a.toNat, none⟩) (World.block_lt_of_cell? wr _ p0)).trans p0
              have y4 := (((Below.refl wr.heap.size wr).alloc (Nat.le_refl _) (.cells #[.int .i64 (k : Int)] 3)).cell (p := ⟨pb, 4, none⟩) (World.block_lt_of_cell? wr _ y5)).trans y5
              go_upto_region 17 with fail
              go_region_law (rw [show (wr.alloc (.cells #[.int .i64 (k : Int)] 3)).drew = wr.drew.alloc (.cells #[.int .i64 (k : Int)] 3) from rfl]; refine Kd.R_append_step (Kd.int .i64) (w0 := w) (W := wr.drew) w.heap.size (by rfl) (.tmp 94) (.tmp 96) 23 3 (.int .i64 0) 8 (by rfl) Tryd.underlying23 intInfo rfl (by decide) (by omega) (.slice Av row.length cv) row (k : Int) [.int .i64 k] (fun q => oki q ∨ okB (.slice (some ⟨gc, 0, none⟩) s.cl.length capc) (.slice (some ⟨gs, 0, none⟩) z.length caps) q ∧ wr.heap.size ≤ q) (fun _ => False) (by simp [Act.eval, Act.put]) (by simp [Act.eval, Act.put]) rfl (fun _ h => h.elim) (fun q hq => .inr ⟨HF.out q hq, hq⟩) (by first | exact Kd.R_mono PR.out (fun _ h => .inl h) | exact Kd.R_mono (Kd.R_below PR.out (Below.refl _ _).drew) (fun _ h => .inl h) | exact Kd.R_mono (Kd.R_below PR.out (below_drewN (Below.refl _ _) _)) (fun _ h => .inl h)) (by first | exact HS12.out.p.hb | exact HS12.out.p.hb.drew | exact below_drewN HS12.out.p.hb _) HS12.out.p.hb.size (by omega) ?_; intro v1 w1 hr1 hb1 hg1 hat1; obtain ⟨A1, c1, rfl⟩ := Kd.R_slice hr1; obtain ⟨q1, q2, q3⟩ := HQ.out _ _ (by first | exact Below.refl _ _ | exact (Below.refl _ _).drew | exact below_drewN (Below.refl _ _) _) hg1)
              all_goals (have HS13 : Hid (BSt w _ pb (some ad) c nodes (.slice B m d) (.slice (some ⟨gc, 0, none⟩) s.cl.length capc) (.slice (some ⟨gs, 0, none⟩) z.length caps) (.slice (some ⟨ga, 0, none⟩) s.ab.length capa) (setI s.cl k u) (setI z u (zv + 1)) (pushA (k : Int) ab2 a)) := Lib.hid (by rw [HPu.out]; exact PB.out _ _ _ _ (Below.refl _ _).drew hr1 hg1)
                         have HM14 := HM13.out _ _ (.slice A1 (row ++ [(k : Int)]).length c1) (Below.refl _ _).drew hg1
                         have hlen9 : (row ++ [(k : Int)]).length = row.length + 1 := by simp
                         rw [hlen9] at HS13 HM14
                         clear hlen9
                         have HA2 := HA
                         clear p0 p1 p4 y4 y5 PR PB PO HF HQ HM13 HS12 HM12 z1 hrl hr1 hg1 hb1 hat1 q1 q2 q3
                         go_wp2_with fail
                         go_roundw
                         case rel => exact ⟨j + 1, by omega, by go_num, Lib.hid (by rw [HA2.out]; exact HS13.out), Lib.hid HM14⟩
                         case measure => simp [intOf]; omega)
            · have hjl' : j = args.length := by omega
              have HE9 : Hid (args.take j = args) := Lib.hid (by rw [hjl', List.take_length])
              go_wp2_with fail
              go_roundw
              case rel => exact ⟨k + 1, _, by omega, by go_num, Lib.hid (by
                rw [HZ.out]
                show BSt w _ pb (some ad) c nodes _ _ _ _ (setI s.cl k (cB s (labT nodes k))) (setI (szB s (labT nodes k)) (cB s (labT nodes k)) (rd (szB s (labT nodes k)) (cB s (labT nodes k)) + 1)) ((argsN nodes k).foldl (pushA k) s.ab)
                rw [HCc.out, HZz.out, HZV.out, ← HAr.out.1]
                have := HS12.out
                rw [HE9.out] at this
                exact this), Lib.hid (by rw [HZ.out]; exact HM12.out)⟩
              case measure => simp [intOf]; omega
      · have hk' : k = nodes.length := by omega
        have HK := Lib.hid hk'; clear hk'
        go_wp2_with fail
        go_ret
        exact ⟨pb, vC, vS, vA, rfl, by have := HS.out.p; rw [HK.out] at this; exact this⟩
end Go.Proofs.YtciniaabmjoiiaaDoor
