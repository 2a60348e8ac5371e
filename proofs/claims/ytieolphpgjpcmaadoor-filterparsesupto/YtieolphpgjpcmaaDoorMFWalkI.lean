/- rosterref12.Reader: item (written by genI.py). -/
import Derived.Test.YtieolphpgjpcmaaDoorMI0

namespace Go.Proofs.YtieolphpgjpcmaaDoor
open Go.RowKit Go.Proofs.YtieolphpgjpcmaaDoorW.PrintWords

theorem RB.far {w : World} {g : Nat} {s : ByteArray} {i : Int} {v : Value} {er pl : Int} {p : Addr} (h : RB w g s i v er pl) (hp : g ≠ p.block) (u : Value) : RB (w.setCell p u) g s i v er pl := blk_far h hp u
theorem AnyR.slice {w : World} {lo : Nat} {ok : Nat → Prop} {v : Value} {l : List ByteArray} (h : AnyR w lo ok v l) : ∃ A c, v = .slice A l.length c := by
  obtain ⟨A, c, e, _⟩ := h
  exact ⟨A, c, e⟩
theorem AnyR.own {w : World} {lo base : Nat} {v : Value} {l : List ByteArray} (h : AnyR w lo (fun k => lo ≤ k) v l) (hb : base ≤ lo) : AnyR w base (fun k => base ≤ k) v l := (h.lower hb).mono (fun _ hk => Nat.le_trans hb hk)

set_option maxHeartbeats 16000000 in
set_option maxRecDepth 100000 in
theorem ritem_any (g base : Nat) (s : ByteArray) (i : Int) (v : Value) (pl depth : Int) (ns : List Nd) (w : World) (hp : RB w g s i v 0 pl) (hn : NS w base v ns) (hgb : g < base) (hbase : base ≤ w.heap.size) (hT : RowsAt w) (hg : 0 ≠ g) (h0 : 0 ≤ i) (h1 : i ≤ (s.size : Int)) (hl2 : s.size + 2 ≤ LIM) (hlen : ns.length ≤ 4194400) :
    Calls Tryd.prog 14 #[.pointer (some ⟨g, 0, none⟩), .int .i64 depth] w fun e w' => ItEnd w w' g base s v pl i ns (itemS s depth i) e := by
  have hl : s.size ≤ LIM := by omega
  obtain ⟨R, hR⟩ : ∃ R, itemS s depth i = R := ⟨_, rfl⟩
  rw [hR]
  unfold itemS at hR
  have hrow := hd (fun W (hp : RB W g s i v 0 pl) => rrow_any g s i v 0 pl true W hp h0 h1 hl)
  have hj0 := rowEnd_ge s true (s.size + 1) i
  have hj1 := rowEnd_le s true (s.size + 1) i h1
  obtain ⟨j, hj⟩ : ∃ j, rowEnd s true (s.size + 1) i = j := ⟨_, rfl⟩
  rw [hj] at hrow hj0 hj1 hR
  have hwl0 : (s.extract i.toNat j.toNat).size ≤ s.size ∧ (i + ((s.extract i.toNat j.toNat).size : Int) ≤ j) := by rw [ByteArray.size_extract]; omega
  obtain ⟨de, hwd⟩ : ∃ wd, s.extract i.toNat j.toNat = wd := ⟨_, rfl⟩
  rw [hwd] at hrow hR hwl0
  clear hj hwd
  have HRR := hd hR
  clear hR
  have hA := hp.lt
  have hng : g ≠ w.heap.size := by omega
  have hng' : ¬ One g w.heap.size := fun q => hng (by have q' : w.heap.size = g := q; omega)
  have hgn : w.heap.size ≠ g := by omega
  have HT := hd hT
  have HN := hd hn
  have hLL : LIM ≤ 4194304 := Nat.le_refl _
  clear hT hn
  have c1p := hp.c1
  go_enter Tryd.func14, Tryd.ntmps14
  go_wp2_with (fail)
  refine at_world (fun W => Hid (RB W g s i v 0 pl) ∧ Hid (Blk W w.heap.size #[.int .i64 depth, .int .i64 0, .string ⟨#[]⟩, .string ⟨#[]⟩, .string ⟨#[]⟩, .slice none 0 0, .string ⟨#[]⟩, .string ⟨#[]⟩, .bool false] 49) ∧ Hid (Kp (One g) w W)) ⟨hd (hp.alloc _), hd (Blk.new w _ 49), hd ((Kp.refl _ _).alloc _)⟩ ?_
  clear c1p
  rintro w0 ⟨HR0, HB0, HK0⟩
  refine (hrow.out _ HR0.out).mono ?_
  rintro e w1 ⟨rfl, hr1, hk1⟩
  have HR1 := hd hr1
  have HB1 := hd (HB0.out.kp hk1 hng')
  have HK1 := hd (HK0.out.trans hk1)
  clear hk1 hr1
  have r0 := HR1.out.c0
  have r1 := HR1.out.c1
  have r2 := HR1.out.c2
  have r3 := HR1.out.c3
  have z1 := HR1.out.fz 1
  have z2 := HR1.out.fz 2
  have b0 : w1.cell? ⟨w.heap.size, 0, none⟩ = some (.int .i64 depth) := HB1.out.c 0 rfl
  have b1 : w1.cell? ⟨w.heap.size, 1, none⟩ = some (.int .i64 0) := HB1.out.c 1 rfl
  have b2 : w1.cell? ⟨w.heap.size, 2, none⟩ = some (.string ⟨#[]⟩) := HB1.out.c 2 rfl
  have b3 : w1.cell? ⟨w.heap.size, 3, none⟩ = some (.string ⟨#[]⟩) := HB1.out.c 3 rfl
  have b4 : w1.cell? ⟨w.heap.size, 4, none⟩ = some (.string ⟨#[]⟩) := HB1.out.c 4 rfl
  have b5 : w1.cell? ⟨w.heap.size, 5, none⟩ = some (.slice none 0 0) := HB1.out.c 5 rfl
  have b6 : w1.cell? ⟨w.heap.size, 6, none⟩ = some (.string ⟨#[]⟩) := HB1.out.c 6 rfl
  have b7 : w1.cell? ⟨w.heap.size, 7, none⟩ = some (.string ⟨#[]⟩) := HB1.out.c 7 rfl
  have b8 : w1.cell? ⟨w.heap.size, 8, none⟩ = some (.bool false) := HB1.out.c 8 rfl
  have f0 := HB1.out.f 0
  have f1 := HB1.out.f 1
  have f2 := HB1.out.f 2
  have f3 := HB1.out.f 3
  have f4 := HB1.out.f 4
  have f5 := HB1.out.f 5
  have f6 := HB1.out.f 6
  have f7 := HB1.out.f 7
  have f8 := HB1.out.f 8
  have hE := empty_iff de
  by_cases z0 : de.size = 0
  · have zw : de.toList.isEmpty = true := by rw [hE]; simp [z0]
    clear hE
    cases q58 : isB s j 58 with
    | false =>
      have HF := hd (show R = .bad j from HRR.out.symm.trans (by unfold itemD; rw [if_pos ⟨z0, q58⟩]))
      go_wp2_with (fail)
      refine at_world (fun W => Hid (RB W g s (j) v (0) (pl)) ∧ Hid (Blk W w.heap.size #[.int .i64 depth, .int .i64 0, .string de, .string ⟨#[]⟩, .string ⟨#[]⟩, .slice none 0 0, .string ⟨#[]⟩, .string ⟨#[]⟩, .bool false] 49) ∧ Hid (Kp (One g) w W)) ⟨hd (HR1.out.far (p := ⟨w.heap.size, 2, none⟩) hng _), hd (Blk.cast (HB1.out.set 2 _) (by kernel_rfl)), hd (HK1.out.setCell (p := ⟨w.heap.size, 2, none⟩) (fun q => absurd q (Nat.lt_irrefl _)) _)⟩ ?_
      clear r0 r1 r2 r3 z1 z2 b0 b1 b2 b3 b4 b5 b6 b7 b8 f0 f1 f2 f3 f4 f5 f6 f7 f8
      rintro w2 ⟨HR2, HB2, HK2⟩
      refine (ris_any g s j v 0 pl 58 _ HR2.out (by omega)).mono ?_
      rintro e w3 ⟨rfl, hdr3⟩
      have HR3 : Hid (RB w3 g s (j) v (0) (pl)) := hd (HR2.out.kp ((Kp.refl No _).dr hdr3) (fun q => q))
      have HB3 := hd (HB2.out.kp ((Kp.refl No _).dr hdr3) (fun q => q))
      have HK3 := hd (HK2.out.no ((Kp.refl No _).dr hdr3))
      rw [q58]
      have r0 := HR3.out.c0
      have r1 := HR3.out.c1
      have r2 := HR3.out.c2
      have r3 := HR3.out.c3
      have z1 := HR3.out.fz 1
      have z2 := HR3.out.fz 2
      have b0 : w3.cell? ⟨w.heap.size, 0, none⟩ = some (.int .i64 depth) := HB3.out.c 0 rfl
      have b1 : w3.cell? ⟨w.heap.size, 1, none⟩ = some (.int .i64 0) := HB3.out.c 1 rfl
      have b2 : w3.cell? ⟨w.heap.size, 2, none⟩ = some (.string de) := HB3.out.c 2 rfl
      have b3 : w3.cell? ⟨w.heap.size, 3, none⟩ = some (.string ⟨#[]⟩) := HB3.out.c 3 rfl
      have b4 : w3.cell? ⟨w.heap.size, 4, none⟩ = some (.string ⟨#[]⟩) := HB3.out.c 4 rfl
      have b5 : w3.cell? ⟨w.heap.size, 5, none⟩ = some (.slice none 0 0) := HB3.out.c 5 rfl
      have b6 : w3.cell? ⟨w.heap.size, 6, none⟩ = some (.string ⟨#[]⟩) := HB3.out.c 6 rfl
      have b7 : w3.cell? ⟨w.heap.size, 7, none⟩ = some (.string ⟨#[]⟩) := HB3.out.c 7 rfl
      have b8 : w3.cell? ⟨w.heap.size, 8, none⟩ = some (.bool false) := HB3.out.c 8 rfl
      have f0 := HB3.out.f 0
      have f1 := HB3.out.f 1
      have f2 := HB3.out.f 2
      have f3 := HB3.out.f 3
      have f4 := HB3.out.f 4
      have f5 := HB3.out.f 5
      have f6 := HB3.out.f 6
      have f7 := HB3.out.f 7
      have f8 := HB3.out.f 8
      go_wp2_with (fail)
      refine at_world (fun W => Hid (RB W g s (j) v (0) (pl)) ∧ Hid (Blk W w.heap.size #[.int .i64 depth, .int .i64 0, .string de, .string ⟨#[]⟩, .string ⟨#[]⟩, .slice none 0 0, .string ⟨#[]⟩, .string ⟨#[]⟩, .bool false] 49) ∧ Hid (Kp (One g) w W)) ⟨hd HR3.out, hd (Blk.cast HB3.out (by kernel_rfl)), hd HK3.out⟩ ?_
      clear r0 r1 r2 r3 z1 z2 b0 b1 b2 b3 b4 b5 b6 b7 b8 f0 f1 f2 f3 f4 f5 f6 f7 f8
      rintro w4 ⟨HR4, HB4, HK4⟩
      refine (stop_new g s (j) v pl 120 (j) _ HR4.out).mono ?_
      rintro e w5 ⟨rfl, hr5, hk5⟩
      have HR5 : Hid (RB w5 g s (j) v (120) (j)) := hd hr5
      have HB5 := hd (HB4.out.kp hk5 hng')
      have HK5 := hd (HK4.out.trans hk5)
      go_wp2
      refine bodyPost_ret (results_none rfl _ _ _) rfl ?_
      exact (ItEnd.stop_ hgb HN.out HR5.out HK5.out (by omega) (by omega) (HF.out))
    | true =>
      have hlt := (isB_true q58).1
      have hc := (isB_true q58).2
      go_wp2_with (fail)
      refine at_world (fun W => Hid (RB W g s (j) v (0) (pl)) ∧ Hid (Blk W w.heap.size #[.int .i64 depth, .int .i64 0, .string de, .string ⟨#[]⟩, .string ⟨#[]⟩, .slice none 0 0, .string ⟨#[]⟩, .string ⟨#[]⟩, .bool false] 49) ∧ Hid (Kp (One g) w W)) ⟨hd (HR1.out.far (p := ⟨w.heap.size, 2, none⟩) hng _), hd (Blk.cast (HB1.out.set 2 _) (by kernel_rfl)), hd (HK1.out.setCell (p := ⟨w.heap.size, 2, none⟩) (fun q => absurd q (Nat.lt_irrefl _)) _)⟩ ?_
      clear r0 r1 r2 r3 z1 z2 b0 b1 b2 b3 b4 b5 b6 b7 b8 f0 f1 f2 f3 f4 f5 f6 f7 f8
      rintro w6 ⟨HR6, HB6, HK6⟩
      refine (ris_any g s j v 0 pl 58 _ HR6.out (by omega)).mono ?_
      rintro e w7 ⟨rfl, hdr7⟩
      have HR7 : Hid (RB w7 g s (j) v (0) (pl)) := hd (HR6.out.kp ((Kp.refl No _).dr hdr7) (fun q => q))
      have HB7 := hd (HB6.out.kp ((Kp.refl No _).dr hdr7) (fun q => q))
      have HK7 := hd (HK6.out.no ((Kp.refl No _).dr hdr7))
      rw [q58]
      have r0 := HR7.out.c0
      have r1 := HR7.out.c1
      have r2 := HR7.out.c2
      have r3 := HR7.out.c3
      have z1 := HR7.out.fz 1
      have z2 := HR7.out.fz 2
      have b0 : w7.cell? ⟨w.heap.size, 0, none⟩ = some (.int .i64 depth) := HB7.out.c 0 rfl
      have b1 : w7.cell? ⟨w.heap.size, 1, none⟩ = some (.int .i64 0) := HB7.out.c 1 rfl
      have b2 : w7.cell? ⟨w.heap.size, 2, none⟩ = some (.string de) := HB7.out.c 2 rfl
      have b3 : w7.cell? ⟨w.heap.size, 3, none⟩ = some (.string ⟨#[]⟩) := HB7.out.c 3 rfl
      have b4 : w7.cell? ⟨w.heap.size, 4, none⟩ = some (.string ⟨#[]⟩) := HB7.out.c 4 rfl
      have b5 : w7.cell? ⟨w.heap.size, 5, none⟩ = some (.slice none 0 0) := HB7.out.c 5 rfl
      have b6 : w7.cell? ⟨w.heap.size, 6, none⟩ = some (.string ⟨#[]⟩) := HB7.out.c 6 rfl
      have b7 : w7.cell? ⟨w.heap.size, 7, none⟩ = some (.string ⟨#[]⟩) := HB7.out.c 7 rfl
      have b8 : w7.cell? ⟨w.heap.size, 8, none⟩ = some (.bool false) := HB7.out.c 8 rfl
      have f0 := HB7.out.f 0
      have f1 := HB7.out.f 1
      have f2 := HB7.out.f 2
      have f3 := HB7.out.f 3
      have f4 := HB7.out.f 4
      have f5 := HB7.out.f 5
      have f6 := HB7.out.f 6
      have f7 := HB7.out.f 7
      have f8 := HB7.out.f 8
      have hx := bt_at s j
      have d1 : decide (j < (s.size : Int)) = true := decide_eq_true hlt
      have d2 := eq_true (show 0 ≤ j by omega)
      have d3 := eq_true hlt
      have k61 : (bt s j == 61) = false := by rw [hc]; rfl
      have k58 : (bt s j == 58) = true := by rw [hc]; rfl
      have hN := hd (show R = extA s ⟨depth, 0, de, ⟨#[]⟩, ⟨#[]⟩, [], ⟨#[]⟩, ⟨#[]⟩, false⟩ (j + 1) from HRR.out.symm.trans (by unfold itemD; rw [if_neg (fun q => by rw [q58] at q; exact absurd q.2 (by simp)), if_neg (fun q => q.1 z0)]; unfold itemN chAt; rw [if_pos hlt, hc]; rfl))
      go_wp2_with (fail)
      go_quiet (fail)
      go_wp2_with (fail)
      go_quiet (fail)
      go_wp2_with (fail)
      refine at_world (fun W => Hid (RB W g s (j + 1) v (0) (pl)) ∧ Hid (Blk W w.heap.size #[.int .i64 depth, .int .i64 0, .string de, .string ⟨#[]⟩, .string ⟨#[]⟩, .slice none 0 0, .string ⟨#[]⟩, .string ⟨#[]⟩, .bool false] 49) ∧ Hid (Kp (One g) w W)) ⟨hd ((HR7.out.drewN _).set1 _), hd (Blk.cast ((HB7.out.drewN _).far (p := ⟨g, 1, none⟩) hgn _) (by kernel_rfl)), hd ((HK7.out.drewN _).setOne 1 _)⟩ ?_
      clear r0 r1 r2 r3 z1 z2 b0 b1 b2 b3 b4 b5 b6 b7 b8 f0 f1 f2 f3 f4 f5 f6 f7 f8
      rintro w8 ⟨HR8, HB8, HK8⟩
      refine (rruled_any g s (j + 1) v pl ⟨depth, 0, de, ⟨#[]⟩, ⟨#[]⟩, [], ⟨#[]⟩, ⟨#[]⟩, false⟩ _ HR8.out (HT.out.kp HK8.out (fun q => hg q)) hg (by omega) (by omega) hl2 rfl).mono ?_
      rintro e w9 ⟨n9, j9, er9, pl9, av9, rfl, ha9, hr9, hk9, h09, h19, ho9⟩
      have HR9 : Hid (RB w9 g s (j9) v (er9) (pl9)) := hd hr9
      have HB9 := hd (HB8.out.kp hk9 hng')
      have HK9 := hd (HK8.out.trans hk9)
      have HA := hd ha9
      have HO : Hid (IOut R pl n9 j9 er9 pl9) := hd (by rw [hN.out]; exact ho9)
      have hs9 := HK8.out.size
      clear ha9 ho9
      obtain ⟨xd, xo, xde, xv, xi, xa, xf, xr, xdn⟩ := n9
      obtain ⟨Av, cv, hav⟩ := HA.out.slice
      subst hav
      unfold Nd.cells
      have r0 := HR9.out.c0
      have r1 := HR9.out.c1
      have r2 := HR9.out.c2
      have r3 := HR9.out.c3
      have z1 := HR9.out.fz 1
      have z2 := HR9.out.fz 2
      have b0 : w9.cell? ⟨w.heap.size, 0, none⟩ = some (.int .i64 depth) := HB9.out.c 0 rfl
      have b1 : w9.cell? ⟨w.heap.size, 1, none⟩ = some (.int .i64 0) := HB9.out.c 1 rfl
      have b2 : w9.cell? ⟨w.heap.size, 2, none⟩ = some (.string de) := HB9.out.c 2 rfl
      have b3 : w9.cell? ⟨w.heap.size, 3, none⟩ = some (.string ⟨#[]⟩) := HB9.out.c 3 rfl
      have b4 : w9.cell? ⟨w.heap.size, 4, none⟩ = some (.string ⟨#[]⟩) := HB9.out.c 4 rfl
      have b5 : w9.cell? ⟨w.heap.size, 5, none⟩ = some (.slice none 0 0) := HB9.out.c 5 rfl
      have b6 : w9.cell? ⟨w.heap.size, 6, none⟩ = some (.string ⟨#[]⟩) := HB9.out.c 6 rfl
      have b7 : w9.cell? ⟨w.heap.size, 7, none⟩ = some (.string ⟨#[]⟩) := HB9.out.c 7 rfl
      have b8 : w9.cell? ⟨w.heap.size, 8, none⟩ = some (.bool false) := HB9.out.c 8 rfl
      have f0 := HB9.out.f 0
      have f1 := HB9.out.f 1
      have f2 := HB9.out.f 2
      have f3 := HB9.out.f 3
      have f4 := HB9.out.f 4
      have f5 := HB9.out.f 5
      have f6 := HB9.out.f 6
      have f7 := HB9.out.f 7
      have f8 := HB9.out.f 8
      go_wp2_with (fail)
      obtain ⟨w10, hw10⟩ : ∃ x, (((((((((w9).setCell ⟨w.heap.size, 0, none⟩ (.int .i64 xd)).setCell ⟨w.heap.size, 1, none⟩ (.int .i64 xo)).setCell ⟨w.heap.size, 2, none⟩ (.string xde)).setCell ⟨w.heap.size, 3, none⟩ (.string xv)).setCell ⟨w.heap.size, 4, none⟩ (.string xi)).setCell ⟨w.heap.size, 5, none⟩ (.slice Av xa.length cv)).setCell ⟨w.heap.size, 6, none⟩ (.string xf)).setCell ⟨w.heap.size, 7, none⟩ (.string xr)).setCell ⟨w.heap.size, 8, none⟩ (.bool xdn) = x := ⟨_, rfl⟩
      have HR10 : Hid (RB w10 g s (j9) v (er9) (pl9)) := hd (by rw [← hw10]; exact (((((((((HR9.out.far (p := ⟨w.heap.size, 0, none⟩) hng _).far (p := ⟨w.heap.size, 1, none⟩) hng _).far (p := ⟨w.heap.size, 2, none⟩) hng _).far (p := ⟨w.heap.size, 3, none⟩) hng _).far (p := ⟨w.heap.size, 4, none⟩) hng _).far (p := ⟨w.heap.size, 5, none⟩) hng _).far (p := ⟨w.heap.size, 6, none⟩) hng _).far (p := ⟨w.heap.size, 7, none⟩) hng _).far (p := ⟨w.heap.size, 8, none⟩) hng _))
      have HB10 : Hid (Blk w10 w.heap.size #[.int .i64 xd, .int .i64 xo, .string xde, .string xv, .string xi, .slice Av xa.length cv, .string xf, .string xr, .bool xdn] 49) := hd (by rw [← hw10]; exact Blk.cast (((((((((HB9.out.set 0 _).set 1 _).set 2 _).set 3 _).set 4 _).set 5 _).set 6 _).set 7 _).set 8 _) (by kernel_rfl))
      have HK10 : Hid (Kp (One g) w w10) := hd (by rw [← hw10]; exact (((((((((HK9.out.setCell (p := ⟨w.heap.size, 0, none⟩) (fun q => absurd q (Nat.lt_irrefl _)) _).setCell (p := ⟨w.heap.size, 1, none⟩) (fun q => absurd q (Nat.lt_irrefl _)) _).setCell (p := ⟨w.heap.size, 2, none⟩) (fun q => absurd q (Nat.lt_irrefl _)) _).setCell (p := ⟨w.heap.size, 3, none⟩) (fun q => absurd q (Nat.lt_irrefl _)) _).setCell (p := ⟨w.heap.size, 4, none⟩) (fun q => absurd q (Nat.lt_irrefl _)) _).setCell (p := ⟨w.heap.size, 5, none⟩) (fun q => absurd q (Nat.lt_irrefl _)) _).setCell (p := ⟨w.heap.size, 6, none⟩) (fun q => absurd q (Nat.lt_irrefl _)) _).setCell (p := ⟨w.heap.size, 7, none⟩) (fun q => absurd q (Nat.lt_irrefl _)) _).setCell (p := ⟨w.heap.size, 8, none⟩) (fun q => absurd q (Nat.lt_irrefl _)) _))
      have HA10 : Hid (AnyR w10 base (fun k => base ≤ k) (.slice Av xa.length cv) (⟨xd, xo, xde, xv, xi, xa, xf, xr, xdn⟩ : Nd).any) := hd (by rw [← hw10]; exact ((HA.out.kp ((((((((((Kp.refl (One w.heap.size) _).setOne 0 _).setOne 1 _).setOne 2 _).setOne 3 _).setOne 4 _).setOne 5 _).setOne 6 _).setOne 7 _).setOne 8 _) (fun k hk q => by have q' : k = w.heap.size := q; have hk' : w8.heap.size ≤ k := hk; have := HB8.out.lt; omega)).own (Nat.le_trans hbase hs9)))
      rw [hw10]
      clear hw10
      clear r0 r1 r2 r3 z1 z2 b0 b1 b2 b3 b4 b5 b6 b7 b8 f0 f1 f2 f3 f4 f5 f6 f7 f8
      have r0 := HR10.out.c0
      have r1 := HR10.out.c1
      have r2 := HR10.out.c2
      have r3 := HR10.out.c3
      have z1 := HR10.out.fz 1
      have z2 := HR10.out.fz 2
      have b0 : w10.cell? ⟨w.heap.size, 0, none⟩ = some (.int .i64 xd) := HB10.out.c 0 rfl
      have b1 : w10.cell? ⟨w.heap.size, 1, none⟩ = some (.int .i64 xo) := HB10.out.c 1 rfl
      have b2 : w10.cell? ⟨w.heap.size, 2, none⟩ = some (.string xde) := HB10.out.c 2 rfl
      have b3 : w10.cell? ⟨w.heap.size, 3, none⟩ = some (.string xv) := HB10.out.c 3 rfl
      have b4 : w10.cell? ⟨w.heap.size, 4, none⟩ = some (.string xi) := HB10.out.c 4 rfl
      have b5 : w10.cell? ⟨w.heap.size, 5, none⟩ = some (.slice Av xa.length cv) := HB10.out.c 5 rfl
      have b6 : w10.cell? ⟨w.heap.size, 6, none⟩ = some (.string xf) := HB10.out.c 6 rfl
      have b7 : w10.cell? ⟨w.heap.size, 7, none⟩ = some (.string xr) := HB10.out.c 7 rfl
      have b8 : w10.cell? ⟨w.heap.size, 8, none⟩ = some (.bool xdn) := HB10.out.c 8 rfl
      have f0 := HB10.out.f 0
      have f1 := HB10.out.f 1
      have f2 := HB10.out.f 2
      have f3 := HB10.out.f 3
      have f4 := HB10.out.f 4
      have f5 := HB10.out.f 5
      have f6 := HB10.out.f 6
      have f7 := HB10.out.f 7
      have f8 := HB10.out.f 8
      have r2a : (w10.alloc (.cells #[.int .i64 xd, .int .i64 xo, .string xde, .string xv, .string xi, .slice Av xa.length cv, .string xf, .string xr, .bool xdn] 49)).cell? ⟨g, 2, none⟩ = some v := (HR10.out.alloc _).c2
      have hn10 : NS w10.drew base v ns := (HN.out.one HK10.out.drew hgb)
      have hb10 : base ≤ w10.heap.size := Nat.le_trans hbase HK10.out.size
      go_region_law (refine step_app_node w10.drew base rfl (.tmp 132) (.tmp 134) rfl v ns (⟨xd, xo, xde, xv, xi, xa, xf, xr, xdn⟩ : Nd) ((.slice Av xa.length cv)) rfl rfl hn10 HA10.out hb10 hlen rfl ?_; rintro A3 c3 w3 ⟨hs3, hg3⟩; have HR3 : Hid (RB w3 g s (j9) v (er9) (pl9)) := hd (blk_grown HR10.out.drew hg3 (fun e => absurd (hn10.own g e.symm) (by omega))); have HS3 := hd hs3; have HG3 := hd hg3; clear hs3 hg3; have z3 := HR3.out.fz 2; have y3 := HR3.out.c2)
      all_goals
        go_wp2
        go_end0
        exact (ItEnd.app_ hgb HN.out HR10.out.drew HK10.out.drew HS3.out HG3.out (by omega) (by omega) (HO.out))
  · have zw : de.toList.isEmpty = false := by rw [hE]; simp [z0]
    clear hE
    by_cases te : descE de = 0
    · have HD := hd (show R = itemN s { Nd.zero with depth := depth, desc := de } j from HRR.out.symm.trans (by unfold itemD; rw [if_neg (fun q => z0 q.1), if_neg (fun q => q.2 te)]))
      go_wp2_with (fail)
      refine at_world (fun W => Hid (RB W g s (j) v (0) (pl)) ∧ Hid (Blk W w.heap.size #[.int .i64 depth, .int .i64 0, .string de, .string ⟨#[]⟩, .string ⟨#[]⟩, .slice none 0 0, .string ⟨#[]⟩, .string ⟨#[]⟩, .bool false] 49) ∧ Hid (Kp (One g) w W)) ⟨hd (HR1.out.far (p := ⟨w.heap.size, 2, none⟩) hng _), hd (Blk.cast (HB1.out.set 2 _) (by kernel_rfl)), hd (HK1.out.setCell (p := ⟨w.heap.size, 2, none⟩) (fun q => absurd q (Nat.lt_irrefl _)) _)⟩ ?_
      clear r0 r1 r2 r3 z1 z2 b0 b1 b2 b3 b4 b5 b6 b7 b8 f0 f1 f2 f3 f4 f5 f6 f7 f8
      rintro w11 ⟨HR11, HB11, HK11⟩
      refine (r4parse_any de _ (by omega)).mono ?_
      rintro e w12 ⟨x, A, m, c, rfl, hk12⟩
      have HR12 : Hid (RB w12 g s (j) v (0) (pl)) := hd (HR11.out.kp hk12 (fun q => q))
      have HB12 := hd (HB11.out.kp hk12 (fun q => q))
      have HK12 := hd (HK11.out.no hk12)
      rw [te]
      have r0 := HR12.out.c0
      have r1 := HR12.out.c1
      have r2 := HR12.out.c2
      have r3 := HR12.out.c3
      have z1 := HR12.out.fz 1
      have z2 := HR12.out.fz 2
      have b0 : w12.cell? ⟨w.heap.size, 0, none⟩ = some (.int .i64 depth) := HB12.out.c 0 rfl
      have b1 : w12.cell? ⟨w.heap.size, 1, none⟩ = some (.int .i64 0) := HB12.out.c 1 rfl
      have b2 : w12.cell? ⟨w.heap.size, 2, none⟩ = some (.string de) := HB12.out.c 2 rfl
      have b3 : w12.cell? ⟨w.heap.size, 3, none⟩ = some (.string ⟨#[]⟩) := HB12.out.c 3 rfl
      have b4 : w12.cell? ⟨w.heap.size, 4, none⟩ = some (.string ⟨#[]⟩) := HB12.out.c 4 rfl
      have b5 : w12.cell? ⟨w.heap.size, 5, none⟩ = some (.slice none 0 0) := HB12.out.c 5 rfl
      have b6 : w12.cell? ⟨w.heap.size, 6, none⟩ = some (.string ⟨#[]⟩) := HB12.out.c 6 rfl
      have b7 : w12.cell? ⟨w.heap.size, 7, none⟩ = some (.string ⟨#[]⟩) := HB12.out.c 7 rfl
      have b8 : w12.cell? ⟨w.heap.size, 8, none⟩ = some (.bool false) := HB12.out.c 8 rfl
      have f0 := HB12.out.f 0
      have f1 := HB12.out.f 1
      have f2 := HB12.out.f 2
      have f3 := HB12.out.f 3
      have f4 := HB12.out.f 4
      have f5 := HB12.out.f 5
      have f6 := HB12.out.f 6
      have f7 := HB12.out.f 7
      have f8 := HB12.out.f 8
      go_wp2_with (fail)
      obtain ⟨w13, hw13⟩ : ∃ xx, w12.alloc (.cells #[.string x, .slice A m c] 52) = xx := ⟨_, rfl⟩
      have HR13 : Hid (RB w13 g s (j) v (0) (pl)) := hd (by rw [← hw13]; exact HR12.out.alloc _)
      have HB13 : Hid (Blk w13 w.heap.size #[.int .i64 depth, .int .i64 0, .string de, .string ⟨#[]⟩, .string ⟨#[]⟩, .slice none 0 0, .string ⟨#[]⟩, .string ⟨#[]⟩, .bool false] 49) := hd (by rw [← hw13]; exact HB12.out.alloc _)
      have HK13 : Hid (Kp (One g) w w13) := hd (by rw [← hw13]; exact HK12.out.alloc _)
      rw [hw13]
      clear r0 r1 r2 r3 z1 z2 b0 b1 b2 b3 b4 b5 b6 b7 b8 f0 f1 f2 f3 f4 f5 f6 f7 f8
      clear hw13
      have r0 := HR13.out.c0
      have r1 := HR13.out.c1
      have r2 := HR13.out.c2
      have r3 := HR13.out.c3
      have z1 := HR13.out.fz 1
      have z2 := HR13.out.fz 2
      have b0 : w13.cell? ⟨w.heap.size, 0, none⟩ = some (.int .i64 depth) := HB13.out.c 0 rfl
      have b1 : w13.cell? ⟨w.heap.size, 1, none⟩ = some (.int .i64 0) := HB13.out.c 1 rfl
      have b2 : w13.cell? ⟨w.heap.size, 2, none⟩ = some (.string de) := HB13.out.c 2 rfl
      have b3 : w13.cell? ⟨w.heap.size, 3, none⟩ = some (.string ⟨#[]⟩) := HB13.out.c 3 rfl
      have b4 : w13.cell? ⟨w.heap.size, 4, none⟩ = some (.string ⟨#[]⟩) := HB13.out.c 4 rfl
      have b5 : w13.cell? ⟨w.heap.size, 5, none⟩ = some (.slice none 0 0) := HB13.out.c 5 rfl
      have b6 : w13.cell? ⟨w.heap.size, 6, none⟩ = some (.string ⟨#[]⟩) := HB13.out.c 6 rfl
      have b7 : w13.cell? ⟨w.heap.size, 7, none⟩ = some (.string ⟨#[]⟩) := HB13.out.c 7 rfl
      have b8 : w13.cell? ⟨w.heap.size, 8, none⟩ = some (.bool false) := HB13.out.c 8 rfl
      have f0 := HB13.out.f 0
      have f1 := HB13.out.f 1
      have f2 := HB13.out.f 2
      have f3 := HB13.out.f 3
      have f4 := HB13.out.f 4
      have f5 := HB13.out.f 5
      have f6 := HB13.out.f 6
      have f7 := HB13.out.f 7
      have f8 := HB13.out.f 8
      by_cases hlt : j < (s.size : Int)
      · have hx := bt_at s j
        have d1 : decide (j < (s.size : Int)) = true := decide_eq_true hlt
        have d2 := eq_true (show 0 ≤ j by omega)
        have d3 := eq_true hlt
        rcases (show bt s j = 61 ∨ bt s j = 58 ∨ bt s j = 126 ∨ bt s j = 62 ∨ bt s j = 60 ∨ (bt s j ≠ 61 ∧ bt s j ≠ 58 ∧ bt s j ≠ 126 ∧ bt s j ≠ 62 ∧ bt s j ≠ 60) by omega) with hc | hc | hc | hc | hc | hc
        · skip
          have k61 : (bt s j == 61) = true := by rw [hc]; rfl
          have k58 : (bt s j == 58) = false := by rw [hc]; rfl
          have k126 : (bt s j == 126) = false := by rw [hc]; rfl
          have k62 : (bt s j == 62) = false := by rw [hc]; rfl
          have k60 : (bt s j == 60) = false := by rw [hc]; rfl
          have hN := hd (show R = eqI ⟨depth, 0, de, ⟨#[]⟩, ⟨#[]⟩, [], ⟨#[]⟩, ⟨#[]⟩, false⟩ (vals s true (s.size + 1) (j + 1) false [] []) from HD.out.trans (by unfold itemN chAt; rw [if_pos hlt, hc]; rfl))
          go_wp2_with (fail)
          go_quiet (fail)
          go_wp2_with (fail)
          go_quiet (fail)
          go_wp2_with (fail)
          refine at_world (fun W => Hid (RB W g s (j + 1) v (0) (pl)) ∧ Hid (Blk W w.heap.size #[.int .i64 depth, .int .i64 0, .string de, .string ⟨#[]⟩, .string ⟨#[]⟩, .slice none 0 0, .string ⟨#[]⟩, .string ⟨#[]⟩, .bool false] 49) ∧ Hid (Kp (One g) w W)) ⟨hd ((HR13.out.drewN _).set1 _), hd (Blk.cast ((HB13.out.drewN _).far (p := ⟨g, 1, none⟩) hgn _) (by kernel_rfl)), hd ((HK13.out.drewN _).setOne 1 _)⟩ ?_
          clear r0 r1 r2 r3 z1 z2 b0 b1 b2 b3 b4 b5 b6 b7 b8 f0 f1 f2 f3 f4 f5 f6 f7 f8
          rintro w14 ⟨HR14, HB14, HK14⟩
          refine (req_any g s (j + 1) v pl ⟨depth, 0, de, ⟨#[]⟩, ⟨#[]⟩, [], ⟨#[]⟩, ⟨#[]⟩, false⟩ _ HR14.out (HT.out.kp HK14.out (fun q => hg q)) hg (by omega) (by omega) hl rfl).mono ?_
          rintro e w15 hq
          obtain ⟨n9, j9, er9, pl9, av9, rfl, ha, hr, hk, hq0, hq1, ho⟩ := EqEnd.out hq
          clear hq
          have HR15 := hd hr
          have HB15 := hd (HB14.out.kp hk hng')
          have HK15 := hd (HK14.out.trans hk)
          have HA := hd ha
          have HO : Hid (IOut R pl n9 j9 er9 pl9) := hd (by rw [hN.out]; exact ho)
          have hs9 := HK14.out.size
          clear hr hk ho ha
          obtain ⟨xd, xo, xde, xv, xi, xa, xf, xr, xdn⟩ := n9
          obtain ⟨Av, cv, hav⟩ := HA.out.slice
          subst hav
          unfold Nd.cells
          have r0 := HR15.out.c0
          have r1 := HR15.out.c1
          have r2 := HR15.out.c2
          have r3 := HR15.out.c3
          have z1 := HR15.out.fz 1
          have z2 := HR15.out.fz 2
          have b0 : w15.cell? ⟨w.heap.size, 0, none⟩ = some (.int .i64 depth) := HB15.out.c 0 rfl
          have b1 : w15.cell? ⟨w.heap.size, 1, none⟩ = some (.int .i64 0) := HB15.out.c 1 rfl
          have b2 : w15.cell? ⟨w.heap.size, 2, none⟩ = some (.string de) := HB15.out.c 2 rfl
          have b3 : w15.cell? ⟨w.heap.size, 3, none⟩ = some (.string ⟨#[]⟩) := HB15.out.c 3 rfl
          have b4 : w15.cell? ⟨w.heap.size, 4, none⟩ = some (.string ⟨#[]⟩) := HB15.out.c 4 rfl
          have b5 : w15.cell? ⟨w.heap.size, 5, none⟩ = some (.slice none 0 0) := HB15.out.c 5 rfl
          have b6 : w15.cell? ⟨w.heap.size, 6, none⟩ = some (.string ⟨#[]⟩) := HB15.out.c 6 rfl
          have b7 : w15.cell? ⟨w.heap.size, 7, none⟩ = some (.string ⟨#[]⟩) := HB15.out.c 7 rfl
          have b8 : w15.cell? ⟨w.heap.size, 8, none⟩ = some (.bool false) := HB15.out.c 8 rfl
          have f0 := HB15.out.f 0
          have f1 := HB15.out.f 1
          have f2 := HB15.out.f 2
          have f3 := HB15.out.f 3
          have f4 := HB15.out.f 4
          have f5 := HB15.out.f 5
          have f6 := HB15.out.f 6
          have f7 := HB15.out.f 7
          have f8 := HB15.out.f 8
          go_wp2_with (fail)
          obtain ⟨w16, hw16⟩ : ∃ x, (((((((((w15).setCell ⟨w.heap.size, 0, none⟩ (.int .i64 xd)).setCell ⟨w.heap.size, 1, none⟩ (.int .i64 xo)).setCell ⟨w.heap.size, 2, none⟩ (.string xde)).setCell ⟨w.heap.size, 3, none⟩ (.string xv)).setCell ⟨w.heap.size, 4, none⟩ (.string xi)).setCell ⟨w.heap.size, 5, none⟩ (.slice Av xa.length cv)).setCell ⟨w.heap.size, 6, none⟩ (.string xf)).setCell ⟨w.heap.size, 7, none⟩ (.string xr)).setCell ⟨w.heap.size, 8, none⟩ (.bool xdn) = x := ⟨_, rfl⟩
          have HR16 : Hid (RB w16 g s (j9) v (er9) (pl9)) := hd (by rw [← hw16]; exact (((((((((HR15.out.far (p := ⟨w.heap.size, 0, none⟩) hng _).far (p := ⟨w.heap.size, 1, none⟩) hng _).far (p := ⟨w.heap.size, 2, none⟩) hng _).far (p := ⟨w.heap.size, 3, none⟩) hng _).far (p := ⟨w.heap.size, 4, none⟩) hng _).far (p := ⟨w.heap.size, 5, none⟩) hng _).far (p := ⟨w.heap.size, 6, none⟩) hng _).far (p := ⟨w.heap.size, 7, none⟩) hng _).far (p := ⟨w.heap.size, 8, none⟩) hng _))
          have HB16 : Hid (Blk w16 w.heap.size #[.int .i64 xd, .int .i64 xo, .string xde, .string xv, .string xi, .slice Av xa.length cv, .string xf, .string xr, .bool xdn] 49) := hd (by rw [← hw16]; exact Blk.cast (((((((((HB15.out.set 0 _).set 1 _).set 2 _).set 3 _).set 4 _).set 5 _).set 6 _).set 7 _).set 8 _) (by kernel_rfl))
          have HK16 : Hid (Kp (One g) w w16) := hd (by rw [← hw16]; exact (((((((((HK15.out.setCell (p := ⟨w.heap.size, 0, none⟩) (fun q => absurd q (Nat.lt_irrefl _)) _).setCell (p := ⟨w.heap.size, 1, none⟩) (fun q => absurd q (Nat.lt_irrefl _)) _).setCell (p := ⟨w.heap.size, 2, none⟩) (fun q => absurd q (Nat.lt_irrefl _)) _).setCell (p := ⟨w.heap.size, 3, none⟩) (fun q => absurd q (Nat.lt_irrefl _)) _).setCell (p := ⟨w.heap.size, 4, none⟩) (fun q => absurd q (Nat.lt_irrefl _)) _).setCell (p := ⟨w.heap.size, 5, none⟩) (fun q => absurd q (Nat.lt_irrefl _)) _).setCell (p := ⟨w.heap.size, 6, none⟩) (fun q => absurd q (Nat.lt_irrefl _)) _).setCell (p := ⟨w.heap.size, 7, none⟩) (fun q => absurd q (Nat.lt_irrefl _)) _).setCell (p := ⟨w.heap.size, 8, none⟩) (fun q => absurd q (Nat.lt_irrefl _)) _))
          have HA16 : Hid (AnyR w16 base (fun k => base ≤ k) (.slice Av xa.length cv) (⟨xd, xo, xde, xv, xi, xa, xf, xr, xdn⟩ : Nd).any) := hd (by rw [← hw16]; exact ((HA.out.kp ((((((((((Kp.refl (One w.heap.size) _).setOne 0 _).setOne 1 _).setOne 2 _).setOne 3 _).setOne 4 _).setOne 5 _).setOne 6 _).setOne 7 _).setOne 8 _) (fun k hk q => by have q' : k = w.heap.size := q; have hk' : w14.heap.size ≤ k := hk; have := HB14.out.lt; omega)).own (Nat.le_trans hbase hs9)))
          rw [hw16]
          clear hw16
          clear r0 r1 r2 r3 z1 z2 b0 b1 b2 b3 b4 b5 b6 b7 b8 f0 f1 f2 f3 f4 f5 f6 f7 f8
          have r0 := HR16.out.c0
          have r1 := HR16.out.c1
          have r2 := HR16.out.c2
          have r3 := HR16.out.c3
          have z1 := HR16.out.fz 1
          have z2 := HR16.out.fz 2
          have b0 : w16.cell? ⟨w.heap.size, 0, none⟩ = some (.int .i64 xd) := HB16.out.c 0 rfl
          have b1 : w16.cell? ⟨w.heap.size, 1, none⟩ = some (.int .i64 xo) := HB16.out.c 1 rfl
          have b2 : w16.cell? ⟨w.heap.size, 2, none⟩ = some (.string xde) := HB16.out.c 2 rfl
          have b3 : w16.cell? ⟨w.heap.size, 3, none⟩ = some (.string xv) := HB16.out.c 3 rfl
          have b4 : w16.cell? ⟨w.heap.size, 4, none⟩ = some (.string xi) := HB16.out.c 4 rfl
          have b5 : w16.cell? ⟨w.heap.size, 5, none⟩ = some (.slice Av xa.length cv) := HB16.out.c 5 rfl
          have b6 : w16.cell? ⟨w.heap.size, 6, none⟩ = some (.string xf) := HB16.out.c 6 rfl
          have b7 : w16.cell? ⟨w.heap.size, 7, none⟩ = some (.string xr) := HB16.out.c 7 rfl
          have b8 : w16.cell? ⟨w.heap.size, 8, none⟩ = some (.bool xdn) := HB16.out.c 8 rfl
          have f0 := HB16.out.f 0
          have f1 := HB16.out.f 1
          have f2 := HB16.out.f 2
          have f3 := HB16.out.f 3
          have f4 := HB16.out.f 4
          have f5 := HB16.out.f 5
          have f6 := HB16.out.f 6
          have f7 := HB16.out.f 7
          have f8 := HB16.out.f 8
          have r2a : (w16.alloc (.cells #[.int .i64 xd, .int .i64 xo, .string xde, .string xv, .string xi, .slice Av xa.length cv, .string xf, .string xr, .bool xdn] 49)).cell? ⟨g, 2, none⟩ = some v := (HR16.out.alloc _).c2
          have hn16 : NS w16.drew base v ns := (HN.out.one HK16.out.drew hgb)
          have hb16 : base ≤ w16.heap.size := Nat.le_trans hbase HK16.out.size
          go_region_law (refine step_app_node w16.drew base rfl (.tmp 132) (.tmp 134) rfl v ns (⟨xd, xo, xde, xv, xi, xa, xf, xr, xdn⟩ : Nd) ((.slice Av xa.length cv)) rfl rfl hn16 HA16.out hb16 hlen rfl ?_; rintro A3 c3 w3 ⟨hs3, hg3⟩; have HR3 : Hid (RB w3 g s (j9) v (er9) (pl9)) := hd (blk_grown HR16.out.drew hg3 (fun e => absurd (hn16.own g e.symm) (by omega))); have HS3 := hd hs3; have HG3 := hd hg3; clear hs3 hg3; have z3 := HR3.out.fz 2; have y3 := HR3.out.c2)
          all_goals
            go_wp2
            go_end0
            exact (ItEnd.app_ hgb HN.out HR16.out.drew HK16.out.drew HS3.out HG3.out (by omega) (by omega) (HO.out))
        · skip
          have k61 : (bt s j == 61) = false := by rw [hc]; rfl
          have k58 : (bt s j == 58) = true := by rw [hc]; rfl
          have k126 : (bt s j == 126) = false := by rw [hc]; rfl
          have k62 : (bt s j == 62) = false := by rw [hc]; rfl
          have k60 : (bt s j == 60) = false := by rw [hc]; rfl
          have hN := hd (show R = extA s ⟨depth, 0, de, ⟨#[]⟩, ⟨#[]⟩, [], ⟨#[]⟩, ⟨#[]⟩, false⟩ (j + 1) from HD.out.trans (by unfold itemN chAt; rw [if_pos hlt, hc]; rfl))
          go_wp2_with (fail)
          go_quiet (fail)
          go_wp2_with (fail)
          go_quiet (fail)
          go_wp2_with (fail)
          refine at_world (fun W => Hid (RB W g s (j + 1) v (0) (pl)) ∧ Hid (Blk W w.heap.size #[.int .i64 depth, .int .i64 0, .string de, .string ⟨#[]⟩, .string ⟨#[]⟩, .slice none 0 0, .string ⟨#[]⟩, .string ⟨#[]⟩, .bool false] 49) ∧ Hid (Kp (One g) w W)) ⟨hd ((HR13.out.drewN _).set1 _), hd (Blk.cast ((HB13.out.drewN _).far (p := ⟨g, 1, none⟩) hgn _) (by kernel_rfl)), hd ((HK13.out.drewN _).setOne 1 _)⟩ ?_
          clear r0 r1 r2 r3 z1 z2 b0 b1 b2 b3 b4 b5 b6 b7 b8 f0 f1 f2 f3 f4 f5 f6 f7 f8
          rintro w17 ⟨HR17, HB17, HK17⟩
          refine (rruled_any g s (j + 1) v pl ⟨depth, 0, de, ⟨#[]⟩, ⟨#[]⟩, [], ⟨#[]⟩, ⟨#[]⟩, false⟩ _ HR17.out (HT.out.kp HK17.out (fun q => hg q)) hg (by omega) (by omega) hl2 rfl).mono ?_
          rintro e w18 ⟨n9, j9, er9, pl9, av9, rfl, ha18, hr18, hk18, h018, h118, ho18⟩
          have HR18 : Hid (RB w18 g s (j9) v (er9) (pl9)) := hd hr18
          have HB18 := hd (HB17.out.kp hk18 hng')
          have HK18 := hd (HK17.out.trans hk18)
          have HA := hd ha18
          have HO : Hid (IOut R pl n9 j9 er9 pl9) := hd (by rw [hN.out]; exact ho18)
          have hs9 := HK17.out.size
          clear ha18 ho18
          obtain ⟨xd, xo, xde, xv, xi, xa, xf, xr, xdn⟩ := n9
          obtain ⟨Av, cv, hav⟩ := HA.out.slice
          subst hav
          unfold Nd.cells
          have r0 := HR18.out.c0
          have r1 := HR18.out.c1
          have r2 := HR18.out.c2
          have r3 := HR18.out.c3
          have z1 := HR18.out.fz 1
          have z2 := HR18.out.fz 2
          have b0 : w18.cell? ⟨w.heap.size, 0, none⟩ = some (.int .i64 depth) := HB18.out.c 0 rfl
          have b1 : w18.cell? ⟨w.heap.size, 1, none⟩ = some (.int .i64 0) := HB18.out.c 1 rfl
          have b2 : w18.cell? ⟨w.heap.size, 2, none⟩ = some (.string de) := HB18.out.c 2 rfl
          have b3 : w18.cell? ⟨w.heap.size, 3, none⟩ = some (.string ⟨#[]⟩) := HB18.out.c 3 rfl
          have b4 : w18.cell? ⟨w.heap.size, 4, none⟩ = some (.string ⟨#[]⟩) := HB18.out.c 4 rfl
          have b5 : w18.cell? ⟨w.heap.size, 5, none⟩ = some (.slice none 0 0) := HB18.out.c 5 rfl
          have b6 : w18.cell? ⟨w.heap.size, 6, none⟩ = some (.string ⟨#[]⟩) := HB18.out.c 6 rfl
          have b7 : w18.cell? ⟨w.heap.size, 7, none⟩ = some (.string ⟨#[]⟩) := HB18.out.c 7 rfl
          have b8 : w18.cell? ⟨w.heap.size, 8, none⟩ = some (.bool false) := HB18.out.c 8 rfl
          have f0 := HB18.out.f 0
          have f1 := HB18.out.f 1
          have f2 := HB18.out.f 2
          have f3 := HB18.out.f 3
          have f4 := HB18.out.f 4
          have f5 := HB18.out.f 5
          have f6 := HB18.out.f 6
          have f7 := HB18.out.f 7
          have f8 := HB18.out.f 8
          go_wp2_with (fail)
          obtain ⟨w19, hw19⟩ : ∃ x, (((((((((w18).setCell ⟨w.heap.size, 0, none⟩ (.int .i64 xd)).setCell ⟨w.heap.size, 1, none⟩ (.int .i64 xo)).setCell ⟨w.heap.size, 2, none⟩ (.string xde)).setCell ⟨w.heap.size, 3, none⟩ (.string xv)).setCell ⟨w.heap.size, 4, none⟩ (.string xi)).setCell ⟨w.heap.size, 5, none⟩ (.slice Av xa.length cv)).setCell ⟨w.heap.size, 6, none⟩ (.string xf)).setCell ⟨w.heap.size, 7, none⟩ (.string xr)).setCell ⟨w.heap.size, 8, none⟩ (.bool xdn) = x := ⟨_, rfl⟩
          have HR19 : Hid (RB w19 g s (j9) v (er9) (pl9)) := hd (by rw [← hw19]; exact (((((((((HR18.out.far (p := ⟨w.heap.size, 0, none⟩) hng _).far (p := ⟨w.heap.size, 1, none⟩) hng _).far (p := ⟨w.heap.size, 2, none⟩) hng _).far (p := ⟨w.heap.size, 3, none⟩) hng _).far (p := ⟨w.heap.size, 4, none⟩) hng _).far (p := ⟨w.heap.size, 5, none⟩) hng _).far (p := ⟨w.heap.size, 6, none⟩) hng _).far (p := ⟨w.heap.size, 7, none⟩) hng _).far (p := ⟨w.heap.size, 8, none⟩) hng _))
          have HB19 : Hid (Blk w19 w.heap.size #[.int .i64 xd, .int .i64 xo, .string xde, .string xv, .string xi, .slice Av xa.length cv, .string xf, .string xr, .bool xdn] 49) := hd (by rw [← hw19]; exact Blk.cast (((((((((HB18.out.set 0 _).set 1 _).set 2 _).set 3 _).set 4 _).set 5 _).set 6 _).set 7 _).set 8 _) (by kernel_rfl))
          have HK19 : Hid (Kp (One g) w w19) := hd (by rw [← hw19]; exact (((((((((HK18.out.setCell (p := ⟨w.heap.size, 0, none⟩) (fun q => absurd q (Nat.lt_irrefl _)) _).setCell (p := ⟨w.heap.size, 1, none⟩) (fun q => absurd q (Nat.lt_irrefl _)) _).setCell (p := ⟨w.heap.size, 2, none⟩) (fun q => absurd q (Nat.lt_irrefl _)) _).setCell (p := ⟨w.heap.size, 3, none⟩) (fun q => absurd q (Nat.lt_irrefl _)) _).setCell (p := ⟨w.heap.size, 4, none⟩) (fun q => absurd q (Nat.lt_irrefl _)) _).setCell (p := ⟨w.heap.size, 5, none⟩) (fun q => absurd q (Nat.lt_irrefl _)) _).setCell (p := ⟨w.heap.size, 6, none⟩) (fun q => absurd q (Nat.lt_irrefl _)) _).setCell (p := ⟨w.heap.size, 7, none⟩) (fun q => absurd q (Nat.lt_irrefl _)) _).setCell (p := ⟨w.heap.size, 8, none⟩) (fun q => absurd q (Nat.lt_irrefl _)) _))
          have HA19 : Hid (AnyR w19 base (fun k => base ≤ k) (.slice Av xa.length cv) (⟨xd, xo, xde, xv, xi, xa, xf, xr, xdn⟩ : Nd).any) := hd (by rw [← hw19]; exact ((HA.out.kp ((((((((((Kp.refl (One w.heap.size) _).setOne 0 _).setOne 1 _).setOne 2 _).setOne 3 _).setOne 4 _).setOne 5 _).setOne 6 _).setOne 7 _).setOne 8 _) (fun k hk q => by have q' : k = w.heap.size := q; have hk' : w17.heap.size ≤ k := hk; have := HB17.out.lt; omega)).own (Nat.le_trans hbase hs9)))
          rw [hw19]
          clear hw19
          clear r0 r1 r2 r3 z1 z2 b0 b1 b2 b3 b4 b5 b6 b7 b8 f0 f1 f2 f3 f4 f5 f6 f7 f8
          have r0 := HR19.out.c0
          have r1 := HR19.out.c1
          have r2 := HR19.out.c2
          have r3 := HR19.out.c3
          have z1 := HR19.out.fz 1
          have z2 := HR19.out.fz 2
          have b0 : w19.cell? ⟨w.heap.size, 0, none⟩ = some (.int .i64 xd) := HB19.out.c 0 rfl
          have b1 : w19.cell? ⟨w.heap.size, 1, none⟩ = some (.int .i64 xo) := HB19.out.c 1 rfl
          have b2 : w19.cell? ⟨w.heap.size, 2, none⟩ = some (.string xde) := HB19.out.c 2 rfl
          have b3 : w19.cell? ⟨w.heap.size, 3, none⟩ = some (.string xv) := HB19.out.c 3 rfl
          have b4 : w19.cell? ⟨w.heap.size, 4, none⟩ = some (.string xi) := HB19.out.c 4 rfl
          have b5 : w19.cell? ⟨w.heap.size, 5, none⟩ = some (.slice Av xa.length cv) := HB19.out.c 5 rfl
          have b6 : w19.cell? ⟨w.heap.size, 6, none⟩ = some (.string xf) := HB19.out.c 6 rfl
          have b7 : w19.cell? ⟨w.heap.size, 7, none⟩ = some (.string xr) := HB19.out.c 7 rfl
          have b8 : w19.cell? ⟨w.heap.size, 8, none⟩ = some (.bool xdn) := HB19.out.c 8 rfl
          have f0 := HB19.out.f 0
          have f1 := HB19.out.f 1
          have f2 := HB19.out.f 2
          have f3 := HB19.out.f 3
          have f4 := HB19.out.f 4
          have f5 := HB19.out.f 5
          have f6 := HB19.out.f 6
          have f7 := HB19.out.f 7
          have f8 := HB19.out.f 8
          have r2a : (w19.alloc (.cells #[.int .i64 xd, .int .i64 xo, .string xde, .string xv, .string xi, .slice Av xa.length cv, .string xf, .string xr, .bool xdn] 49)).cell? ⟨g, 2, none⟩ = some v := (HR19.out.alloc _).c2
          have hn19 : NS w19.drew base v ns := (HN.out.one HK19.out.drew hgb)
          have hb19 : base ≤ w19.heap.size := Nat.le_trans hbase HK19.out.size
          go_region_law (refine step_app_node w19.drew base rfl (.tmp 132) (.tmp 134) rfl v ns (⟨xd, xo, xde, xv, xi, xa, xf, xr, xdn⟩ : Nd) ((.slice Av xa.length cv)) rfl rfl hn19 HA19.out hb19 hlen rfl ?_; rintro A3 c3 w3 ⟨hs3, hg3⟩; have HR3 : Hid (RB w3 g s (j9) v (er9) (pl9)) := hd (blk_grown HR19.out.drew hg3 (fun e => absurd (hn19.own g e.symm) (by omega))); have HS3 := hd hs3; have HG3 := hd hg3; clear hs3 hg3; have z3 := HR3.out.fz 2; have y3 := HR3.out.c2)
          all_goals
            go_wp2
            go_end0
            exact (ItEnd.app_ hgb HN.out HR19.out.drew HK19.out.drew HS3.out HG3.out (by omega) (by omega) (HO.out))
        · skip
          have k61 : (bt s j == 61) = false := by rw [hc]; rfl
          have k58 : (bt s j == 58) = false := by rw [hc]; rfl
          have k126 : (bt s j == 126) = true := by rw [hc]; rfl
          have k62 : (bt s j == 62) = false := by rw [hc]; rfl
          have k60 : (bt s j == 60) = false := by rw [hc]; rfl
          have hN := hd (show R = signS s { Nd.zero with depth := depth, desc := de } 126 j from HD.out.trans (by unfold itemN chAt; rw [if_pos hlt, hc]; rfl))
          cases q61 : isB s (j + 1) 61 with
          | false =>
            have HO : Hid (IOut R pl ⟨depth, 8, de, ⟨#[]⟩, ⟨#[]⟩, [], ⟨#[]⟩, ⟨#[]⟩, false⟩ (j + 1) 120 (j + 1)) := hd (.inr ⟨j + 1, hN.out.trans (by unfold signS; rw [if_pos q61]), rfl, rfl⟩)
            go_wp2_with (fail)
            go_quiet (fail)
            go_wp2_with (fail)
            go_quiet (fail)
            go_wp2_with (fail)
            refine at_world (fun W => Hid (RB W g s (j + 1) v (0) (pl)) ∧ Hid (Blk W w.heap.size #[.int .i64 depth, .int .i64 0, .string de, .string ⟨#[]⟩, .string ⟨#[]⟩, .slice none 0 0, .string ⟨#[]⟩, .string ⟨#[]⟩, .bool false] 49) ∧ Hid (Kp (One g) w W)) ⟨hd ((HR13.out.drewN _).set1 _), hd (Blk.cast ((HB13.out.drewN _).far (p := ⟨g, 1, none⟩) hgn _) (by kernel_rfl)), hd ((HK13.out.drewN _).setOne 1 _)⟩ ?_
            clear r0 r1 r2 r3 z1 z2 b0 b1 b2 b3 b4 b5 b6 b7 b8 f0 f1 f2 f3 f4 f5 f6 f7 f8
            rintro w20 ⟨HR20, HB20, HK20⟩
            refine (must_new g s (j + 1) v pl 61 _ HR20.out (by omega) q61).mono ?_
            rintro e w21 ⟨rfl, hr21, hk21⟩
            have HR21 : Hid (RB w21 g s (j + 1) v (120) (j + 1)) := hd hr21
            have HB21 := hd (HB20.out.kp hk21 hng')
            have HK21 := hd (HK20.out.trans hk21)
            have r0 := HR21.out.c0
            have r1 := HR21.out.c1
            have r2 := HR21.out.c2
            have r3 := HR21.out.c3
            have z1 := HR21.out.fz 1
            have z2 := HR21.out.fz 2
            have b0 : w21.cell? ⟨w.heap.size, 0, none⟩ = some (.int .i64 depth) := HB21.out.c 0 rfl
            have b1 : w21.cell? ⟨w.heap.size, 1, none⟩ = some (.int .i64 0) := HB21.out.c 1 rfl
            have b2 : w21.cell? ⟨w.heap.size, 2, none⟩ = some (.string de) := HB21.out.c 2 rfl
            have b3 : w21.cell? ⟨w.heap.size, 3, none⟩ = some (.string ⟨#[]⟩) := HB21.out.c 3 rfl
            have b4 : w21.cell? ⟨w.heap.size, 4, none⟩ = some (.string ⟨#[]⟩) := HB21.out.c 4 rfl
            have b5 : w21.cell? ⟨w.heap.size, 5, none⟩ = some (.slice none 0 0) := HB21.out.c 5 rfl
            have b6 : w21.cell? ⟨w.heap.size, 6, none⟩ = some (.string ⟨#[]⟩) := HB21.out.c 6 rfl
            have b7 : w21.cell? ⟨w.heap.size, 7, none⟩ = some (.string ⟨#[]⟩) := HB21.out.c 7 rfl
            have b8 : w21.cell? ⟨w.heap.size, 8, none⟩ = some (.bool false) := HB21.out.c 8 rfl
            have f0 := HB21.out.f 0
            have f1 := HB21.out.f 1
            have f2 := HB21.out.f 2
            have f3 := HB21.out.f 3
            have f4 := HB21.out.f 4
            have f5 := HB21.out.f 5
            have f6 := HB21.out.f 6
            have f7 := HB21.out.f 7
            have f8 := HB21.out.f 8
            go_wp2_with (fail)
            obtain ⟨w22, hw22⟩ : ∃ x, (w21).setCell ⟨w.heap.size, 1, none⟩ (.int .i64 8) = x := ⟨_, rfl⟩
            have HR22 : Hid (RB w22 g s (j + 1) v (120) (j + 1)) := hd (by rw [← hw22]; exact (HR21.out.far (p := ⟨w.heap.size, 1, none⟩) hng _))
            have HB22 : Hid (Blk w22 w.heap.size #[.int .i64 depth, .int .i64 8, .string de, .string ⟨#[]⟩, .string ⟨#[]⟩, .slice none 0 0, .string ⟨#[]⟩, .string ⟨#[]⟩, .bool false] 49) := hd (by rw [← hw22]; exact Blk.cast (HB21.out.set 1 _) (by kernel_rfl))
            have HK22 : Hid (Kp (One g) w w22) := hd (by rw [← hw22]; exact (HK21.out.setCell (p := ⟨w.heap.size, 1, none⟩) (fun q => absurd q (Nat.lt_irrefl _)) _))
            have HA22 : Hid (AnyR w22 base (fun k => base ≤ k) (.slice none 0 0) (⟨depth, 8, de, ⟨#[]⟩, ⟨#[]⟩, [], ⟨#[]⟩, ⟨#[]⟩, false⟩ : Nd).any) := hd (by rw [← hw22]; exact AnyR.nil _ _ _)
            rw [hw22]
            clear hw22
            clear r0 r1 r2 r3 z1 z2 b0 b1 b2 b3 b4 b5 b6 b7 b8 f0 f1 f2 f3 f4 f5 f6 f7 f8
            have r0 := HR22.out.c0
            have r1 := HR22.out.c1
            have r2 := HR22.out.c2
            have r3 := HR22.out.c3
            have z1 := HR22.out.fz 1
            have z2 := HR22.out.fz 2
            have b0 : w22.cell? ⟨w.heap.size, 0, none⟩ = some (.int .i64 depth) := HB22.out.c 0 rfl
            have b1 : w22.cell? ⟨w.heap.size, 1, none⟩ = some (.int .i64 8) := HB22.out.c 1 rfl
            have b2 : w22.cell? ⟨w.heap.size, 2, none⟩ = some (.string de) := HB22.out.c 2 rfl
            have b3 : w22.cell? ⟨w.heap.size, 3, none⟩ = some (.string ⟨#[]⟩) := HB22.out.c 3 rfl
            have b4 : w22.cell? ⟨w.heap.size, 4, none⟩ = some (.string ⟨#[]⟩) := HB22.out.c 4 rfl
            have b5 : w22.cell? ⟨w.heap.size, 5, none⟩ = some (.slice none 0 0) := HB22.out.c 5 rfl
            have b6 : w22.cell? ⟨w.heap.size, 6, none⟩ = some (.string ⟨#[]⟩) := HB22.out.c 6 rfl
            have b7 : w22.cell? ⟨w.heap.size, 7, none⟩ = some (.string ⟨#[]⟩) := HB22.out.c 7 rfl
            have b8 : w22.cell? ⟨w.heap.size, 8, none⟩ = some (.bool false) := HB22.out.c 8 rfl
            have f0 := HB22.out.f 0
            have f1 := HB22.out.f 1
            have f2 := HB22.out.f 2
            have f3 := HB22.out.f 3
            have f4 := HB22.out.f 4
            have f5 := HB22.out.f 5
            have f6 := HB22.out.f 6
            have f7 := HB22.out.f 7
            have f8 := HB22.out.f 8
            have r2a : (w22.alloc (.cells #[.int .i64 depth, .int .i64 8, .string de, .string ⟨#[]⟩, .string ⟨#[]⟩, .slice none 0 0, .string ⟨#[]⟩, .string ⟨#[]⟩, .bool false] 49)).cell? ⟨g, 2, none⟩ = some v := (HR22.out.alloc _).c2
            have hn22 : NS w22.drew base v ns := (HN.out.one HK22.out.drew hgb)
            have hb22 : base ≤ w22.heap.size := Nat.le_trans hbase HK22.out.size
            go_region_law (refine step_app_node w22.drew base rfl (.tmp 132) (.tmp 134) rfl v ns (⟨depth, 8, de, ⟨#[]⟩, ⟨#[]⟩, [], ⟨#[]⟩, ⟨#[]⟩, false⟩ : Nd) ((.slice none 0 0)) rfl rfl hn22 HA22.out hb22 hlen rfl ?_; rintro A3 c3 w3 ⟨hs3, hg3⟩; have HR3 : Hid (RB w3 g s (j + 1) v (120) (j + 1)) := hd (blk_grown HR22.out.drew hg3 (fun e => absurd (hn22.own g e.symm) (by omega))); have HS3 := hd hs3; have HG3 := hd hg3; clear hs3 hg3; have z3 := HR3.out.fz 2; have y3 := HR3.out.c2)
            all_goals
              go_wp2
              go_end0
              exact (ItEnd.app_ hgb HN.out HR22.out.drew HK22.out.drew HS3.out HG3.out (by omega) (by omega) (HO.out))
          | true =>
            have hlt2 := (isB_true q61).1
            have hN2 := hd (show R = withVal ⟨depth, 8, de, ⟨#[]⟩, ⟨#[]⟩, [], ⟨#[]⟩, ⟨#[]⟩, false⟩ (vals s false (s.size + 1) (j + 2) false [] []) from hN.out.trans (by unfold signS; rw [if_neg (by rw [q61]; simp)]; rfl))
            go_wp2_with (fail)
            go_quiet (fail)
            go_wp2_with (fail)
            go_quiet (fail)
            go_wp2_with (fail)
            refine at_world (fun W => Hid (RB W g s (j + 1) v (0) (pl)) ∧ Hid (Blk W w.heap.size #[.int .i64 depth, .int .i64 0, .string de, .string ⟨#[]⟩, .string ⟨#[]⟩, .slice none 0 0, .string ⟨#[]⟩, .string ⟨#[]⟩, .bool false] 49) ∧ Hid (Kp (One g) w W)) ⟨hd ((HR13.out.drewN _).set1 _), hd (Blk.cast ((HB13.out.drewN _).far (p := ⟨g, 1, none⟩) hgn _) (by kernel_rfl)), hd ((HK13.out.drewN _).setOne 1 _)⟩ ?_
            clear r0 r1 r2 r3 z1 z2 b0 b1 b2 b3 b4 b5 b6 b7 b8 f0 f1 f2 f3 f4 f5 f6 f7 f8
            rintro w23 ⟨HR23, HB23, HK23⟩
            refine (must_yes g s (j + 1) v 0 pl 61 _ HR23.out (by omega) hl q61).mono ?_
            rintro e w24 ⟨rfl, hr24, hk24⟩
            have HR24 : Hid (RB w24 g s (j + 2) v (0) (pl)) := hd (show RB w24 g s (j + 2) v 0 pl by rw [show j + 2 = j + 1 + 1 from by omega]; exact hr24)
            have HB24 := hd (HB23.out.kp hk24 hng')
            have HK24 := hd (HK23.out.trans hk24)
            have r0 := HR24.out.c0
            have r1 := HR24.out.c1
            have r2 := HR24.out.c2
            have r3 := HR24.out.c3
            have z1 := HR24.out.fz 1
            have z2 := HR24.out.fz 2
            have b0 : w24.cell? ⟨w.heap.size, 0, none⟩ = some (.int .i64 depth) := HB24.out.c 0 rfl
            have b1 : w24.cell? ⟨w.heap.size, 1, none⟩ = some (.int .i64 0) := HB24.out.c 1 rfl
            have b2 : w24.cell? ⟨w.heap.size, 2, none⟩ = some (.string de) := HB24.out.c 2 rfl
            have b3 : w24.cell? ⟨w.heap.size, 3, none⟩ = some (.string ⟨#[]⟩) := HB24.out.c 3 rfl
            have b4 : w24.cell? ⟨w.heap.size, 4, none⟩ = some (.string ⟨#[]⟩) := HB24.out.c 4 rfl
            have b5 : w24.cell? ⟨w.heap.size, 5, none⟩ = some (.slice none 0 0) := HB24.out.c 5 rfl
            have b6 : w24.cell? ⟨w.heap.size, 6, none⟩ = some (.string ⟨#[]⟩) := HB24.out.c 6 rfl
            have b7 : w24.cell? ⟨w.heap.size, 7, none⟩ = some (.string ⟨#[]⟩) := HB24.out.c 7 rfl
            have b8 : w24.cell? ⟨w.heap.size, 8, none⟩ = some (.bool false) := HB24.out.c 8 rfl
            have f0 := HB24.out.f 0
            have f1 := HB24.out.f 1
            have f2 := HB24.out.f 2
            have f3 := HB24.out.f 3
            have f4 := HB24.out.f 4
            have f5 := HB24.out.f 5
            have f6 := HB24.out.f 6
            have f7 := HB24.out.f 7
            have f8 := HB24.out.f 8
            go_wp2_with (fail)
            refine at_world (fun W => Hid (RB W g s (j + 2) v (0) (pl)) ∧ Hid (Blk W w.heap.size #[.int .i64 depth, .int .i64 8, .string de, .string ⟨#[]⟩, .string ⟨#[]⟩, .slice none 0 0, .string ⟨#[]⟩, .string ⟨#[]⟩, .bool false] 49) ∧ Hid (Kp (One g) w W)) ⟨hd (HR24.out.far (p := ⟨w.heap.size, 1, none⟩) hng _), hd (Blk.cast (HB24.out.set 1 _) (by kernel_rfl)), hd (HK24.out.setCell (p := ⟨w.heap.size, 1, none⟩) (fun q => absurd q (Nat.lt_irrefl _)) _)⟩ ?_
            clear r0 r1 r2 r3 z1 z2 b0 b1 b2 b3 b4 b5 b6 b7 b8 f0 f1 f2 f3 f4 f5 f6 f7 f8
            rintro w25 ⟨HR25, HB25, HK25⟩
            refine (ronly_any g s (j + 2) v pl _ HR25.out (HT.out.kp HK25.out (fun q => hg q)) hg (by omega) (by omega) hl).mono ?_
            rintro e w26 hq
            obtain ⟨y, jn, ern, pln, rfl, hr, hk, hjn, hin, ho⟩ := OEnd.out ⟨depth, 8, de, ⟨#[]⟩, ⟨#[]⟩, [], ⟨#[]⟩, ⟨#[]⟩, false⟩ hq
            clear hq
            have HR26 := hd hr
            have HB26 := hd (HB25.out.kp hk hng')
            have HK26 := hd (HK25.out.trans hk)
            have HO : Hid (IOut R pl ⟨depth, 8, de, y, ⟨#[]⟩, [], ⟨#[]⟩, ⟨#[]⟩, false⟩ jn ern pln) := hd (by rw [hN2.out]; exact ho)
            clear hr hk ho
            have r0 := HR26.out.c0
            have r1 := HR26.out.c1
            have r2 := HR26.out.c2
            have r3 := HR26.out.c3
            have z1 := HR26.out.fz 1
            have z2 := HR26.out.fz 2
            have b0 : w26.cell? ⟨w.heap.size, 0, none⟩ = some (.int .i64 depth) := HB26.out.c 0 rfl
            have b1 : w26.cell? ⟨w.heap.size, 1, none⟩ = some (.int .i64 8) := HB26.out.c 1 rfl
            have b2 : w26.cell? ⟨w.heap.size, 2, none⟩ = some (.string de) := HB26.out.c 2 rfl
            have b3 : w26.cell? ⟨w.heap.size, 3, none⟩ = some (.string ⟨#[]⟩) := HB26.out.c 3 rfl
            have b4 : w26.cell? ⟨w.heap.size, 4, none⟩ = some (.string ⟨#[]⟩) := HB26.out.c 4 rfl
            have b5 : w26.cell? ⟨w.heap.size, 5, none⟩ = some (.slice none 0 0) := HB26.out.c 5 rfl
            have b6 : w26.cell? ⟨w.heap.size, 6, none⟩ = some (.string ⟨#[]⟩) := HB26.out.c 6 rfl
            have b7 : w26.cell? ⟨w.heap.size, 7, none⟩ = some (.string ⟨#[]⟩) := HB26.out.c 7 rfl
            have b8 : w26.cell? ⟨w.heap.size, 8, none⟩ = some (.bool false) := HB26.out.c 8 rfl
            have f0 := HB26.out.f 0
            have f1 := HB26.out.f 1
            have f2 := HB26.out.f 2
            have f3 := HB26.out.f 3
            have f4 := HB26.out.f 4
            have f5 := HB26.out.f 5
            have f6 := HB26.out.f 6
            have f7 := HB26.out.f 7
            have f8 := HB26.out.f 8
            go_wp2_with (fail)
            obtain ⟨w27, hw27⟩ : ∃ x, (w26).setCell ⟨w.heap.size, 3, none⟩ (.string y) = x := ⟨_, rfl⟩
            have HR27 : Hid (RB w27 g s (jn) v (ern) (pln)) := hd (by rw [← hw27]; exact (HR26.out.far (p := ⟨w.heap.size, 3, none⟩) hng _))
            have HB27 : Hid (Blk w27 w.heap.size #[.int .i64 depth, .int .i64 8, .string de, .string y, .string ⟨#[]⟩, .slice none 0 0, .string ⟨#[]⟩, .string ⟨#[]⟩, .bool false] 49) := hd (by rw [← hw27]; exact Blk.cast (HB26.out.set 3 _) (by kernel_rfl))
            have HK27 : Hid (Kp (One g) w w27) := hd (by rw [← hw27]; exact (HK26.out.setCell (p := ⟨w.heap.size, 3, none⟩) (fun q => absurd q (Nat.lt_irrefl _)) _))
            have HA27 : Hid (AnyR w27 base (fun k => base ≤ k) (.slice none 0 0) (⟨depth, 8, de, y, ⟨#[]⟩, [], ⟨#[]⟩, ⟨#[]⟩, false⟩ : Nd).any) := hd (by rw [← hw27]; exact AnyR.nil _ _ _)
            rw [hw27]
            clear hw27
            clear r0 r1 r2 r3 z1 z2 b0 b1 b2 b3 b4 b5 b6 b7 b8 f0 f1 f2 f3 f4 f5 f6 f7 f8
            have r0 := HR27.out.c0
            have r1 := HR27.out.c1
            have r2 := HR27.out.c2
            have r3 := HR27.out.c3
            have z1 := HR27.out.fz 1
            have z2 := HR27.out.fz 2
            have b0 : w27.cell? ⟨w.heap.size, 0, none⟩ = some (.int .i64 depth) := HB27.out.c 0 rfl
            have b1 : w27.cell? ⟨w.heap.size, 1, none⟩ = some (.int .i64 8) := HB27.out.c 1 rfl
            have b2 : w27.cell? ⟨w.heap.size, 2, none⟩ = some (.string de) := HB27.out.c 2 rfl
            have b3 : w27.cell? ⟨w.heap.size, 3, none⟩ = some (.string y) := HB27.out.c 3 rfl
            have b4 : w27.cell? ⟨w.heap.size, 4, none⟩ = some (.string ⟨#[]⟩) := HB27.out.c 4 rfl
            have b5 : w27.cell? ⟨w.heap.size, 5, none⟩ = some (.slice none 0 0) := HB27.out.c 5 rfl
            have b6 : w27.cell? ⟨w.heap.size, 6, none⟩ = some (.string ⟨#[]⟩) := HB27.out.c 6 rfl
            have b7 : w27.cell? ⟨w.heap.size, 7, none⟩ = some (.string ⟨#[]⟩) := HB27.out.c 7 rfl
            have b8 : w27.cell? ⟨w.heap.size, 8, none⟩ = some (.bool false) := HB27.out.c 8 rfl
            have f0 := HB27.out.f 0
            have f1 := HB27.out.f 1
            have f2 := HB27.out.f 2
            have f3 := HB27.out.f 3
            have f4 := HB27.out.f 4
            have f5 := HB27.out.f 5
            have f6 := HB27.out.f 6
            have f7 := HB27.out.f 7
            have f8 := HB27.out.f 8
            have r2a : (w27.alloc (.cells #[.int .i64 depth, .int .i64 8, .string de, .string y, .string ⟨#[]⟩, .slice none 0 0, .string ⟨#[]⟩, .string ⟨#[]⟩, .bool false] 49)).cell? ⟨g, 2, none⟩ = some v := (HR27.out.alloc _).c2
            have hn27 : NS w27.drew base v ns := (HN.out.one HK27.out.drew hgb)
            have hb27 : base ≤ w27.heap.size := Nat.le_trans hbase HK27.out.size
            go_region_law (refine step_app_node w27.drew base rfl (.tmp 132) (.tmp 134) rfl v ns (⟨depth, 8, de, y, ⟨#[]⟩, [], ⟨#[]⟩, ⟨#[]⟩, false⟩ : Nd) ((.slice none 0 0)) rfl rfl hn27 HA27.out hb27 hlen rfl ?_; rintro A3 c3 w3 ⟨hs3, hg3⟩; have HR3 : Hid (RB w3 g s (jn) v (ern) (pln)) := hd (blk_grown HR27.out.drew hg3 (fun e => absurd (hn27.own g e.symm) (by omega))); have HS3 := hd hs3; have HG3 := hd hg3; clear hs3 hg3; have z3 := HR3.out.fz 2; have y3 := HR3.out.c2)
            all_goals
              go_wp2
              go_end0
              exact (ItEnd.app_ hgb HN.out HR27.out.drew HK27.out.drew HS3.out HG3.out (by omega) (by omega) (HO.out))
        · skip
          have k61 : (bt s j == 61) = false := by rw [hc]; rfl
          have k58 : (bt s j == 58) = false := by rw [hc]; rfl
          have k126 : (bt s j == 126) = false := by rw [hc]; rfl
          have k62 : (bt s j == 62) = true := by rw [hc]; rfl
          have k60 : (bt s j == 60) = false := by rw [hc]; rfl
          have hN := hd (show R = signS s { Nd.zero with depth := depth, desc := de } 62 j from HD.out.trans (by unfold itemN chAt; rw [if_pos hlt, hc]; rfl))
          cases q61 : isB s (j + 1) 61 with
          | false =>
            have HO : Hid (IOut R pl ⟨depth, 5, de, ⟨#[]⟩, ⟨#[]⟩, [], ⟨#[]⟩, ⟨#[]⟩, false⟩ (j + 1) 120 (j + 1)) := hd (.inr ⟨j + 1, hN.out.trans (by unfold signS; rw [if_pos q61]), rfl, rfl⟩)
            go_wp2_with (fail)
            go_quiet (fail)
            go_wp2_with (fail)
            go_quiet (fail)
            go_wp2_with (fail)
            refine at_world (fun W => Hid (RB W g s (j + 1) v (0) (pl)) ∧ Hid (Blk W w.heap.size #[.int .i64 depth, .int .i64 0, .string de, .string ⟨#[]⟩, .string ⟨#[]⟩, .slice none 0 0, .string ⟨#[]⟩, .string ⟨#[]⟩, .bool false] 49) ∧ Hid (Kp (One g) w W)) ⟨hd ((HR13.out.drewN _).set1 _), hd (Blk.cast ((HB13.out.drewN _).far (p := ⟨g, 1, none⟩) hgn _) (by kernel_rfl)), hd ((HK13.out.drewN _).setOne 1 _)⟩ ?_
            clear r0 r1 r2 r3 z1 z2 b0 b1 b2 b3 b4 b5 b6 b7 b8 f0 f1 f2 f3 f4 f5 f6 f7 f8
            rintro w28 ⟨HR28, HB28, HK28⟩
            refine (must_new g s (j + 1) v pl 61 _ HR28.out (by omega) q61).mono ?_
            rintro e w29 ⟨rfl, hr29, hk29⟩
            have HR29 : Hid (RB w29 g s (j + 1) v (120) (j + 1)) := hd hr29
            have HB29 := hd (HB28.out.kp hk29 hng')
            have HK29 := hd (HK28.out.trans hk29)
            have r0 := HR29.out.c0
            have r1 := HR29.out.c1
            have r2 := HR29.out.c2
            have r3 := HR29.out.c3
            have z1 := HR29.out.fz 1
            have z2 := HR29.out.fz 2
            have b0 : w29.cell? ⟨w.heap.size, 0, none⟩ = some (.int .i64 depth) := HB29.out.c 0 rfl
            have b1 : w29.cell? ⟨w.heap.size, 1, none⟩ = some (.int .i64 0) := HB29.out.c 1 rfl
            have b2 : w29.cell? ⟨w.heap.size, 2, none⟩ = some (.string de) := HB29.out.c 2 rfl
            have b3 : w29.cell? ⟨w.heap.size, 3, none⟩ = some (.string ⟨#[]⟩) := HB29.out.c 3 rfl
            have b4 : w29.cell? ⟨w.heap.size, 4, none⟩ = some (.string ⟨#[]⟩) := HB29.out.c 4 rfl
            have b5 : w29.cell? ⟨w.heap.size, 5, none⟩ = some (.slice none 0 0) := HB29.out.c 5 rfl
            have b6 : w29.cell? ⟨w.heap.size, 6, none⟩ = some (.string ⟨#[]⟩) := HB29.out.c 6 rfl
            have b7 : w29.cell? ⟨w.heap.size, 7, none⟩ = some (.string ⟨#[]⟩) := HB29.out.c 7 rfl
            have b8 : w29.cell? ⟨w.heap.size, 8, none⟩ = some (.bool false) := HB29.out.c 8 rfl
            have f0 := HB29.out.f 0
            have f1 := HB29.out.f 1
            have f2 := HB29.out.f 2
            have f3 := HB29.out.f 3
            have f4 := HB29.out.f 4
            have f5 := HB29.out.f 5
            have f6 := HB29.out.f 6
            have f7 := HB29.out.f 7
            have f8 := HB29.out.f 8
            go_wp2_with (fail)
            obtain ⟨w30, hw30⟩ : ∃ x, ((w29).setCell ⟨w.heap.size, 1, none⟩ (.int .i64 8)).setCell ⟨w.heap.size, 1, none⟩ (.int .i64 5) = x := ⟨_, rfl⟩
            have HR30 : Hid (RB w30 g s (j + 1) v (120) (j + 1)) := hd (by rw [← hw30]; exact ((HR29.out.far (p := ⟨w.heap.size, 1, none⟩) hng _).far (p := ⟨w.heap.size, 1, none⟩) hng _))
            have HB30 : Hid (Blk w30 w.heap.size #[.int .i64 depth, .int .i64 5, .string de, .string ⟨#[]⟩, .string ⟨#[]⟩, .slice none 0 0, .string ⟨#[]⟩, .string ⟨#[]⟩, .bool false] 49) := hd (by rw [← hw30]; exact Blk.cast ((HB29.out.set 1 _).set 1 _) (by kernel_rfl))
            have HK30 : Hid (Kp (One g) w w30) := hd (by rw [← hw30]; exact ((HK29.out.setCell (p := ⟨w.heap.size, 1, none⟩) (fun q => absurd q (Nat.lt_irrefl _)) _).setCell (p := ⟨w.heap.size, 1, none⟩) (fun q => absurd q (Nat.lt_irrefl _)) _))
            have HA30 : Hid (AnyR w30 base (fun k => base ≤ k) (.slice none 0 0) (⟨depth, 5, de, ⟨#[]⟩, ⟨#[]⟩, [], ⟨#[]⟩, ⟨#[]⟩, false⟩ : Nd).any) := hd (by rw [← hw30]; exact AnyR.nil _ _ _)
            rw [hw30]
            clear hw30
            clear r0 r1 r2 r3 z1 z2 b0 b1 b2 b3 b4 b5 b6 b7 b8 f0 f1 f2 f3 f4 f5 f6 f7 f8
            have r0 := HR30.out.c0
            have r1 := HR30.out.c1
            have r2 := HR30.out.c2
            have r3 := HR30.out.c3
            have z1 := HR30.out.fz 1
            have z2 := HR30.out.fz 2
            have b0 : w30.cell? ⟨w.heap.size, 0, none⟩ = some (.int .i64 depth) := HB30.out.c 0 rfl
            have b1 : w30.cell? ⟨w.heap.size, 1, none⟩ = some (.int .i64 5) := HB30.out.c 1 rfl
            have b2 : w30.cell? ⟨w.heap.size, 2, none⟩ = some (.string de) := HB30.out.c 2 rfl
            have b3 : w30.cell? ⟨w.heap.size, 3, none⟩ = some (.string ⟨#[]⟩) := HB30.out.c 3 rfl
            have b4 : w30.cell? ⟨w.heap.size, 4, none⟩ = some (.string ⟨#[]⟩) := HB30.out.c 4 rfl
            have b5 : w30.cell? ⟨w.heap.size, 5, none⟩ = some (.slice none 0 0) := HB30.out.c 5 rfl
            have b6 : w30.cell? ⟨w.heap.size, 6, none⟩ = some (.string ⟨#[]⟩) := HB30.out.c 6 rfl
            have b7 : w30.cell? ⟨w.heap.size, 7, none⟩ = some (.string ⟨#[]⟩) := HB30.out.c 7 rfl
            have b8 : w30.cell? ⟨w.heap.size, 8, none⟩ = some (.bool false) := HB30.out.c 8 rfl
            have f0 := HB30.out.f 0
            have f1 := HB30.out.f 1
            have f2 := HB30.out.f 2
            have f3 := HB30.out.f 3
            have f4 := HB30.out.f 4
            have f5 := HB30.out.f 5
            have f6 := HB30.out.f 6
            have f7 := HB30.out.f 7
            have f8 := HB30.out.f 8
            have r2a : (w30.alloc (.cells #[.int .i64 depth, .int .i64 5, .string de, .string ⟨#[]⟩, .string ⟨#[]⟩, .slice none 0 0, .string ⟨#[]⟩, .string ⟨#[]⟩, .bool false] 49)).cell? ⟨g, 2, none⟩ = some v := (HR30.out.alloc _).c2
            have hn30 : NS w30.drew base v ns := (HN.out.one HK30.out.drew hgb)
            have hb30 : base ≤ w30.heap.size := Nat.le_trans hbase HK30.out.size
            go_region_law (refine step_app_node w30.drew base rfl (.tmp 132) (.tmp 134) rfl v ns (⟨depth, 5, de, ⟨#[]⟩, ⟨#[]⟩, [], ⟨#[]⟩, ⟨#[]⟩, false⟩ : Nd) ((.slice none 0 0)) rfl rfl hn30 HA30.out hb30 hlen rfl ?_; rintro A3 c3 w3 ⟨hs3, hg3⟩; have HR3 : Hid (RB w3 g s (j + 1) v (120) (j + 1)) := hd (blk_grown HR30.out.drew hg3 (fun e => absurd (hn30.own g e.symm) (by omega))); have HS3 := hd hs3; have HG3 := hd hg3; clear hs3 hg3; have z3 := HR3.out.fz 2; have y3 := HR3.out.c2)
            all_goals
              go_wp2
              go_end0
              exact (ItEnd.app_ hgb HN.out HR30.out.drew HK30.out.drew HS3.out HG3.out (by omega) (by omega) (HO.out))
          | true =>
            have hlt2 := (isB_true q61).1
            have hN2 := hd (show R = withVal ⟨depth, 5, de, ⟨#[]⟩, ⟨#[]⟩, [], ⟨#[]⟩, ⟨#[]⟩, false⟩ (vals s false (s.size + 1) (j + 2) false [] []) from hN.out.trans (by unfold signS; rw [if_neg (by rw [q61]; simp)]; rfl))
            go_wp2_with (fail)
            go_quiet (fail)
            go_wp2_with (fail)
            go_quiet (fail)
            go_wp2_with (fail)
            refine at_world (fun W => Hid (RB W g s (j + 1) v (0) (pl)) ∧ Hid (Blk W w.heap.size #[.int .i64 depth, .int .i64 0, .string de, .string ⟨#[]⟩, .string ⟨#[]⟩, .slice none 0 0, .string ⟨#[]⟩, .string ⟨#[]⟩, .bool false] 49) ∧ Hid (Kp (One g) w W)) ⟨hd ((HR13.out.drewN _).set1 _), hd (Blk.cast ((HB13.out.drewN _).far (p := ⟨g, 1, none⟩) hgn _) (by kernel_rfl)), hd ((HK13.out.drewN _).setOne 1 _)⟩ ?_
            clear r0 r1 r2 r3 z1 z2 b0 b1 b2 b3 b4 b5 b6 b7 b8 f0 f1 f2 f3 f4 f5 f6 f7 f8
            rintro w31 ⟨HR31, HB31, HK31⟩
            refine (must_yes g s (j + 1) v 0 pl 61 _ HR31.out (by omega) hl q61).mono ?_
            rintro e w32 ⟨rfl, hr32, hk32⟩
            have HR32 : Hid (RB w32 g s (j + 2) v (0) (pl)) := hd (show RB w32 g s (j + 2) v 0 pl by rw [show j + 2 = j + 1 + 1 from by omega]; exact hr32)
            have HB32 := hd (HB31.out.kp hk32 hng')
            have HK32 := hd (HK31.out.trans hk32)
            have r0 := HR32.out.c0
            have r1 := HR32.out.c1
            have r2 := HR32.out.c2
            have r3 := HR32.out.c3
            have z1 := HR32.out.fz 1
            have z2 := HR32.out.fz 2
            have b0 : w32.cell? ⟨w.heap.size, 0, none⟩ = some (.int .i64 depth) := HB32.out.c 0 rfl
            have b1 : w32.cell? ⟨w.heap.size, 1, none⟩ = some (.int .i64 0) := HB32.out.c 1 rfl
            have b2 : w32.cell? ⟨w.heap.size, 2, none⟩ = some (.string de) := HB32.out.c 2 rfl
            have b3 : w32.cell? ⟨w.heap.size, 3, none⟩ = some (.string ⟨#[]⟩) := HB32.out.c 3 rfl
            have b4 : w32.cell? ⟨w.heap.size, 4, none⟩ = some (.string ⟨#[]⟩) := HB32.out.c 4 rfl
            have b5 : w32.cell? ⟨w.heap.size, 5, none⟩ = some (.slice none 0 0) := HB32.out.c 5 rfl
            have b6 : w32.cell? ⟨w.heap.size, 6, none⟩ = some (.string ⟨#[]⟩) := HB32.out.c 6 rfl
            have b7 : w32.cell? ⟨w.heap.size, 7, none⟩ = some (.string ⟨#[]⟩) := HB32.out.c 7 rfl
            have b8 : w32.cell? ⟨w.heap.size, 8, none⟩ = some (.bool false) := HB32.out.c 8 rfl
            have f0 := HB32.out.f 0
            have f1 := HB32.out.f 1
            have f2 := HB32.out.f 2
            have f3 := HB32.out.f 3
            have f4 := HB32.out.f 4
            have f5 := HB32.out.f 5
            have f6 := HB32.out.f 6
            have f7 := HB32.out.f 7
            have f8 := HB32.out.f 8
            go_wp2_with (fail)
            refine at_world (fun W => Hid (RB W g s (j + 2) v (0) (pl)) ∧ Hid (Blk W w.heap.size #[.int .i64 depth, .int .i64 5, .string de, .string ⟨#[]⟩, .string ⟨#[]⟩, .slice none 0 0, .string ⟨#[]⟩, .string ⟨#[]⟩, .bool false] 49) ∧ Hid (Kp (One g) w W)) ⟨hd ((HR32.out.far (p := ⟨w.heap.size, 1, none⟩) hng _).far (p := ⟨w.heap.size, 1, none⟩) hng _), hd (Blk.cast ((HB32.out.set 1 _).set 1 _) (by kernel_rfl)), hd ((HK32.out.setCell (p := ⟨w.heap.size, 1, none⟩) (fun q => absurd q (Nat.lt_irrefl _)) _).setCell (p := ⟨w.heap.size, 1, none⟩) (fun q => absurd q (Nat.lt_irrefl _)) _)⟩ ?_
            clear r0 r1 r2 r3 z1 z2 b0 b1 b2 b3 b4 b5 b6 b7 b8 f0 f1 f2 f3 f4 f5 f6 f7 f8
            rintro w33 ⟨HR33, HB33, HK33⟩
            refine (ronly_any g s (j + 2) v pl _ HR33.out (HT.out.kp HK33.out (fun q => hg q)) hg (by omega) (by omega) hl).mono ?_
            rintro e w34 hq
            obtain ⟨y, jn, ern, pln, rfl, hr, hk, hjn, hin, ho⟩ := OEnd.out ⟨depth, 5, de, ⟨#[]⟩, ⟨#[]⟩, [], ⟨#[]⟩, ⟨#[]⟩, false⟩ hq
            clear hq
            have HR34 := hd hr
            have HB34 := hd (HB33.out.kp hk hng')
            have HK34 := hd (HK33.out.trans hk)
            have HO : Hid (IOut R pl ⟨depth, 5, de, y, ⟨#[]⟩, [], ⟨#[]⟩, ⟨#[]⟩, false⟩ jn ern pln) := hd (by rw [hN2.out]; exact ho)
            clear hr hk ho
            have r0 := HR34.out.c0
            have r1 := HR34.out.c1
            have r2 := HR34.out.c2
            have r3 := HR34.out.c3
            have z1 := HR34.out.fz 1
            have z2 := HR34.out.fz 2
            have b0 : w34.cell? ⟨w.heap.size, 0, none⟩ = some (.int .i64 depth) := HB34.out.c 0 rfl
            have b1 : w34.cell? ⟨w.heap.size, 1, none⟩ = some (.int .i64 5) := HB34.out.c 1 rfl
            have b2 : w34.cell? ⟨w.heap.size, 2, none⟩ = some (.string de) := HB34.out.c 2 rfl
            have b3 : w34.cell? ⟨w.heap.size, 3, none⟩ = some (.string ⟨#[]⟩) := HB34.out.c 3 rfl
            have b4 : w34.cell? ⟨w.heap.size, 4, none⟩ = some (.string ⟨#[]⟩) := HB34.out.c 4 rfl
            have b5 : w34.cell? ⟨w.heap.size, 5, none⟩ = some (.slice none 0 0) := HB34.out.c 5 rfl
            have b6 : w34.cell? ⟨w.heap.size, 6, none⟩ = some (.string ⟨#[]⟩) := HB34.out.c 6 rfl
            have b7 : w34.cell? ⟨w.heap.size, 7, none⟩ = some (.string ⟨#[]⟩) := HB34.out.c 7 rfl
            have b8 : w34.cell? ⟨w.heap.size, 8, none⟩ = some (.bool false) := HB34.out.c 8 rfl
            have f0 := HB34.out.f 0
            have f1 := HB34.out.f 1
            have f2 := HB34.out.f 2
            have f3 := HB34.out.f 3
            have f4 := HB34.out.f 4
            have f5 := HB34.out.f 5
            have f6 := HB34.out.f 6
            have f7 := HB34.out.f 7
            have f8 := HB34.out.f 8
            go_wp2_with (fail)
            obtain ⟨w35, hw35⟩ : ∃ x, (w34).setCell ⟨w.heap.size, 3, none⟩ (.string y) = x := ⟨_, rfl⟩
            have HR35 : Hid (RB w35 g s (jn) v (ern) (pln)) := hd (by rw [← hw35]; exact (HR34.out.far (p := ⟨w.heap.size, 3, none⟩) hng _))
            have HB35 : Hid (Blk w35 w.heap.size #[.int .i64 depth, .int .i64 5, .string de, .string y, .string ⟨#[]⟩, .slice none 0 0, .string ⟨#[]⟩, .string ⟨#[]⟩, .bool false] 49) := hd (by rw [← hw35]; exact Blk.cast (HB34.out.set 3 _) (by kernel_rfl))
            have HK35 : Hid (Kp (One g) w w35) := hd (by rw [← hw35]; exact (HK34.out.setCell (p := ⟨w.heap.size, 3, none⟩) (fun q => absurd q (Nat.lt_irrefl _)) _))
            have HA35 : Hid (AnyR w35 base (fun k => base ≤ k) (.slice none 0 0) (⟨depth, 5, de, y, ⟨#[]⟩, [], ⟨#[]⟩, ⟨#[]⟩, false⟩ : Nd).any) := hd (by rw [← hw35]; exact AnyR.nil _ _ _)
            rw [hw35]
            clear hw35
            clear r0 r1 r2 r3 z1 z2 b0 b1 b2 b3 b4 b5 b6 b7 b8 f0 f1 f2 f3 f4 f5 f6 f7 f8
            have r0 := HR35.out.c0
            have r1 := HR35.out.c1
            have r2 := HR35.out.c2
            have r3 := HR35.out.c3
            have z1 := HR35.out.fz 1
            have z2 := HR35.out.fz 2
            have b0 : w35.cell? ⟨w.heap.size, 0, none⟩ = some (.int .i64 depth) := HB35.out.c 0 rfl
            have b1 : w35.cell? ⟨w.heap.size, 1, none⟩ = some (.int .i64 5) := HB35.out.c 1 rfl
            have b2 : w35.cell? ⟨w.heap.size, 2, none⟩ = some (.string de) := HB35.out.c 2 rfl
            have b3 : w35.cell? ⟨w.heap.size, 3, none⟩ = some (.string y) := HB35.out.c 3 rfl
            have b4 : w35.cell? ⟨w.heap.size, 4, none⟩ = some (.string ⟨#[]⟩) := HB35.out.c 4 rfl
            have b5 : w35.cell? ⟨w.heap.size, 5, none⟩ = some (.slice none 0 0) := HB35.out.c 5 rfl
            have b6 : w35.cell? ⟨w.heap.size, 6, none⟩ = some (.string ⟨#[]⟩) := HB35.out.c 6 rfl
            have b7 : w35.cell? ⟨w.heap.size, 7, none⟩ = some (.string ⟨#[]⟩) := HB35.out.c 7 rfl
            have b8 : w35.cell? ⟨w.heap.size, 8, none⟩ = some (.bool false) := HB35.out.c 8 rfl
            have f0 := HB35.out.f 0
            have f1 := HB35.out.f 1
            have f2 := HB35.out.f 2
            have f3 := HB35.out.f 3
            have f4 := HB35.out.f 4
            have f5 := HB35.out.f 5
            have f6 := HB35.out.f 6
            have f7 := HB35.out.f 7
            have f8 := HB35.out.f 8
            have r2a : (w35.alloc (.cells #[.int .i64 depth, .int .i64 5, .string de, .string y, .string ⟨#[]⟩, .slice none 0 0, .string ⟨#[]⟩, .string ⟨#[]⟩, .bool false] 49)).cell? ⟨g, 2, none⟩ = some v := (HR35.out.alloc _).c2
            have hn35 : NS w35.drew base v ns := (HN.out.one HK35.out.drew hgb)
            have hb35 : base ≤ w35.heap.size := Nat.le_trans hbase HK35.out.size
            go_region_law (refine step_app_node w35.drew base rfl (.tmp 132) (.tmp 134) rfl v ns (⟨depth, 5, de, y, ⟨#[]⟩, [], ⟨#[]⟩, ⟨#[]⟩, false⟩ : Nd) ((.slice none 0 0)) rfl rfl hn35 HA35.out hb35 hlen rfl ?_; rintro A3 c3 w3 ⟨hs3, hg3⟩; have HR3 : Hid (RB w3 g s (jn) v (ern) (pln)) := hd (blk_grown HR35.out.drew hg3 (fun e => absurd (hn35.own g e.symm) (by omega))); have HS3 := hd hs3; have HG3 := hd hg3; clear hs3 hg3; have z3 := HR3.out.fz 2; have y3 := HR3.out.c2)
            all_goals
              go_wp2
              go_end0
              exact (ItEnd.app_ hgb HN.out HR35.out.drew HK35.out.drew HS3.out HG3.out (by omega) (by omega) (HO.out))
        · skip
          have k61 : (bt s j == 61) = false := by rw [hc]; rfl
          have k58 : (bt s j == 58) = false := by rw [hc]; rfl
          have k126 : (bt s j == 126) = false := by rw [hc]; rfl
          have k62 : (bt s j == 62) = false := by rw [hc]; rfl
          have k60 : (bt s j == 60) = true := by rw [hc]; rfl
          have hN := hd (show R = signS s { Nd.zero with depth := depth, desc := de } 60 j from HD.out.trans (by unfold itemN chAt; rw [if_pos hlt, hc]; rfl))
          cases q61 : isB s (j + 1) 61 with
          | false =>
            have HO : Hid (IOut R pl ⟨depth, 6, de, ⟨#[]⟩, ⟨#[]⟩, [], ⟨#[]⟩, ⟨#[]⟩, false⟩ (j + 1) 120 (j + 1)) := hd (.inr ⟨j + 1, hN.out.trans (by unfold signS; rw [if_pos q61]), rfl, rfl⟩)
            go_wp2_with (fail)
            go_quiet (fail)
            go_wp2_with (fail)
            go_quiet (fail)
            go_wp2_with (fail)
            refine at_world (fun W => Hid (RB W g s (j + 1) v (0) (pl)) ∧ Hid (Blk W w.heap.size #[.int .i64 depth, .int .i64 0, .string de, .string ⟨#[]⟩, .string ⟨#[]⟩, .slice none 0 0, .string ⟨#[]⟩, .string ⟨#[]⟩, .bool false] 49) ∧ Hid (Kp (One g) w W)) ⟨hd ((HR13.out.drewN _).set1 _), hd (Blk.cast ((HB13.out.drewN _).far (p := ⟨g, 1, none⟩) hgn _) (by kernel_rfl)), hd ((HK13.out.drewN _).setOne 1 _)⟩ ?_
            clear r0 r1 r2 r3 z1 z2 b0 b1 b2 b3 b4 b5 b6 b7 b8 f0 f1 f2 f3 f4 f5 f6 f7 f8
            rintro w36 ⟨HR36, HB36, HK36⟩
            refine (must_new g s (j + 1) v pl 61 _ HR36.out (by omega) q61).mono ?_
            rintro e w37 ⟨rfl, hr37, hk37⟩
            have HR37 : Hid (RB w37 g s (j + 1) v (120) (j + 1)) := hd hr37
            have HB37 := hd (HB36.out.kp hk37 hng')
            have HK37 := hd (HK36.out.trans hk37)
            have r0 := HR37.out.c0
            have r1 := HR37.out.c1
            have r2 := HR37.out.c2
            have r3 := HR37.out.c3
            have z1 := HR37.out.fz 1
            have z2 := HR37.out.fz 2
            have b0 : w37.cell? ⟨w.heap.size, 0, none⟩ = some (.int .i64 depth) := HB37.out.c 0 rfl
            have b1 : w37.cell? ⟨w.heap.size, 1, none⟩ = some (.int .i64 0) := HB37.out.c 1 rfl
            have b2 : w37.cell? ⟨w.heap.size, 2, none⟩ = some (.string de) := HB37.out.c 2 rfl
            have b3 : w37.cell? ⟨w.heap.size, 3, none⟩ = some (.string ⟨#[]⟩) := HB37.out.c 3 rfl
            have b4 : w37.cell? ⟨w.heap.size, 4, none⟩ = some (.string ⟨#[]⟩) := HB37.out.c 4 rfl
            have b5 : w37.cell? ⟨w.heap.size, 5, none⟩ = some (.slice none 0 0) := HB37.out.c 5 rfl
            have b6 : w37.cell? ⟨w.heap.size, 6, none⟩ = some (.string ⟨#[]⟩) := HB37.out.c 6 rfl
            have b7 : w37.cell? ⟨w.heap.size, 7, none⟩ = some (.string ⟨#[]⟩) := HB37.out.c 7 rfl
            have b8 : w37.cell? ⟨w.heap.size, 8, none⟩ = some (.bool false) := HB37.out.c 8 rfl
            have f0 := HB37.out.f 0
            have f1 := HB37.out.f 1
            have f2 := HB37.out.f 2
            have f3 := HB37.out.f 3
            have f4 := HB37.out.f 4
            have f5 := HB37.out.f 5
            have f6 := HB37.out.f 6
            have f7 := HB37.out.f 7
            have f8 := HB37.out.f 8
            go_wp2_with (fail)
            obtain ⟨w38, hw38⟩ : ∃ x, ((w37).setCell ⟨w.heap.size, 1, none⟩ (.int .i64 8)).setCell ⟨w.heap.size, 1, none⟩ (.int .i64 6) = x := ⟨_, rfl⟩
            have HR38 : Hid (RB w38 g s (j + 1) v (120) (j + 1)) := hd (by rw [← hw38]; exact ((HR37.out.far (p := ⟨w.heap.size, 1, none⟩) hng _).far (p := ⟨w.heap.size, 1, none⟩) hng _))
            have HB38 : Hid (Blk w38 w.heap.size #[.int .i64 depth, .int .i64 6, .string de, .string ⟨#[]⟩, .string ⟨#[]⟩, .slice none 0 0, .string ⟨#[]⟩, .string ⟨#[]⟩, .bool false] 49) := hd (by rw [← hw38]; exact Blk.cast ((HB37.out.set 1 _).set 1 _) (by kernel_rfl))
            have HK38 : Hid (Kp (One g) w w38) := hd (by rw [← hw38]; exact ((HK37.out.setCell (p := ⟨w.heap.size, 1, none⟩) (fun q => absurd q (Nat.lt_irrefl _)) _).setCell (p := ⟨w.heap.size, 1, none⟩) (fun q => absurd q (Nat.lt_irrefl _)) _))
            have HA38 : Hid (AnyR w38 base (fun k => base ≤ k) (.slice none 0 0) (⟨depth, 6, de, ⟨#[]⟩, ⟨#[]⟩, [], ⟨#[]⟩, ⟨#[]⟩, false⟩ : Nd).any) := hd (by rw [← hw38]; exact AnyR.nil _ _ _)
            rw [hw38]
            clear hw38
            clear r0 r1 r2 r3 z1 z2 b0 b1 b2 b3 b4 b5 b6 b7 b8 f0 f1 f2 f3 f4 f5 f6 f7 f8
            have r0 := HR38.out.c0
            have r1 := HR38.out.c1
            have r2 := HR38.out.c2
            have r3 := HR38.out.c3
            have z1 := HR38.out.fz 1
            have z2 := HR38.out.fz 2
            have b0 : w38.cell? ⟨w.heap.size, 0, none⟩ = some (.int .i64 depth) := HB38.out.c 0 rfl
            have b1 : w38.cell? ⟨w.heap.size, 1, none⟩ = some (.int .i64 6) := HB38.out.c 1 rfl
            have b2 : w38.cell? ⟨w.heap.size, 2, none⟩ = some (.string de) := HB38.out.c 2 rfl
            have b3 : w38.cell? ⟨w.heap.size, 3, none⟩ = some (.string ⟨#[]⟩) := HB38.out.c 3 rfl
            have b4 : w38.cell? ⟨w.heap.size, 4, none⟩ = some (.string ⟨#[]⟩) := HB38.out.c 4 rfl
            have b5 : w38.cell? ⟨w.heap.size, 5, none⟩ = some (.slice none 0 0) := HB38.out.c 5 rfl
            have b6 : w38.cell? ⟨w.heap.size, 6, none⟩ = some (.string ⟨#[]⟩) := HB38.out.c 6 rfl
            have b7 : w38.cell? ⟨w.heap.size, 7, none⟩ = some (.string ⟨#[]⟩) := HB38.out.c 7 rfl
            have b8 : w38.cell? ⟨w.heap.size, 8, none⟩ = some (.bool false) := HB38.out.c 8 rfl
            have f0 := HB38.out.f 0
            have f1 := HB38.out.f 1
            have f2 := HB38.out.f 2
            have f3 := HB38.out.f 3
            have f4 := HB38.out.f 4
            have f5 := HB38.out.f 5
            have f6 := HB38.out.f 6
            have f7 := HB38.out.f 7
            have f8 := HB38.out.f 8
            have r2a : (w38.alloc (.cells #[.int .i64 depth, .int .i64 6, .string de, .string ⟨#[]⟩, .string ⟨#[]⟩, .slice none 0 0, .string ⟨#[]⟩, .string ⟨#[]⟩, .bool false] 49)).cell? ⟨g, 2, none⟩ = some v := (HR38.out.alloc _).c2
            have hn38 : NS w38.drew base v ns := (HN.out.one HK38.out.drew hgb)
            have hb38 : base ≤ w38.heap.size := Nat.le_trans hbase HK38.out.size
            go_region_law (refine step_app_node w38.drew base rfl (.tmp 132) (.tmp 134) rfl v ns (⟨depth, 6, de, ⟨#[]⟩, ⟨#[]⟩, [], ⟨#[]⟩, ⟨#[]⟩, false⟩ : Nd) ((.slice none 0 0)) rfl rfl hn38 HA38.out hb38 hlen rfl ?_; rintro A3 c3 w3 ⟨hs3, hg3⟩; have HR3 : Hid (RB w3 g s (j + 1) v (120) (j + 1)) := hd (blk_grown HR38.out.drew hg3 (fun e => absurd (hn38.own g e.symm) (by omega))); have HS3 := hd hs3; have HG3 := hd hg3; clear hs3 hg3; have z3 := HR3.out.fz 2; have y3 := HR3.out.c2)
            all_goals
              go_wp2
              go_end0
              exact (ItEnd.app_ hgb HN.out HR38.out.drew HK38.out.drew HS3.out HG3.out (by omega) (by omega) (HO.out))
          | true =>
            have hlt2 := (isB_true q61).1
            have hN2 := hd (show R = withVal ⟨depth, 6, de, ⟨#[]⟩, ⟨#[]⟩, [], ⟨#[]⟩, ⟨#[]⟩, false⟩ (vals s false (s.size + 1) (j + 2) false [] []) from hN.out.trans (by unfold signS; rw [if_neg (by rw [q61]; simp)]; rfl))
            go_wp2_with (fail)
            go_quiet (fail)
            go_wp2_with (fail)
            go_quiet (fail)
            go_wp2_with (fail)
            refine at_world (fun W => Hid (RB W g s (j + 1) v (0) (pl)) ∧ Hid (Blk W w.heap.size #[.int .i64 depth, .int .i64 0, .string de, .string ⟨#[]⟩, .string ⟨#[]⟩, .slice none 0 0, .string ⟨#[]⟩, .string ⟨#[]⟩, .bool false] 49) ∧ Hid (Kp (One g) w W)) ⟨hd ((HR13.out.drewN _).set1 _), hd (Blk.cast ((HB13.out.drewN _).far (p := ⟨g, 1, none⟩) hgn _) (by kernel_rfl)), hd ((HK13.out.drewN _).setOne 1 _)⟩ ?_
            clear r0 r1 r2 r3 z1 z2 b0 b1 b2 b3 b4 b5 b6 b7 b8 f0 f1 f2 f3 f4 f5 f6 f7 f8
            rintro w39 ⟨HR39, HB39, HK39⟩
            refine (must_yes g s (j + 1) v 0 pl 61 _ HR39.out (by omega) hl q61).mono ?_
            rintro e w40 ⟨rfl, hr40, hk40⟩
            have HR40 : Hid (RB w40 g s (j + 2) v (0) (pl)) := hd (show RB w40 g s (j + 2) v 0 pl by rw [show j + 2 = j + 1 + 1 from by omega]; exact hr40)
            have HB40 := hd (HB39.out.kp hk40 hng')
            have HK40 := hd (HK39.out.trans hk40)
            have r0 := HR40.out.c0
            have r1 := HR40.out.c1
            have r2 := HR40.out.c2
            have r3 := HR40.out.c3
            have z1 := HR40.out.fz 1
            have z2 := HR40.out.fz 2
            have b0 : w40.cell? ⟨w.heap.size, 0, none⟩ = some (.int .i64 depth) := HB40.out.c 0 rfl
            have b1 : w40.cell? ⟨w.heap.size, 1, none⟩ = some (.int .i64 0) := HB40.out.c 1 rfl
            have b2 : w40.cell? ⟨w.heap.size, 2, none⟩ = some (.string de) := HB40.out.c 2 rfl
            have b3 : w40.cell? ⟨w.heap.size, 3, none⟩ = some (.string ⟨#[]⟩) := HB40.out.c 3 rfl
            have b4 : w40.cell? ⟨w.heap.size, 4, none⟩ = some (.string ⟨#[]⟩) := HB40.out.c 4 rfl
            have b5 : w40.cell? ⟨w.heap.size, 5, none⟩ = some (.slice none 0 0) := HB40.out.c 5 rfl
            have b6 : w40.cell? ⟨w.heap.size, 6, none⟩ = some (.string ⟨#[]⟩) := HB40.out.c 6 rfl
            have b7 : w40.cell? ⟨w.heap.size, 7, none⟩ = some (.string ⟨#[]⟩) := HB40.out.c 7 rfl
            have b8 : w40.cell? ⟨w.heap.size, 8, none⟩ = some (.bool false) := HB40.out.c 8 rfl
            have f0 := HB40.out.f 0
            have f1 := HB40.out.f 1
            have f2 := HB40.out.f 2
            have f3 := HB40.out.f 3
            have f4 := HB40.out.f 4
            have f5 := HB40.out.f 5
            have f6 := HB40.out.f 6
            have f7 := HB40.out.f 7
            have f8 := HB40.out.f 8
            go_wp2_with (fail)
            refine at_world (fun W => Hid (RB W g s (j + 2) v (0) (pl)) ∧ Hid (Blk W w.heap.size #[.int .i64 depth, .int .i64 6, .string de, .string ⟨#[]⟩, .string ⟨#[]⟩, .slice none 0 0, .string ⟨#[]⟩, .string ⟨#[]⟩, .bool false] 49) ∧ Hid (Kp (One g) w W)) ⟨hd ((HR40.out.far (p := ⟨w.heap.size, 1, none⟩) hng _).far (p := ⟨w.heap.size, 1, none⟩) hng _), hd (Blk.cast ((HB40.out.set 1 _).set 1 _) (by kernel_rfl)), hd ((HK40.out.setCell (p := ⟨w.heap.size, 1, none⟩) (fun q => absurd q (Nat.lt_irrefl _)) _).setCell (p := ⟨w.heap.size, 1, none⟩) (fun q => absurd q (Nat.lt_irrefl _)) _)⟩ ?_
            clear r0 r1 r2 r3 z1 z2 b0 b1 b2 b3 b4 b5 b6 b7 b8 f0 f1 f2 f3 f4 f5 f6 f7 f8
            rintro w41 ⟨HR41, HB41, HK41⟩
            refine (ronly_any g s (j + 2) v pl _ HR41.out (HT.out.kp HK41.out (fun q => hg q)) hg (by omega) (by omega) hl).mono ?_
            rintro e w42 hq
            obtain ⟨y, jn, ern, pln, rfl, hr, hk, hjn, hin, ho⟩ := OEnd.out ⟨depth, 6, de, ⟨#[]⟩, ⟨#[]⟩, [], ⟨#[]⟩, ⟨#[]⟩, false⟩ hq
            clear hq
            have HR42 := hd hr
            have HB42 := hd (HB41.out.kp hk hng')
            have HK42 := hd (HK41.out.trans hk)
            have HO : Hid (IOut R pl ⟨depth, 6, de, y, ⟨#[]⟩, [], ⟨#[]⟩, ⟨#[]⟩, false⟩ jn ern pln) := hd (by rw [hN2.out]; exact ho)
            clear hr hk ho
            have r0 := HR42.out.c0
            have r1 := HR42.out.c1
            have r2 := HR42.out.c2
            have r3 := HR42.out.c3
            have z1 := HR42.out.fz 1
            have z2 := HR42.out.fz 2
            have b0 : w42.cell? ⟨w.heap.size, 0, none⟩ = some (.int .i64 depth) := HB42.out.c 0 rfl
            have b1 : w42.cell? ⟨w.heap.size, 1, none⟩ = some (.int .i64 6) := HB42.out.c 1 rfl
            have b2 : w42.cell? ⟨w.heap.size, 2, none⟩ = some (.string de) := HB42.out.c 2 rfl
            have b3 : w42.cell? ⟨w.heap.size, 3, none⟩ = some (.string ⟨#[]⟩) := HB42.out.c 3 rfl
            have b4 : w42.cell? ⟨w.heap.size, 4, none⟩ = some (.string ⟨#[]⟩) := HB42.out.c 4 rfl
            have b5 : w42.cell? ⟨w.heap.size, 5, none⟩ = some (.slice none 0 0) := HB42.out.c 5 rfl
            have b6 : w42.cell? ⟨w.heap.size, 6, none⟩ = some (.string ⟨#[]⟩) := HB42.out.c 6 rfl
            have b7 : w42.cell? ⟨w.heap.size, 7, none⟩ = some (.string ⟨#[]⟩) := HB42.out.c 7 rfl
            have b8 : w42.cell? ⟨w.heap.size, 8, none⟩ = some (.bool false) := HB42.out.c 8 rfl
            have f0 := HB42.out.f 0
            have f1 := HB42.out.f 1
            have f2 := HB42.out.f 2
            have f3 := HB42.out.f 3
            have f4 := HB42.out.f 4
            have f5 := HB42.out.f 5
            have f6 := HB42.out.f 6
            have f7 := HB42.out.f 7
            have f8 := HB42.out.f 8
            go_wp2_with (fail)
            obtain ⟨w43, hw43⟩ : ∃ x, (w42).setCell ⟨w.heap.size, 3, none⟩ (.string y) = x := ⟨_, rfl⟩
            have HR43 : Hid (RB w43 g s (jn) v (ern) (pln)) := hd (by rw [← hw43]; exact (HR42.out.far (p := ⟨w.heap.size, 3, none⟩) hng _))
            have HB43 : Hid (Blk w43 w.heap.size #[.int .i64 depth, .int .i64 6, .string de, .string y, .string ⟨#[]⟩, .slice none 0 0, .string ⟨#[]⟩, .string ⟨#[]⟩, .bool false] 49) := hd (by rw [← hw43]; exact Blk.cast (HB42.out.set 3 _) (by kernel_rfl))
            have HK43 : Hid (Kp (One g) w w43) := hd (by rw [← hw43]; exact (HK42.out.setCell (p := ⟨w.heap.size, 3, none⟩) (fun q => absurd q (Nat.lt_irrefl _)) _))
            have HA43 : Hid (AnyR w43 base (fun k => base ≤ k) (.slice none 0 0) (⟨depth, 6, de, y, ⟨#[]⟩, [], ⟨#[]⟩, ⟨#[]⟩, false⟩ : Nd).any) := hd (by rw [← hw43]; exact AnyR.nil _ _ _)
            rw [hw43]
            clear hw43
            clear r0 r1 r2 r3 z1 z2 b0 b1 b2 b3 b4 b5 b6 b7 b8 f0 f1 f2 f3 f4 f5 f6 f7 f8
            have r0 := HR43.out.c0
            have r1 := HR43.out.c1
            have r2 := HR43.out.c2
            have r3 := HR43.out.c3
            have z1 := HR43.out.fz 1
            have z2 := HR43.out.fz 2
            have b0 : w43.cell? ⟨w.heap.size, 0, none⟩ = some (.int .i64 depth) := HB43.out.c 0 rfl
            have b1 : w43.cell? ⟨w.heap.size, 1, none⟩ = some (.int .i64 6) := HB43.out.c 1 rfl
            have b2 : w43.cell? ⟨w.heap.size, 2, none⟩ = some (.string de) := HB43.out.c 2 rfl
            have b3 : w43.cell? ⟨w.heap.size, 3, none⟩ = some (.string y) := HB43.out.c 3 rfl
            have b4 : w43.cell? ⟨w.heap.size, 4, none⟩ = some (.string ⟨#[]⟩) := HB43.out.c 4 rfl
            have b5 : w43.cell? ⟨w.heap.size, 5, none⟩ = some (.slice none 0 0) := HB43.out.c 5 rfl
            have b6 : w43.cell? ⟨w.heap.size, 6, none⟩ = some (.string ⟨#[]⟩) := HB43.out.c 6 rfl
            have b7 : w43.cell? ⟨w.heap.size, 7, none⟩ = some (.string ⟨#[]⟩) := HB43.out.c 7 rfl
            have b8 : w43.cell? ⟨w.heap.size, 8, none⟩ = some (.bool false) := HB43.out.c 8 rfl
            have f0 := HB43.out.f 0
            have f1 := HB43.out.f 1
            have f2 := HB43.out.f 2
            have f3 := HB43.out.f 3
            have f4 := HB43.out.f 4
            have f5 := HB43.out.f 5
            have f6 := HB43.out.f 6
            have f7 := HB43.out.f 7
            have f8 := HB43.out.f 8
            have r2a : (w43.alloc (.cells #[.int .i64 depth, .int .i64 6, .string de, .string y, .string ⟨#[]⟩, .slice none 0 0, .string ⟨#[]⟩, .string ⟨#[]⟩, .bool false] 49)).cell? ⟨g, 2, none⟩ = some v := (HR43.out.alloc _).c2
            have hn43 : NS w43.drew base v ns := (HN.out.one HK43.out.drew hgb)
            have hb43 : base ≤ w43.heap.size := Nat.le_trans hbase HK43.out.size
            go_region_law (refine step_app_node w43.drew base rfl (.tmp 132) (.tmp 134) rfl v ns (⟨depth, 6, de, y, ⟨#[]⟩, [], ⟨#[]⟩, ⟨#[]⟩, false⟩ : Nd) ((.slice none 0 0)) rfl rfl hn43 HA43.out hb43 hlen rfl ?_; rintro A3 c3 w3 ⟨hs3, hg3⟩; have HR3 : Hid (RB w3 g s (jn) v (ern) (pln)) := hd (blk_grown HR43.out.drew hg3 (fun e => absurd (hn43.own g e.symm) (by omega))); have HS3 := hd hs3; have HG3 := hd hg3; clear hs3 hg3; have z3 := HR3.out.fz 2; have y3 := HR3.out.c2)
            all_goals
              go_wp2
              go_end0
              exact (ItEnd.app_ hgb HN.out HR43.out.drew HK43.out.drew HS3.out HG3.out (by omega) (by omega) (HO.out))
        · obtain ⟨g61, g58, g126, g62, g60⟩ := hc
          have k61 : (bt s j == 61) = false := beq_eq_false_iff_ne.2 g61
          have k58 : (bt s j == 58) = false := beq_eq_false_iff_ne.2 g58
          have k126 : (bt s j == 126) = false := beq_eq_false_iff_ne.2 g126
          have k62 : (bt s j == 62) = false := beq_eq_false_iff_ne.2 g62
          have k60 : (bt s j == 60) = false := beq_eq_false_iff_ne.2 g60
          have HO : Hid (IOut R pl ⟨depth, 0, de, ⟨#[]⟩, ⟨#[]⟩, [], ⟨#[]⟩, ⟨#[]⟩, false⟩ j 120 j) := hd (.inr ⟨j, HD.out.trans (by unfold itemN chAt; rw [if_pos hlt, if_neg g61, if_neg g58, if_neg (by omega)]), rfl, rfl⟩)
          go_wp2_with (fail)
          go_quiet (fail)
          go_wp2_with (fail)
          go_quiet (fail)
          go_wp2_with (fail)
          refine at_world (fun W => Hid (RB W g s (j) v (0) (pl)) ∧ Hid (Blk W w.heap.size #[.int .i64 depth, .int .i64 0, .string de, .string ⟨#[]⟩, .string ⟨#[]⟩, .slice none 0 0, .string ⟨#[]⟩, .string ⟨#[]⟩, .bool false] 49) ∧ Hid (Kp (One g) w W)) ⟨hd (HR13.out.drewN _), hd (Blk.cast (HB13.out.drewN _) (by kernel_rfl)), hd (HK13.out.drewN _)⟩ ?_
          clear r0 r1 r2 r3 z1 z2 b0 b1 b2 b3 b4 b5 b6 b7 b8 f0 f1 f2 f3 f4 f5 f6 f7 f8
          rintro w44 ⟨HR44, HB44, HK44⟩
          refine (stop_new g s j v pl 120 j _ HR44.out).mono ?_
          rintro e w45 ⟨rfl, hr45, hk45⟩
          have HR45 : Hid (RB w45 g s (j) v (120) (j)) := hd hr45
          have HB45 := hd (HB44.out.kp hk45 hng')
          have HK45 := hd (HK44.out.trans hk45)
          have r0 := HR45.out.c0
          have r1 := HR45.out.c1
          have r2 := HR45.out.c2
          have r3 := HR45.out.c3
          have z1 := HR45.out.fz 1
          have z2 := HR45.out.fz 2
          have b0 : w45.cell? ⟨w.heap.size, 0, none⟩ = some (.int .i64 depth) := HB45.out.c 0 rfl
          have b1 : w45.cell? ⟨w.heap.size, 1, none⟩ = some (.int .i64 0) := HB45.out.c 1 rfl
          have b2 : w45.cell? ⟨w.heap.size, 2, none⟩ = some (.string de) := HB45.out.c 2 rfl
          have b3 : w45.cell? ⟨w.heap.size, 3, none⟩ = some (.string ⟨#[]⟩) := HB45.out.c 3 rfl
          have b4 : w45.cell? ⟨w.heap.size, 4, none⟩ = some (.string ⟨#[]⟩) := HB45.out.c 4 rfl
          have b5 : w45.cell? ⟨w.heap.size, 5, none⟩ = some (.slice none 0 0) := HB45.out.c 5 rfl
          have b6 : w45.cell? ⟨w.heap.size, 6, none⟩ = some (.string ⟨#[]⟩) := HB45.out.c 6 rfl
          have b7 : w45.cell? ⟨w.heap.size, 7, none⟩ = some (.string ⟨#[]⟩) := HB45.out.c 7 rfl
          have b8 : w45.cell? ⟨w.heap.size, 8, none⟩ = some (.bool false) := HB45.out.c 8 rfl
          have f0 := HB45.out.f 0
          have f1 := HB45.out.f 1
          have f2 := HB45.out.f 2
          have f3 := HB45.out.f 3
          have f4 := HB45.out.f 4
          have f5 := HB45.out.f 5
          have f6 := HB45.out.f 6
          have f7 := HB45.out.f 7
          have f8 := HB45.out.f 8
          go_wp2_with (fail)
          obtain ⟨w46, hw46⟩ : ∃ x, w45 = x := ⟨_, rfl⟩
          have HR46 : Hid (RB w46 g s (j) v (120) (j)) := hd (by rw [← hw46]; exact HR45.out)
          have HB46 : Hid (Blk w46 w.heap.size #[.int .i64 depth, .int .i64 0, .string de, .string ⟨#[]⟩, .string ⟨#[]⟩, .slice none 0 0, .string ⟨#[]⟩, .string ⟨#[]⟩, .bool false] 49) := hd (by rw [← hw46]; exact Blk.cast HB45.out (by kernel_rfl))
          have HK46 : Hid (Kp (One g) w w46) := hd (by rw [← hw46]; exact HK45.out)
          have HA46 : Hid (AnyR w46 base (fun k => base ≤ k) (.slice none 0 0) (⟨depth, 0, de, ⟨#[]⟩, ⟨#[]⟩, [], ⟨#[]⟩, ⟨#[]⟩, false⟩ : Nd).any) := hd (by rw [← hw46]; exact AnyR.nil _ _ _)
          rw [hw46]
          clear hw46
          clear r0 r1 r2 r3 z1 z2 b0 b1 b2 b3 b4 b5 b6 b7 b8 f0 f1 f2 f3 f4 f5 f6 f7 f8
          have r0 := HR46.out.c0
          have r1 := HR46.out.c1
          have r2 := HR46.out.c2
          have r3 := HR46.out.c3
          have z1 := HR46.out.fz 1
          have z2 := HR46.out.fz 2
          have b0 : w46.cell? ⟨w.heap.size, 0, none⟩ = some (.int .i64 depth) := HB46.out.c 0 rfl
          have b1 : w46.cell? ⟨w.heap.size, 1, none⟩ = some (.int .i64 0) := HB46.out.c 1 rfl
          have b2 : w46.cell? ⟨w.heap.size, 2, none⟩ = some (.string de) := HB46.out.c 2 rfl
          have b3 : w46.cell? ⟨w.heap.size, 3, none⟩ = some (.string ⟨#[]⟩) := HB46.out.c 3 rfl
          have b4 : w46.cell? ⟨w.heap.size, 4, none⟩ = some (.string ⟨#[]⟩) := HB46.out.c 4 rfl
          have b5 : w46.cell? ⟨w.heap.size, 5, none⟩ = some (.slice none 0 0) := HB46.out.c 5 rfl
          have b6 : w46.cell? ⟨w.heap.size, 6, none⟩ = some (.string ⟨#[]⟩) := HB46.out.c 6 rfl
          have b7 : w46.cell? ⟨w.heap.size, 7, none⟩ = some (.string ⟨#[]⟩) := HB46.out.c 7 rfl
          have b8 : w46.cell? ⟨w.heap.size, 8, none⟩ = some (.bool false) := HB46.out.c 8 rfl
          have f0 := HB46.out.f 0
          have f1 := HB46.out.f 1
          have f2 := HB46.out.f 2
          have f3 := HB46.out.f 3
          have f4 := HB46.out.f 4
          have f5 := HB46.out.f 5
          have f6 := HB46.out.f 6
          have f7 := HB46.out.f 7
          have f8 := HB46.out.f 8
          have r2a : (w46.alloc (.cells #[.int .i64 depth, .int .i64 0, .string de, .string ⟨#[]⟩, .string ⟨#[]⟩, .slice none 0 0, .string ⟨#[]⟩, .string ⟨#[]⟩, .bool false] 49)).cell? ⟨g, 2, none⟩ = some v := (HR46.out.alloc _).c2
          have hn46 : NS w46.drew base v ns := (HN.out.one HK46.out.drew hgb)
          have hb46 : base ≤ w46.heap.size := Nat.le_trans hbase HK46.out.size
          go_region_law (refine step_app_node w46.drew base rfl (.tmp 132) (.tmp 134) rfl v ns (⟨depth, 0, de, ⟨#[]⟩, ⟨#[]⟩, [], ⟨#[]⟩, ⟨#[]⟩, false⟩ : Nd) ((.slice none 0 0)) rfl rfl hn46 HA46.out hb46 hlen rfl ?_; rintro A3 c3 w3 ⟨hs3, hg3⟩; have HR3 : Hid (RB w3 g s (j) v (120) (j)) := hd (blk_grown HR46.out.drew hg3 (fun e => absurd (hn46.own g e.symm) (by omega))); have HS3 := hd hs3; have HG3 := hd hg3; clear hs3 hg3; have z3 := HR3.out.fz 2; have y3 := HR3.out.c2)
          all_goals
            go_wp2
            go_end0
            exact (ItEnd.app_ hgb HN.out HR46.out.drew HK46.out.drew HS3.out HG3.out (by omega) (by omega) (HO.out))
      · have d1 : decide (j < (s.size : Int)) = false := decide_eq_false hlt
        have HO : Hid (IOut R pl ⟨depth, 0, de, ⟨#[]⟩, ⟨#[]⟩, [], ⟨#[]⟩, ⟨#[]⟩, false⟩ j 120 j) := hd (.inr ⟨j, HD.out.trans (by unfold itemN chAt; rw [if_neg hlt]; rfl), rfl, rfl⟩)
        go_wp2_with (fail)
        go_quiet (fail)
        go_wp2_with (fail)
        refine at_world (fun W => Hid (RB W g s (j) v (0) (pl)) ∧ Hid (Blk W w.heap.size #[.int .i64 depth, .int .i64 0, .string de, .string ⟨#[]⟩, .string ⟨#[]⟩, .slice none 0 0, .string ⟨#[]⟩, .string ⟨#[]⟩, .bool false] 49) ∧ Hid (Kp (One g) w W)) ⟨hd (HR13.out.drewN _), hd (Blk.cast (HB13.out.drewN _) (by kernel_rfl)), hd (HK13.out.drewN _)⟩ ?_
        clear r0 r1 r2 r3 z1 z2 b0 b1 b2 b3 b4 b5 b6 b7 b8 f0 f1 f2 f3 f4 f5 f6 f7 f8
        rintro w47 ⟨HR47, HB47, HK47⟩
        refine (stop_new g s j v pl 120 j _ HR47.out).mono ?_
        rintro e w48 ⟨rfl, hr48, hk48⟩
        have HR48 : Hid (RB w48 g s (j) v (120) (j)) := hd hr48
        have HB48 := hd (HB47.out.kp hk48 hng')
        have HK48 := hd (HK47.out.trans hk48)
        have r0 := HR48.out.c0
        have r1 := HR48.out.c1
        have r2 := HR48.out.c2
        have r3 := HR48.out.c3
        have z1 := HR48.out.fz 1
        have z2 := HR48.out.fz 2
        have b0 : w48.cell? ⟨w.heap.size, 0, none⟩ = some (.int .i64 depth) := HB48.out.c 0 rfl
        have b1 : w48.cell? ⟨w.heap.size, 1, none⟩ = some (.int .i64 0) := HB48.out.c 1 rfl
        have b2 : w48.cell? ⟨w.heap.size, 2, none⟩ = some (.string de) := HB48.out.c 2 rfl
        have b3 : w48.cell? ⟨w.heap.size, 3, none⟩ = some (.string ⟨#[]⟩) := HB48.out.c 3 rfl
        have b4 : w48.cell? ⟨w.heap.size, 4, none⟩ = some (.string ⟨#[]⟩) := HB48.out.c 4 rfl
        have b5 : w48.cell? ⟨w.heap.size, 5, none⟩ = some (.slice none 0 0) := HB48.out.c 5 rfl
        have b6 : w48.cell? ⟨w.heap.size, 6, none⟩ = some (.string ⟨#[]⟩) := HB48.out.c 6 rfl
        have b7 : w48.cell? ⟨w.heap.size, 7, none⟩ = some (.string ⟨#[]⟩) := HB48.out.c 7 rfl
        have b8 : w48.cell? ⟨w.heap.size, 8, none⟩ = some (.bool false) := HB48.out.c 8 rfl
        have f0 := HB48.out.f 0
        have f1 := HB48.out.f 1
        have f2 := HB48.out.f 2
        have f3 := HB48.out.f 3
        have f4 := HB48.out.f 4
        have f5 := HB48.out.f 5
        have f6 := HB48.out.f 6
        have f7 := HB48.out.f 7
        have f8 := HB48.out.f 8
        go_wp2_with (fail)
        obtain ⟨w49, hw49⟩ : ∃ x, w48 = x := ⟨_, rfl⟩
        have HR49 : Hid (RB w49 g s (j) v (120) (j)) := hd (by rw [← hw49]; exact HR48.out)
        have HB49 : Hid (Blk w49 w.heap.size #[.int .i64 depth, .int .i64 0, .string de, .string ⟨#[]⟩, .string ⟨#[]⟩, .slice none 0 0, .string ⟨#[]⟩, .string ⟨#[]⟩, .bool false] 49) := hd (by rw [← hw49]; exact Blk.cast HB48.out (by kernel_rfl))
        have HK49 : Hid (Kp (One g) w w49) := hd (by rw [← hw49]; exact HK48.out)
        have HA49 : Hid (AnyR w49 base (fun k => base ≤ k) (.slice none 0 0) (⟨depth, 0, de, ⟨#[]⟩, ⟨#[]⟩, [], ⟨#[]⟩, ⟨#[]⟩, false⟩ : Nd).any) := hd (by rw [← hw49]; exact AnyR.nil _ _ _)
        rw [hw49]
        clear hw49
        clear r0 r1 r2 r3 z1 z2 b0 b1 b2 b3 b4 b5 b6 b7 b8 f0 f1 f2 f3 f4 f5 f6 f7 f8
        have r0 := HR49.out.c0
        have r1 := HR49.out.c1
        have r2 := HR49.out.c2
        have r3 := HR49.out.c3
        have z1 := HR49.out.fz 1
        have z2 := HR49.out.fz 2
        have b0 : w49.cell? ⟨w.heap.size, 0, none⟩ = some (.int .i64 depth) := HB49.out.c 0 rfl
        have b1 : w49.cell? ⟨w.heap.size, 1, none⟩ = some (.int .i64 0) := HB49.out.c 1 rfl
        have b2 : w49.cell? ⟨w.heap.size, 2, none⟩ = some (.string de) := HB49.out.c 2 rfl
        have b3 : w49.cell? ⟨w.heap.size, 3, none⟩ = some (.string ⟨#[]⟩) := HB49.out.c 3 rfl
        have b4 : w49.cell? ⟨w.heap.size, 4, none⟩ = some (.string ⟨#[]⟩) := HB49.out.c 4 rfl
        have b5 : w49.cell? ⟨w.heap.size, 5, none⟩ = some (.slice none 0 0) := HB49.out.c 5 rfl
        have b6 : w49.cell? ⟨w.heap.size, 6, none⟩ = some (.string ⟨#[]⟩) := HB49.out.c 6 rfl
        have b7 : w49.cell? ⟨w.heap.size, 7, none⟩ = some (.string ⟨#[]⟩) := HB49.out.c 7 rfl
        have b8 : w49.cell? ⟨w.heap.size, 8, none⟩ = some (.bool false) := HB49.out.c 8 rfl
        have f0 := HB49.out.f 0
        have f1 := HB49.out.f 1
        have f2 := HB49.out.f 2
        have f3 := HB49.out.f 3
        have f4 := HB49.out.f 4
        have f5 := HB49.out.f 5
        have f6 := HB49.out.f 6
        have f7 := HB49.out.f 7
        have f8 := HB49.out.f 8
        have r2a : (w49.alloc (.cells #[.int .i64 depth, .int .i64 0, .string de, .string ⟨#[]⟩, .string ⟨#[]⟩, .slice none 0 0, .string ⟨#[]⟩, .string ⟨#[]⟩, .bool false] 49)).cell? ⟨g, 2, none⟩ = some v := (HR49.out.alloc _).c2
        have hn49 : NS w49.drew base v ns := (HN.out.one HK49.out.drew hgb)
        have hb49 : base ≤ w49.heap.size := Nat.le_trans hbase HK49.out.size
        go_region_law (refine step_app_node w49.drew base rfl (.tmp 132) (.tmp 134) rfl v ns (⟨depth, 0, de, ⟨#[]⟩, ⟨#[]⟩, [], ⟨#[]⟩, ⟨#[]⟩, false⟩ : Nd) ((.slice none 0 0)) rfl rfl hn49 HA49.out hb49 hlen rfl ?_; rintro A3 c3 w3 ⟨hs3, hg3⟩; have HR3 : Hid (RB w3 g s (j) v (120) (j)) := hd (blk_grown HR49.out.drew hg3 (fun e => absurd (hn49.own g e.symm) (by omega))); have HS3 := hd hs3; have HG3 := hd hg3; clear hs3 hg3; have z3 := HR3.out.fz 2; have y3 := HR3.out.c2)
        all_goals
          go_wp2
          go_end0
          exact (ItEnd.app_ hgb HN.out HR49.out.drew HK49.out.drew HS3.out HG3.out (by omega) (by omega) (HO.out))
    · have HF := hd (show R = .bad (i + descP de) from HRR.out.symm.trans (by unfold itemD; rw [if_neg (fun q => z0 q.1), if_pos ⟨z0, te⟩]))
      have te40 : descE de = 40 := by unfold descE at te ⊢; split at te <;> first | (exact absurd rfl te) | (rename_i q; rw [if_neg q])
      have hdp := descP_le de
      go_wp2_with (fail)
      refine at_world (fun W => Hid (RB W g s (j) v (0) (pl)) ∧ Hid (Blk W w.heap.size #[.int .i64 depth, .int .i64 0, .string de, .string ⟨#[]⟩, .string ⟨#[]⟩, .slice none 0 0, .string ⟨#[]⟩, .string ⟨#[]⟩, .bool false] 49) ∧ Hid (Kp (One g) w W)) ⟨hd (HR1.out.far (p := ⟨w.heap.size, 2, none⟩) hng _), hd (Blk.cast (HB1.out.set 2 _) (by kernel_rfl)), hd (HK1.out.setCell (p := ⟨w.heap.size, 2, none⟩) (fun q => absurd q (Nat.lt_irrefl _)) _)⟩ ?_
      clear r0 r1 r2 r3 z1 z2 b0 b1 b2 b3 b4 b5 b6 b7 b8 f0 f1 f2 f3 f4 f5 f6 f7 f8
      rintro w50 ⟨HR50, HB50, HK50⟩
      refine (r4parse_any de _ (by omega)).mono ?_
      rintro e w51 ⟨x, A, m, c, rfl, hk51⟩
      have HR51 : Hid (RB w51 g s (j) v (0) (pl)) := hd (HR50.out.kp hk51 (fun q => q))
      have HB51 := hd (HB50.out.kp hk51 (fun q => q))
      have HK51 := hd (HK50.out.no hk51)
      rw [te40]
      have r0 := HR51.out.c0
      have r1 := HR51.out.c1
      have r2 := HR51.out.c2
      have r3 := HR51.out.c3
      have z1 := HR51.out.fz 1
      have z2 := HR51.out.fz 2
      have b0 : w51.cell? ⟨w.heap.size, 0, none⟩ = some (.int .i64 depth) := HB51.out.c 0 rfl
      have b1 : w51.cell? ⟨w.heap.size, 1, none⟩ = some (.int .i64 0) := HB51.out.c 1 rfl
      have b2 : w51.cell? ⟨w.heap.size, 2, none⟩ = some (.string de) := HB51.out.c 2 rfl
      have b3 : w51.cell? ⟨w.heap.size, 3, none⟩ = some (.string ⟨#[]⟩) := HB51.out.c 3 rfl
      have b4 : w51.cell? ⟨w.heap.size, 4, none⟩ = some (.string ⟨#[]⟩) := HB51.out.c 4 rfl
      have b5 : w51.cell? ⟨w.heap.size, 5, none⟩ = some (.slice none 0 0) := HB51.out.c 5 rfl
      have b6 : w51.cell? ⟨w.heap.size, 6, none⟩ = some (.string ⟨#[]⟩) := HB51.out.c 6 rfl
      have b7 : w51.cell? ⟨w.heap.size, 7, none⟩ = some (.string ⟨#[]⟩) := HB51.out.c 7 rfl
      have b8 : w51.cell? ⟨w.heap.size, 8, none⟩ = some (.bool false) := HB51.out.c 8 rfl
      have f0 := HB51.out.f 0
      have f1 := HB51.out.f 1
      have f2 := HB51.out.f 2
      have f3 := HB51.out.f 3
      have f4 := HB51.out.f 4
      have f5 := HB51.out.f 5
      have f6 := HB51.out.f 6
      have f7 := HB51.out.f 7
      have f8 := HB51.out.f 8
      go_wp2_with (fail)
      refine at_world (fun W => Hid (RB W g s (j) v (0) (pl)) ∧ Hid (Blk W w.heap.size #[.int .i64 depth, .int .i64 0, .string de, .string ⟨#[]⟩, .string ⟨#[]⟩, .slice none 0 0, .string ⟨#[]⟩, .string ⟨#[]⟩, .bool false] 49) ∧ Hid (Kp (One g) w W)) ⟨hd (HR51.out.alloc _), hd (Blk.cast (HB51.out.alloc _) (by kernel_rfl)), hd (HK51.out.alloc _)⟩ ?_
      clear r0 r1 r2 r3 z1 z2 b0 b1 b2 b3 b4 b5 b6 b7 b8 f0 f1 f2 f3 f4 f5 f6 f7 f8
      rintro w52 ⟨HR52, HB52, HK52⟩
      refine (stop_new g s (j) v pl 120 (i + descP de) _ HR52.out).mono ?_
      rintro e w53 ⟨rfl, hr53, hk53⟩
      have HR53 : Hid (RB w53 g s (j) v (120) (i + descP de)) := hd hr53
      have HB53 := hd (HB52.out.kp hk53 hng')
      have HK53 := hd (HK52.out.trans hk53)
      go_wp2
      refine bodyPost_ret (results_none rfl _ _ _) rfl ?_
      exact (ItEnd.stop_ hgb HN.out HR53.out HK53.out (by omega) (by omega) (HF.out))
end Go.Proofs.YtieolphpgjpcmaaDoor
