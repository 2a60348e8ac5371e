/- rosterref12.Reader: ruled (written by genD.py). -/
import Derived.Test.YtieolphpgjpcmaaDoorM04

namespace Go.Proofs.YtieolphpgjpcmaaDoor
open Go.RowKit Go.Proofs.YtieolphpgjpcmaaDoorW.PrintWords

theorem res_rRuled (tmps : Array Value) (W : World) (B : Nat) (n : Nd) (av : Value) (hp : tmps.getD 4 undef = .pointer (some ⟨B, 0, none⟩)) (hW : Blk W B (n.cells av) 49) : (results Tryd.f22 tmps).run Tryd.prog W = .ok (.agg (n.cells av)) W :=
  results_cell_row rfl tmps W B 49 (n.cells av) (0, 0) _ hp hW Tryd.underlying49 rfl (by kernel_rfl)
theorem IEnd.mk_ {w w1 W : World} {g : Nat} {s : ByteArray} {v : Value} {pl i : Int} {n : Nd} {R : IRes} {j er' pl' : Int} {av : Value} (hR : RB w1 g s j v er' pl') (hA : g < w.heap.size) (hK : Kp (One g) w w1) (hO : IOut R pl n j er' pl') (hj0 : i ≤ j) (hj1 : j ≤ (s.size : Int))
    (K12 : Kp (fun k => w.heap.size ≤ k) w1 W) (hav : AnyR W w.heap.size (fun k => w.heap.size ≤ k) av n.any) : IEnd w W g s v pl i R (.returned (.agg (n.cells av))) :=
  ⟨n, j, er', pl', av, rfl, hav, hR.kp K12 (fun q => by omega), hK.trans' K12 (fun i hi q => by omega), hj0, hj1, hO⟩
theorem placeF_le (s : ByteArray) (alone : Bool) : ∀ n lo hi, 0 ≤ lo → lo ≤ hi → 0 ≤ placeF s alone n lo hi ∧ placeF s alone n lo hi ≤ hi := by
  intro n
  induction n with
  | zero => intro lo hi h0 h; exact ⟨h0, h⟩
  | succ n ih =>
    intro lo hi h0 h
    simp only [placeF]
    split
    · split
      · exact ih _ _ (by omega) (by omega)
      · have := ih lo ((lo + hi + 1) / 2 - 1) h0 (by omega)
        omega
    · exact ⟨h0, h⟩
theorem placeS_le (s : ByteArray) (alone : Bool) : 0 ≤ placeS s alone ∧ placeS s alone ≤ (s.size : Int) := placeF_le s alone _ _ _ (Int.le_refl _) (by omega)
theorem typeP_le (w : ByteArray) (_h : w.size + 2 ≤ LIM) : 0 ≤ typeP w ∧ typeP w ≤ (w.size : Int) := by
  unfold typeP
  split
  · omega
  · exact placeS_le _ _
theorem descP_le (w : ByteArray) : 0 ≤ descP w ∧ descP w ≤ (w.size : Int) := by
  unfold descP
  split
  · omega
  · exact placeS_le _ _


set_option maxHeartbeats 16000000 in
set_option maxRecDepth 100000 in
theorem rruled_no (g : Nat) (s : ByteArray) (i : Int) (v : Value) (pl : Int) (nd no : Int) (nde nv ni nf nr : ByteArray) (ndn : Bool) (w : World) (hp : RB w g s i v 0 pl) (hT : RowsAt w) (hg : 0 ≠ g) (h0 : 0 ≤ i) (h1 : i ≤ (s.size : Int)) (hl2 : s.size + 2 ≤ LIM)
    (hdn : isDn (s.extract i.toNat (rowEnd s false (s.size + 1) i).toNat) = false) :
    Calls Tryd.prog 22 #[.pointer (some ⟨g, 0, none⟩), .agg (Nd.cells ⟨nd, no, nde, nv, ni, [], nf, nr, ndn⟩ (.slice none 0 0))] w fun e w' => IEnd w w' g s v pl i (extA s ⟨nd, no, nde, nv, ni, [], nf, nr, ndn⟩ i) e := by
  have hl : s.size ≤ LIM := by omega
  obtain ⟨R, hR⟩ : ∃ R, extA s ⟨nd, no, nde, nv, ni, [], nf, nr, ndn⟩ i = R := ⟨_, rfl⟩
  rw [hR]
  have hrow := hd (fun W (hp : RB W g s i v 0 pl) => rrow_any g s i v 0 pl false W hp h0 h1 hl)
  have hj0 := rowEnd_ge s false (s.size + 1) i
  have hj1 := rowEnd_le s false (s.size + 1) i h1
  unfold extA at hR
  simp only at hR
  obtain ⟨j, hj⟩ : ∃ j, rowEnd s false (s.size + 1) i = j := ⟨_, rfl⟩
  rw [hj] at hrow hj0 hj1 hR hdn
  have hwl0 : (s.extract i.toNat j.toNat).size ≤ s.size ∧ (i + ((s.extract i.toNat j.toNat).size : Int) ≤ j) := by rw [ByteArray.size_extract]; omega
  obtain ⟨wd, hwd⟩ : ∃ wd, s.extract i.toNat j.toNat = wd := ⟨_, rfl⟩
  rw [hwd] at hrow hR hdn hwl0
  clear hj hwd
  have hwl : wd.size + 2 ≤ LIM := by omega
  have hA := hp.lt
  have hne : w.heap.size + 1 ≠ w.heap.size := by omega
  have HT := hd hT
  have hLL : LIM ≤ 4194304 := Nat.le_refl _
  clear hT
  rw [if_neg (by rw [hdn]; simp)] at hR
  have HRR := hd hR
  have HDN : Hid (((foldS wd).toList == [100, 110]) = false) := hd hdn
  clear hR hdn
  unfold Nd.cells
  have c1p := hp.c1
  go_enter Tryd.func22, Tryd.ntmps22
  go_wp2_with (fail)
  obtain ⟨w0, hw0⟩ : ∃ x, (w.alloc (.cells #[.int .i64 nd, .int .i64 9, .string nde, .string nv, .string ni, .slice none 0 0, .string nf, .string nr, .bool ndn] 49)).alloc (.cells #[.int .i64 0, .int .i64 0, .string ⟨#[]⟩, .string ⟨#[]⟩, .string ⟨#[]⟩, .slice none 0 0, .string ⟨#[]⟩, .string ⟨#[]⟩, .bool false] 49) = x := ⟨_, rfl⟩
  have HW0 := hd hw0
  have HR0 : Hid (RB w0 g s i v 0 pl) := hd (by rw [← hw0]; exact (hp.alloc _).alloc _)
  have HB0 : Hid (Blk w0 w.heap.size #[.int .i64 nd, .int .i64 9, .string nde, .string nv, .string ni, .slice none 0 0, .string nf, .string nr, .bool ndn] 49) := hd (by rw [← hw0]; exact (Blk.new w _ 49).alloc _)
  have HC0 := hd (show Blk w0 (w.heap.size + 1) #[.int .i64 0, .int .i64 0, .string ⟨#[]⟩, .string ⟨#[]⟩, .string ⟨#[]⟩, .slice none 0 0, .string ⟨#[]⟩, .string ⟨#[]⟩, .bool false] 49 by rw [← hw0]; exact Blk.new2 w _ _ 49)
  have HK0 := hd (show Kp (One g) w w0 by rw [← hw0]; exact ((Kp.refl _ _).alloc _).alloc _)
  clear hw0 c1p
  rw [HW0.out]
  refine (hrow.out _ HR0.out).mono ?_
  rintro e w1 ⟨rfl, hr1, hk1⟩
  have HR1 : Hid (RB w1 g s (j) v (0) (pl)) := hd hr1
  have HB1 := hd (HB0.out.kp hk1 (fun q => by have q' : w.heap.size = g := q; omega))
  have HC1 := hd (HC0.out.kp hk1 (fun q => by have q' : w.heap.size + 1 = g := q; omega))
  have HK1 := hd (HK0.out.trans hk1)
  clear hk1
  have c1_1 := HR1.out.c1
  have c3_1 := HR1.out.c3
  have b2_1 := HB1.out.c 2 rfl
  have b3_1 := HB1.out.c 3 rfl
  have b7_1 := HB1.out.c 7 rfl
  have b8_1 := HB1.out.c 8 rfl
  have f3_1 := HB1.out.f 3
  have f7_1 := HB1.out.f 7
  have f8_1 := HB1.out.f 8
  go_wp2_with (fail)
  refine (rfold_any wd _ (by omega)).mono ?_
  rintro e w2 ⟨rfl, hk2⟩
  clear c1_1 c3_1 b2_1 b3_1 b7_1 b8_1 f3_1 f7_1 f8_1
  have HR2 : Hid (RB w2 g s (j) v (0) (pl)) := hd (HR1.out.kp hk2 (fun q => q))
  have HB2 := hd (HB1.out.kp hk2 (fun q => q))
  have HC2 := hd (HC1.out.kp hk2 (fun q => q))
  have HK2 := hd (HK1.out.no hk2)
  clear hk2
  have c1_2 := HR2.out.c1
  have c3_2 := HR2.out.c3
  have b2_2 := HB2.out.c 2 rfl
  have b3_2 := HB2.out.c 3 rfl
  have b7_2 := HB2.out.c 7 rfl
  have b8_2 := HB2.out.c 8 rfl
  have f3_2 := HB2.out.f 3
  have f7_2 := HB2.out.f 7
  have f8_2 := HB2.out.f 8
  have hdn' := HDN.out
  have hE := empty_iff wd
  by_cases z0 : wd.size = 0
  · have zw : wd.toList.isEmpty = true := by rw [hE]; simp [z0]
    clear hE
    have hD := empty_iff nde
    by_cases z1 : nde.size = 0
    · have zd : nde.toList.isEmpty = true := by rw [hD]; simp [z1]
      clear hD
      have hfin := hd (show extB s ⟨nd, 9, nde, nv, ni, [], nf, nr, ndn⟩ (i) (j) wd = .bad (j) by unfold extB; rw [if_pos z0, if_pos z1])
      go_wp2_with (fail)
      refine (stop_new g s (j) v pl 120 (j) _ HR2.out).mono ?_
      rintro e w3 ⟨rfl, hr3, hk3⟩
      clear c1_2 c3_2 b2_2 b3_2 b7_2 b8_2 f3_2 f7_2 f8_2
      have HR3 : Hid (RB w3 g s (j) v (120) (j)) := hd hr3
      have HB3 := hd (HB2.out.kp hk3 (fun q => by have q' : w.heap.size = g := q; omega))
      have HC3 := hd (HC2.out.kp hk3 (fun q => by have q' : w.heap.size + 1 = g := q; omega))
      have HK3 := hd (HK2.out.trans hk3)
      clear hk3
      have c1_3 := HR3.out.c1
      have c3_3 := HR3.out.c3
      have b2_3 := HB3.out.c 2 rfl
      have b3_3 := HB3.out.c 3 rfl
      have b7_3 := HB3.out.c 7 rfl
      have b8_3 := HB3.out.c 8 rfl
      have f3_3 := HB3.out.f 3
      have f7_3 := HB3.out.f 7
      have f8_3 := HB3.out.f 8
      go_wp2_with (fail)
      refine (must_err g s (j) v (120) (j) _ _ HR3.out (by omega) (by omega) (by omega) hl).mono ?_
      rintro e w4 ⟨rfl, j4, hj4, hi4, hr4, hk4⟩
      clear c1_3 c3_3 b2_3 b3_3 b7_3 b8_3 f3_3 f7_3 f8_3
      have HR4 : Hid (RB w4 g s (j4) v (120) (j)) := hd hr4
      have HB4 := hd (HB3.out.kp hk4 (fun q => by have q' : w.heap.size = g := q; omega))
      have HC4 := hd (HC3.out.kp hk4 (fun q => by have q' : w.heap.size + 1 = g := q; omega))
      have HK4 := hd (HK3.out.trans hk4)
      clear hk4
      have c1_4 := HR4.out.c1
      have c3_4 := HR4.out.c3
      have b2_4 := HB4.out.c 2 rfl
      have b3_4 := HB4.out.c 3 rfl
      have b7_4 := HB4.out.c 7 rfl
      have b8_4 := HB4.out.c 8 rfl
      have f3_4 := HB4.out.f 3
      have f7_4 := HB4.out.f 7
      have f8_4 := HB4.out.f 8
      go_wp2_with (fail)
      refine (ronly_err g s (j4) v (120) (j) _ HR4.out (by omega)).mono ?_
      rintro e w5 ⟨y, rfl, hr5, hk5⟩
      clear c1_4 c3_4 b2_4 b3_4 b7_4 b8_4 f3_4 f7_4 f8_4
      have HR5 : Hid (RB w5 g s (j4) v (120) (j)) := hd hr5
      have HB5 := hd (HB4.out.kp hk5 (fun q => q))
      have HC5 := hd (HC4.out.kp hk5 (fun q => q))
      have HK5 := hd (HK4.out.no hk5)
      clear hk5
      have c1_5 := HR5.out.c1
      have c3_5 := HR5.out.c3
      have b2_5 := HB5.out.c 2 rfl
      have b3_5 := HB5.out.c 3 rfl
      have b7_5 := HB5.out.c 7 rfl
      have b8_5 := HB5.out.c 8 rfl
      have f3_5 := HB5.out.f 3
      have f7_5 := HB5.out.f 7
      have f8_5 := HB5.out.f 8
      have x0 := HB5.out.c 0 rfl
      have x1 := HB5.out.c 1 rfl
      have x2 := HB5.out.c 2 rfl
      have x3 := HB5.out.c 3 rfl
      have x4 := HB5.out.c 4 rfl
      have x5 := HB5.out.c 5 rfl
      have x6 := HB5.out.c 6 rfl
      have x7 := HB5.out.c 7 rfl
      have x8 := HB5.out.c 8 rfl
      have d0 := HC5.out.c 0 rfl
      have d1 := HC5.out.c 1 rfl
      have d2 := HC5.out.c 2 rfl
      have d3 := HC5.out.c 3 rfl
      have d4 := HC5.out.c 4 rfl
      have d5 := HC5.out.c 5 rfl
      have d6 := HC5.out.c 6 rfl
      have d7 := HC5.out.c 7 rfl
      have d8 := HC5.out.c 8 rfl
      have g0 := HC5.out.f 0
      have g1 := HC5.out.f 1
      have g2 := HC5.out.f 2
      have g3 := HC5.out.f 3
      have g4 := HC5.out.f 4
      have g5 := HC5.out.f 5
      have g6 := HC5.out.f 6
      have g7 := HC5.out.f 7
      have g8 := HC5.out.f 8
      go_wp2
      refine bodyPost_ret (res_rRuled _ _ (w.heap.size + 1) ⟨nd, 9, nde, y, ni, [], nf, nr, ndn⟩ (.slice none 0 0) rfl (Blk.cast ((((((((((HC5.out.far (p := ⟨w.heap.size, 3, none⟩) hne _).set 0 _).set 1 _).set 2 _).set 3 _).set 4 _).set 5 _).set 6 _).set 7 _).set 8 _) (by kernel_rfl))) rfl ?_
      exact IEnd.mk_ HR5.out hA HK5.out (.inr ⟨j, HRR.out.symm.trans hfin.out, rfl, rfl⟩) (by omega) (by omega) (by repeat (first | (with_reducible exact Kp.refl _ _) | (with_reducible refine Kp.setCell ?_ (fun _ => by simp) _))) (AnyR.nil _ _ _)
    · have zd : nde.toList.isEmpty = false := by rw [hD]; simp [z1]
      clear hD
      cases q61 : isB s (j) 61 with
      | false =>
        have hfin := hd (show extB s ⟨nd, 9, nde, nv, ni, [], nf, nr, ndn⟩ (i) (j) wd = .bad (j) by unfold extB; rw [if_pos z0, if_neg z1, if_pos q61])
        have Q := hd q61
        clear q61
        go_wp2_with (fail)
        refine (must_new g s (j) v pl 61 _ HR2.out (by omega) Q.out).mono ?_
        rintro e w6 ⟨rfl, hr6, hk6⟩
        clear c1_2 c3_2 b2_2 b3_2 b7_2 b8_2 f3_2 f7_2 f8_2
        have HR6 : Hid (RB w6 g s (j) v (120) (j)) := hd hr6
        have HB6 := hd (HB2.out.kp hk6 (fun q => by have q' : w.heap.size = g := q; omega))
        have HC6 := hd (HC2.out.kp hk6 (fun q => by have q' : w.heap.size + 1 = g := q; omega))
        have HK6 := hd (HK2.out.trans hk6)
        clear hk6
        have c1_6 := HR6.out.c1
        have c3_6 := HR6.out.c3
        have b2_6 := HB6.out.c 2 rfl
        have b3_6 := HB6.out.c 3 rfl
        have b7_6 := HB6.out.c 7 rfl
        have b8_6 := HB6.out.c 8 rfl
        have f3_6 := HB6.out.f 3
        have f7_6 := HB6.out.f 7
        have f8_6 := HB6.out.f 8
        go_wp2_with (fail)
        refine (ronly_err g s (j) v (120) (j) _ HR6.out (by omega)).mono ?_
        rintro e w7 ⟨y, rfl, hr7, hk7⟩
        clear c1_6 c3_6 b2_6 b3_6 b7_6 b8_6 f3_6 f7_6 f8_6
        have HR7 : Hid (RB w7 g s (j) v (120) (j)) := hd hr7
        have HB7 := hd (HB6.out.kp hk7 (fun q => q))
        have HC7 := hd (HC6.out.kp hk7 (fun q => q))
        have HK7 := hd (HK6.out.no hk7)
        clear hk7
        have c1_7 := HR7.out.c1
        have c3_7 := HR7.out.c3
        have b2_7 := HB7.out.c 2 rfl
        have b3_7 := HB7.out.c 3 rfl
        have b7_7 := HB7.out.c 7 rfl
        have b8_7 := HB7.out.c 8 rfl
        have f3_7 := HB7.out.f 3
        have f7_7 := HB7.out.f 7
        have f8_7 := HB7.out.f 8
        have x0 := HB7.out.c 0 rfl
        have x1 := HB7.out.c 1 rfl
        have x2 := HB7.out.c 2 rfl
        have x3 := HB7.out.c 3 rfl
        have x4 := HB7.out.c 4 rfl
        have x5 := HB7.out.c 5 rfl
        have x6 := HB7.out.c 6 rfl
        have x7 := HB7.out.c 7 rfl
        have x8 := HB7.out.c 8 rfl
        have d0 := HC7.out.c 0 rfl
        have d1 := HC7.out.c 1 rfl
        have d2 := HC7.out.c 2 rfl
        have d3 := HC7.out.c 3 rfl
        have d4 := HC7.out.c 4 rfl
        have d5 := HC7.out.c 5 rfl
        have d6 := HC7.out.c 6 rfl
        have d7 := HC7.out.c 7 rfl
        have d8 := HC7.out.c 8 rfl
        have g0 := HC7.out.f 0
        have g1 := HC7.out.f 1
        have g2 := HC7.out.f 2
        have g3 := HC7.out.f 3
        have g4 := HC7.out.f 4
        have g5 := HC7.out.f 5
        have g6 := HC7.out.f 6
        have g7 := HC7.out.f 7
        have g8 := HC7.out.f 8
        go_wp2
        refine bodyPost_ret (res_rRuled _ _ (w.heap.size + 1) ⟨nd, 9, nde, y, ni, [], nf, nr, ndn⟩ (.slice none 0 0) rfl (Blk.cast ((((((((((HC7.out.far (p := ⟨w.heap.size, 3, none⟩) hne _).set 0 _).set 1 _).set 2 _).set 3 _).set 4 _).set 5 _).set 6 _).set 7 _).set 8 _) (by kernel_rfl))) rfl ?_
        exact IEnd.mk_ HR7.out hA HK7.out (.inr ⟨j, HRR.out.symm.trans hfin.out, rfl, rfl⟩) (by omega) (by omega) (by repeat (first | (with_reducible exact Kp.refl _ _) | (with_reducible refine Kp.setCell ?_ (fun _ => by simp) _))) (AnyR.nil _ _ _)
      | true =>
        have hfin := hd (show extB s ⟨nd, 9, nde, nv, ni, [], nf, nr, ndn⟩ (i) (j) wd = withVal ⟨nd, 9, nde, nv, ni, [], nf, nr, ndn⟩ (vals s false (s.size + 1) (j + 1) false [] []) by unfold extB; rw [if_pos z0, if_neg z1, if_neg (by rw [q61]; simp)])
        have hlt := (isB_true q61).1
        have Q := hd q61
        clear q61
        go_wp2_with (fail)
        refine (must_yes g s (j) v 0 pl 61 _ HR2.out (by omega) hl Q.out).mono ?_
        rintro e w8 ⟨rfl, hr8, hk8⟩
        clear c1_2 c3_2 b2_2 b3_2 b7_2 b8_2 f3_2 f7_2 f8_2
        have HR8 : Hid (RB w8 g s (j + 1) v (0) (pl)) := hd hr8
        have HB8 := hd (HB2.out.kp hk8 (fun q => by have q' : w.heap.size = g := q; omega))
        have HC8 := hd (HC2.out.kp hk8 (fun q => by have q' : w.heap.size + 1 = g := q; omega))
        have HK8 := hd (HK2.out.trans hk8)
        clear hk8
        have c1_8 := HR8.out.c1
        have c3_8 := HR8.out.c3
        have b2_8 := HB8.out.c 2 rfl
        have b3_8 := HB8.out.c 3 rfl
        have b7_8 := HB8.out.c 7 rfl
        have b8_8 := HB8.out.c 8 rfl
        have f3_8 := HB8.out.f 3
        have f7_8 := HB8.out.f 7
        have f8_8 := HB8.out.f 8
        go_wp2_with (fail)
        refine (ronly_any g s (j + 1) v pl _ HR8.out (HT.out.kp HK8.out (fun q => hg q)) hg (by omega) (by omega) hl).mono ?_
        rintro e w9 hq9
        obtain ⟨y, jn, ern, pln, rfl, hr9, hk9, hjn, hin, ho⟩ := OEnd.out ⟨nd, 9, nde, nv, ni, [], nf, nr, ndn⟩ hq9
        clear hq9
        clear c1_8 c3_8 b2_8 b3_8 b7_8 b8_8 f3_8 f7_8 f8_8
        have HR9 : Hid (RB w9 g s (jn) v (ern) (pln)) := hd hr9
        have HB9 := hd (HB8.out.kp hk9 (fun q => by have q' : w.heap.size = g := q; omega))
        have HC9 := hd (HC8.out.kp hk9 (fun q => by have q' : w.heap.size + 1 = g := q; omega))
        have HK9 := hd (HK8.out.trans hk9)
        have HO := hd ho
        clear hk9 ho
        have c1_9 := HR9.out.c1
        have c3_9 := HR9.out.c3
        have b2_9 := HB9.out.c 2 rfl
        have b3_9 := HB9.out.c 3 rfl
        have b7_9 := HB9.out.c 7 rfl
        have b8_9 := HB9.out.c 8 rfl
        have f3_9 := HB9.out.f 3
        have f7_9 := HB9.out.f 7
        have f8_9 := HB9.out.f 8
        have x0 := HB9.out.c 0 rfl
        have x1 := HB9.out.c 1 rfl
        have x2 := HB9.out.c 2 rfl
        have x3 := HB9.out.c 3 rfl
        have x4 := HB9.out.c 4 rfl
        have x5 := HB9.out.c 5 rfl
        have x6 := HB9.out.c 6 rfl
        have x7 := HB9.out.c 7 rfl
        have x8 := HB9.out.c 8 rfl
        have d0 := HC9.out.c 0 rfl
        have d1 := HC9.out.c 1 rfl
        have d2 := HC9.out.c 2 rfl
        have d3 := HC9.out.c 3 rfl
        have d4 := HC9.out.c 4 rfl
        have d5 := HC9.out.c 5 rfl
        have d6 := HC9.out.c 6 rfl
        have d7 := HC9.out.c 7 rfl
        have d8 := HC9.out.c 8 rfl
        have g0 := HC9.out.f 0
        have g1 := HC9.out.f 1
        have g2 := HC9.out.f 2
        have g3 := HC9.out.f 3
        have g4 := HC9.out.f 4
        have g5 := HC9.out.f 5
        have g6 := HC9.out.f 6
        have g7 := HC9.out.f 7
        have g8 := HC9.out.f 8
        go_wp2
        refine bodyPost_ret (res_rRuled _ _ (w.heap.size + 1) ⟨nd, 9, nde, y, ni, [], nf, nr, ndn⟩ (.slice none 0 0) rfl (Blk.cast ((((((((((HC9.out.far (p := ⟨w.heap.size, 3, none⟩) hne _).set 0 _).set 1 _).set 2 _).set 3 _).set 4 _).set 5 _).set 6 _).set 7 _).set 8 _) (by kernel_rfl))) rfl ?_
        exact IEnd.mk_ HR9.out hA HK9.out (by rw [HRR.out.symm.trans hfin.out]; exact HO.out) (by omega) (by omega) (by repeat (first | (with_reducible exact Kp.refl _ _) | (with_reducible refine Kp.setCell ?_ (fun _ => by simp) _))) (AnyR.nil _ _ _)
  · have zw : wd.toList.isEmpty = false := by rw [hE]; simp [z0]
    clear hE
    by_cases te : typeE wd = 0
    · cases dn : isDn wd with
      | true =>
        exact absurd (dn.symm.trans HDN.out) (by simp)
      | false =>
        cases q58 : isB s (j) 58 with
        | false =>
          have hfin := hd (show extB s ⟨nd, 9, nde, nv, ni, [], nf, nr, ndn⟩ (i) (j) wd = .bad (j) by unfold extB; rw [if_neg z0, if_neg (fun q => q te), if_neg (by rw [dn]; simp), if_pos q58])
          have TE := hd te
          have DN := hd dn
          have Q := hd q58
          clear te dn q58
          go_wp2_with (fail)
          refine (r4type_any wd _ hwl).mono ?_
          rintro e w17 ⟨y0, rfl, hk17⟩
          clear c1_2 c3_2 b2_2 b3_2 b7_2 b8_2 f3_2 f7_2 f8_2
          have HR17 : Hid (RB w17 g s (j) v (0) (pl)) := hd (HR2.out.kp hk17 (fun q => q))
          have HB17 := hd (HB2.out.kp hk17 (fun q => q))
          have HC17 := hd (HC2.out.kp hk17 (fun q => q))
          have HK17 := hd (HK2.out.no hk17)
          clear hk17
          have c1_17 := HR17.out.c1
          have c3_17 := HR17.out.c3
          have b2_17 := HB17.out.c 2 rfl
          have b3_17 := HB17.out.c 3 rfl
          have b7_17 := HB17.out.c 7 rfl
          have b8_17 := HB17.out.c 8 rfl
          have f3_17 := HB17.out.f 3
          have f7_17 := HB17.out.f 7
          have f8_17 := HB17.out.f 8
          rw [TE.out]
          go_wp2_with (fail)
          refine (rfold_any wd _ (by omega)).mono ?_
          rintro e w18 ⟨rfl, hk18⟩
          clear c1_17 c3_17 b2_17 b3_17 b7_17 b8_17 f3_17 f7_17 f8_17
          have HR18 : Hid (RB w18 g s (j) v (0) (pl)) := hd (HR17.out.kp hk18 (fun q => q))
          have HB18 := hd (HB17.out.kp hk18 (fun q => q))
          have HC18 := hd (HC17.out.kp hk18 (fun q => q))
          have HK18 := hd (HK17.out.no hk18)
          clear hk18
          have c1_18 := HR18.out.c1
          have c3_18 := HR18.out.c3
          have b2_18 := HB18.out.c 2 rfl
          have b3_18 := HB18.out.c 3 rfl
          have b7_18 := HB18.out.c 7 rfl
          have b8_18 := HB18.out.c 8 rfl
          have f3_18 := HB18.out.f 3
          have f7_18 := HB18.out.f 7
          have f8_18 := HB18.out.f 8
          have DN' : ((foldS wd).toList == [100, 110]) = false := DN.out
          obtain ⟨w19, hw19⟩ : ∃ x, (w18).setCell ⟨w.heap.size, 7, none⟩ (.string wd) = x := ⟨_, rfl⟩
          have HR19 : Hid (RB w19 g s (j) v (0) (pl)) := hd (by rw [← hw19]; exact HR18.out.kp ((Kp.refl (One w.heap.size) _).setOne 7 _) (fun q => by have q' : g = w.heap.size := q; omega))
          have HB19 : Hid (Blk w19 w.heap.size #[.int .i64 nd, .int .i64 9, .string nde, .string nv, .string ni, .slice none 0 0, .string nf, .string wd, .bool ndn] 49) := hd (by rw [← hw19]; exact Blk.cast (HB18.out.set 7 _) (by kernel_rfl))
          have HC19 := hd (show Blk w19 (w.heap.size + 1) _ 49 by rw [← hw19]; exact HC18.out.far (p := ⟨w.heap.size, 7, none⟩) hne _)
          have HK19 := hd (show Kp (One g) w w19 by rw [← hw19]; exact HK18.out.setCell (p := ⟨w.heap.size, 7, none⟩) (fun q => absurd q (Nat.lt_irrefl _)) _)
          have HW19 := hd hw19
          clear hw19
          go_wp2_with (fail)
          rw [HW19.out]
          refine (must_new g s (j) v pl 58 _ HR19.out (by omega) Q.out).mono ?_
          rintro e w20 ⟨rfl, hr20, hk20⟩
          clear c1_18 c3_18 b2_18 b3_18 b7_18 b8_18 f3_18 f7_18 f8_18
          have HR20 : Hid (RB w20 g s (j) v (120) (j)) := hd hr20
          have HB20 := hd (HB19.out.kp hk20 (fun q => by have q' : w.heap.size = g := q; omega))
          have HC20 := hd (HC19.out.kp hk20 (fun q => by have q' : w.heap.size + 1 = g := q; omega))
          have HK20 := hd (HK19.out.trans hk20)
          clear hk20
          have c1_20 := HR20.out.c1
          have c3_20 := HR20.out.c3
          have b2_20 := HB20.out.c 2 rfl
          have b3_20 := HB20.out.c 3 rfl
          have b7_20 := HB20.out.c 7 rfl
          have b8_20 := HB20.out.c 8 rfl
          have f3_20 := HB20.out.f 3
          have f7_20 := HB20.out.f 7
          have f8_20 := HB20.out.f 8
          go_wp2_with (fail)
          refine (must_err g s (j) v (120) (j) _ _ HR20.out (by omega) (by omega) (by omega) hl).mono ?_
          rintro e w21 ⟨rfl, j21, hj21, hi21, hr21, hk21⟩
          clear c1_20 c3_20 b2_20 b3_20 b7_20 b8_20 f3_20 f7_20 f8_20
          have HR21 : Hid (RB w21 g s (j21) v (120) (j)) := hd hr21
          have HB21 := hd (HB20.out.kp hk21 (fun q => by have q' : w.heap.size = g := q; omega))
          have HC21 := hd (HC20.out.kp hk21 (fun q => by have q' : w.heap.size + 1 = g := q; omega))
          have HK21 := hd (HK20.out.trans hk21)
          clear hk21
          have c1_21 := HR21.out.c1
          have c3_21 := HR21.out.c3
          have b2_21 := HB21.out.c 2 rfl
          have b3_21 := HB21.out.c 3 rfl
          have b7_21 := HB21.out.c 7 rfl
          have b8_21 := HB21.out.c 8 rfl
          have f3_21 := HB21.out.f 3
          have f7_21 := HB21.out.f 7
          have f8_21 := HB21.out.f 8
          go_wp2_with (fail)
          refine (ronly_err g s (j21) v (120) (j) _ HR21.out (by omega)).mono ?_
          rintro e w22 ⟨y, rfl, hr22, hk22⟩
          clear c1_21 c3_21 b2_21 b3_21 b7_21 b8_21 f3_21 f7_21 f8_21
          have HR22 : Hid (RB w22 g s (j21) v (120) (j)) := hd hr22
          have HB22 := hd (HB21.out.kp hk22 (fun q => q))
          have HC22 := hd (HC21.out.kp hk22 (fun q => q))
          have HK22 := hd (HK21.out.no hk22)
          clear hk22
          have c1_22 := HR22.out.c1
          have c3_22 := HR22.out.c3
          have b2_22 := HB22.out.c 2 rfl
          have b3_22 := HB22.out.c 3 rfl
          have b7_22 := HB22.out.c 7 rfl
          have b8_22 := HB22.out.c 8 rfl
          have f3_22 := HB22.out.f 3
          have f7_22 := HB22.out.f 7
          have f8_22 := HB22.out.f 8
          have x0 := HB22.out.c 0 rfl
          have x1 := HB22.out.c 1 rfl
          have x2 := HB22.out.c 2 rfl
          have x3 := HB22.out.c 3 rfl
          have x4 := HB22.out.c 4 rfl
          have x5 := HB22.out.c 5 rfl
          have x6 := HB22.out.c 6 rfl
          have x7 := HB22.out.c 7 rfl
          have x8 := HB22.out.c 8 rfl
          have d0 := HC22.out.c 0 rfl
          have d1 := HC22.out.c 1 rfl
          have d2 := HC22.out.c 2 rfl
          have d3 := HC22.out.c 3 rfl
          have d4 := HC22.out.c 4 rfl
          have d5 := HC22.out.c 5 rfl
          have d6 := HC22.out.c 6 rfl
          have d7 := HC22.out.c 7 rfl
          have d8 := HC22.out.c 8 rfl
          have g0 := HC22.out.f 0
          have g1 := HC22.out.f 1
          have g2 := HC22.out.f 2
          have g3 := HC22.out.f 3
          have g4 := HC22.out.f 4
          have g5 := HC22.out.f 5
          have g6 := HC22.out.f 6
          have g7 := HC22.out.f 7
          have g8 := HC22.out.f 8
          go_wp2
          refine bodyPost_ret (res_rRuled _ _ (w.heap.size + 1) ⟨nd, 9, nde, y, ni, [], nf, wd, ndn⟩ (.slice none 0 0) rfl (Blk.cast ((((((((((HC22.out.far (p := ⟨w.heap.size, 3, none⟩) hne _).set 0 _).set 1 _).set 2 _).set 3 _).set 4 _).set 5 _).set 6 _).set 7 _).set 8 _) (by kernel_rfl))) rfl ?_
          exact IEnd.mk_ HR22.out hA HK22.out (.inr ⟨j, HRR.out.symm.trans hfin.out, rfl, rfl⟩) (by omega) (by omega) (by repeat (first | (with_reducible exact Kp.refl _ _) | (with_reducible refine Kp.setCell ?_ (fun _ => by simp) _))) (AnyR.nil _ _ _)
        | true =>
          cases q61 : isB s (j + 1) 61 with
          | false =>
            have hfin := hd (show extB s ⟨nd, 9, nde, nv, ni, [], nf, nr, ndn⟩ (i) (j) wd = .bad (j + 1) by unfold extB; rw [if_neg z0, if_neg (fun q => q te), if_neg (by rw [dn]; simp), if_neg (by rw [q58]; simp), if_pos q61])
            have hlt := (isB_true q58).1
            have TE := hd te
            have DN := hd dn
            have Q := hd q58
            have Q2 := hd q61
            clear te dn q58 q61
            go_wp2_with (fail)
            refine (r4type_any wd _ hwl).mono ?_
            rintro e w23 ⟨y0, rfl, hk23⟩
            clear c1_2 c3_2 b2_2 b3_2 b7_2 b8_2 f3_2 f7_2 f8_2
            have HR23 : Hid (RB w23 g s (j) v (0) (pl)) := hd (HR2.out.kp hk23 (fun q => q))
            have HB23 := hd (HB2.out.kp hk23 (fun q => q))
            have HC23 := hd (HC2.out.kp hk23 (fun q => q))
            have HK23 := hd (HK2.out.no hk23)
            clear hk23
            have c1_23 := HR23.out.c1
            have c3_23 := HR23.out.c3
            have b2_23 := HB23.out.c 2 rfl
            have b3_23 := HB23.out.c 3 rfl
            have b7_23 := HB23.out.c 7 rfl
            have b8_23 := HB23.out.c 8 rfl
            have f3_23 := HB23.out.f 3
            have f7_23 := HB23.out.f 7
            have f8_23 := HB23.out.f 8
            rw [TE.out]
            go_wp2_with (fail)
            refine (rfold_any wd _ (by omega)).mono ?_
            rintro e w24 ⟨rfl, hk24⟩
            clear c1_23 c3_23 b2_23 b3_23 b7_23 b8_23 f3_23 f7_23 f8_23
            have HR24 : Hid (RB w24 g s (j) v (0) (pl)) := hd (HR23.out.kp hk24 (fun q => q))
            have HB24 := hd (HB23.out.kp hk24 (fun q => q))
            have HC24 := hd (HC23.out.kp hk24 (fun q => q))
            have HK24 := hd (HK23.out.no hk24)
            clear hk24
            have c1_24 := HR24.out.c1
            have c3_24 := HR24.out.c3
            have b2_24 := HB24.out.c 2 rfl
            have b3_24 := HB24.out.c 3 rfl
            have b7_24 := HB24.out.c 7 rfl
            have b8_24 := HB24.out.c 8 rfl
            have f3_24 := HB24.out.f 3
            have f7_24 := HB24.out.f 7
            have f8_24 := HB24.out.f 8
            have DN' : ((foldS wd).toList == [100, 110]) = false := DN.out
            obtain ⟨w25, hw25⟩ : ∃ x, (w24).setCell ⟨w.heap.size, 7, none⟩ (.string wd) = x := ⟨_, rfl⟩
            have HR25 : Hid (RB w25 g s (j) v (0) (pl)) := hd (by rw [← hw25]; exact HR24.out.kp ((Kp.refl (One w.heap.size) _).setOne 7 _) (fun q => by have q' : g = w.heap.size := q; omega))
            have HB25 : Hid (Blk w25 w.heap.size #[.int .i64 nd, .int .i64 9, .string nde, .string nv, .string ni, .slice none 0 0, .string nf, .string wd, .bool ndn] 49) := hd (by rw [← hw25]; exact Blk.cast (HB24.out.set 7 _) (by kernel_rfl))
            have HC25 := hd (show Blk w25 (w.heap.size + 1) _ 49 by rw [← hw25]; exact HC24.out.far (p := ⟨w.heap.size, 7, none⟩) hne _)
            have HK25 := hd (show Kp (One g) w w25 by rw [← hw25]; exact HK24.out.setCell (p := ⟨w.heap.size, 7, none⟩) (fun q => absurd q (Nat.lt_irrefl _)) _)
            have HW25 := hd hw25
            clear hw25
            go_wp2_with (fail)
            rw [HW25.out]
            refine (must_yes g s (j) v 0 pl 58 _ HR25.out (by omega) hl Q.out).mono ?_
            rintro e w26 ⟨rfl, hr26, hk26⟩
            clear c1_24 c3_24 b2_24 b3_24 b7_24 b8_24 f3_24 f7_24 f8_24
            have HR26 : Hid (RB w26 g s (j + 1) v (0) (pl)) := hd hr26
            have HB26 := hd (HB25.out.kp hk26 (fun q => by have q' : w.heap.size = g := q; omega))
            have HC26 := hd (HC25.out.kp hk26 (fun q => by have q' : w.heap.size + 1 = g := q; omega))
            have HK26 := hd (HK25.out.trans hk26)
            clear hk26
            have c1_26 := HR26.out.c1
            have c3_26 := HR26.out.c3
            have b2_26 := HB26.out.c 2 rfl
            have b3_26 := HB26.out.c 3 rfl
            have b7_26 := HB26.out.c 7 rfl
            have b8_26 := HB26.out.c 8 rfl
            have f3_26 := HB26.out.f 3
            have f7_26 := HB26.out.f 7
            have f8_26 := HB26.out.f 8
            go_wp2_with (fail)
            refine (must_new g s (j + 1) v pl 61 _ HR26.out (by omega) Q2.out).mono ?_
            rintro e w27 ⟨rfl, hr27, hk27⟩
            clear c1_26 c3_26 b2_26 b3_26 b7_26 b8_26 f3_26 f7_26 f8_26
            have HR27 : Hid (RB w27 g s (j + 1) v (120) (j + 1)) := hd hr27
            have HB27 := hd (HB26.out.kp hk27 (fun q => by have q' : w.heap.size = g := q; omega))
            have HC27 := hd (HC26.out.kp hk27 (fun q => by have q' : w.heap.size + 1 = g := q; omega))
            have HK27 := hd (HK26.out.trans hk27)
            clear hk27
            have c1_27 := HR27.out.c1
            have c3_27 := HR27.out.c3
            have b2_27 := HB27.out.c 2 rfl
            have b3_27 := HB27.out.c 3 rfl
            have b7_27 := HB27.out.c 7 rfl
            have b8_27 := HB27.out.c 8 rfl
            have f3_27 := HB27.out.f 3
            have f7_27 := HB27.out.f 7
            have f8_27 := HB27.out.f 8
            go_wp2_with (fail)
            refine (ronly_err g s (j + 1) v (120) (j + 1) _ HR27.out (by omega)).mono ?_
            rintro e w28 ⟨y, rfl, hr28, hk28⟩
            clear c1_27 c3_27 b2_27 b3_27 b7_27 b8_27 f3_27 f7_27 f8_27
            have HR28 : Hid (RB w28 g s (j + 1) v (120) (j + 1)) := hd hr28
            have HB28 := hd (HB27.out.kp hk28 (fun q => q))
            have HC28 := hd (HC27.out.kp hk28 (fun q => q))
            have HK28 := hd (HK27.out.no hk28)
            clear hk28
            have c1_28 := HR28.out.c1
            have c3_28 := HR28.out.c3
            have b2_28 := HB28.out.c 2 rfl
            have b3_28 := HB28.out.c 3 rfl
            have b7_28 := HB28.out.c 7 rfl
            have b8_28 := HB28.out.c 8 rfl
            have f3_28 := HB28.out.f 3
            have f7_28 := HB28.out.f 7
            have f8_28 := HB28.out.f 8
            have x0 := HB28.out.c 0 rfl
            have x1 := HB28.out.c 1 rfl
            have x2 := HB28.out.c 2 rfl
            have x3 := HB28.out.c 3 rfl
            have x4 := HB28.out.c 4 rfl
            have x5 := HB28.out.c 5 rfl
            have x6 := HB28.out.c 6 rfl
            have x7 := HB28.out.c 7 rfl
            have x8 := HB28.out.c 8 rfl
            have d0 := HC28.out.c 0 rfl
            have d1 := HC28.out.c 1 rfl
            have d2 := HC28.out.c 2 rfl
            have d3 := HC28.out.c 3 rfl
            have d4 := HC28.out.c 4 rfl
            have d5 := HC28.out.c 5 rfl
            have d6 := HC28.out.c 6 rfl
            have d7 := HC28.out.c 7 rfl
            have d8 := HC28.out.c 8 rfl
            have g0 := HC28.out.f 0
            have g1 := HC28.out.f 1
            have g2 := HC28.out.f 2
            have g3 := HC28.out.f 3
            have g4 := HC28.out.f 4
            have g5 := HC28.out.f 5
            have g6 := HC28.out.f 6
            have g7 := HC28.out.f 7
            have g8 := HC28.out.f 8
            go_wp2
            refine bodyPost_ret (res_rRuled _ _ (w.heap.size + 1) ⟨nd, 9, nde, y, ni, [], nf, wd, ndn⟩ (.slice none 0 0) rfl (Blk.cast ((((((((((HC28.out.far (p := ⟨w.heap.size, 3, none⟩) hne _).set 0 _).set 1 _).set 2 _).set 3 _).set 4 _).set 5 _).set 6 _).set 7 _).set 8 _) (by kernel_rfl))) rfl ?_
            exact IEnd.mk_ HR28.out hA HK28.out (.inr ⟨j + 1, HRR.out.symm.trans hfin.out, rfl, rfl⟩) (by omega) (by omega) (by repeat (first | (with_reducible exact Kp.refl _ _) | (with_reducible refine Kp.setCell ?_ (fun _ => by simp) _))) (AnyR.nil _ _ _)
          | true =>
            have hfin := hd (show extB s ⟨nd, 9, nde, nv, ni, [], nf, nr, ndn⟩ (i) (j) wd = withVal ⟨nd, 9, nde, nv, ni, [], nf, wd, ndn⟩ (vals s false (s.size + 1) (j + 2) false [] []) by unfold extB; rw [if_neg z0, if_neg (fun q => q te), if_neg (by rw [dn]; simp), if_neg (by rw [q58]; simp), if_neg (by rw [q61]; simp)])
            have hlt := (isB_true q61).1
            have TE := hd te
            have DN := hd dn
            have Q := hd q58
            have Q2 := hd q61
            clear te dn q58 q61
            go_wp2_with (fail)
            refine (r4type_any wd _ hwl).mono ?_
            rintro e w29 ⟨y0, rfl, hk29⟩
            clear c1_2 c3_2 b2_2 b3_2 b7_2 b8_2 f3_2 f7_2 f8_2
            have HR29 : Hid (RB w29 g s (j) v (0) (pl)) := hd (HR2.out.kp hk29 (fun q => q))
            have HB29 := hd (HB2.out.kp hk29 (fun q => q))
            have HC29 := hd (HC2.out.kp hk29 (fun q => q))
            have HK29 := hd (HK2.out.no hk29)
            clear hk29
            have c1_29 := HR29.out.c1
            have c3_29 := HR29.out.c3
            have b2_29 := HB29.out.c 2 rfl
            have b3_29 := HB29.out.c 3 rfl
            have b7_29 := HB29.out.c 7 rfl
            have b8_29 := HB29.out.c 8 rfl
            have f3_29 := HB29.out.f 3
            have f7_29 := HB29.out.f 7
            have f8_29 := HB29.out.f 8
            rw [TE.out]
            go_wp2_with (fail)
            refine (rfold_any wd _ (by omega)).mono ?_
            rintro e w30 ⟨rfl, hk30⟩
            clear c1_29 c3_29 b2_29 b3_29 b7_29 b8_29 f3_29 f7_29 f8_29
            have HR30 : Hid (RB w30 g s (j) v (0) (pl)) := hd (HR29.out.kp hk30 (fun q => q))
            have HB30 := hd (HB29.out.kp hk30 (fun q => q))
            have HC30 := hd (HC29.out.kp hk30 (fun q => q))
            have HK30 := hd (HK29.out.no hk30)
            clear hk30
            have c1_30 := HR30.out.c1
            have c3_30 := HR30.out.c3
            have b2_30 := HB30.out.c 2 rfl
            have b3_30 := HB30.out.c 3 rfl
            have b7_30 := HB30.out.c 7 rfl
            have b8_30 := HB30.out.c 8 rfl
            have f3_30 := HB30.out.f 3
            have f7_30 := HB30.out.f 7
            have f8_30 := HB30.out.f 8
            have DN' : ((foldS wd).toList == [100, 110]) = false := DN.out
            obtain ⟨w31, hw31⟩ : ∃ x, (w30).setCell ⟨w.heap.size, 7, none⟩ (.string wd) = x := ⟨_, rfl⟩
            have HR31 : Hid (RB w31 g s (j) v (0) (pl)) := hd (by rw [← hw31]; exact HR30.out.kp ((Kp.refl (One w.heap.size) _).setOne 7 _) (fun q => by have q' : g = w.heap.size := q; omega))
            have HB31 : Hid (Blk w31 w.heap.size #[.int .i64 nd, .int .i64 9, .string nde, .string nv, .string ni, .slice none 0 0, .string nf, .string wd, .bool ndn] 49) := hd (by rw [← hw31]; exact Blk.cast (HB30.out.set 7 _) (by kernel_rfl))
            have HC31 := hd (show Blk w31 (w.heap.size + 1) _ 49 by rw [← hw31]; exact HC30.out.far (p := ⟨w.heap.size, 7, none⟩) hne _)
            have HK31 := hd (show Kp (One g) w w31 by rw [← hw31]; exact HK30.out.setCell (p := ⟨w.heap.size, 7, none⟩) (fun q => absurd q (Nat.lt_irrefl _)) _)
            have HW31 := hd hw31
            clear hw31
            go_wp2_with (fail)
            rw [HW31.out]
            refine (must_yes g s (j) v 0 pl 58 _ HR31.out (by omega) hl Q.out).mono ?_
            rintro e w32 ⟨rfl, hr32, hk32⟩
            clear c1_30 c3_30 b2_30 b3_30 b7_30 b8_30 f3_30 f7_30 f8_30
            have HR32 : Hid (RB w32 g s (j + 1) v (0) (pl)) := hd hr32
            have HB32 := hd (HB31.out.kp hk32 (fun q => by have q' : w.heap.size = g := q; omega))
            have HC32 := hd (HC31.out.kp hk32 (fun q => by have q' : w.heap.size + 1 = g := q; omega))
            have HK32 := hd (HK31.out.trans hk32)
            clear hk32
            have c1_32 := HR32.out.c1
            have c3_32 := HR32.out.c3
            have b2_32 := HB32.out.c 2 rfl
            have b3_32 := HB32.out.c 3 rfl
            have b7_32 := HB32.out.c 7 rfl
            have b8_32 := HB32.out.c 8 rfl
            have f3_32 := HB32.out.f 3
            have f7_32 := HB32.out.f 7
            have f8_32 := HB32.out.f 8
            go_wp2_with (fail)
            refine (must_yes g s (j + 1) v 0 pl 61 _ HR32.out (by omega) hl Q2.out).mono ?_
            rintro e w33 ⟨rfl, hr33, hk33⟩
            clear c1_32 c3_32 b2_32 b3_32 b7_32 b8_32 f3_32 f7_32 f8_32
            have HR33 : Hid (RB w33 g s (j + 2) v (0) (pl)) := hd (show _ from by rw [show j + 2 = j + 1 + 1 from by omega]; exact hr33)
            have HB33 := hd (HB32.out.kp hk33 (fun q => by have q' : w.heap.size = g := q; omega))
            have HC33 := hd (HC32.out.kp hk33 (fun q => by have q' : w.heap.size + 1 = g := q; omega))
            have HK33 := hd (HK32.out.trans hk33)
            clear hk33
            have c1_33 := HR33.out.c1
            have c3_33 := HR33.out.c3
            have b2_33 := HB33.out.c 2 rfl
            have b3_33 := HB33.out.c 3 rfl
            have b7_33 := HB33.out.c 7 rfl
            have b8_33 := HB33.out.c 8 rfl
            have f3_33 := HB33.out.f 3
            have f7_33 := HB33.out.f 7
            have f8_33 := HB33.out.f 8
            go_wp2_with (fail)
            refine (ronly_any g s (j + 2) v pl _ HR33.out (HT.out.kp HK33.out (fun q => hg q)) hg (by omega) (by omega) hl).mono ?_
            rintro e w34 hq34
            obtain ⟨y, jn, ern, pln, rfl, hr34, hk34, hjn, hin, ho⟩ := OEnd.out ⟨nd, 9, nde, nv, ni, [], nf, wd, ndn⟩ hq34
            clear hq34
            clear c1_33 c3_33 b2_33 b3_33 b7_33 b8_33 f3_33 f7_33 f8_33
            have HR34 : Hid (RB w34 g s (jn) v (ern) (pln)) := hd hr34
            have HB34 := hd (HB33.out.kp hk34 (fun q => by have q' : w.heap.size = g := q; omega))
            have HC34 := hd (HC33.out.kp hk34 (fun q => by have q' : w.heap.size + 1 = g := q; omega))
            have HK34 := hd (HK33.out.trans hk34)
            have HO := hd ho
            clear hk34 ho
            have c1_34 := HR34.out.c1
            have c3_34 := HR34.out.c3
            have b2_34 := HB34.out.c 2 rfl
            have b3_34 := HB34.out.c 3 rfl
            have b7_34 := HB34.out.c 7 rfl
            have b8_34 := HB34.out.c 8 rfl
            have f3_34 := HB34.out.f 3
            have f7_34 := HB34.out.f 7
            have f8_34 := HB34.out.f 8
            have x0 := HB34.out.c 0 rfl
            have x1 := HB34.out.c 1 rfl
            have x2 := HB34.out.c 2 rfl
            have x3 := HB34.out.c 3 rfl
            have x4 := HB34.out.c 4 rfl
            have x5 := HB34.out.c 5 rfl
            have x6 := HB34.out.c 6 rfl
            have x7 := HB34.out.c 7 rfl
            have x8 := HB34.out.c 8 rfl
            have d0 := HC34.out.c 0 rfl
            have d1 := HC34.out.c 1 rfl
            have d2 := HC34.out.c 2 rfl
            have d3 := HC34.out.c 3 rfl
            have d4 := HC34.out.c 4 rfl
            have d5 := HC34.out.c 5 rfl
            have d6 := HC34.out.c 6 rfl
            have d7 := HC34.out.c 7 rfl
            have d8 := HC34.out.c 8 rfl
            have g0 := HC34.out.f 0
            have g1 := HC34.out.f 1
            have g2 := HC34.out.f 2
            have g3 := HC34.out.f 3
            have g4 := HC34.out.f 4
            have g5 := HC34.out.f 5
            have g6 := HC34.out.f 6
            have g7 := HC34.out.f 7
            have g8 := HC34.out.f 8
            go_wp2
            refine bodyPost_ret (res_rRuled _ _ (w.heap.size + 1) ⟨nd, 9, nde, y, ni, [], nf, wd, ndn⟩ (.slice none 0 0) rfl (Blk.cast ((((((((((HC34.out.far (p := ⟨w.heap.size, 3, none⟩) hne _).set 0 _).set 1 _).set 2 _).set 3 _).set 4 _).set 5 _).set 6 _).set 7 _).set 8 _) (by kernel_rfl))) rfl ?_
            exact IEnd.mk_ HR34.out hA HK34.out (by rw [HRR.out.symm.trans hfin.out]; exact HO.out) (by omega) (by omega) (by repeat (first | (with_reducible exact Kp.refl _ _) | (with_reducible refine Kp.setCell ?_ (fun _ => by simp) _))) (AnyR.nil _ _ _)
    · have hfin := hd (show extB s ⟨nd, 9, nde, nv, ni, [], nf, nr, ndn⟩ (i) (j) wd = .bad (i + typeP wd) by unfold extB; rw [if_neg z0, if_pos te])
      have te40 : typeE wd = 40 := by unfold typeE at te ⊢; split at te <;> first | (exact absurd rfl te) | (rename_i q; rw [if_neg q])
      have TE := hd te40
      clear te te40
      have hTP := typeP_le wd hwl
      cases dn : isDn wd with
      | true =>
        exact absurd (dn.symm.trans HDN.out) (by simp)
      | false =>
        have DN := hd dn
        clear dn
        go_wp2_with (fail)
        refine (r4type_any wd _ hwl).mono ?_
        rintro e w35 ⟨y0, rfl, hk35⟩
        clear c1_2 c3_2 b2_2 b3_2 b7_2 b8_2 f3_2 f7_2 f8_2
        have HR35 : Hid (RB w35 g s (j) v (0) (pl)) := hd (HR2.out.kp hk35 (fun q => q))
        have HB35 := hd (HB2.out.kp hk35 (fun q => q))
        have HC35 := hd (HC2.out.kp hk35 (fun q => q))
        have HK35 := hd (HK2.out.no hk35)
        clear hk35
        have c1_35 := HR35.out.c1
        have c3_35 := HR35.out.c3
        have b2_35 := HB35.out.c 2 rfl
        have b3_35 := HB35.out.c 3 rfl
        have b7_35 := HB35.out.c 7 rfl
        have b8_35 := HB35.out.c 8 rfl
        have f3_35 := HB35.out.f 3
        have f7_35 := HB35.out.f 7
        have f8_35 := HB35.out.f 8
        rw [TE.out]
        go_wp2_with (fail)
        refine (stop_new g s (j) v pl 120 (i + typeP wd) _ HR35.out).mono ?_
        rintro e w36 ⟨rfl, hr36, hk36⟩
        clear c1_35 c3_35 b2_35 b3_35 b7_35 b8_35 f3_35 f7_35 f8_35
        have HR36 : Hid (RB w36 g s (j) v (120) (i + typeP wd)) := hd hr36
        have HB36 := hd (HB35.out.kp hk36 (fun q => by have q' : w.heap.size = g := q; omega))
        have HC36 := hd (HC35.out.kp hk36 (fun q => by have q' : w.heap.size + 1 = g := q; omega))
        have HK36 := hd (HK35.out.trans hk36)
        clear hk36
        have c1_36 := HR36.out.c1
        have c3_36 := HR36.out.c3
        have b2_36 := HB36.out.c 2 rfl
        have b3_36 := HB36.out.c 3 rfl
        have b7_36 := HB36.out.c 7 rfl
        have b8_36 := HB36.out.c 8 rfl
        have f3_36 := HB36.out.f 3
        have f7_36 := HB36.out.f 7
        have f8_36 := HB36.out.f 8
        go_wp2_with (fail)
        refine (rfold_any wd _ (by omega)).mono ?_
        rintro e w37 ⟨rfl, hk37⟩
        clear c1_36 c3_36 b2_36 b3_36 b7_36 b8_36 f3_36 f7_36 f8_36
        have HR37 : Hid (RB w37 g s (j) v (120) (i + typeP wd)) := hd (HR36.out.kp hk37 (fun q => q))
        have HB37 := hd (HB36.out.kp hk37 (fun q => q))
        have HC37 := hd (HC36.out.kp hk37 (fun q => q))
        have HK37 := hd (HK36.out.no hk37)
        clear hk37
        have c1_37 := HR37.out.c1
        have c3_37 := HR37.out.c3
        have b2_37 := HB37.out.c 2 rfl
        have b3_37 := HB37.out.c 3 rfl
        have b7_37 := HB37.out.c 7 rfl
        have b8_37 := HB37.out.c 8 rfl
        have f3_37 := HB37.out.f 3
        have f7_37 := HB37.out.f 7
        have f8_37 := HB37.out.f 8
        have DN' : ((foldS wd).toList == [100, 110]) = false := DN.out
        obtain ⟨w38, hw38⟩ : ∃ x, (w37).setCell ⟨w.heap.size, 7, none⟩ (.string wd) = x := ⟨_, rfl⟩
        have HR38 : Hid (RB w38 g s (j) v (120) (i + typeP wd)) := hd (by rw [← hw38]; exact HR37.out.kp ((Kp.refl (One w.heap.size) _).setOne 7 _) (fun q => by have q' : g = w.heap.size := q; omega))
        have HB38 : Hid (Blk w38 w.heap.size #[.int .i64 nd, .int .i64 9, .string nde, .string nv, .string ni, .slice none 0 0, .string nf, .string wd, .bool ndn] 49) := hd (by rw [← hw38]; exact Blk.cast (HB37.out.set 7 _) (by kernel_rfl))
        have HC38 := hd (show Blk w38 (w.heap.size + 1) _ 49 by rw [← hw38]; exact HC37.out.far (p := ⟨w.heap.size, 7, none⟩) hne _)
        have HK38 := hd (show Kp (One g) w w38 by rw [← hw38]; exact HK37.out.setCell (p := ⟨w.heap.size, 7, none⟩) (fun q => absurd q (Nat.lt_irrefl _)) _)
        have HW38 := hd hw38
        clear hw38
        go_wp2_with (fail)
        rw [HW38.out]
        refine (must_err g s (j) v (120) (i + typeP wd) _ _ HR38.out (by omega) (by omega) (by omega) hl).mono ?_
        rintro e w39 ⟨rfl, j39, hj39, hi39, hr39, hk39⟩
        clear c1_37 c3_37 b2_37 b3_37 b7_37 b8_37 f3_37 f7_37 f8_37
        have HR39 : Hid (RB w39 g s (j39) v (120) (i + typeP wd)) := hd hr39
        have HB39 := hd (HB38.out.kp hk39 (fun q => by have q' : w.heap.size = g := q; omega))
        have HC39 := hd (HC38.out.kp hk39 (fun q => by have q' : w.heap.size + 1 = g := q; omega))
        have HK39 := hd (HK38.out.trans hk39)
        clear hk39
        have c1_39 := HR39.out.c1
        have c3_39 := HR39.out.c3
        have b2_39 := HB39.out.c 2 rfl
        have b3_39 := HB39.out.c 3 rfl
        have b7_39 := HB39.out.c 7 rfl
        have b8_39 := HB39.out.c 8 rfl
        have f3_39 := HB39.out.f 3
        have f7_39 := HB39.out.f 7
        have f8_39 := HB39.out.f 8
        go_wp2_with (fail)
        refine (must_err g s (j39) v (120) (i + typeP wd) _ _ HR39.out (by omega) (by omega) (by omega) hl).mono ?_
        rintro e w40 ⟨rfl, j40, hj40, hi40, hr40, hk40⟩
        clear c1_39 c3_39 b2_39 b3_39 b7_39 b8_39 f3_39 f7_39 f8_39
        have HR40 : Hid (RB w40 g s (j40) v (120) (i + typeP wd)) := hd hr40
        have HB40 := hd (HB39.out.kp hk40 (fun q => by have q' : w.heap.size = g := q; omega))
        have HC40 := hd (HC39.out.kp hk40 (fun q => by have q' : w.heap.size + 1 = g := q; omega))
        have HK40 := hd (HK39.out.trans hk40)
        clear hk40
        have c1_40 := HR40.out.c1
        have c3_40 := HR40.out.c3
        have b2_40 := HB40.out.c 2 rfl
        have b3_40 := HB40.out.c 3 rfl
        have b7_40 := HB40.out.c 7 rfl
        have b8_40 := HB40.out.c 8 rfl
        have f3_40 := HB40.out.f 3
        have f7_40 := HB40.out.f 7
        have f8_40 := HB40.out.f 8
        go_wp2_with (fail)
        refine (ronly_err g s (j40) v (120) (i + typeP wd) _ HR40.out (by omega)).mono ?_
        rintro e w41 ⟨y, rfl, hr41, hk41⟩
        clear c1_40 c3_40 b2_40 b3_40 b7_40 b8_40 f3_40 f7_40 f8_40
        have HR41 : Hid (RB w41 g s (j40) v (120) (i + typeP wd)) := hd hr41
        have HB41 := hd (HB40.out.kp hk41 (fun q => q))
        have HC41 := hd (HC40.out.kp hk41 (fun q => q))
        have HK41 := hd (HK40.out.no hk41)
        clear hk41
        have c1_41 := HR41.out.c1
        have c3_41 := HR41.out.c3
        have b2_41 := HB41.out.c 2 rfl
        have b3_41 := HB41.out.c 3 rfl
        have b7_41 := HB41.out.c 7 rfl
        have b8_41 := HB41.out.c 8 rfl
        have f3_41 := HB41.out.f 3
        have f7_41 := HB41.out.f 7
        have f8_41 := HB41.out.f 8
        have x0 := HB41.out.c 0 rfl
        have x1 := HB41.out.c 1 rfl
        have x2 := HB41.out.c 2 rfl
        have x3 := HB41.out.c 3 rfl
        have x4 := HB41.out.c 4 rfl
        have x5 := HB41.out.c 5 rfl
        have x6 := HB41.out.c 6 rfl
        have x7 := HB41.out.c 7 rfl
        have x8 := HB41.out.c 8 rfl
        have d0 := HC41.out.c 0 rfl
        have d1 := HC41.out.c 1 rfl
        have d2 := HC41.out.c 2 rfl
        have d3 := HC41.out.c 3 rfl
        have d4 := HC41.out.c 4 rfl
        have d5 := HC41.out.c 5 rfl
        have d6 := HC41.out.c 6 rfl
        have d7 := HC41.out.c 7 rfl
        have d8 := HC41.out.c 8 rfl
        have g0 := HC41.out.f 0
        have g1 := HC41.out.f 1
        have g2 := HC41.out.f 2
        have g3 := HC41.out.f 3
        have g4 := HC41.out.f 4
        have g5 := HC41.out.f 5
        have g6 := HC41.out.f 6
        have g7 := HC41.out.f 7
        have g8 := HC41.out.f 8
        go_wp2
        refine bodyPost_ret (res_rRuled _ _ (w.heap.size + 1) ⟨nd, 9, nde, y, ni, [], nf, wd, ndn⟩ (.slice none 0 0) rfl (Blk.cast ((((((((((HC41.out.far (p := ⟨w.heap.size, 3, none⟩) hne _).set 0 _).set 1 _).set 2 _).set 3 _).set 4 _).set 5 _).set 6 _).set 7 _).set 8 _) (by kernel_rfl))) rfl ?_
        exact IEnd.mk_ HR41.out hA HK41.out (.inr ⟨i + typeP wd, HRR.out.symm.trans hfin.out, rfl, rfl⟩) (by omega) (by omega) (by repeat (first | (with_reducible exact Kp.refl _ _) | (with_reducible refine Kp.setCell ?_ (fun _ => by simp) _))) (AnyR.nil _ _ _)

set_option maxHeartbeats 16000000 in
set_option maxRecDepth 100000 in
theorem rruled_dn (g : Nat) (s : ByteArray) (i : Int) (v : Value) (pl : Int) (nd no : Int) (nde nv ni nf nr : ByteArray) (ndn : Bool) (w : World) (hp : RB w g s i v 0 pl) (hT : RowsAt w) (hg : 0 ≠ g) (h0 : 0 ≤ i) (h1 : i ≤ (s.size : Int)) (hl2 : s.size + 2 ≤ LIM)
    (hdn : isDn (s.extract i.toNat (rowEnd s false (s.size + 1) i).toNat) = true) :
    Calls Tryd.prog 22 #[.pointer (some ⟨g, 0, none⟩), .agg (Nd.cells ⟨nd, no, nde, nv, ni, [], nf, nr, ndn⟩ (.slice none 0 0))] w fun e w' => IEnd w w' g s v pl i (extA s ⟨nd, no, nde, nv, ni, [], nf, nr, ndn⟩ i) e := by
  have hl : s.size ≤ LIM := by omega
  obtain ⟨R, hR⟩ : ∃ R, extA s ⟨nd, no, nde, nv, ni, [], nf, nr, ndn⟩ i = R := ⟨_, rfl⟩
  rw [hR]
  have hrow := hd (fun W (hp : RB W g s i v 0 pl) => rrow_any g s i v 0 pl false W hp h0 h1 hl)
  have hj0 := rowEnd_ge s false (s.size + 1) i
  have hj1 := rowEnd_le s false (s.size + 1) i h1
  unfold extA at hR
  simp only at hR
  obtain ⟨j, hj⟩ : ∃ j, rowEnd s false (s.size + 1) i = j := ⟨_, rfl⟩
  rw [hj] at hrow hj0 hj1 hR hdn
  have hwl0 : (s.extract i.toNat j.toNat).size ≤ s.size ∧ (i + ((s.extract i.toNat j.toNat).size : Int) ≤ j) := by rw [ByteArray.size_extract]; omega
  obtain ⟨wd, hwd⟩ : ∃ wd, s.extract i.toNat j.toNat = wd := ⟨_, rfl⟩
  rw [hwd] at hrow hR hdn hwl0
  clear hj hwd
  have hwl : wd.size + 2 ≤ LIM := by omega
  have hA := hp.lt
  have hne : w.heap.size + 1 ≠ w.heap.size := by omega
  have HT := hd hT
  have hLL : LIM ≤ 4194304 := Nat.le_refl _
  clear hT
  rw [if_pos hdn] at hR
  have HDN : Hid (((foldS wd).toList == [100, 110]) = true) := hd hdn
  clear hdn
  unfold Nd.cells
  have c1p := hp.c1
  go_enter Tryd.func22, Tryd.ntmps22
  go_wp2_with (fail)
  obtain ⟨w0, hw0⟩ : ∃ x, (w.alloc (.cells #[.int .i64 nd, .int .i64 9, .string nde, .string nv, .string ni, .slice none 0 0, .string nf, .string nr, .bool ndn] 49)).alloc (.cells #[.int .i64 0, .int .i64 0, .string ⟨#[]⟩, .string ⟨#[]⟩, .string ⟨#[]⟩, .slice none 0 0, .string ⟨#[]⟩, .string ⟨#[]⟩, .bool false] 49) = x := ⟨_, rfl⟩
  have HW0 := hd hw0
  have HR0 : Hid (RB w0 g s i v 0 pl) := hd (by rw [← hw0]; exact (hp.alloc _).alloc _)
  have HB0 : Hid (Blk w0 w.heap.size #[.int .i64 nd, .int .i64 9, .string nde, .string nv, .string ni, .slice none 0 0, .string nf, .string nr, .bool ndn] 49) := hd (by rw [← hw0]; exact (Blk.new w _ 49).alloc _)
  have HC0 := hd (show Blk w0 (w.heap.size + 1) #[.int .i64 0, .int .i64 0, .string ⟨#[]⟩, .string ⟨#[]⟩, .string ⟨#[]⟩, .slice none 0 0, .string ⟨#[]⟩, .string ⟨#[]⟩, .bool false] 49 by rw [← hw0]; exact Blk.new2 w _ _ 49)
  have HK0 := hd (show Kp (One g) w w0 by rw [← hw0]; exact ((Kp.refl _ _).alloc _).alloc _)
  clear hw0 c1p
  rw [HW0.out]
  refine (hrow.out _ HR0.out).mono ?_
  rintro e w1 ⟨rfl, hr1, hk1⟩
  have HR1 : Hid (RB w1 g s (j) v (0) (pl)) := hd hr1
  have HB1 := hd (HB0.out.kp hk1 (fun q => by have q' : w.heap.size = g := q; omega))
  have HC1 := hd (HC0.out.kp hk1 (fun q => by have q' : w.heap.size + 1 = g := q; omega))
  have HK1 := hd (HK0.out.trans hk1)
  clear hk1
  have c1_1 := HR1.out.c1
  have c3_1 := HR1.out.c3
  have b2_1 := HB1.out.c 2 rfl
  have b3_1 := HB1.out.c 3 rfl
  have b7_1 := HB1.out.c 7 rfl
  have b8_1 := HB1.out.c 8 rfl
  have f3_1 := HB1.out.f 3
  have f7_1 := HB1.out.f 7
  have f8_1 := HB1.out.f 8
  go_wp2_with (fail)
  refine (rfold_any wd _ (by omega)).mono ?_
  rintro e w2 ⟨rfl, hk2⟩
  clear c1_1 c3_1 b2_1 b3_1 b7_1 b8_1 f3_1 f7_1 f8_1
  have HR2 : Hid (RB w2 g s (j) v (0) (pl)) := hd (HR1.out.kp hk2 (fun q => q))
  have HB2 := hd (HB1.out.kp hk2 (fun q => q))
  have HC2 := hd (HC1.out.kp hk2 (fun q => q))
  have HK2 := hd (HK1.out.no hk2)
  clear hk2
  have c1_2 := HR2.out.c1
  have c3_2 := HR2.out.c3
  have b2_2 := HB2.out.c 2 rfl
  have b3_2 := HB2.out.c 3 rfl
  have b7_2 := HB2.out.c 7 rfl
  have b8_2 := HB2.out.c 8 rfl
  have f3_2 := HB2.out.f 3
  have f7_2 := HB2.out.f 7
  have f8_2 := HB2.out.f 8
  have hdn' := HDN.out
  cases q58 : isB s j 58 with
  | false =>
    rw [if_pos q58] at hR
    have HRR := hd hR
    have Q := hd q58
    clear hR q58
    obtain ⟨w3, hw3⟩ : ∃ x, (w2).setCell ⟨w.heap.size, 8, none⟩ (.bool true) = x := ⟨_, rfl⟩
    have HR3 : Hid (RB w3 g s (j) v (0) (pl)) := hd (by rw [← hw3]; exact HR2.out.kp ((Kp.refl (One w.heap.size) _).setOne 8 _) (fun q => by have q' : g = w.heap.size := q; omega))
    have HB3 : Hid (Blk w3 w.heap.size #[.int .i64 nd, .int .i64 9, .string nde, .string nv, .string ni, .slice none 0 0, .string nf, .string nr, .bool true] 49) := hd (by rw [← hw3]; exact Blk.cast (HB2.out.set 8 _) (by kernel_rfl))
    have HC3 := hd (show Blk w3 (w.heap.size + 1) _ 49 by rw [← hw3]; exact HC2.out.far (p := ⟨w.heap.size, 8, none⟩) hne _)
    have HK3 := hd (show Kp (One g) w w3 by rw [← hw3]; exact HK2.out.setCell (p := ⟨w.heap.size, 8, none⟩) (fun q => absurd q (Nat.lt_irrefl _)) _)
    have HW3 := hd hw3
    clear hw3
    go_wp2_with (fail)
    rw [HW3.out]
    refine (must_new g s (j) v pl 58 _ HR3.out (by omega) Q.out).mono ?_
    rintro e w4 ⟨rfl, hr4, hk4⟩
    clear c1_2 c3_2 b2_2 b3_2 b7_2 b8_2 f3_2 f7_2 f8_2
    have HR4 : Hid (RB w4 g s (j) v (120) (j)) := hd hr4
    have HB4 := hd (HB3.out.kp hk4 (fun q => by have q' : w.heap.size = g := q; omega))
    have HC4 := hd (HC3.out.kp hk4 (fun q => by have q' : w.heap.size + 1 = g := q; omega))
    have HK4 := hd (HK3.out.trans hk4)
    clear hk4
    have c1_4 := HR4.out.c1
    have c3_4 := HR4.out.c3
    have b2_4 := HB4.out.c 2 rfl
    have b3_4 := HB4.out.c 3 rfl
    have b7_4 := HB4.out.c 7 rfl
    have b8_4 := HB4.out.c 8 rfl
    have f3_4 := HB4.out.f 3
    have f7_4 := HB4.out.f 7
    have f8_4 := HB4.out.f 8
    go_wp2_with (fail)
    refine (rrow_any g s (j) v 120 j false _ HR4.out (by omega) (by omega) hl).mono ?_
    rintro e w5 ⟨rfl, hr5, hk5⟩
    clear c1_4 c3_4 b2_4 b3_4 b7_4 b8_4 f3_4 f7_4 f8_4
    have HR5 : Hid (RB w5 g s (rowEnd s false (s.size + 1) j) v (120) (j)) := hd hr5
    have HB5 := hd (HB4.out.kp hk5 (fun q => by have q' : w.heap.size = g := q; omega))
    have HC5 := hd (HC4.out.kp hk5 (fun q => by have q' : w.heap.size + 1 = g := q; omega))
    have HK5 := hd (HK4.out.trans hk5)
    clear hk5
    have c1_5 := HR5.out.c1
    have c3_5 := HR5.out.c3
    have b2_5 := HB5.out.c 2 rfl
    have b3_5 := HB5.out.c 3 rfl
    have b7_5 := HB5.out.c 7 rfl
    have b8_5 := HB5.out.c 8 rfl
    have f3_5 := HB5.out.f 3
    have f7_5 := HB5.out.f 7
    have f8_5 := HB5.out.f 8
    have hj9 := rowEnd_ge s false (s.size + 1) j
    have hi9 := rowEnd_le s false (s.size + 1) j (by omega)
    have x0 := HB5.out.c 0 rfl
    have x1 := HB5.out.c 1 rfl
    have x2 := HB5.out.c 2 rfl
    have x3 := HB5.out.c 3 rfl
    have x4 := HB5.out.c 4 rfl
    have x5 := HB5.out.c 5 rfl
    have x6 := HB5.out.c 6 rfl
    have x7 := HB5.out.c 7 rfl
    have x8 := HB5.out.c 8 rfl
    have d0 := HC5.out.c 0 rfl
    have d1 := HC5.out.c 1 rfl
    have d2 := HC5.out.c 2 rfl
    have d3 := HC5.out.c 3 rfl
    have d4 := HC5.out.c 4 rfl
    have d5 := HC5.out.c 5 rfl
    have d6 := HC5.out.c 6 rfl
    have d7 := HC5.out.c 7 rfl
    have d8 := HC5.out.c 8 rfl
    have g0 := HC5.out.f 0
    have g1 := HC5.out.f 1
    have g2 := HC5.out.f 2
    have g3 := HC5.out.f 3
    have g4 := HC5.out.f 4
    have g5 := HC5.out.f 5
    have g6 := HC5.out.f 6
    have g7 := HC5.out.f 7
    have g8 := HC5.out.f 8
    go_wp2
    refine bodyPost_ret (res_rRuled _ _ (w.heap.size + 1) ⟨nd, 9, nde, nv, ni, [], nf, nr, true⟩ (.slice none 0 0) rfl (Blk.cast (((((((((HC5.out.set 0 _).set 1 _).set 2 _).set 3 _).set 4 _).set 5 _).set 6 _).set 7 _).set 8 _) (by kernel_rfl))) rfl ?_
    exact IEnd.mk_ HR5.out hA HK5.out (.inr ⟨j, HRR.out.symm, rfl, rfl⟩) (by omega) (by omega) (by repeat (first | (with_reducible exact Kp.refl _ _) | (with_reducible refine Kp.setCell ?_ (fun _ => by simp) _))) (AnyR.nil _ _ _)
  | true =>
    rw [if_neg (by rw [q58]; simp)] at hR
    have hlt58 := (isB_true q58).1
    have Q := hd q58
    clear q58
    have hrow2 := hd (fun W (hp : RB W g s (j + 1) v 0 pl) => rrow_any g s (j + 1) v 0 pl false W hp (by omega) (by omega) hl)
    have hj20 := rowEnd_ge s false (s.size + 1) (j + 1)
    have hj21 := rowEnd_le s false (s.size + 1) (j + 1) (by omega)
    obtain ⟨jj, hjj⟩ : ∃ jj, rowEnd s false (s.size + 1) (j + 1) = jj := ⟨_, rfl⟩
    rw [hjj] at hrow2 hj20 hj21 hR
    have hwl0' : (s.extract (j + 1).toNat jj.toNat).size ≤ s.size ∧ (j + 1 + ((s.extract (j + 1).toNat jj.toNat).size : Int) ≤ jj) := by rw [ByteArray.size_extract]; omega
    obtain ⟨wd2, hwd2⟩ : ∃ wd2, s.extract (j + 1).toNat jj.toNat = wd2 := ⟨_, rfl⟩
    rw [hwd2] at hrow2 hR hwl0'
    clear hjj hwd2 hwl
    have hwl : wd2.size + 2 ≤ LIM := by omega
    have HRR := hd hR
    clear hR
    obtain ⟨w6, hw6⟩ : ∃ x, (w2).setCell ⟨w.heap.size, 8, none⟩ (.bool true) = x := ⟨_, rfl⟩
    have HR6 : Hid (RB w6 g s (j) v (0) (pl)) := hd (by rw [← hw6]; exact HR2.out.kp ((Kp.refl (One w.heap.size) _).setOne 8 _) (fun q => by have q' : g = w.heap.size := q; omega))
    have HB6 : Hid (Blk w6 w.heap.size #[.int .i64 nd, .int .i64 9, .string nde, .string nv, .string ni, .slice none 0 0, .string nf, .string nr, .bool true] 49) := hd (by rw [← hw6]; exact Blk.cast (HB2.out.set 8 _) (by kernel_rfl))
    have HC6 := hd (show Blk w6 (w.heap.size + 1) _ 49 by rw [← hw6]; exact HC2.out.far (p := ⟨w.heap.size, 8, none⟩) hne _)
    have HK6 := hd (show Kp (One g) w w6 by rw [← hw6]; exact HK2.out.setCell (p := ⟨w.heap.size, 8, none⟩) (fun q => absurd q (Nat.lt_irrefl _)) _)
    have HW6 := hd hw6
    clear hw6
    go_wp2_with (fail)
    rw [HW6.out]
    refine (must_yes g s (j) v 0 pl 58 _ HR6.out (by omega) hl Q.out).mono ?_
    rintro e w7 ⟨rfl, hr7, hk7⟩
    clear c1_2 c3_2 b2_2 b3_2 b7_2 b8_2 f3_2 f7_2 f8_2
    have HR7 : Hid (RB w7 g s (j + 1) v (0) (pl)) := hd hr7
    have HB7 := hd (HB6.out.kp hk7 (fun q => by have q' : w.heap.size = g := q; omega))
    have HC7 := hd (HC6.out.kp hk7 (fun q => by have q' : w.heap.size + 1 = g := q; omega))
    have HK7 := hd (HK6.out.trans hk7)
    clear hk7
    have c1_7 := HR7.out.c1
    have c3_7 := HR7.out.c3
    have b2_7 := HB7.out.c 2 rfl
    have b3_7 := HB7.out.c 3 rfl
    have b7_7 := HB7.out.c 7 rfl
    have b8_7 := HB7.out.c 8 rfl
    have f3_7 := HB7.out.f 3
    have f7_7 := HB7.out.f 7
    have f8_7 := HB7.out.f 8
    go_wp2_with (fail)
    refine (hrow2.out _ HR7.out).mono ?_
    rintro e w8 ⟨rfl, hr8, hk8⟩
    clear c1_7 c3_7 b2_7 b3_7 b7_7 b8_7 f3_7 f7_7 f8_7
    have HR8 : Hid (RB w8 g s (jj) v (0) (pl)) := hd hr8
    have HB8 := hd (HB7.out.kp hk8 (fun q => by have q' : w.heap.size = g := q; omega))
    have HC8 := hd (HC7.out.kp hk8 (fun q => by have q' : w.heap.size + 1 = g := q; omega))
    have HK8 := hd (HK7.out.trans hk8)
    clear hk8
    have c1_8 := HR8.out.c1
    have c3_8 := HR8.out.c3
    have b2_8 := HB8.out.c 2 rfl
    have b3_8 := HB8.out.c 3 rfl
    have b7_8 := HB8.out.c 7 rfl
    have b8_8 := HB8.out.c 8 rfl
    have f3_8 := HB8.out.f 3
    have f7_8 := HB8.out.f 7
    have f8_8 := HB8.out.f 8
    have hE := empty_iff wd2
    by_cases z0 : wd2.size = 0
    · have zw : wd2.toList.isEmpty = true := by rw [hE]; simp [z0]
      clear hE
      have hD := empty_iff nde
      by_cases z1 : nde.size = 0
      · have zd : nde.toList.isEmpty = true := by rw [hD]; simp [z1]
        clear hD
        have hfin := hd (show extB s ⟨nd, 9, nde, nv, ni, [], nf, nr, true⟩ (j + 1) (jj) wd2 = .bad (jj) by unfold extB; rw [if_pos z0, if_pos z1])
        go_wp2_with (fail)
        refine (stop_new g s (jj) v pl 120 (jj) _ HR8.out).mono ?_
        rintro e w9 ⟨rfl, hr9, hk9⟩
        clear c1_8 c3_8 b2_8 b3_8 b7_8 b8_8 f3_8 f7_8 f8_8
        have HR9 : Hid (RB w9 g s (jj) v (120) (jj)) := hd hr9
        have HB9 := hd (HB8.out.kp hk9 (fun q => by have q' : w.heap.size = g := q; omega))
        have HC9 := hd (HC8.out.kp hk9 (fun q => by have q' : w.heap.size + 1 = g := q; omega))
        have HK9 := hd (HK8.out.trans hk9)
        clear hk9
        have c1_9 := HR9.out.c1
        have c3_9 := HR9.out.c3
        have b2_9 := HB9.out.c 2 rfl
        have b3_9 := HB9.out.c 3 rfl
        have b7_9 := HB9.out.c 7 rfl
        have b8_9 := HB9.out.c 8 rfl
        have f3_9 := HB9.out.f 3
        have f7_9 := HB9.out.f 7
        have f8_9 := HB9.out.f 8
        go_wp2_with (fail)
        refine (must_err g s (jj) v (120) (jj) _ _ HR9.out (by omega) (by omega) (by omega) hl).mono ?_
        rintro e w10 ⟨rfl, j10, hj10, hi10, hr10, hk10⟩
        clear c1_9 c3_9 b2_9 b3_9 b7_9 b8_9 f3_9 f7_9 f8_9
        have HR10 : Hid (RB w10 g s (j10) v (120) (jj)) := hd hr10
        have HB10 := hd (HB9.out.kp hk10 (fun q => by have q' : w.heap.size = g := q; omega))
        have HC10 := hd (HC9.out.kp hk10 (fun q => by have q' : w.heap.size + 1 = g := q; omega))
        have HK10 := hd (HK9.out.trans hk10)
        clear hk10
        have c1_10 := HR10.out.c1
        have c3_10 := HR10.out.c3
        have b2_10 := HB10.out.c 2 rfl
        have b3_10 := HB10.out.c 3 rfl
        have b7_10 := HB10.out.c 7 rfl
        have b8_10 := HB10.out.c 8 rfl
        have f3_10 := HB10.out.f 3
        have f7_10 := HB10.out.f 7
        have f8_10 := HB10.out.f 8
        go_wp2_with (fail)
        refine (ronly_err g s (j10) v (120) (jj) _ HR10.out (by omega)).mono ?_
        rintro e w11 ⟨y, rfl, hr11, hk11⟩
        clear c1_10 c3_10 b2_10 b3_10 b7_10 b8_10 f3_10 f7_10 f8_10
        have HR11 : Hid (RB w11 g s (j10) v (120) (jj)) := hd hr11
        have HB11 := hd (HB10.out.kp hk11 (fun q => q))
        have HC11 := hd (HC10.out.kp hk11 (fun q => q))
        have HK11 := hd (HK10.out.no hk11)
        clear hk11
        have c1_11 := HR11.out.c1
        have c3_11 := HR11.out.c3
        have b2_11 := HB11.out.c 2 rfl
        have b3_11 := HB11.out.c 3 rfl
        have b7_11 := HB11.out.c 7 rfl
        have b8_11 := HB11.out.c 8 rfl
        have f3_11 := HB11.out.f 3
        have f7_11 := HB11.out.f 7
        have f8_11 := HB11.out.f 8
        have x0 := HB11.out.c 0 rfl
        have x1 := HB11.out.c 1 rfl
        have x2 := HB11.out.c 2 rfl
        have x3 := HB11.out.c 3 rfl
        have x4 := HB11.out.c 4 rfl
        have x5 := HB11.out.c 5 rfl
        have x6 := HB11.out.c 6 rfl
        have x7 := HB11.out.c 7 rfl
        have x8 := HB11.out.c 8 rfl
        have d0 := HC11.out.c 0 rfl
        have d1 := HC11.out.c 1 rfl
        have d2 := HC11.out.c 2 rfl
        have d3 := HC11.out.c 3 rfl
        have d4 := HC11.out.c 4 rfl
        have d5 := HC11.out.c 5 rfl
        have d6 := HC11.out.c 6 rfl
        have d7 := HC11.out.c 7 rfl
        have d8 := HC11.out.c 8 rfl
        have g0 := HC11.out.f 0
        have g1 := HC11.out.f 1
        have g2 := HC11.out.f 2
        have g3 := HC11.out.f 3
        have g4 := HC11.out.f 4
        have g5 := HC11.out.f 5
        have g6 := HC11.out.f 6
        have g7 := HC11.out.f 7
        have g8 := HC11.out.f 8
        go_wp2
        refine bodyPost_ret (res_rRuled _ _ (w.heap.size + 1) ⟨nd, 9, nde, y, ni, [], nf, nr, true⟩ (.slice none 0 0) rfl (Blk.cast ((((((((((HC11.out.far (p := ⟨w.heap.size, 3, none⟩) hne _).set 0 _).set 1 _).set 2 _).set 3 _).set 4 _).set 5 _).set 6 _).set 7 _).set 8 _) (by kernel_rfl))) rfl ?_
        exact IEnd.mk_ HR11.out hA HK11.out (.inr ⟨jj, HRR.out.symm.trans hfin.out, rfl, rfl⟩) (by omega) (by omega) (by repeat (first | (with_reducible exact Kp.refl _ _) | (with_reducible refine Kp.setCell ?_ (fun _ => by simp) _))) (AnyR.nil _ _ _)
      · have zd : nde.toList.isEmpty = false := by rw [hD]; simp [z1]
        clear hD
        cases q61 : isB s (jj) 61 with
        | false =>
          have hfin := hd (show extB s ⟨nd, 9, nde, nv, ni, [], nf, nr, true⟩ (j + 1) (jj) wd2 = .bad (jj) by unfold extB; rw [if_pos z0, if_neg z1, if_pos q61])
          have Q := hd q61
          clear q61
          go_wp2_with (fail)
          refine (must_new g s (jj) v pl 61 _ HR8.out (by omega) Q.out).mono ?_
          rintro e w12 ⟨rfl, hr12, hk12⟩
          clear c1_8 c3_8 b2_8 b3_8 b7_8 b8_8 f3_8 f7_8 f8_8
          have HR12 : Hid (RB w12 g s (jj) v (120) (jj)) := hd hr12
          have HB12 := hd (HB8.out.kp hk12 (fun q => by have q' : w.heap.size = g := q; omega))
          have HC12 := hd (HC8.out.kp hk12 (fun q => by have q' : w.heap.size + 1 = g := q; omega))
          have HK12 := hd (HK8.out.trans hk12)
          clear hk12
          have c1_12 := HR12.out.c1
          have c3_12 := HR12.out.c3
          have b2_12 := HB12.out.c 2 rfl
          have b3_12 := HB12.out.c 3 rfl
          have b7_12 := HB12.out.c 7 rfl
          have b8_12 := HB12.out.c 8 rfl
          have f3_12 := HB12.out.f 3
          have f7_12 := HB12.out.f 7
          have f8_12 := HB12.out.f 8
          go_wp2_with (fail)
          refine (ronly_err g s (jj) v (120) (jj) _ HR12.out (by omega)).mono ?_
          rintro e w13 ⟨y, rfl, hr13, hk13⟩
          clear c1_12 c3_12 b2_12 b3_12 b7_12 b8_12 f3_12 f7_12 f8_12
          have HR13 : Hid (RB w13 g s (jj) v (120) (jj)) := hd hr13
          have HB13 := hd (HB12.out.kp hk13 (fun q => q))
          have HC13 := hd (HC12.out.kp hk13 (fun q => q))
          have HK13 := hd (HK12.out.no hk13)
          clear hk13
          have c1_13 := HR13.out.c1
          have c3_13 := HR13.out.c3
          have b2_13 := HB13.out.c 2 rfl
          have b3_13 := HB13.out.c 3 rfl
          have b7_13 := HB13.out.c 7 rfl
          have b8_13 := HB13.out.c 8 rfl
          have f3_13 := HB13.out.f 3
          have f7_13 := HB13.out.f 7
          have f8_13 := HB13.out.f 8
          have x0 := HB13.out.c 0 rfl
          have x1 := HB13.out.c 1 rfl
          have x2 := HB13.out.c 2 rfl
          have x3 := HB13.out.c 3 rfl
          have x4 := HB13.out.c 4 rfl
          have x5 := HB13.out.c 5 rfl
          have x6 := HB13.out.c 6 rfl
          have x7 := HB13.out.c 7 rfl
          have x8 := HB13.out.c 8 rfl
          have d0 := HC13.out.c 0 rfl
          have d1 := HC13.out.c 1 rfl
          have d2 := HC13.out.c 2 rfl
          have d3 := HC13.out.c 3 rfl
          have d4 := HC13.out.c 4 rfl
          have d5 := HC13.out.c 5 rfl
          have d6 := HC13.out.c 6 rfl
          have d7 := HC13.out.c 7 rfl
          have d8 := HC13.out.c 8 rfl
          have g0 := HC13.out.f 0
          have g1 := HC13.out.f 1
          have g2 := HC13.out.f 2
          have g3 := HC13.out.f 3
          have g4 := HC13.out.f 4
          have g5 := HC13.out.f 5
          have g6 := HC13.out.f 6
          have g7 := HC13.out.f 7
          have g8 := HC13.out.f 8
          go_wp2
          refine bodyPost_ret (res_rRuled _ _ (w.heap.size + 1) ⟨nd, 9, nde, y, ni, [], nf, nr, true⟩ (.slice none 0 0) rfl (Blk.cast ((((((((((HC13.out.far (p := ⟨w.heap.size, 3, none⟩) hne _).set 0 _).set 1 _).set 2 _).set 3 _).set 4 _).set 5 _).set 6 _).set 7 _).set 8 _) (by kernel_rfl))) rfl ?_
          exact IEnd.mk_ HR13.out hA HK13.out (.inr ⟨jj, HRR.out.symm.trans hfin.out, rfl, rfl⟩) (by omega) (by omega) (by repeat (first | (with_reducible exact Kp.refl _ _) | (with_reducible refine Kp.setCell ?_ (fun _ => by simp) _))) (AnyR.nil _ _ _)
        | true =>
          have hfin := hd (show extB s ⟨nd, 9, nde, nv, ni, [], nf, nr, true⟩ (j + 1) (jj) wd2 = withVal ⟨nd, 9, nde, nv, ni, [], nf, nr, true⟩ (vals s false (s.size + 1) (jj + 1) false [] []) by unfold extB; rw [if_pos z0, if_neg z1, if_neg (by rw [q61]; simp)])
          have hlt := (isB_true q61).1
          have Q := hd q61
          clear q61
          go_wp2_with (fail)
          refine (must_yes g s (jj) v 0 pl 61 _ HR8.out (by omega) hl Q.out).mono ?_
          rintro e w14 ⟨rfl, hr14, hk14⟩
          clear c1_8 c3_8 b2_8 b3_8 b7_8 b8_8 f3_8 f7_8 f8_8
          have HR14 : Hid (RB w14 g s (jj + 1) v (0) (pl)) := hd hr14
          have HB14 := hd (HB8.out.kp hk14 (fun q => by have q' : w.heap.size = g := q; omega))
          have HC14 := hd (HC8.out.kp hk14 (fun q => by have q' : w.heap.size + 1 = g := q; omega))
          have HK14 := hd (HK8.out.trans hk14)
          clear hk14
          have c1_14 := HR14.out.c1
          have c3_14 := HR14.out.c3
          have b2_14 := HB14.out.c 2 rfl
          have b3_14 := HB14.out.c 3 rfl
          have b7_14 := HB14.out.c 7 rfl
          have b8_14 := HB14.out.c 8 rfl
          have f3_14 := HB14.out.f 3
          have f7_14 := HB14.out.f 7
          have f8_14 := HB14.out.f 8
          go_wp2_with (fail)
          refine (ronly_any g s (jj + 1) v pl _ HR14.out (HT.out.kp HK14.out (fun q => hg q)) hg (by omega) (by omega) hl).mono ?_
          rintro e w15 hq15
          obtain ⟨y, jn, ern, pln, rfl, hr15, hk15, hjn, hin, ho⟩ := OEnd.out ⟨nd, 9, nde, nv, ni, [], nf, nr, true⟩ hq15
          clear hq15
          clear c1_14 c3_14 b2_14 b3_14 b7_14 b8_14 f3_14 f7_14 f8_14
          have HR15 : Hid (RB w15 g s (jn) v (ern) (pln)) := hd hr15
          have HB15 := hd (HB14.out.kp hk15 (fun q => by have q' : w.heap.size = g := q; omega))
          have HC15 := hd (HC14.out.kp hk15 (fun q => by have q' : w.heap.size + 1 = g := q; omega))
          have HK15 := hd (HK14.out.trans hk15)
          have HO := hd ho
          clear hk15 ho
          have c1_15 := HR15.out.c1
          have c3_15 := HR15.out.c3
          have b2_15 := HB15.out.c 2 rfl
          have b3_15 := HB15.out.c 3 rfl
          have b7_15 := HB15.out.c 7 rfl
          have b8_15 := HB15.out.c 8 rfl
          have f3_15 := HB15.out.f 3
          have f7_15 := HB15.out.f 7
          have f8_15 := HB15.out.f 8
          have x0 := HB15.out.c 0 rfl
          have x1 := HB15.out.c 1 rfl
          have x2 := HB15.out.c 2 rfl
          have x3 := HB15.out.c 3 rfl
          have x4 := HB15.out.c 4 rfl
          have x5 := HB15.out.c 5 rfl
          have x6 := HB15.out.c 6 rfl
          have x7 := HB15.out.c 7 rfl
          have x8 := HB15.out.c 8 rfl
          have d0 := HC15.out.c 0 rfl
          have d1 := HC15.out.c 1 rfl
          have d2 := HC15.out.c 2 rfl
          have d3 := HC15.out.c 3 rfl
          have d4 := HC15.out.c 4 rfl
          have d5 := HC15.out.c 5 rfl
          have d6 := HC15.out.c 6 rfl
          have d7 := HC15.out.c 7 rfl
          have d8 := HC15.out.c 8 rfl
          have g0 := HC15.out.f 0
          have g1 := HC15.out.f 1
          have g2 := HC15.out.f 2
          have g3 := HC15.out.f 3
          have g4 := HC15.out.f 4
          have g5 := HC15.out.f 5
          have g6 := HC15.out.f 6
          have g7 := HC15.out.f 7
          have g8 := HC15.out.f 8
          go_wp2
          refine bodyPost_ret (res_rRuled _ _ (w.heap.size + 1) ⟨nd, 9, nde, y, ni, [], nf, nr, true⟩ (.slice none 0 0) rfl (Blk.cast ((((((((((HC15.out.far (p := ⟨w.heap.size, 3, none⟩) hne _).set 0 _).set 1 _).set 2 _).set 3 _).set 4 _).set 5 _).set 6 _).set 7 _).set 8 _) (by kernel_rfl))) rfl ?_
          exact IEnd.mk_ HR15.out hA HK15.out (by rw [HRR.out.symm.trans hfin.out]; exact HO.out) (by omega) (by omega) (by repeat (first | (with_reducible exact Kp.refl _ _) | (with_reducible refine Kp.setCell ?_ (fun _ => by simp) _))) (AnyR.nil _ _ _)
    · have zw : wd2.toList.isEmpty = false := by rw [hE]; simp [z0]
      clear hE
      by_cases te : typeE wd2 = 0
      · cases dn : isDn wd2 with
        | true =>
          have hfin := hd (show extB s ⟨nd, 9, nde, nv, ni, [], nf, nr, true⟩ (j + 1) (jj) wd2 = .bad (jj) by unfold extB; rw [if_neg z0, if_neg (fun q => q te), if_pos dn])
          have TE := hd te
          have DN := hd dn
          clear te dn
          go_wp2_with (fail)
          refine (r4type_any wd2 _ hwl).mono ?_
          rintro e w16 ⟨y0, rfl, hk16⟩
          clear c1_8 c3_8 b2_8 b3_8 b7_8 b8_8 f3_8 f7_8 f8_8
          have HR16 : Hid (RB w16 g s (jj) v (0) (pl)) := hd (HR8.out.kp hk16 (fun q => q))
          have HB16 := hd (HB8.out.kp hk16 (fun q => q))
          have HC16 := hd (HC8.out.kp hk16 (fun q => q))
          have HK16 := hd (HK8.out.no hk16)
          clear hk16
          have c1_16 := HR16.out.c1
          have c3_16 := HR16.out.c3
          have b2_16 := HB16.out.c 2 rfl
          have b3_16 := HB16.out.c 3 rfl
          have b7_16 := HB16.out.c 7 rfl
          have b8_16 := HB16.out.c 8 rfl
          have f3_16 := HB16.out.f 3
          have f7_16 := HB16.out.f 7
          have f8_16 := HB16.out.f 8
          rw [TE.out]
          go_wp2_with (fail)
          refine (rfold_any wd2 _ (by omega)).mono ?_
          rintro e w17 ⟨rfl, hk17⟩
          clear c1_16 c3_16 b2_16 b3_16 b7_16 b8_16 f3_16 f7_16 f8_16
          have HR17 : Hid (RB w17 g s (jj) v (0) (pl)) := hd (HR16.out.kp hk17 (fun q => q))
          have HB17 := hd (HB16.out.kp hk17 (fun q => q))
          have HC17 := hd (HC16.out.kp hk17 (fun q => q))
          have HK17 := hd (HK16.out.no hk17)
          clear hk17
          have c1_17 := HR17.out.c1
          have c3_17 := HR17.out.c3
          have b2_17 := HB17.out.c 2 rfl
          have b3_17 := HB17.out.c 3 rfl
          have b7_17 := HB17.out.c 7 rfl
          have b8_17 := HB17.out.c 8 rfl
          have f3_17 := HB17.out.f 3
          have f7_17 := HB17.out.f 7
          have f8_17 := HB17.out.f 8
          have DN' : ((foldS wd2).toList == [100, 110]) = true := DN.out
          go_wp2_with (fail)
          refine (stop_new g s (jj) v pl 120 (jj) _ HR17.out).mono ?_
          rintro e w18 ⟨rfl, hr18, hk18⟩
          clear c1_17 c3_17 b2_17 b3_17 b7_17 b8_17 f3_17 f7_17 f8_17
          have HR18 : Hid (RB w18 g s (jj) v (120) (jj)) := hd hr18
          have HB18 := hd (HB17.out.kp hk18 (fun q => by have q' : w.heap.size = g := q; omega))
          have HC18 := hd (HC17.out.kp hk18 (fun q => by have q' : w.heap.size + 1 = g := q; omega))
          have HK18 := hd (HK17.out.trans hk18)
          clear hk18
          have c1_18 := HR18.out.c1
          have c3_18 := HR18.out.c3
          have b2_18 := HB18.out.c 2 rfl
          have b3_18 := HB18.out.c 3 rfl
          have b7_18 := HB18.out.c 7 rfl
          have b8_18 := HB18.out.c 8 rfl
          have f3_18 := HB18.out.f 3
          have f7_18 := HB18.out.f 7
          have f8_18 := HB18.out.f 8
          obtain ⟨w19, hw19⟩ : ∃ x, (w18).setCell ⟨w.heap.size, 7, none⟩ (.string wd2) = x := ⟨_, rfl⟩
          have HR19 : Hid (RB w19 g s (jj) v (120) (jj)) := hd (by rw [← hw19]; exact HR18.out.kp ((Kp.refl (One w.heap.size) _).setOne 7 _) (fun q => by have q' : g = w.heap.size := q; omega))
          have HB19 : Hid (Blk w19 w.heap.size #[.int .i64 nd, .int .i64 9, .string nde, .string nv, .string ni, .slice none 0 0, .string nf, .string wd2, .bool true] 49) := hd (by rw [← hw19]; exact Blk.cast (HB18.out.set 7 _) (by kernel_rfl))
          have HC19 := hd (show Blk w19 (w.heap.size + 1) _ 49 by rw [← hw19]; exact HC18.out.far (p := ⟨w.heap.size, 7, none⟩) hne _)
          have HK19 := hd (show Kp (One g) w w19 by rw [← hw19]; exact HK18.out.setCell (p := ⟨w.heap.size, 7, none⟩) (fun q => absurd q (Nat.lt_irrefl _)) _)
          have HW19 := hd hw19
          clear hw19
          go_wp2_with (fail)
          rw [HW19.out]
          refine (must_err g s (jj) v (120) (jj) _ _ HR19.out (by omega) (by omega) (by omega) hl).mono ?_
          rintro e w20 ⟨rfl, j20, hj20, hi20, hr20, hk20⟩
          clear c1_18 c3_18 b2_18 b3_18 b7_18 b8_18 f3_18 f7_18 f8_18
          have HR20 : Hid (RB w20 g s (j20) v (120) (jj)) := hd hr20
          have HB20 := hd (HB19.out.kp hk20 (fun q => by have q' : w.heap.size = g := q; omega))
          have HC20 := hd (HC19.out.kp hk20 (fun q => by have q' : w.heap.size + 1 = g := q; omega))
          have HK20 := hd (HK19.out.trans hk20)
          clear hk20
          have c1_20 := HR20.out.c1
          have c3_20 := HR20.out.c3
          have b2_20 := HB20.out.c 2 rfl
          have b3_20 := HB20.out.c 3 rfl
          have b7_20 := HB20.out.c 7 rfl
          have b8_20 := HB20.out.c 8 rfl
          have f3_20 := HB20.out.f 3
          have f7_20 := HB20.out.f 7
          have f8_20 := HB20.out.f 8
          go_wp2_with (fail)
          refine (must_err g s (j20) v (120) (jj) _ _ HR20.out (by omega) (by omega) (by omega) hl).mono ?_
          rintro e w21 ⟨rfl, j21, hj21, hi21, hr21, hk21⟩
          clear c1_20 c3_20 b2_20 b3_20 b7_20 b8_20 f3_20 f7_20 f8_20
          have HR21 : Hid (RB w21 g s (j21) v (120) (jj)) := hd hr21
          have HB21 := hd (HB20.out.kp hk21 (fun q => by have q' : w.heap.size = g := q; omega))
          have HC21 := hd (HC20.out.kp hk21 (fun q => by have q' : w.heap.size + 1 = g := q; omega))
          have HK21 := hd (HK20.out.trans hk21)
          clear hk21
          have c1_21 := HR21.out.c1
          have c3_21 := HR21.out.c3
          have b2_21 := HB21.out.c 2 rfl
          have b3_21 := HB21.out.c 3 rfl
          have b7_21 := HB21.out.c 7 rfl
          have b8_21 := HB21.out.c 8 rfl
          have f3_21 := HB21.out.f 3
          have f7_21 := HB21.out.f 7
          have f8_21 := HB21.out.f 8
          go_wp2_with (fail)
          refine (ronly_err g s (j21) v (120) (jj) _ HR21.out (by omega)).mono ?_
          rintro e w22 ⟨y, rfl, hr22, hk22⟩
          clear c1_21 c3_21 b2_21 b3_21 b7_21 b8_21 f3_21 f7_21 f8_21
          have HR22 : Hid (RB w22 g s (j21) v (120) (jj)) := hd hr22
          have HB22 := hd (HB21.out.kp hk22 (fun q => q))
          have HC22 := hd (HC21.out.kp hk22 (fun q => q))
          have HK22 := hd (HK21.out.no hk22)
          clear hk22
          have c1_22 := HR22.out.c1
          have c3_22 := HR22.out.c3
          have b2_22 := HB22.out.c 2 rfl
          have b3_22 := HB22.out.c 3 rfl
          have b7_22 := HB22.out.c 7 rfl
          have b8_22 := HB22.out.c 8 rfl
          have f3_22 := HB22.out.f 3
          have f7_22 := HB22.out.f 7
          have f8_22 := HB22.out.f 8
          have x0 := HB22.out.c 0 rfl
          have x1 := HB22.out.c 1 rfl
          have x2 := HB22.out.c 2 rfl
          have x3 := HB22.out.c 3 rfl
          have x4 := HB22.out.c 4 rfl
          have x5 := HB22.out.c 5 rfl
          have x6 := HB22.out.c 6 rfl
          have x7 := HB22.out.c 7 rfl
          have x8 := HB22.out.c 8 rfl
          have d0 := HC22.out.c 0 rfl
          have d1 := HC22.out.c 1 rfl
          have d2 := HC22.out.c 2 rfl
          have d3 := HC22.out.c 3 rfl
          have d4 := HC22.out.c 4 rfl
          have d5 := HC22.out.c 5 rfl
          have d6 := HC22.out.c 6 rfl
          have d7 := HC22.out.c 7 rfl
          have d8 := HC22.out.c 8 rfl
          have g0 := HC22.out.f 0
          have g1 := HC22.out.f 1
          have g2 := HC22.out.f 2
          have g3 := HC22.out.f 3
          have g4 := HC22.out.f 4
          have g5 := HC22.out.f 5
          have g6 := HC22.out.f 6
          have g7 := HC22.out.f 7
          have g8 := HC22.out.f 8
          go_wp2
          refine bodyPost_ret (res_rRuled _ _ (w.heap.size + 1) ⟨nd, 9, nde, y, ni, [], nf, wd2, true⟩ (.slice none 0 0) rfl (Blk.cast ((((((((((HC22.out.far (p := ⟨w.heap.size, 3, none⟩) hne _).set 0 _).set 1 _).set 2 _).set 3 _).set 4 _).set 5 _).set 6 _).set 7 _).set 8 _) (by kernel_rfl))) rfl ?_
          exact IEnd.mk_ HR22.out hA HK22.out (.inr ⟨jj, HRR.out.symm.trans hfin.out, rfl, rfl⟩) (by omega) (by omega) (by repeat (first | (with_reducible exact Kp.refl _ _) | (with_reducible refine Kp.setCell ?_ (fun _ => by simp) _))) (AnyR.nil _ _ _)
        | false =>
          cases q58 : isB s (jj) 58 with
          | false =>
            have hfin := hd (show extB s ⟨nd, 9, nde, nv, ni, [], nf, nr, true⟩ (j + 1) (jj) wd2 = .bad (jj) by unfold extB; rw [if_neg z0, if_neg (fun q => q te), if_neg (by rw [dn]; simp), if_pos q58])
            have TE := hd te
            have DN := hd dn
            have Q := hd q58
            clear te dn q58
            go_wp2_with (fail)
            refine (r4type_any wd2 _ hwl).mono ?_
            rintro e w23 ⟨y0, rfl, hk23⟩
            clear c1_8 c3_8 b2_8 b3_8 b7_8 b8_8 f3_8 f7_8 f8_8
            have HR23 : Hid (RB w23 g s (jj) v (0) (pl)) := hd (HR8.out.kp hk23 (fun q => q))
            have HB23 := hd (HB8.out.kp hk23 (fun q => q))
            have HC23 := hd (HC8.out.kp hk23 (fun q => q))
            have HK23 := hd (HK8.out.no hk23)
            clear hk23
            have c1_23 := HR23.out.c1
            have c3_23 := HR23.out.c3
            have b2_23 := HB23.out.c 2 rfl
            have b3_23 := HB23.out.c 3 rfl
            have b7_23 := HB23.out.c 7 rfl
            have b8_23 := HB23.out.c 8 rfl
            have f3_23 := HB23.out.f 3
            have f7_23 := HB23.out.f 7
            have f8_23 := HB23.out.f 8
            rw [TE.out]
            go_wp2_with (fail)
            refine (rfold_any wd2 _ (by omega)).mono ?_
            rintro e w24 ⟨rfl, hk24⟩
            clear c1_23 c3_23 b2_23 b3_23 b7_23 b8_23 f3_23 f7_23 f8_23
            have HR24 : Hid (RB w24 g s (jj) v (0) (pl)) := hd (HR23.out.kp hk24 (fun q => q))
            have HB24 := hd (HB23.out.kp hk24 (fun q => q))
            have HC24 := hd (HC23.out.kp hk24 (fun q => q))
            have HK24 := hd (HK23.out.no hk24)
            clear hk24
            have c1_24 := HR24.out.c1
            have c3_24 := HR24.out.c3
            have b2_24 := HB24.out.c 2 rfl
            have b3_24 := HB24.out.c 3 rfl
            have b7_24 := HB24.out.c 7 rfl
            have b8_24 := HB24.out.c 8 rfl
            have f3_24 := HB24.out.f 3
            have f7_24 := HB24.out.f 7
            have f8_24 := HB24.out.f 8
            have DN' : ((foldS wd2).toList == [100, 110]) = false := DN.out
            obtain ⟨w25, hw25⟩ : ∃ x, (w24).setCell ⟨w.heap.size, 7, none⟩ (.string wd2) = x := ⟨_, rfl⟩
            have HR25 : Hid (RB w25 g s (jj) v (0) (pl)) := hd (by rw [← hw25]; exact HR24.out.kp ((Kp.refl (One w.heap.size) _).setOne 7 _) (fun q => by have q' : g = w.heap.size := q; omega))
            have HB25 : Hid (Blk w25 w.heap.size #[.int .i64 nd, .int .i64 9, .string nde, .string nv, .string ni, .slice none 0 0, .string nf, .string wd2, .bool true] 49) := hd (by rw [← hw25]; exact Blk.cast (HB24.out.set 7 _) (by kernel_rfl))
            have HC25 := hd (show Blk w25 (w.heap.size + 1) _ 49 by rw [← hw25]; exact HC24.out.far (p := ⟨w.heap.size, 7, none⟩) hne _)
            have HK25 := hd (show Kp (One g) w w25 by rw [← hw25]; exact HK24.out.setCell (p := ⟨w.heap.size, 7, none⟩) (fun q => absurd q (Nat.lt_irrefl _)) _)
            have HW25 := hd hw25
            clear hw25
            go_wp2_with (fail)
            rw [HW25.out]
            refine (must_new g s (jj) v pl 58 _ HR25.out (by omega) Q.out).mono ?_
            rintro e w26 ⟨rfl, hr26, hk26⟩
            clear c1_24 c3_24 b2_24 b3_24 b7_24 b8_24 f3_24 f7_24 f8_24
            have HR26 : Hid (RB w26 g s (jj) v (120) (jj)) := hd hr26
            have HB26 := hd (HB25.out.kp hk26 (fun q => by have q' : w.heap.size = g := q; omega))
            have HC26 := hd (HC25.out.kp hk26 (fun q => by have q' : w.heap.size + 1 = g := q; omega))
            have HK26 := hd (HK25.out.trans hk26)
            clear hk26
            have c1_26 := HR26.out.c1
            have c3_26 := HR26.out.c3
            have b2_26 := HB26.out.c 2 rfl
            have b3_26 := HB26.out.c 3 rfl
            have b7_26 := HB26.out.c 7 rfl
            have b8_26 := HB26.out.c 8 rfl
            have f3_26 := HB26.out.f 3
            have f7_26 := HB26.out.f 7
            have f8_26 := HB26.out.f 8
            go_wp2_with (fail)
            refine (must_err g s (jj) v (120) (jj) _ _ HR26.out (by omega) (by omega) (by omega) hl).mono ?_
            rintro e w27 ⟨rfl, j27, hj27, hi27, hr27, hk27⟩
            clear c1_26 c3_26 b2_26 b3_26 b7_26 b8_26 f3_26 f7_26 f8_26
            have HR27 : Hid (RB w27 g s (j27) v (120) (jj)) := hd hr27
            have HB27 := hd (HB26.out.kp hk27 (fun q => by have q' : w.heap.size = g := q; omega))
            have HC27 := hd (HC26.out.kp hk27 (fun q => by have q' : w.heap.size + 1 = g := q; omega))
            have HK27 := hd (HK26.out.trans hk27)
            clear hk27
            have c1_27 := HR27.out.c1
            have c3_27 := HR27.out.c3
            have b2_27 := HB27.out.c 2 rfl
            have b3_27 := HB27.out.c 3 rfl
            have b7_27 := HB27.out.c 7 rfl
            have b8_27 := HB27.out.c 8 rfl
            have f3_27 := HB27.out.f 3
            have f7_27 := HB27.out.f 7
            have f8_27 := HB27.out.f 8
            go_wp2_with (fail)
            refine (ronly_err g s (j27) v (120) (jj) _ HR27.out (by omega)).mono ?_
            rintro e w28 ⟨y, rfl, hr28, hk28⟩
            clear c1_27 c3_27 b2_27 b3_27 b7_27 b8_27 f3_27 f7_27 f8_27
            have HR28 : Hid (RB w28 g s (j27) v (120) (jj)) := hd hr28
            have HB28 := hd (HB27.out.kp hk28 (fun q => q))
            have HC28 := hd (HC27.out.kp hk28 (fun q => q))
            have HK28 := hd (HK27.out.no hk28)
            clear hk28
            have c1_28 := HR28.out.c1
            have c3_28 := HR28.out.c3
            have b2_28 := HB28.out.c 2 rfl
            have b3_28 := HB28.out.c 3 rfl
            have b7_28 := HB28.out.c 7 rfl
            have b8_28 := HB28.out.c 8 rfl
            have f3_28 := HB28.out.f 3
            have f7_28 := HB28.out.f 7
            have f8_28 := HB28.out.f 8
            have x0 := HB28.out.c 0 rfl
            have x1 := HB28.out.c 1 rfl
            have x2 := HB28.out.c 2 rfl
            have x3 := HB28.out.c 3 rfl
            have x4 := HB28.out.c 4 rfl
            have x5 := HB28.out.c 5 rfl
            have x6 := HB28.out.c 6 rfl
            have x7 := HB28.out.c 7 rfl
            have x8 := HB28.out.c 8 rfl
            have d0 := HC28.out.c 0 rfl
            have d1 := HC28.out.c 1 rfl
            have d2 := HC28.out.c 2 rfl
            have d3 := HC28.out.c 3 rfl
            have d4 := HC28.out.c 4 rfl
            have d5 := HC28.out.c 5 rfl
            have d6 := HC28.out.c 6 rfl
            have d7 := HC28.out.c 7 rfl
            have d8 := HC28.out.c 8 rfl
            have g0 := HC28.out.f 0
            have g1 := HC28.out.f 1
            have g2 := HC28.out.f 2
            have g3 := HC28.out.f 3
            have g4 := HC28.out.f 4
            have g5 := HC28.out.f 5
            have g6 := HC28.out.f 6
            have g7 := HC28.out.f 7
            have g8 := HC28.out.f 8
            go_wp2
            refine bodyPost_ret (res_rRuled _ _ (w.heap.size + 1) ⟨nd, 9, nde, y, ni, [], nf, wd2, true⟩ (.slice none 0 0) rfl (Blk.cast ((((((((((HC28.out.far (p := ⟨w.heap.size, 3, none⟩) hne _).set 0 _).set 1 _).set 2 _).set 3 _).set 4 _).set 5 _).set 6 _).set 7 _).set 8 _) (by kernel_rfl))) rfl ?_
            exact IEnd.mk_ HR28.out hA HK28.out (.inr ⟨jj, HRR.out.symm.trans hfin.out, rfl, rfl⟩) (by omega) (by omega) (by repeat (first | (with_reducible exact Kp.refl _ _) | (with_reducible refine Kp.setCell ?_ (fun _ => by simp) _))) (AnyR.nil _ _ _)
          | true =>
            cases q61 : isB s (jj + 1) 61 with
            | false =>
              have hfin := hd (show extB s ⟨nd, 9, nde, nv, ni, [], nf, nr, true⟩ (j + 1) (jj) wd2 = .bad (jj + 1) by unfold extB; rw [if_neg z0, if_neg (fun q => q te), if_neg (by rw [dn]; simp), if_neg (by rw [q58]; simp), if_pos q61])
              have hlt := (isB_true q58).1
              have TE := hd te
              have DN := hd dn
              have Q := hd q58
              have Q2 := hd q61
              clear te dn q58 q61
              go_wp2_with (fail)
              refine (r4type_any wd2 _ hwl).mono ?_
              rintro e w29 ⟨y0, rfl, hk29⟩
              clear c1_8 c3_8 b2_8 b3_8 b7_8 b8_8 f3_8 f7_8 f8_8
              have HR29 : Hid (RB w29 g s (jj) v (0) (pl)) := hd (HR8.out.kp hk29 (fun q => q))
              have HB29 := hd (HB8.out.kp hk29 (fun q => q))
              have HC29 := hd (HC8.out.kp hk29 (fun q => q))
              have HK29 := hd (HK8.out.no hk29)
              clear hk29
              have c1_29 := HR29.out.c1
              have c3_29 := HR29.out.c3
              have b2_29 := HB29.out.c 2 rfl
              have b3_29 := HB29.out.c 3 rfl
              have b7_29 := HB29.out.c 7 rfl
              have b8_29 := HB29.out.c 8 rfl
              have f3_29 := HB29.out.f 3
              have f7_29 := HB29.out.f 7
              have f8_29 := HB29.out.f 8
              rw [TE.out]
              go_wp2_with (fail)
              refine (rfold_any wd2 _ (by omega)).mono ?_
              rintro e w30 ⟨rfl, hk30⟩
              clear c1_29 c3_29 b2_29 b3_29 b7_29 b8_29 f3_29 f7_29 f8_29
              have HR30 : Hid (RB w30 g s (jj) v (0) (pl)) := hd (HR29.out.kp hk30 (fun q => q))
              have HB30 := hd (HB29.out.kp hk30 (fun q => q))
              have HC30 := hd (HC29.out.kp hk30 (fun q => q))
              have HK30 := hd (HK29.out.no hk30)
              clear hk30
              have c1_30 := HR30.out.c1
              have c3_30 := HR30.out.c3
              have b2_30 := HB30.out.c 2 rfl
              have b3_30 := HB30.out.c 3 rfl
              have b7_30 := HB30.out.c 7 rfl
              have b8_30 := HB30.out.c 8 rfl
              have f3_30 := HB30.out.f 3
              have f7_30 := HB30.out.f 7
              have f8_30 := HB30.out.f 8
              have DN' : ((foldS wd2).toList == [100, 110]) = false := DN.out
              obtain ⟨w31, hw31⟩ : ∃ x, (w30).setCell ⟨w.heap.size, 7, none⟩ (.string wd2) = x := ⟨_, rfl⟩
              have HR31 : Hid (RB w31 g s (jj) v (0) (pl)) := hd (by rw [← hw31]; exact HR30.out.kp ((Kp.refl (One w.heap.size) _).setOne 7 _) (fun q => by have q' : g = w.heap.size := q; omega))
              have HB31 : Hid (Blk w31 w.heap.size #[.int .i64 nd, .int .i64 9, .string nde, .string nv, .string ni, .slice none 0 0, .string nf, .string wd2, .bool true] 49) := hd (by rw [← hw31]; exact Blk.cast (HB30.out.set 7 _) (by kernel_rfl))
              have HC31 := hd (show Blk w31 (w.heap.size + 1) _ 49 by rw [← hw31]; exact HC30.out.far (p := ⟨w.heap.size, 7, none⟩) hne _)
              have HK31 := hd (show Kp (One g) w w31 by rw [← hw31]; exact HK30.out.setCell (p := ⟨w.heap.size, 7, none⟩) (fun q => absurd q (Nat.lt_irrefl _)) _)
              have HW31 := hd hw31
              clear hw31
              go_wp2_with (fail)
              rw [HW31.out]
              refine (must_yes g s (jj) v 0 pl 58 _ HR31.out (by omega) hl Q.out).mono ?_
              rintro e w32 ⟨rfl, hr32, hk32⟩
              clear c1_30 c3_30 b2_30 b3_30 b7_30 b8_30 f3_30 f7_30 f8_30
              have HR32 : Hid (RB w32 g s (jj + 1) v (0) (pl)) := hd hr32
              have HB32 := hd (HB31.out.kp hk32 (fun q => by have q' : w.heap.size = g := q; omega))
              have HC32 := hd (HC31.out.kp hk32 (fun q => by have q' : w.heap.size + 1 = g := q; omega))
              have HK32 := hd (HK31.out.trans hk32)
              clear hk32
              have c1_32 := HR32.out.c1
              have c3_32 := HR32.out.c3
              have b2_32 := HB32.out.c 2 rfl
              have b3_32 := HB32.out.c 3 rfl
              have b7_32 := HB32.out.c 7 rfl
              have b8_32 := HB32.out.c 8 rfl
              have f3_32 := HB32.out.f 3
              have f7_32 := HB32.out.f 7
              have f8_32 := HB32.out.f 8
              go_wp2_with (fail)
              refine (must_new g s (jj + 1) v pl 61 _ HR32.out (by omega) Q2.out).mono ?_
              rintro e w33 ⟨rfl, hr33, hk33⟩
              clear c1_32 c3_32 b2_32 b3_32 b7_32 b8_32 f3_32 f7_32 f8_32
              have HR33 : Hid (RB w33 g s (jj + 1) v (120) (jj + 1)) := hd hr33
              have HB33 := hd (HB32.out.kp hk33 (fun q => by have q' : w.heap.size = g := q; omega))
              have HC33 := hd (HC32.out.kp hk33 (fun q => by have q' : w.heap.size + 1 = g := q; omega))
              have HK33 := hd (HK32.out.trans hk33)
              clear hk33
              have c1_33 := HR33.out.c1
              have c3_33 := HR33.out.c3
              have b2_33 := HB33.out.c 2 rfl
              have b3_33 := HB33.out.c 3 rfl
              have b7_33 := HB33.out.c 7 rfl
              have b8_33 := HB33.out.c 8 rfl
              have f3_33 := HB33.out.f 3
              have f7_33 := HB33.out.f 7
              have f8_33 := HB33.out.f 8
              go_wp2_with (fail)
              refine (ronly_err g s (jj + 1) v (120) (jj + 1) _ HR33.out (by omega)).mono ?_
              rintro e w34 ⟨y, rfl, hr34, hk34⟩
              clear c1_33 c3_33 b2_33 b3_33 b7_33 b8_33 f3_33 f7_33 f8_33
              have HR34 : Hid (RB w34 g s (jj + 1) v (120) (jj + 1)) := hd hr34
              have HB34 := hd (HB33.out.kp hk34 (fun q => q))
              have HC34 := hd (HC33.out.kp hk34 (fun q => q))
              have HK34 := hd (HK33.out.no hk34)
              clear hk34
              have c1_34 := HR34.out.c1
              have c3_34 := HR34.out.c3
              have b2_34 := HB34.out.c 2 rfl
              have b3_34 := HB34.out.c 3 rfl
              have b7_34 := HB34.out.c 7 rfl
              have b8_34 := HB34.out.c 8 rfl
              have f3_34 := HB34.out.f 3
              have f7_34 := HB34.out.f 7
              have f8_34 := HB34.out.f 8
              have x0 := HB34.out.c 0 rfl
              have x1 := HB34.out.c 1 rfl
              have x2 := HB34.out.c 2 rfl
              have x3 := HB34.out.c 3 rfl
              have x4 := HB34.out.c 4 rfl
              have x5 := HB34.out.c 5 rfl
              have x6 := HB34.out.c 6 rfl
              have x7 := HB34.out.c 7 rfl
              have x8 := HB34.out.c 8 rfl
              have d0 := HC34.out.c 0 rfl
              have d1 := HC34.out.c 1 rfl
              have d2 := HC34.out.c 2 rfl
              have d3 := HC34.out.c 3 rfl
              have d4 := HC34.out.c 4 rfl
              have d5 := HC34.out.c 5 rfl
              have d6 := HC34.out.c 6 rfl
              have d7 := HC34.out.c 7 rfl
              have d8 := HC34.out.c 8 rfl
              have g0 := HC34.out.f 0
              have g1 := HC34.out.f 1
              have g2 := HC34.out.f 2
              have g3 := HC34.out.f 3
              have g4 := HC34.out.f 4
              have g5 := HC34.out.f 5
              have g6 := HC34.out.f 6
              have g7 := HC34.out.f 7
              have g8 := HC34.out.f 8
              go_wp2
              refine bodyPost_ret (res_rRuled _ _ (w.heap.size + 1) ⟨nd, 9, nde, y, ni, [], nf, wd2, true⟩ (.slice none 0 0) rfl (Blk.cast ((((((((((HC34.out.far (p := ⟨w.heap.size, 3, none⟩) hne _).set 0 _).set 1 _).set 2 _).set 3 _).set 4 _).set 5 _).set 6 _).set 7 _).set 8 _) (by kernel_rfl))) rfl ?_
              exact IEnd.mk_ HR34.out hA HK34.out (.inr ⟨jj + 1, HRR.out.symm.trans hfin.out, rfl, rfl⟩) (by omega) (by omega) (by repeat (first | (with_reducible exact Kp.refl _ _) | (with_reducible refine Kp.setCell ?_ (fun _ => by simp) _))) (AnyR.nil _ _ _)
            | true =>
              have hfin := hd (show extB s ⟨nd, 9, nde, nv, ni, [], nf, nr, true⟩ (j + 1) (jj) wd2 = withVal ⟨nd, 9, nde, nv, ni, [], nf, wd2, true⟩ (vals s false (s.size + 1) (jj + 2) false [] []) by unfold extB; rw [if_neg z0, if_neg (fun q => q te), if_neg (by rw [dn]; simp), if_neg (by rw [q58]; simp), if_neg (by rw [q61]; simp)])
              have hlt := (isB_true q61).1
              have TE := hd te
              have DN := hd dn
              have Q := hd q58
              have Q2 := hd q61
              clear te dn q58 q61
              go_wp2_with (fail)
              refine (r4type_any wd2 _ hwl).mono ?_
              rintro e w35 ⟨y0, rfl, hk35⟩
              clear c1_8 c3_8 b2_8 b3_8 b7_8 b8_8 f3_8 f7_8 f8_8
              have HR35 : Hid (RB w35 g s (jj) v (0) (pl)) := hd (HR8.out.kp hk35 (fun q => q))
              have HB35 := hd (HB8.out.kp hk35 (fun q => q))
              have HC35 := hd (HC8.out.kp hk35 (fun q => q))
              have HK35 := hd (HK8.out.no hk35)
              clear hk35
              have c1_35 := HR35.out.c1
              have c3_35 := HR35.out.c3
              have b2_35 := HB35.out.c 2 rfl
              have b3_35 := HB35.out.c 3 rfl
              have b7_35 := HB35.out.c 7 rfl
              have b8_35 := HB35.out.c 8 rfl
              have f3_35 := HB35.out.f 3
              have f7_35 := HB35.out.f 7
              have f8_35 := HB35.out.f 8
              rw [TE.out]
              go_wp2_with (fail)
              refine (rfold_any wd2 _ (by omega)).mono ?_
              rintro e w36 ⟨rfl, hk36⟩
              clear c1_35 c3_35 b2_35 b3_35 b7_35 b8_35 f3_35 f7_35 f8_35
              have HR36 : Hid (RB w36 g s (jj) v (0) (pl)) := hd (HR35.out.kp hk36 (fun q => q))
              have HB36 := hd (HB35.out.kp hk36 (fun q => q))
              have HC36 := hd (HC35.out.kp hk36 (fun q => q))
              have HK36 := hd (HK35.out.no hk36)
              clear hk36
              have c1_36 := HR36.out.c1
              have c3_36 := HR36.out.c3
              have b2_36 := HB36.out.c 2 rfl
              have b3_36 := HB36.out.c 3 rfl
              have b7_36 := HB36.out.c 7 rfl
              have b8_36 := HB36.out.c 8 rfl
              have f3_36 := HB36.out.f 3
              have f7_36 := HB36.out.f 7
              have f8_36 := HB36.out.f 8
              have DN' : ((foldS wd2).toList == [100, 110]) = false := DN.out
              obtain ⟨w37, hw37⟩ : ∃ x, (w36).setCell ⟨w.heap.size, 7, none⟩ (.string wd2) = x := ⟨_, rfl⟩
              have HR37 : Hid (RB w37 g s (jj) v (0) (pl)) := hd (by rw [← hw37]; exact HR36.out.kp ((Kp.refl (One w.heap.size) _).setOne 7 _) (fun q => by have q' : g = w.heap.size := q; omega))
              have HB37 : Hid (Blk w37 w.heap.size #[.int .i64 nd, .int .i64 9, .string nde, .string nv, .string ni, .slice none 0 0, .string nf, .string wd2, .bool true] 49) := hd (by rw [← hw37]; exact Blk.cast (HB36.out.set 7 _) (by kernel_rfl))
              have HC37 := hd (show Blk w37 (w.heap.size + 1) _ 49 by rw [← hw37]; exact HC36.out.far (p := ⟨w.heap.size, 7, none⟩) hne _)
              have HK37 := hd (show Kp (One g) w w37 by rw [← hw37]; exact HK36.out.setCell (p := ⟨w.heap.size, 7, none⟩) (fun q => absurd q (Nat.lt_irrefl _)) _)
              have HW37 := hd hw37
              clear hw37
              go_wp2_with (fail)
              rw [HW37.out]
              refine (must_yes g s (jj) v 0 pl 58 _ HR37.out (by omega) hl Q.out).mono ?_
              rintro e w38 ⟨rfl, hr38, hk38⟩
              clear c1_36 c3_36 b2_36 b3_36 b7_36 b8_36 f3_36 f7_36 f8_36
              have HR38 : Hid (RB w38 g s (jj + 1) v (0) (pl)) := hd hr38
              have HB38 := hd (HB37.out.kp hk38 (fun q => by have q' : w.heap.size = g := q; omega))
              have HC38 := hd (HC37.out.kp hk38 (fun q => by have q' : w.heap.size + 1 = g := q; omega))
              have HK38 := hd (HK37.out.trans hk38)
              clear hk38
              have c1_38 := HR38.out.c1
              have c3_38 := HR38.out.c3
              have b2_38 := HB38.out.c 2 rfl
              have b3_38 := HB38.out.c 3 rfl
              have b7_38 := HB38.out.c 7 rfl
              have b8_38 := HB38.out.c 8 rfl
              have f3_38 := HB38.out.f 3
              have f7_38 := HB38.out.f 7
              have f8_38 := HB38.out.f 8
              go_wp2_with (fail)
              refine (must_yes g s (jj + 1) v 0 pl 61 _ HR38.out (by omega) hl Q2.out).mono ?_
              rintro e w39 ⟨rfl, hr39, hk39⟩
              clear c1_38 c3_38 b2_38 b3_38 b7_38 b8_38 f3_38 f7_38 f8_38
              have HR39 : Hid (RB w39 g s (jj + 2) v (0) (pl)) := hd (show _ from by rw [show jj + 2 = jj + 1 + 1 from by omega]; exact hr39)
              have HB39 := hd (HB38.out.kp hk39 (fun q => by have q' : w.heap.size = g := q; omega))
              have HC39 := hd (HC38.out.kp hk39 (fun q => by have q' : w.heap.size + 1 = g := q; omega))
              have HK39 := hd (HK38.out.trans hk39)
              clear hk39
              have c1_39 := HR39.out.c1
              have c3_39 := HR39.out.c3
              have b2_39 := HB39.out.c 2 rfl
              have b3_39 := HB39.out.c 3 rfl
              have b7_39 := HB39.out.c 7 rfl
              have b8_39 := HB39.out.c 8 rfl
              have f3_39 := HB39.out.f 3
              have f7_39 := HB39.out.f 7
              have f8_39 := HB39.out.f 8
              go_wp2_with (fail)
              refine (ronly_any g s (jj + 2) v pl _ HR39.out (HT.out.kp HK39.out (fun q => hg q)) hg (by omega) (by omega) hl).mono ?_
              rintro e w40 hq40
              obtain ⟨y, jn, ern, pln, rfl, hr40, hk40, hjn, hin, ho⟩ := OEnd.out ⟨nd, 9, nde, nv, ni, [], nf, wd2, true⟩ hq40
              clear hq40
              clear c1_39 c3_39 b2_39 b3_39 b7_39 b8_39 f3_39 f7_39 f8_39
              have HR40 : Hid (RB w40 g s (jn) v (ern) (pln)) := hd hr40
              have HB40 := hd (HB39.out.kp hk40 (fun q => by have q' : w.heap.size = g := q; omega))
              have HC40 := hd (HC39.out.kp hk40 (fun q => by have q' : w.heap.size + 1 = g := q; omega))
              have HK40 := hd (HK39.out.trans hk40)
              have HO := hd ho
              clear hk40 ho
              have c1_40 := HR40.out.c1
              have c3_40 := HR40.out.c3
              have b2_40 := HB40.out.c 2 rfl
              have b3_40 := HB40.out.c 3 rfl
              have b7_40 := HB40.out.c 7 rfl
              have b8_40 := HB40.out.c 8 rfl
              have f3_40 := HB40.out.f 3
              have f7_40 := HB40.out.f 7
              have f8_40 := HB40.out.f 8
              have x0 := HB40.out.c 0 rfl
              have x1 := HB40.out.c 1 rfl
              have x2 := HB40.out.c 2 rfl
              have x3 := HB40.out.c 3 rfl
              have x4 := HB40.out.c 4 rfl
              have x5 := HB40.out.c 5 rfl
              have x6 := HB40.out.c 6 rfl
              have x7 := HB40.out.c 7 rfl
              have x8 := HB40.out.c 8 rfl
              have d0 := HC40.out.c 0 rfl
              have d1 := HC40.out.c 1 rfl
              have d2 := HC40.out.c 2 rfl
              have d3 := HC40.out.c 3 rfl
              have d4 := HC40.out.c 4 rfl
              have d5 := HC40.out.c 5 rfl
              have d6 := HC40.out.c 6 rfl
              have d7 := HC40.out.c 7 rfl
              have d8 := HC40.out.c 8 rfl
              have g0 := HC40.out.f 0
              have g1 := HC40.out.f 1
              have g2 := HC40.out.f 2
              have g3 := HC40.out.f 3
              have g4 := HC40.out.f 4
              have g5 := HC40.out.f 5
              have g6 := HC40.out.f 6
              have g7 := HC40.out.f 7
              have g8 := HC40.out.f 8
              go_wp2
              refine bodyPost_ret (res_rRuled _ _ (w.heap.size + 1) ⟨nd, 9, nde, y, ni, [], nf, wd2, true⟩ (.slice none 0 0) rfl (Blk.cast ((((((((((HC40.out.far (p := ⟨w.heap.size, 3, none⟩) hne _).set 0 _).set 1 _).set 2 _).set 3 _).set 4 _).set 5 _).set 6 _).set 7 _).set 8 _) (by kernel_rfl))) rfl ?_
              exact IEnd.mk_ HR40.out hA HK40.out (by rw [HRR.out.symm.trans hfin.out]; exact HO.out) (by omega) (by omega) (by repeat (first | (with_reducible exact Kp.refl _ _) | (with_reducible refine Kp.setCell ?_ (fun _ => by simp) _))) (AnyR.nil _ _ _)
      · have hfin := hd (show extB s ⟨nd, 9, nde, nv, ni, [], nf, nr, true⟩ (j + 1) (jj) wd2 = .bad (j + 1 + typeP wd2) by unfold extB; rw [if_neg z0, if_pos te])
        have te40 : typeE wd2 = 40 := by unfold typeE at te ⊢; split at te <;> first | (exact absurd rfl te) | (rename_i q; rw [if_neg q])
        have TE := hd te40
        clear te te40
        have hTP := typeP_le wd2 hwl
        cases dn : isDn wd2 with
        | true =>
          have DN := hd dn
          clear dn
          go_wp2_with (fail)
          refine (r4type_any wd2 _ hwl).mono ?_
          rintro e w41 ⟨y0, rfl, hk41⟩
          clear c1_8 c3_8 b2_8 b3_8 b7_8 b8_8 f3_8 f7_8 f8_8
          have HR41 : Hid (RB w41 g s (jj) v (0) (pl)) := hd (HR8.out.kp hk41 (fun q => q))
          have HB41 := hd (HB8.out.kp hk41 (fun q => q))
          have HC41 := hd (HC8.out.kp hk41 (fun q => q))
          have HK41 := hd (HK8.out.no hk41)
          clear hk41
          have c1_41 := HR41.out.c1
          have c3_41 := HR41.out.c3
          have b2_41 := HB41.out.c 2 rfl
          have b3_41 := HB41.out.c 3 rfl
          have b7_41 := HB41.out.c 7 rfl
          have b8_41 := HB41.out.c 8 rfl
          have f3_41 := HB41.out.f 3
          have f7_41 := HB41.out.f 7
          have f8_41 := HB41.out.f 8
          rw [TE.out]
          go_wp2_with (fail)
          refine (stop_new g s (jj) v pl 120 (j + 1 + typeP wd2) _ HR41.out).mono ?_
          rintro e w42 ⟨rfl, hr42, hk42⟩
          clear c1_41 c3_41 b2_41 b3_41 b7_41 b8_41 f3_41 f7_41 f8_41
          have HR42 : Hid (RB w42 g s (jj) v (120) (j + 1 + typeP wd2)) := hd hr42
          have HB42 := hd (HB41.out.kp hk42 (fun q => by have q' : w.heap.size = g := q; omega))
          have HC42 := hd (HC41.out.kp hk42 (fun q => by have q' : w.heap.size + 1 = g := q; omega))
          have HK42 := hd (HK41.out.trans hk42)
          clear hk42
          have c1_42 := HR42.out.c1
          have c3_42 := HR42.out.c3
          have b2_42 := HB42.out.c 2 rfl
          have b3_42 := HB42.out.c 3 rfl
          have b7_42 := HB42.out.c 7 rfl
          have b8_42 := HB42.out.c 8 rfl
          have f3_42 := HB42.out.f 3
          have f7_42 := HB42.out.f 7
          have f8_42 := HB42.out.f 8
          go_wp2_with (fail)
          refine (rfold_any wd2 _ (by omega)).mono ?_
          rintro e w43 ⟨rfl, hk43⟩
          clear c1_42 c3_42 b2_42 b3_42 b7_42 b8_42 f3_42 f7_42 f8_42
          have HR43 : Hid (RB w43 g s (jj) v (120) (j + 1 + typeP wd2)) := hd (HR42.out.kp hk43 (fun q => q))
          have HB43 := hd (HB42.out.kp hk43 (fun q => q))
          have HC43 := hd (HC42.out.kp hk43 (fun q => q))
          have HK43 := hd (HK42.out.no hk43)
          clear hk43
          have c1_43 := HR43.out.c1
          have c3_43 := HR43.out.c3
          have b2_43 := HB43.out.c 2 rfl
          have b3_43 := HB43.out.c 3 rfl
          have b7_43 := HB43.out.c 7 rfl
          have b8_43 := HB43.out.c 8 rfl
          have f3_43 := HB43.out.f 3
          have f7_43 := HB43.out.f 7
          have f8_43 := HB43.out.f 8
          have DN' : ((foldS wd2).toList == [100, 110]) = true := DN.out
          go_wp2_with (fail)
          refine (stop_err g s (jj) v 120 (j + 1 + typeP wd2) 120 (jj) _ HR43.out (by omega)).mono ?_
          rintro e w44 ⟨rfl, hr44, hk44⟩
          clear c1_43 c3_43 b2_43 b3_43 b7_43 b8_43 f3_43 f7_43 f8_43
          have HR44 : Hid (RB w44 g s (jj) v (120) (j + 1 + typeP wd2)) := hd hr44
          have HB44 := hd (HB43.out.kp hk44 (fun q => by have q' : w.heap.size = g := q; omega))
          have HC44 := hd (HC43.out.kp hk44 (fun q => by have q' : w.heap.size + 1 = g := q; omega))
          have HK44 := hd (HK43.out.trans hk44)
          clear hk44
          have c1_44 := HR44.out.c1
          have c3_44 := HR44.out.c3
          have b2_44 := HB44.out.c 2 rfl
          have b3_44 := HB44.out.c 3 rfl
          have b7_44 := HB44.out.c 7 rfl
          have b8_44 := HB44.out.c 8 rfl
          have f3_44 := HB44.out.f 3
          have f7_44 := HB44.out.f 7
          have f8_44 := HB44.out.f 8
          obtain ⟨w45, hw45⟩ : ∃ x, (w44).setCell ⟨w.heap.size, 7, none⟩ (.string wd2) = x := ⟨_, rfl⟩
          have HR45 : Hid (RB w45 g s (jj) v (120) (j + 1 + typeP wd2)) := hd (by rw [← hw45]; exact HR44.out.kp ((Kp.refl (One w.heap.size) _).setOne 7 _) (fun q => by have q' : g = w.heap.size := q; omega))
          have HB45 : Hid (Blk w45 w.heap.size #[.int .i64 nd, .int .i64 9, .string nde, .string nv, .string ni, .slice none 0 0, .string nf, .string wd2, .bool true] 49) := hd (by rw [← hw45]; exact Blk.cast (HB44.out.set 7 _) (by kernel_rfl))
          have HC45 := hd (show Blk w45 (w.heap.size + 1) _ 49 by rw [← hw45]; exact HC44.out.far (p := ⟨w.heap.size, 7, none⟩) hne _)
          have HK45 := hd (show Kp (One g) w w45 by rw [← hw45]; exact HK44.out.setCell (p := ⟨w.heap.size, 7, none⟩) (fun q => absurd q (Nat.lt_irrefl _)) _)
          have HW45 := hd hw45
          clear hw45
          go_wp2_with (fail)
          rw [HW45.out]
          refine (must_err g s (jj) v (120) (j + 1 + typeP wd2) _ _ HR45.out (by omega) (by omega) (by omega) hl).mono ?_
          rintro e w46 ⟨rfl, j46, hj46, hi46, hr46, hk46⟩
          clear c1_44 c3_44 b2_44 b3_44 b7_44 b8_44 f3_44 f7_44 f8_44
          have HR46 : Hid (RB w46 g s (j46) v (120) (j + 1 + typeP wd2)) := hd hr46
          have HB46 := hd (HB45.out.kp hk46 (fun q => by have q' : w.heap.size = g := q; omega))
          have HC46 := hd (HC45.out.kp hk46 (fun q => by have q' : w.heap.size + 1 = g := q; omega))
          have HK46 := hd (HK45.out.trans hk46)
          clear hk46
          have c1_46 := HR46.out.c1
          have c3_46 := HR46.out.c3
          have b2_46 := HB46.out.c 2 rfl
          have b3_46 := HB46.out.c 3 rfl
          have b7_46 := HB46.out.c 7 rfl
          have b8_46 := HB46.out.c 8 rfl
          have f3_46 := HB46.out.f 3
          have f7_46 := HB46.out.f 7
          have f8_46 := HB46.out.f 8
          go_wp2_with (fail)
          refine (must_err g s (j46) v (120) (j + 1 + typeP wd2) _ _ HR46.out (by omega) (by omega) (by omega) hl).mono ?_
          rintro e w47 ⟨rfl, j47, hj47, hi47, hr47, hk47⟩
          clear c1_46 c3_46 b2_46 b3_46 b7_46 b8_46 f3_46 f7_46 f8_46
          have HR47 : Hid (RB w47 g s (j47) v (120) (j + 1 + typeP wd2)) := hd hr47
          have HB47 := hd (HB46.out.kp hk47 (fun q => by have q' : w.heap.size = g := q; omega))
          have HC47 := hd (HC46.out.kp hk47 (fun q => by have q' : w.heap.size + 1 = g := q; omega))
          have HK47 := hd (HK46.out.trans hk47)
          clear hk47
          have c1_47 := HR47.out.c1
          have c3_47 := HR47.out.c3
          have b2_47 := HB47.out.c 2 rfl
          have b3_47 := HB47.out.c 3 rfl
          have b7_47 := HB47.out.c 7 rfl
          have b8_47 := HB47.out.c 8 rfl
          have f3_47 := HB47.out.f 3
          have f7_47 := HB47.out.f 7
          have f8_47 := HB47.out.f 8
          go_wp2_with (fail)
          refine (ronly_err g s (j47) v (120) (j + 1 + typeP wd2) _ HR47.out (by omega)).mono ?_
          rintro e w48 ⟨y, rfl, hr48, hk48⟩
          clear c1_47 c3_47 b2_47 b3_47 b7_47 b8_47 f3_47 f7_47 f8_47
          have HR48 : Hid (RB w48 g s (j47) v (120) (j + 1 + typeP wd2)) := hd hr48
          have HB48 := hd (HB47.out.kp hk48 (fun q => q))
          have HC48 := hd (HC47.out.kp hk48 (fun q => q))
          have HK48 := hd (HK47.out.no hk48)
          clear hk48
          have c1_48 := HR48.out.c1
          have c3_48 := HR48.out.c3
          have b2_48 := HB48.out.c 2 rfl
          have b3_48 := HB48.out.c 3 rfl
          have b7_48 := HB48.out.c 7 rfl
          have b8_48 := HB48.out.c 8 rfl
          have f3_48 := HB48.out.f 3
          have f7_48 := HB48.out.f 7
          have f8_48 := HB48.out.f 8
          have x0 := HB48.out.c 0 rfl
          have x1 := HB48.out.c 1 rfl
          have x2 := HB48.out.c 2 rfl
          have x3 := HB48.out.c 3 rfl
          have x4 := HB48.out.c 4 rfl
          have x5 := HB48.out.c 5 rfl
          have x6 := HB48.out.c 6 rfl
          have x7 := HB48.out.c 7 rfl
          have x8 := HB48.out.c 8 rfl
          have d0 := HC48.out.c 0 rfl
          have d1 := HC48.out.c 1 rfl
          have d2 := HC48.out.c 2 rfl
          have d3 := HC48.out.c 3 rfl
          have d4 := HC48.out.c 4 rfl
          have d5 := HC48.out.c 5 rfl
          have d6 := HC48.out.c 6 rfl
          have d7 := HC48.out.c 7 rfl
          have d8 := HC48.out.c 8 rfl
          have g0 := HC48.out.f 0
          have g1 := HC48.out.f 1
          have g2 := HC48.out.f 2
          have g3 := HC48.out.f 3
          have g4 := HC48.out.f 4
          have g5 := HC48.out.f 5
          have g6 := HC48.out.f 6
          have g7 := HC48.out.f 7
          have g8 := HC48.out.f 8
          go_wp2
          refine bodyPost_ret (res_rRuled _ _ (w.heap.size + 1) ⟨nd, 9, nde, y, ni, [], nf, wd2, true⟩ (.slice none 0 0) rfl (Blk.cast ((((((((((HC48.out.far (p := ⟨w.heap.size, 3, none⟩) hne _).set 0 _).set 1 _).set 2 _).set 3 _).set 4 _).set 5 _).set 6 _).set 7 _).set 8 _) (by kernel_rfl))) rfl ?_
          exact IEnd.mk_ HR48.out hA HK48.out (.inr ⟨j + 1 + typeP wd2, HRR.out.symm.trans hfin.out, rfl, rfl⟩) (by omega) (by omega) (by repeat (first | (with_reducible exact Kp.refl _ _) | (with_reducible refine Kp.setCell ?_ (fun _ => by simp) _))) (AnyR.nil _ _ _)
        | false =>
          have DN := hd dn
          clear dn
          go_wp2_with (fail)
          refine (r4type_any wd2 _ hwl).mono ?_
          rintro e w49 ⟨y0, rfl, hk49⟩
          clear c1_8 c3_8 b2_8 b3_8 b7_8 b8_8 f3_8 f7_8 f8_8
          have HR49 : Hid (RB w49 g s (jj) v (0) (pl)) := hd (HR8.out.kp hk49 (fun q => q))
          have HB49 := hd (HB8.out.kp hk49 (fun q => q))
          have HC49 := hd (HC8.out.kp hk49 (fun q => q))
          have HK49 := hd (HK8.out.no hk49)
          clear hk49
          have c1_49 := HR49.out.c1
          have c3_49 := HR49.out.c3
          have b2_49 := HB49.out.c 2 rfl
          have b3_49 := HB49.out.c 3 rfl
          have b7_49 := HB49.out.c 7 rfl
          have b8_49 := HB49.out.c 8 rfl
          have f3_49 := HB49.out.f 3
          have f7_49 := HB49.out.f 7
          have f8_49 := HB49.out.f 8
          rw [TE.out]
          go_wp2_with (fail)
          refine (stop_new g s (jj) v pl 120 (j + 1 + typeP wd2) _ HR49.out).mono ?_
          rintro e w50 ⟨rfl, hr50, hk50⟩
          clear c1_49 c3_49 b2_49 b3_49 b7_49 b8_49 f3_49 f7_49 f8_49
          have HR50 : Hid (RB w50 g s (jj) v (120) (j + 1 + typeP wd2)) := hd hr50
          have HB50 := hd (HB49.out.kp hk50 (fun q => by have q' : w.heap.size = g := q; omega))
          have HC50 := hd (HC49.out.kp hk50 (fun q => by have q' : w.heap.size + 1 = g := q; omega))
          have HK50 := hd (HK49.out.trans hk50)
          clear hk50
          have c1_50 := HR50.out.c1
          have c3_50 := HR50.out.c3
          have b2_50 := HB50.out.c 2 rfl
          have b3_50 := HB50.out.c 3 rfl
          have b7_50 := HB50.out.c 7 rfl
          have b8_50 := HB50.out.c 8 rfl
          have f3_50 := HB50.out.f 3
          have f7_50 := HB50.out.f 7
          have f8_50 := HB50.out.f 8
          go_wp2_with (fail)
          refine (rfold_any wd2 _ (by omega)).mono ?_
          rintro e w51 ⟨rfl, hk51⟩
          clear c1_50 c3_50 b2_50 b3_50 b7_50 b8_50 f3_50 f7_50 f8_50
          have HR51 : Hid (RB w51 g s (jj) v (120) (j + 1 + typeP wd2)) := hd (HR50.out.kp hk51 (fun q => q))
          have HB51 := hd (HB50.out.kp hk51 (fun q => q))
          have HC51 := hd (HC50.out.kp hk51 (fun q => q))
          have HK51 := hd (HK50.out.no hk51)
          clear hk51
          have c1_51 := HR51.out.c1
          have c3_51 := HR51.out.c3
          have b2_51 := HB51.out.c 2 rfl
          have b3_51 := HB51.out.c 3 rfl
          have b7_51 := HB51.out.c 7 rfl
          have b8_51 := HB51.out.c 8 rfl
          have f3_51 := HB51.out.f 3
          have f7_51 := HB51.out.f 7
          have f8_51 := HB51.out.f 8
          have DN' : ((foldS wd2).toList == [100, 110]) = false := DN.out
          obtain ⟨w52, hw52⟩ : ∃ x, (w51).setCell ⟨w.heap.size, 7, none⟩ (.string wd2) = x := ⟨_, rfl⟩
          have HR52 : Hid (RB w52 g s (jj) v (120) (j + 1 + typeP wd2)) := hd (by rw [← hw52]; exact HR51.out.kp ((Kp.refl (One w.heap.size) _).setOne 7 _) (fun q => by have q' : g = w.heap.size := q; omega))
          have HB52 : Hid (Blk w52 w.heap.size #[.int .i64 nd, .int .i64 9, .string nde, .string nv, .string ni, .slice none 0 0, .string nf, .string wd2, .bool true] 49) := hd (by rw [← hw52]; exact Blk.cast (HB51.out.set 7 _) (by kernel_rfl))
          have HC52 := hd (show Blk w52 (w.heap.size + 1) _ 49 by rw [← hw52]; exact HC51.out.far (p := ⟨w.heap.size, 7, none⟩) hne _)
          have HK52 := hd (show Kp (One g) w w52 by rw [← hw52]; exact HK51.out.setCell (p := ⟨w.heap.size, 7, none⟩) (fun q => absurd q (Nat.lt_irrefl _)) _)
          have HW52 := hd hw52
          clear hw52
          go_wp2_with (fail)
          rw [HW52.out]
          refine (must_err g s (jj) v (120) (j + 1 + typeP wd2) _ _ HR52.out (by omega) (by omega) (by omega) hl).mono ?_
          rintro e w53 ⟨rfl, j53, hj53, hi53, hr53, hk53⟩
          clear c1_51 c3_51 b2_51 b3_51 b7_51 b8_51 f3_51 f7_51 f8_51
          have HR53 : Hid (RB w53 g s (j53) v (120) (j + 1 + typeP wd2)) := hd hr53
          have HB53 := hd (HB52.out.kp hk53 (fun q => by have q' : w.heap.size = g := q; omega))
          have HC53 := hd (HC52.out.kp hk53 (fun q => by have q' : w.heap.size + 1 = g := q; omega))
          have HK53 := hd (HK52.out.trans hk53)
          clear hk53
          have c1_53 := HR53.out.c1
          have c3_53 := HR53.out.c3
          have b2_53 := HB53.out.c 2 rfl
          have b3_53 := HB53.out.c 3 rfl
          have b7_53 := HB53.out.c 7 rfl
          have b8_53 := HB53.out.c 8 rfl
          have f3_53 := HB53.out.f 3
          have f7_53 := HB53.out.f 7
          have f8_53 := HB53.out.f 8
          go_wp2_with (fail)
          refine (must_err g s (j53) v (120) (j + 1 + typeP wd2) _ _ HR53.out (by omega) (by omega) (by omega) hl).mono ?_
          rintro e w54 ⟨rfl, j54, hj54, hi54, hr54, hk54⟩
          clear c1_53 c3_53 b2_53 b3_53 b7_53 b8_53 f3_53 f7_53 f8_53
          have HR54 : Hid (RB w54 g s (j54) v (120) (j + 1 + typeP wd2)) := hd hr54
          have HB54 := hd (HB53.out.kp hk54 (fun q => by have q' : w.heap.size = g := q; omega))
          have HC54 := hd (HC53.out.kp hk54 (fun q => by have q' : w.heap.size + 1 = g := q; omega))
          have HK54 := hd (HK53.out.trans hk54)
          clear hk54
          have c1_54 := HR54.out.c1
          have c3_54 := HR54.out.c3
          have b2_54 := HB54.out.c 2 rfl
          have b3_54 := HB54.out.c 3 rfl
          have b7_54 := HB54.out.c 7 rfl
          have b8_54 := HB54.out.c 8 rfl
          have f3_54 := HB54.out.f 3
          have f7_54 := HB54.out.f 7
          have f8_54 := HB54.out.f 8
          go_wp2_with (fail)
          refine (ronly_err g s (j54) v (120) (j + 1 + typeP wd2) _ HR54.out (by omega)).mono ?_
          rintro e w55 ⟨y, rfl, hr55, hk55⟩
          clear c1_54 c3_54 b2_54 b3_54 b7_54 b8_54 f3_54 f7_54 f8_54
          have HR55 : Hid (RB w55 g s (j54) v (120) (j + 1 + typeP wd2)) := hd hr55
          have HB55 := hd (HB54.out.kp hk55 (fun q => q))
          have HC55 := hd (HC54.out.kp hk55 (fun q => q))
          have HK55 := hd (HK54.out.no hk55)
          clear hk55
          have c1_55 := HR55.out.c1
          have c3_55 := HR55.out.c3
          have b2_55 := HB55.out.c 2 rfl
          have b3_55 := HB55.out.c 3 rfl
          have b7_55 := HB55.out.c 7 rfl
          have b8_55 := HB55.out.c 8 rfl
          have f3_55 := HB55.out.f 3
          have f7_55 := HB55.out.f 7
          have f8_55 := HB55.out.f 8
          have x0 := HB55.out.c 0 rfl
          have x1 := HB55.out.c 1 rfl
          have x2 := HB55.out.c 2 rfl
          have x3 := HB55.out.c 3 rfl
          have x4 := HB55.out.c 4 rfl
          have x5 := HB55.out.c 5 rfl
          have x6 := HB55.out.c 6 rfl
          have x7 := HB55.out.c 7 rfl
          have x8 := HB55.out.c 8 rfl
          have d0 := HC55.out.c 0 rfl
          have d1 := HC55.out.c 1 rfl
          have d2 := HC55.out.c 2 rfl
          have d3 := HC55.out.c 3 rfl
          have d4 := HC55.out.c 4 rfl
          have d5 := HC55.out.c 5 rfl
          have d6 := HC55.out.c 6 rfl
          have d7 := HC55.out.c 7 rfl
          have d8 := HC55.out.c 8 rfl
          have g0 := HC55.out.f 0
          have g1 := HC55.out.f 1
          have g2 := HC55.out.f 2
          have g3 := HC55.out.f 3
          have g4 := HC55.out.f 4
          have g5 := HC55.out.f 5
          have g6 := HC55.out.f 6
          have g7 := HC55.out.f 7
          have g8 := HC55.out.f 8
          go_wp2
          refine bodyPost_ret (res_rRuled _ _ (w.heap.size + 1) ⟨nd, 9, nde, y, ni, [], nf, wd2, true⟩ (.slice none 0 0) rfl (Blk.cast ((((((((((HC55.out.far (p := ⟨w.heap.size, 3, none⟩) hne _).set 0 _).set 1 _).set 2 _).set 3 _).set 4 _).set 5 _).set 6 _).set 7 _).set 8 _) (by kernel_rfl))) rfl ?_
          exact IEnd.mk_ HR55.out hA HK55.out (.inr ⟨j + 1 + typeP wd2, HRR.out.symm.trans hfin.out, rfl, rfl⟩) (by omega) (by omega) (by repeat (first | (with_reducible exact Kp.refl _ _) | (with_reducible refine Kp.setCell ?_ (fun _ => by simp) _))) (AnyR.nil _ _ _)

theorem rruled_any (g : Nat) (s : ByteArray) (i : Int) (v : Value) (pl : Int) (n : Nd) (w : World) (hp : RB w g s i v 0 pl) (hT : RowsAt w) (hg : 0 ≠ g) (h0 : 0 ≤ i) (h1 : i ≤ (s.size : Int)) (hl2 : s.size + 2 ≤ LIM) (hn : n.any = []) :
    Calls Tryd.prog 22 #[.pointer (some ⟨g, 0, none⟩), .agg (n.cells (.slice none 0 0))] w fun e w' => IEnd w w' g s v pl i (extA s n i) e := by
  obtain ⟨nd, no, nde, nv, ni, na, nf, nr, ndn⟩ := n
  obtain rfl : na = [] := hn
  cases h : isDn (s.extract i.toNat (rowEnd s false (s.size + 1) i).toNat) with
  | true => exact rruled_dn g s i v pl nd no nde nv ni nf nr ndn w hp hT hg h0 h1 hl2 h
  | false => exact rruled_no g s i v pl nd no nde nv ni nf nr ndn w hp hT hg h0 h1 hl2 h
end Go.Proofs.YtieolphpgjpcmaaDoor
