/- filter.parser: item. -/
import Derived.Test.YtieolphpgjpcmaaDoorMFProgT0

namespace Go.Proofs.YtieolphpgjpcmaaDoor
open Go.RowKit Go.Proofs.YtieolphpgjpcmaaDoorW.PrintWords

theorem NS.kpOwn {w w1 : World} {base : Nat} {v : Value} {ns : List Nd} (h : NS w base v ns) (S : Nat → Prop) (hk : Kp S w w1) (hn : ∀ k, base ≤ k → k < w.heap.size → ¬ S k) : NS w1 base v ns :=
  Kd.R_step h (fun k ho hlt => hk.block k hlt (hn k ho hlt))
theorem extA_op (s : ByteArray) (n : Nd) (i : Int) : extA s { n with op := 9 } i = extA s n i := rfl
theorem sign_cases (c : Int) : c = 61 ∨ c = 58 ∨ (c = 126 ∨ c = 62 ∨ c = 60) ∨ (c ≠ 61 ∧ c ≠ 58 ∧ c ≠ 126 ∧ c ≠ 62 ∧ c ≠ 60) := by omega

set_option maxHeartbeats 16000000 in
set_option maxRecDepth 100000 in
theorem pitem_any (g base : Nat) (s : ByteArray) (i : Int) (v : Value) (ns : List Nd) (depth : Int) (w : World) (hp : PB w g s i v) (hT : Tabs w) (hg : gTop < g) (hgb : g < base) (hbase : base ≤ w.heap.size) (hN : NS w base v ns) (hlen : ns.length ≤ 4194400) (h0 : 0 ≤ i) (h1 : i ≤ (s.size : Int)) (hl : s.size ≤ LIM) :
    Calls Tryd.prog 18 #[.pointer (some ⟨g, 0, none⟩), .int .i64 depth] w fun e w' => PItEnd w w' g base s i ns e (itemS s depth i) := by
  obtain ⟨R, hR⟩ : ∃ R, itemS s depth i = R := ⟨_, rfl⟩
  rw [hR]
  have HT := hd hT
  have HN := hd hN
  unfold itemS at hR
  have cR := hd (prow_any g s i v true w hp h0 h1 hl)
  obtain ⟨j, hj⟩ : ∃ j, rowEnd s true (s.size + 1) i = j := ⟨_, rfl⟩
  have hj0 : i ≤ j := by rw [← hj]; exact rowEnd_ge _ _ _ _
  have hj1 : j ≤ (s.size : Int) := by rw [← hj]; exact rowEnd_le _ _ _ _ h1
  rw [hj] at cR hR
  have hws := row_size s i j
  obtain ⟨d, hwd⟩ : ∃ x, s.extract i.toNat j.toNat = x := ⟨_, rfl⟩
  rw [hwd] at cR hR hws
  have hlim := hl
  unfold LIM at hl
  have hdl : d.size ≤ LIM := by unfold LIM; omega
  have c1 := hp.c1
  have HP0 := hd hp
  have hgs := hp.lt
  clear hT hp hwd hj hN
  by_cases z0 : d.size = 0
  · have hE := yempty z0
    cases hq : isB s j 58 with
    | false =>
      have H9 := hd (show IRes.bad j = R by rw [← hR]; unfold itemD; rw [if_pos ⟨z0, hq⟩])
      have HQ := hd hq
      clear hR hq
      go_enter Tryd.func18, Tryd.ntmps18
      go_wp2_with (fail)
      refine cR.out.mono ?_
      rintro e w1 ⟨rfl, hr1, hk1⟩
      have HP1 := hd hr1
      have HK1 := hd (hk1.mono (S' := Own g base) (fun k _ q => .inl q))
      have HN1 := hd (HN.out.one hk1 hgb).bd
      have HT1 := hd (HT.out.one hk1 hg)
      have hb1 : base ≤ w1.heap.size := Nat.le_trans hbase hk1.size
      have hnbt : gTop < w1.heap.size := HT1.out.top
      have hngb : w1.heap.size ≠ g := by have := hr1.lt; omega
      clear hr1 hk1 c1
      go_wp2_with (fail)
      refine at_world (fun W => Hid (PB W g s j v) ∧ Hid (Blk W w1.heap.size #[.int .i64 depth, .int .i64 0, .string d, .string ⟨#[]⟩, .string ⟨#[]⟩, .slice none 0 0, .string ⟨#[]⟩, .string ⟨#[]⟩, .bool false] 49) ∧ Hid (Kp (Own g base) w W) ∧ Hid (NSb W base w1.heap.size v ns) ∧ Hid (Tabs W)) ⟨hd (HP1.out.alloc _), hd (Blk.new _ _ _), hd (HK1.out.alloc _), hd (HN1.out.kp ((Kp.refl No _).alloc _) (fun _ _ _ q => q)), hd (HT1.out.no ((Kp.refl No _).alloc _))⟩ ?_
      rintro WI ⟨HPI, HBI, HKI, HNI, HTI⟩
      obtain ⟨nb, hnb⟩ : ∃ x, w1.heap.size = x := ⟨_, rfl⟩
      rw [hnb] at HBI hb1 hnbt hngb HNI
      rw [hnb]
      clear hnb
      have i2 : WI.cell? ⟨nb, 2, none⟩ = some (.string d) := HBI.out.c 2 rfl
      have c1i := HPI.out.c1
      refine (is_any g s j v 58 _ HPI.out (by omega)).mono ?_
      rintro e wi ⟨rfl, ni9, rfl⟩
      rw [HQ.out]
      go_wp2_with (fail)
      refine (fail_any g j _).mono ?_
      rintro e wf ⟨rfl, rfl⟩
      go_wp2
      exact ⟨rfl, PItEnd.bad_ H9.out (HKI.out.drewN _)⟩
    | true =>
      have hsb := isB_true hq
      have HR9 := hd (show itemN s (⟨depth, 0, d, ⟨#[]⟩, ⟨#[]⟩, [], ⟨#[]⟩, ⟨#[]⟩, false⟩ : Nd) j = R by rw [← hR]; unfold itemD; rw [if_neg (fun q => by rw [hq] at q; exact absurd q.2 (by simp)), if_neg (fun q => q.1 z0)]; rfl)
      have HQ := hd hq
      have hc9 : chAt s j = 58 := by unfold chAt; rw [if_pos hsb.1]; exact hsb.2
      have HRX := hd (show extA s (⟨depth, 0, d, ⟨#[]⟩, ⟨#[]⟩, [], ⟨#[]⟩, ⟨#[]⟩, false⟩ : Nd) (j + 1) = R by rw [← HR9.out]; unfold itemN; rw [if_neg (by rw [hc9]; decide), if_pos hc9])
      have HSB := hd hsb
      have hlt := hsb.1
      clear hR hq HR9 hc9 hsb
      go_enter Tryd.func18, Tryd.ntmps18
      go_wp2_with (fail)
      refine cR.out.mono ?_
      rintro e w1 ⟨rfl, hr1, hk1⟩
      have HP1 := hd hr1
      have HK1 := hd (hk1.mono (S' := Own g base) (fun k _ q => .inl q))
      have HN1 := hd (HN.out.one hk1 hgb).bd
      have HT1 := hd (HT.out.one hk1 hg)
      have hb1 : base ≤ w1.heap.size := Nat.le_trans hbase hk1.size
      have hnbt : gTop < w1.heap.size := HT1.out.top
      have hngb : w1.heap.size ≠ g := by have := hr1.lt; omega
      clear hr1 hk1 c1
      go_wp2_with (fail)
      refine at_world (fun W => Hid (PB W g s j v) ∧ Hid (Blk W w1.heap.size #[.int .i64 depth, .int .i64 0, .string d, .string ⟨#[]⟩, .string ⟨#[]⟩, .slice none 0 0, .string ⟨#[]⟩, .string ⟨#[]⟩, .bool false] 49) ∧ Hid (Kp (Own g base) w W) ∧ Hid (NSb W base w1.heap.size v ns) ∧ Hid (Tabs W)) ⟨hd (HP1.out.alloc _), hd (Blk.new _ _ _), hd (HK1.out.alloc _), hd (HN1.out.kp ((Kp.refl No _).alloc _) (fun _ _ _ q => q)), hd (HT1.out.no ((Kp.refl No _).alloc _))⟩ ?_
      rintro WI ⟨HPI, HBI, HKI, HNI, HTI⟩
      obtain ⟨nb, hnb⟩ : ∃ x, w1.heap.size = x := ⟨_, rfl⟩
      rw [hnb] at HBI hb1 hnbt hngb HNI
      rw [hnb]
      clear hnb
      have i2 : WI.cell? ⟨nb, 2, none⟩ = some (.string d) := HBI.out.c 2 rfl
      have c1i := HPI.out.c1
      refine (is_any g s j v 58 _ HPI.out (by omega)).mono ?_
      rintro e wi ⟨rfl, ni9, rfl⟩
      rw [HQ.out]
      go_wp2_with (fail)
      refine at_world (fun W => Hid (PB W g s j v) ∧ Hid (Blk W nb #[.int .i64 depth, .int .i64 0, .string d, .string ⟨#[]⟩, .string ⟨#[]⟩, .slice none 0 0, .string ⟨#[]⟩, .string ⟨#[]⟩, .bool false] 49) ∧ Hid (Kp (Own g base) w W) ∧ Hid (NSb W base nb v ns)) ⟨hd (HPI.out.drewN ni9), hd (HBI.out.drewN ni9), hd (HKI.out.drewN ni9), hd (HNI.out.kp ((Kp.refl No _).drewN ni9) (fun _ _ _ q => q))⟩ ?_
      clear HPI HBI HKI HNI i2 c1i
      rintro WQ ⟨HPY0, HBY0, HKY0, HNY0⟩
      refine (peek_in g s j v _ HPY0.out (by omega) hlt).mono ?_
      rintro e wz ⟨rfl, np, rfl⟩
      rw [HSB.out.2]
      have HPY := hd (HPY0.out.drewN np)
      have HBY := hd (HBY0.out.drewN np)
      have HKY := hd (HKY0.out.drewN np)
      have HNY := hd (HNY0.out.kp ((Kp.refl No _).drewN np) (fun _ _ _ q => q))
      have HTY := hd (HT.out.kp HKY.out (fun k hk q => by rcases q with q | q <;> omega))
      have c1y := HPY.out.c1
      have f1y := HPY.out.fz 1
      clear HPY0 HBY0 HKY0 HNY0
      have b1y := HBY.out.c 1 rfl
      have f1n := HBY.out.f 1
      go_wp2_with (fail)
      refine at_world (fun W => Hid (PB W g s (j + 1) v) ∧ Hid (Blk W nb #[.int .i64 depth, .int .i64 9, .string d, .string ⟨#[]⟩, .string ⟨#[]⟩, .slice none 0 0, .string ⟨#[]⟩, .string ⟨#[]⟩, .bool false] 49) ∧ Hid (Kp (Own g base) w W) ∧ Hid (NSb W base nb v ns)) ⟨hd ((HPY.out.set1 _).kp (S := One nb) ((Kp.refl _ _).setOne 1 _) (fun q => hngb q.symm)), hd (Blk.cast ((HBY.out.far (p := ⟨g, 1, none⟩) hngb _).set 1 _) (by kernel_rfl)), hd ((HKY.out.setCell (p := ⟨g, 1, none⟩) (fun _ => .inl rfl) _).setCell (p := ⟨nb, 1, none⟩) (fun _ => .inr (by show base ≤ nb; omega)) _), hd ((HNY.out.kp ((Kp.refl (One g) _).setOne 1 _) (fun k h1 _ q => by have q' : k = g := q; omega)).kp ((Kp.refl (One nb) _).setOne 1 _) (fun k _ h2 q => by have q' : k = nb := q; omega))⟩ ?_
      rintro WJ ⟨HPJ, HBJ, HKJ, HNJ⟩
      have HTJ := hd (HT.out.kp HKJ.out (fun k hk q => by rcases q with q | q <;> omega))
      have cQ := pext_any g nb s (j + 1) v (⟨depth, 9, d, ⟨#[]⟩, ⟨#[]⟩, [], ⟨#[]⟩, ⟨#[]⟩, false⟩ : Nd) WJ HPJ.out HTJ.out hg hnbt hngb HBJ.out rfl rfl rfl (by omega) (by omega) hlim
      have HR8 : extA s (⟨depth, 9, d, ⟨#[]⟩, ⟨#[]⟩, [], ⟨#[]⟩, ⟨#[]⟩, false⟩ : Nd) (j + 1) = R := HRX.out
      cases hv : extA s (⟨depth, 9, d, ⟨#[]⟩, ⟨#[]⟩, [], ⟨#[]⟩, ⟨#[]⟩, false⟩ : Nd) (j + 1) with
      | bad p =>
        have H9 := hd (show IRes.bad p = R by rw [hv] at HR8; exact HR8)
        rw [hv] at cQ
        clear hv HR8 HRX
        refine cQ.mono ?_
        rintro e WH ⟨rfl, hkh⟩
        have HKH := hd (HKJ.out.trans' hkh (fun k hk q => by rcases q with q | q; exact .inl q; exact .inr (by omega)))
        clear hkh
        go_wp2
        exact ⟨rfl, PItEnd.bad_ H9.out HKH.out⟩
      | ok nx j9 =>
        have H9' := hd (show IRes.ok nx j9 = R by rw [hv] at HR8; exact HR8)
        rw [hv] at cQ
        clear hv HR8 HRX
        refine cQ.mono ?_
        rintro e WH ⟨rfl, av, hph, hbh, hah, hkh, hj90, hj91⟩
        obtain ⟨xd, xo, xde, xv, xi, xa, xf, xr, xdn⟩ := nx
        obtain ⟨Av, cv, rfl, _⟩ := hah.reads
        have HPH := hd hph
        have HBH := hd hbh
        have HAH := hd (show AnyR WH base (fun k => base ≤ k) (.slice Av xa.length cv) xa from (hah.lower (by have := HKJ.out.size; omega)).mono (fun k hk => by have := HKJ.out.size; omega))
        have HNH := hd (HNJ.out.kp hkh (fun k hk1 hk2 q => by rcases q with q | q <;> omega)).up
        have HKH := hd (HKJ.out.trans' hkh (fun k hk q => by rcases q with q | q; exact .inl q; exact .inr (by omega)))
        have H9 := H9'
        clear hph hbh hah hkh H9'
        have r2 := HPH.out.c2
        have z2 := HPH.out.fz 2
        have b0 : WH.cell? ⟨nb, 0, none⟩ = some (.int .i64 xd) := HBH.out.c 0 rfl
        have b1 : WH.cell? ⟨nb, 1, none⟩ = some (.int .i64 xo) := HBH.out.c 1 rfl
        have b2 : WH.cell? ⟨nb, 2, none⟩ = some (.string xde) := HBH.out.c 2 rfl
        have b3 : WH.cell? ⟨nb, 3, none⟩ = some (.string xv) := HBH.out.c 3 rfl
        have b4 : WH.cell? ⟨nb, 4, none⟩ = some (.string xi) := HBH.out.c 4 rfl
        have b5 : WH.cell? ⟨nb, 5, none⟩ = some (.slice Av xa.length cv) := HBH.out.c 5 rfl
        have b6 : WH.cell? ⟨nb, 6, none⟩ = some (.string xf) := HBH.out.c 6 rfl
        have b7 : WH.cell? ⟨nb, 7, none⟩ = some (.string xr) := HBH.out.c 7 rfl
        have b8 : WH.cell? ⟨nb, 8, none⟩ = some (.bool xdn) := HBH.out.c 8 rfl
        have r2a : (WH.alloc (.cells #[.int .i64 xd, .int .i64 xo, .string xde, .string xv, .string xi, .slice Av xa.length cv, .string xf, .string xr, .bool xdn] 49)).cell? ⟨g, 2, none⟩ = some v := (HPH.out.alloc _).c2
        have hnH : NS WH.drew base v ns := HNH.out.drewN 1
        have hbH : base ≤ WH.heap.size := Nat.le_trans hbase HKH.out.size
        go_wp2_with (fail)
        go_region_law (refine step_app_node WH.drew base rfl (.tmp 112) (.tmp 114) rfl v ns (⟨xd, xo, xde, xv, xi, xa, xf, xr, xdn⟩ : Nd) ((.slice Av xa.length cv)) rfl rfl hnH HAH.out hbH hlen rfl ?_; rintro A3 c3 w3 ⟨hs3, hg3⟩; have HR3 : Hid (PB w3 g s (j9) v) := hd (blk_grown HPH.out.drew hg3 (fun e => absurd (hnH.own g e.symm) (by omega))); have HS3 := hd hs3; have HG3 := hd hg3; clear hs3 hg3; have z3 := HR3.out.fz 2; have y3 := HR3.out.c2)
        all_goals
          go_wp2
          go_end0
          exact PItEnd.app_ hgb HN.out HPH.out.drew HKH.out.drew HS3.out HG3.out (by omega) (by omega) H9.out
  · have hE := nempty z0
    have cA := hd (fun W hW => aparse_err d W hW hdl)
    by_cases te : descE d = 0
    · have HR9 := hd (show itemN s (⟨depth, 0, d, ⟨#[]⟩, ⟨#[]⟩, [], ⟨#[]⟩, ⟨#[]⟩, false⟩ : Nd) j = R by rw [← hR]; unfold itemD; rw [if_neg (fun q => z0 q.1), if_neg (fun q => q.2 te)]; rfl)
      rw [te] at cA
      clear hR te
      by_cases hlt : j < (s.size : Int)
      · have hb := bt_range s j
        obtain ⟨c, hc⟩ : ∃ c, bt s j = c := ⟨_, rfl⟩
        rw [hc] at hb
        have hca : chAt s j = c := by unfold chAt; rw [if_pos hlt]; exact hc
        have HC := hd hc
        have HRN := HR9.out
        unfold itemN at HRN
        rw [hca] at HRN
        clear hc hca HR9
        rcases sign_cases c with rfl | rfl | hc3 | ⟨q1, q2, q3, q4, q5⟩
        · rw [if_pos rfl] at HRN
          have HR9 := hd HRN
          clear HRN
          go_enter Tryd.func18, Tryd.ntmps18
          go_wp2_with (fail)
          refine cR.out.mono ?_
          rintro e w1 ⟨rfl, hr1, hk1⟩
          have HP1 := hd hr1
          have HK1 := hd (hk1.mono (S' := Own g base) (fun k _ q => .inl q))
          have HN1 := hd (HN.out.one hk1 hgb).bd
          have HT1 := hd (HT.out.one hk1 hg)
          have hb1 : base ≤ w1.heap.size := Nat.le_trans hbase hk1.size
          have hnbt : gTop < w1.heap.size := HT1.out.top
          have hngb : w1.heap.size ≠ g := by have := hr1.lt; omega
          clear hr1 hk1 c1
          go_wp2_with (fail)
          refine at_world (fun W => Hid (PB W g s j v) ∧ Hid (Blk W w1.heap.size #[.int .i64 depth, .int .i64 0, .string d, .string ⟨#[]⟩, .string ⟨#[]⟩, .slice none 0 0, .string ⟨#[]⟩, .string ⟨#[]⟩, .bool false] 49) ∧ Hid (Kp (Own g base) w W) ∧ Hid (NSb W base w1.heap.size v ns) ∧ Hid (Tabs W)) ⟨hd (HP1.out.alloc _), hd (Blk.new _ _ _), hd (HK1.out.alloc _), hd (HN1.out.kp ((Kp.refl No _).alloc _) (fun _ _ _ q => q)), hd (HT1.out.no ((Kp.refl No _).alloc _))⟩ ?_
          rintro WI ⟨HPI, HBI, HKI, HNI, HTI⟩
          obtain ⟨nb, hnb⟩ : ∃ x, w1.heap.size = x := ⟨_, rfl⟩
          rw [hnb] at HBI hb1 hnbt hngb HNI
          rw [hnb]
          clear hnb
          refine (cA.out _ HTI.out).mono ?_
          rintro e wa ⟨x, A, m, cc, rfl, hka⟩
          have HPY0 := hd ((HPI.out.kp hka (fun q => q)).alloc (.cells #[.string x, .slice A m cc] 52))
          have HBY0 := hd ((HBI.out.kp hka (fun q => q)).alloc (.cells #[.string x, .slice A m cc] 52))
          have HKY0 := hd ((HKI.out.trans (hka.mono (S' := Own g base) (fun _ _ q => q.elim))).alloc (.cells #[.string x, .slice A m cc] 52))
          have HNY0 := hd ((HNI.out.kp hka (fun _ _ _ q => q)).kp ((Kp.refl No _).alloc (.cells #[.string x, .slice A m cc] 52)) (fun _ _ _ q => q))
          clear hka HPI HBI HKI HNI
          go_wp2_with (fail)
          refine (peek_in g s j v _ HPY0.out (by omega) hlt).mono ?_
          rintro e wz ⟨rfl, np, rfl⟩
          rw [HC.out]
          have HPY := hd (HPY0.out.drewN np)
          have HBY := hd (HBY0.out.drewN np)
          have HKY := hd (HKY0.out.drewN np)
          have HNY := hd (HNY0.out.kp ((Kp.refl No _).drewN np) (fun _ _ _ q => q))
          have HTY := hd (HT.out.kp HKY.out (fun k hk q => by rcases q with q | q <;> omega))
          have c1y := HPY.out.c1
          have f1y := HPY.out.fz 1
          clear HPY0 HBY0 HKY0 HNY0
          go_wp2_with (fail)
          refine at_world (fun W => Hid (PB W g s (j + 1) v) ∧ Hid (Blk W nb #[.int .i64 depth, .int .i64 0, .string d, .string ⟨#[]⟩, .string ⟨#[]⟩, .slice none 0 0, .string ⟨#[]⟩, .string ⟨#[]⟩, .bool false] 49) ∧ Hid (Kp (Own g base) w W) ∧ Hid (NSb W base nb v ns)) ⟨hd (HPY.out.set1 _), hd (HBY.out.far (p := ⟨g, 1, none⟩) hngb _), hd (HKY.out.setCell (p := ⟨g, 1, none⟩) (fun _ => .inl rfl) _), hd (HNY.out.kp ((Kp.refl (One g) _).setOne 1 _) (fun k h1 _ q => by have q' : k = g := q; omega))⟩ ?_
          rintro WJ ⟨HPJ, HBJ, HKJ, HNJ⟩
          have HTJ := hd (HT.out.kp HKJ.out (fun k hk q => by rcases q with q | q <;> omega))
          have cQ := pequals_any g nb s (j + 1) v (⟨depth, 0, d, ⟨#[]⟩, ⟨#[]⟩, [], ⟨#[]⟩, ⟨#[]⟩, false⟩ : Nd) WJ HPJ.out HTJ.out hg hngb HBJ.out rfl (by omega) (by omega) hlim
          have HR8 := HR9.out
          cases hv : vals s true (s.size + 1) (j + 1) false [] [] with
          | bad p =>
            have H9 := hd (show IRes.bad p = R by rw [hv] at HR8; exact HR8)
            rw [hv] at cQ
            clear hv HR8 HR9
            refine cQ.mono ?_
            rintro e WH ⟨rfl, hkh⟩
            have HKH := hd (HKJ.out.trans' hkh (fun k hk q => by rcases q with q | q; exact .inl q; exact .inr (by omega)))
            clear hkh
            go_wp2
            exact ⟨rfl, PItEnd.bad_ H9.out HKH.out⟩
          | ok l j9 =>
            have H9' := hd (show IRes.ok (eqRes (⟨depth, 0, d, ⟨#[]⟩, ⟨#[]⟩, [], ⟨#[]⟩, ⟨#[]⟩, false⟩ : Nd) l) j9 = R by rw [hv] at HR8; exact HR8)
            rw [hv] at cQ
            clear hv HR8 HR9
            refine cQ.mono ?_
            rintro e WH ⟨rfl, av, hph, hbh, hah, hkh, hj90, hj91⟩
            generalize eqRes (⟨depth, 0, d, ⟨#[]⟩, ⟨#[]⟩, [], ⟨#[]⟩, ⟨#[]⟩, false⟩ : Nd) l = nx at hbh hah H9'
            obtain ⟨xd, xo, xde, xv, xi, xa, xf, xr, xdn⟩ := nx
            obtain ⟨Av, cv, rfl, _⟩ := hah.reads
            have HPH := hd hph
            have HBH := hd hbh
            have HAH := hd (show AnyR WH base (fun k => base ≤ k) (.slice Av xa.length cv) xa from (hah.lower (by have := HKJ.out.size; omega)).mono (fun k hk => by have := HKJ.out.size; omega))
            have HNH := hd (HNJ.out.kp hkh (fun k hk1 hk2 q => by rcases q with q | q <;> omega)).up
            have HKH := hd (HKJ.out.trans' hkh (fun k hk q => by rcases q with q | q; exact .inl q; exact .inr (by omega)))
            have H9 := H9'
            clear hph hbh hah hkh H9'
            have r2 := HPH.out.c2
            have z2 := HPH.out.fz 2
            have b0 : WH.cell? ⟨nb, 0, none⟩ = some (.int .i64 xd) := HBH.out.c 0 rfl
            have b1 : WH.cell? ⟨nb, 1, none⟩ = some (.int .i64 xo) := HBH.out.c 1 rfl
            have b2 : WH.cell? ⟨nb, 2, none⟩ = some (.string xde) := HBH.out.c 2 rfl
            have b3 : WH.cell? ⟨nb, 3, none⟩ = some (.string xv) := HBH.out.c 3 rfl
            have b4 : WH.cell? ⟨nb, 4, none⟩ = some (.string xi) := HBH.out.c 4 rfl
            have b5 : WH.cell? ⟨nb, 5, none⟩ = some (.slice Av xa.length cv) := HBH.out.c 5 rfl
            have b6 : WH.cell? ⟨nb, 6, none⟩ = some (.string xf) := HBH.out.c 6 rfl
            have b7 : WH.cell? ⟨nb, 7, none⟩ = some (.string xr) := HBH.out.c 7 rfl
            have b8 : WH.cell? ⟨nb, 8, none⟩ = some (.bool xdn) := HBH.out.c 8 rfl
            have r2a : (WH.alloc (.cells #[.int .i64 xd, .int .i64 xo, .string xde, .string xv, .string xi, .slice Av xa.length cv, .string xf, .string xr, .bool xdn] 49)).cell? ⟨g, 2, none⟩ = some v := (HPH.out.alloc _).c2
            have hnH : NS WH.drew base v ns := HNH.out.drewN 1
            have hbH : base ≤ WH.heap.size := Nat.le_trans hbase HKH.out.size
            go_wp2_with (fail)
            go_region_law (refine step_app_node WH.drew base rfl (.tmp 112) (.tmp 114) rfl v ns (⟨xd, xo, xde, xv, xi, xa, xf, xr, xdn⟩ : Nd) ((.slice Av xa.length cv)) rfl rfl hnH HAH.out hbH hlen rfl ?_; rintro A3 c3 w3 ⟨hs3, hg3⟩; have HR3 : Hid (PB w3 g s (j9) v) := hd (blk_grown HPH.out.drew hg3 (fun e => absurd (hnH.own g e.symm) (by omega))); have HS3 := hd hs3; have HG3 := hd hg3; clear hs3 hg3; have z3 := HR3.out.fz 2; have y3 := HR3.out.c2)
            all_goals
              go_wp2
              go_end0
              exact PItEnd.app_ hgb HN.out HPH.out.drew HKH.out.drew HS3.out HG3.out (by omega) (by omega) H9.out
        · rw [if_neg (by decide), if_pos rfl] at HRN
          have HRX := hd HRN
          clear HRN
          go_enter Tryd.func18, Tryd.ntmps18
          go_wp2_with (fail)
          refine cR.out.mono ?_
          rintro e w1 ⟨rfl, hr1, hk1⟩
          have HP1 := hd hr1
          have HK1 := hd (hk1.mono (S' := Own g base) (fun k _ q => .inl q))
          have HN1 := hd (HN.out.one hk1 hgb).bd
          have HT1 := hd (HT.out.one hk1 hg)
          have hb1 : base ≤ w1.heap.size := Nat.le_trans hbase hk1.size
          have hnbt : gTop < w1.heap.size := HT1.out.top
          have hngb : w1.heap.size ≠ g := by have := hr1.lt; omega
          clear hr1 hk1 c1
          go_wp2_with (fail)
          refine at_world (fun W => Hid (PB W g s j v) ∧ Hid (Blk W w1.heap.size #[.int .i64 depth, .int .i64 0, .string d, .string ⟨#[]⟩, .string ⟨#[]⟩, .slice none 0 0, .string ⟨#[]⟩, .string ⟨#[]⟩, .bool false] 49) ∧ Hid (Kp (Own g base) w W) ∧ Hid (NSb W base w1.heap.size v ns) ∧ Hid (Tabs W)) ⟨hd (HP1.out.alloc _), hd (Blk.new _ _ _), hd (HK1.out.alloc _), hd (HN1.out.kp ((Kp.refl No _).alloc _) (fun _ _ _ q => q)), hd (HT1.out.no ((Kp.refl No _).alloc _))⟩ ?_
          rintro WI ⟨HPI, HBI, HKI, HNI, HTI⟩
          obtain ⟨nb, hnb⟩ : ∃ x, w1.heap.size = x := ⟨_, rfl⟩
          rw [hnb] at HBI hb1 hnbt hngb HNI
          rw [hnb]
          clear hnb
          refine (cA.out _ HTI.out).mono ?_
          rintro e wa ⟨x, A, m, cc, rfl, hka⟩
          have HPY0 := hd ((HPI.out.kp hka (fun q => q)).alloc (.cells #[.string x, .slice A m cc] 52))
          have HBY0 := hd ((HBI.out.kp hka (fun q => q)).alloc (.cells #[.string x, .slice A m cc] 52))
          have HKY0 := hd ((HKI.out.trans (hka.mono (S' := Own g base) (fun _ _ q => q.elim))).alloc (.cells #[.string x, .slice A m cc] 52))
          have HNY0 := hd ((HNI.out.kp hka (fun _ _ _ q => q)).kp ((Kp.refl No _).alloc (.cells #[.string x, .slice A m cc] 52)) (fun _ _ _ q => q))
          clear hka HPI HBI HKI HNI
          go_wp2_with (fail)
          refine (peek_in g s j v _ HPY0.out (by omega) hlt).mono ?_
          rintro e wz ⟨rfl, np, rfl⟩
          rw [HC.out]
          have HPY := hd (HPY0.out.drewN np)
          have HBY := hd (HBY0.out.drewN np)
          have HKY := hd (HKY0.out.drewN np)
          have HNY := hd (HNY0.out.kp ((Kp.refl No _).drewN np) (fun _ _ _ q => q))
          have HTY := hd (HT.out.kp HKY.out (fun k hk q => by rcases q with q | q <;> omega))
          have c1y := HPY.out.c1
          have f1y := HPY.out.fz 1
          clear HPY0 HBY0 HKY0 HNY0
          have b1y := HBY.out.c 1 rfl
          have f1n := HBY.out.f 1
          go_wp2_with (fail)
          refine at_world (fun W => Hid (PB W g s (j + 1) v) ∧ Hid (Blk W nb #[.int .i64 depth, .int .i64 9, .string d, .string ⟨#[]⟩, .string ⟨#[]⟩, .slice none 0 0, .string ⟨#[]⟩, .string ⟨#[]⟩, .bool false] 49) ∧ Hid (Kp (Own g base) w W) ∧ Hid (NSb W base nb v ns)) ⟨hd ((HPY.out.set1 _).kp (S := One nb) ((Kp.refl _ _).setOne 1 _) (fun q => hngb q.symm)), hd (Blk.cast ((HBY.out.far (p := ⟨g, 1, none⟩) hngb _).set 1 _) (by kernel_rfl)), hd ((HKY.out.setCell (p := ⟨g, 1, none⟩) (fun _ => .inl rfl) _).setCell (p := ⟨nb, 1, none⟩) (fun _ => .inr (by show base ≤ nb; omega)) _), hd ((HNY.out.kp ((Kp.refl (One g) _).setOne 1 _) (fun k h1 _ q => by have q' : k = g := q; omega)).kp ((Kp.refl (One nb) _).setOne 1 _) (fun k _ h2 q => by have q' : k = nb := q; omega))⟩ ?_
          rintro WJ ⟨HPJ, HBJ, HKJ, HNJ⟩
          have HTJ := hd (HT.out.kp HKJ.out (fun k hk q => by rcases q with q | q <;> omega))
          have cQ := pext_any g nb s (j + 1) v (⟨depth, 9, d, ⟨#[]⟩, ⟨#[]⟩, [], ⟨#[]⟩, ⟨#[]⟩, false⟩ : Nd) WJ HPJ.out HTJ.out hg hnbt hngb HBJ.out rfl rfl rfl (by omega) (by omega) hlim
          have HR8 : extA s (⟨depth, 9, d, ⟨#[]⟩, ⟨#[]⟩, [], ⟨#[]⟩, ⟨#[]⟩, false⟩ : Nd) (j + 1) = R := HRX.out
          cases hv : extA s (⟨depth, 9, d, ⟨#[]⟩, ⟨#[]⟩, [], ⟨#[]⟩, ⟨#[]⟩, false⟩ : Nd) (j + 1) with
          | bad p =>
            have H9 := hd (show IRes.bad p = R by rw [hv] at HR8; exact HR8)
            rw [hv] at cQ
            clear hv HR8 HRX
            refine cQ.mono ?_
            rintro e WH ⟨rfl, hkh⟩
            have HKH := hd (HKJ.out.trans' hkh (fun k hk q => by rcases q with q | q; exact .inl q; exact .inr (by omega)))
            clear hkh
            go_wp2
            exact ⟨rfl, PItEnd.bad_ H9.out HKH.out⟩
          | ok nx j9 =>
            have H9' := hd (show IRes.ok nx j9 = R by rw [hv] at HR8; exact HR8)
            rw [hv] at cQ
            clear hv HR8 HRX
            refine cQ.mono ?_
            rintro e WH ⟨rfl, av, hph, hbh, hah, hkh, hj90, hj91⟩
            obtain ⟨xd, xo, xde, xv, xi, xa, xf, xr, xdn⟩ := nx
            obtain ⟨Av, cv, rfl, _⟩ := hah.reads
            have HPH := hd hph
            have HBH := hd hbh
            have HAH := hd (show AnyR WH base (fun k => base ≤ k) (.slice Av xa.length cv) xa from (hah.lower (by have := HKJ.out.size; omega)).mono (fun k hk => by have := HKJ.out.size; omega))
            have HNH := hd (HNJ.out.kp hkh (fun k hk1 hk2 q => by rcases q with q | q <;> omega)).up
            have HKH := hd (HKJ.out.trans' hkh (fun k hk q => by rcases q with q | q; exact .inl q; exact .inr (by omega)))
            have H9 := H9'
            clear hph hbh hah hkh H9'
            have r2 := HPH.out.c2
            have z2 := HPH.out.fz 2
            have b0 : WH.cell? ⟨nb, 0, none⟩ = some (.int .i64 xd) := HBH.out.c 0 rfl
            have b1 : WH.cell? ⟨nb, 1, none⟩ = some (.int .i64 xo) := HBH.out.c 1 rfl
            have b2 : WH.cell? ⟨nb, 2, none⟩ = some (.string xde) := HBH.out.c 2 rfl
            have b3 : WH.cell? ⟨nb, 3, none⟩ = some (.string xv) := HBH.out.c 3 rfl
            have b4 : WH.cell? ⟨nb, 4, none⟩ = some (.string xi) := HBH.out.c 4 rfl
            have b5 : WH.cell? ⟨nb, 5, none⟩ = some (.slice Av xa.length cv) := HBH.out.c 5 rfl
            have b6 : WH.cell? ⟨nb, 6, none⟩ = some (.string xf) := HBH.out.c 6 rfl
            have b7 : WH.cell? ⟨nb, 7, none⟩ = some (.string xr) := HBH.out.c 7 rfl
            have b8 : WH.cell? ⟨nb, 8, none⟩ = some (.bool xdn) := HBH.out.c 8 rfl
            have r2a : (WH.alloc (.cells #[.int .i64 xd, .int .i64 xo, .string xde, .string xv, .string xi, .slice Av xa.length cv, .string xf, .string xr, .bool xdn] 49)).cell? ⟨g, 2, none⟩ = some v := (HPH.out.alloc _).c2
            have hnH : NS WH.drew base v ns := HNH.out.drewN 1
            have hbH : base ≤ WH.heap.size := Nat.le_trans hbase HKH.out.size
            go_wp2_with (fail)
            go_region_law (refine step_app_node WH.drew base rfl (.tmp 112) (.tmp 114) rfl v ns (⟨xd, xo, xde, xv, xi, xa, xf, xr, xdn⟩ : Nd) ((.slice Av xa.length cv)) rfl rfl hnH HAH.out hbH hlen rfl ?_; rintro A3 c3 w3 ⟨hs3, hg3⟩; have HR3 : Hid (PB w3 g s (j9) v) := hd (blk_grown HPH.out.drew hg3 (fun e => absurd (hnH.own g e.symm) (by omega))); have HS3 := hd hs3; have HG3 := hd hg3; clear hs3 hg3; have z3 := HR3.out.fz 2; have y3 := HR3.out.c2)
            all_goals
              go_wp2
              go_end0
              exact PItEnd.app_ hgb HN.out HPH.out.drew HKH.out.drew HS3.out HG3.out (by omega) (by omega) H9.out
        · have n61 : (c == 61) = false := by rw [beq_eq_false_iff_ne]; omega
          rw [if_neg (by omega), if_neg (by omega), if_pos hc3] at HRN
          obtain ⟨xo, hxo⟩ : ∃ x, signOp c = x := ⟨_, rfl⟩
          have hsg0 := fun W => signs3 W c hc3
          unfold signS at HRN
          rw [hxo] at HRN hsg0
          have hsg := hd hsg0
          have HR9 := hd HRN
          clear HRN hxo hsg0
          rcases hc3 with rfl | rfl | rfl
          all_goals
            go_enter Tryd.func18, Tryd.ntmps18
            go_wp2_with (fail)
            refine cR.out.mono ?_
            rintro e w1 ⟨rfl, hr1, hk1⟩
            have HP1 := hd hr1
            have HK1 := hd (hk1.mono (S' := Own g base) (fun k _ q => .inl q))
            have HN1 := hd (HN.out.one hk1 hgb).bd
            have HT1 := hd (HT.out.one hk1 hg)
            have hb1 : base ≤ w1.heap.size := Nat.le_trans hbase hk1.size
            have hnbt : gTop < w1.heap.size := HT1.out.top
            have hngb : w1.heap.size ≠ g := by have := hr1.lt; omega
            clear hr1 hk1 c1
            go_wp2_with (fail)
            refine at_world (fun W => Hid (PB W g s j v) ∧ Hid (Blk W w1.heap.size #[.int .i64 depth, .int .i64 0, .string d, .string ⟨#[]⟩, .string ⟨#[]⟩, .slice none 0 0, .string ⟨#[]⟩, .string ⟨#[]⟩, .bool false] 49) ∧ Hid (Kp (Own g base) w W) ∧ Hid (NSb W base w1.heap.size v ns) ∧ Hid (Tabs W)) ⟨hd (HP1.out.alloc _), hd (Blk.new _ _ _), hd (HK1.out.alloc _), hd (HN1.out.kp ((Kp.refl No _).alloc _) (fun _ _ _ q => q)), hd (HT1.out.no ((Kp.refl No _).alloc _))⟩ ?_
            rintro WI ⟨HPI, HBI, HKI, HNI, HTI⟩
            obtain ⟨nb, hnb⟩ : ∃ x, w1.heap.size = x := ⟨_, rfl⟩
            rw [hnb] at HBI hb1 hnbt hngb HNI
            rw [hnb]
            clear hnb
            refine (cA.out _ HTI.out).mono ?_
            rintro e wa ⟨x, A, m, cc, rfl, hka⟩
            have HPY0 := hd ((HPI.out.kp hka (fun q => q)).alloc (.cells #[.string x, .slice A m cc] 52))
            have HBY0 := hd ((HBI.out.kp hka (fun q => q)).alloc (.cells #[.string x, .slice A m cc] 52))
            have HKY0 := hd ((HKI.out.trans (hka.mono (S' := Own g base) (fun _ _ q => q.elim))).alloc (.cells #[.string x, .slice A m cc] 52))
            have HNY0 := hd ((HNI.out.kp hka (fun _ _ _ q => q)).kp ((Kp.refl No _).alloc (.cells #[.string x, .slice A m cc] 52)) (fun _ _ _ q => q))
            clear hka HPI HBI HKI HNI
            go_wp2_with (fail)
            refine (peek_in g s j v _ HPY0.out (by omega) hlt).mono ?_
            rintro e wz ⟨rfl, np, rfl⟩
            rw [HC.out]
            have HPY := hd (HPY0.out.drewN np)
            have HBY := hd (HBY0.out.drewN np)
            have HKY := hd (HKY0.out.drewN np)
            have HNY := hd (HNY0.out.kp ((Kp.refl No _).drewN np) (fun _ _ _ q => q))
            have HTY := hd (HT.out.kp HKY.out (fun k hk q => by rcases q with q | q <;> omega))
            have c1y := HPY.out.c1
            have f1y := HPY.out.fz 1
            clear HPY0 HBY0 HKY0 HNY0
            go_wp2_with (fail)
            refine at_world (fun W => Hid (PB W g s (j + 1) v) ∧ Hid (Blk W nb #[.int .i64 depth, .int .i64 0, .string d, .string ⟨#[]⟩, .string ⟨#[]⟩, .slice none 0 0, .string ⟨#[]⟩, .string ⟨#[]⟩, .bool false] 49) ∧ Hid (Kp (Own g base) w W) ∧ Hid (NSb W base nb v ns)) ⟨hd (HPY.out.set1 _), hd (HBY.out.far (p := ⟨g, 1, none⟩) hngb _), hd (HKY.out.setCell (p := ⟨g, 1, none⟩) (fun _ => .inl rfl) _), hd (HNY.out.kp ((Kp.refl (One g) _).setOne 1 _) (fun k h1 _ q => by have q' : k = g := q; omega))⟩ ?_
            rintro WJ ⟨HPJ, HBJ, HKJ, HNJ⟩
            have HTJ := hd (HT.out.kp HKJ.out (fun k hk q => by rcases q with q | q <;> omega))
            have HR8 := HR9.out
            cases hq : isB s (j + 1) 61 with
            | false =>
              have H9 := hd (show IRes.bad (j + 1) = R by rw [if_pos hq] at HR8; exact HR8)
              have HQ := hd hq
              clear hq HR8 HR9
              refine (want_no g s (j + 1) v 61 _ HPJ.out (by omega) HQ.out).mono ?_
              rintro e w3 ⟨rfl, hd3⟩
              go_wp2
              exact ⟨rfl, PItEnd.bad_ H9.out (HKJ.out.dr hd3)⟩
            | true =>
              rw [if_neg (by rw [hq]; simp)] at HR8
              have HQ := hd hq
              have HEQ := hd (isB_true hq)
              clear hq HR9
              refine (want_yes g s (j + 1) v 61 _ HPJ.out (by omega) hlim HQ.out).mono ?_
              rintro e w3 ⟨rfl, hp3, hk3⟩
              have e2 : j + 1 + 1 = j + 2 := by omega
              rw [e2] at hp3
              have HP3 := hd hp3
              have HB3 := hd (HBJ.out.kp hk3 (fun q => hngb q))
              have HK3 := hd (HKJ.out.trans (hk3.mono (S' := Own g base) (fun k _ q => .inl q)))
              have HN3 := hd (HNJ.out.kp hk3 (fun k h1 _ q => by have q' : k = g := q; omega))
              clear hp3 hk3 e2 c1y f1y
              obtain ⟨W1, W2, W3, s1, s2, s3, s4, hks⟩ := hsg.out w3
              have hmm := @run_makeMap Tryd.prog
              have HP5 := hd (HP3.out.kp hks (fun q => q))
              have HB5 := hd (HB3.out.kp hks (fun q => q))
              have HK5 := hd (HK3.out.trans (hks.mono (S' := Own g base) (fun _ _ q => q.elim)))
              have HN5 := hd (HN3.out.kp hks (fun _ _ _ q => q))
              have HT5 := hd (HT.out.kp HK5.out (fun k hk q => by rcases q with q | q <;> omega))
              have b15 : W3.cell? ⟨nb, 1, none⟩ = some (.int .i64 0) := HB5.out.c 1 rfl
              have f15 := HB5.out.f 1
              clear hks
              go_wp2_with (fail)
              clear s1 s2 s3 s4 hmm b15 f15
              refine at_world (fun W => Hid (PB W g s (j + 2) v) ∧ Hid (Blk W nb #[.int .i64 depth, .int .i64 xo, .string d, .string ⟨#[]⟩, .string ⟨#[]⟩, .slice none 0 0, .string ⟨#[]⟩, .string ⟨#[]⟩, .bool false] 49) ∧ Hid (Kp (Own g base) w W) ∧ Hid (NSb W base nb v ns)) ⟨hd (HP5.out.kp (S := One nb) ((Kp.refl _ _).setOne 1 _) (fun q => hngb q.symm)), hd (Blk.cast (HB5.out.set 1 _) (by kernel_rfl)), hd (HK5.out.setCell (p := ⟨nb, 1, none⟩) (fun _ => .inr (by show base ≤ nb; omega)) _), hd (HN5.out.kp ((Kp.refl (One nb) _).setOne 1 _) (fun k _ h2 q => by have q' : k = nb := q; omega))⟩ ?_
              rintro WK ⟨HPK, HBK, HKK, HNK⟩
              have HTK := hd (HT.out.kp HKK.out (fun k hk q => by rcases q with q | q <;> omega))
              have cV := pieces_any g s (j + 2) v false WK HPK.out HTK.out hg (by omega) (by have := HEQ.out.1; omega) hlim
              cases hv : vals s false (s.size + 1) (j + 2) false [] [] with
              | bad p =>
                have H9 := hd (show IRes.bad p = R by rw [hv] at HR8; exact HR8)
                rw [hv] at cV
                clear hv HR8
                refine cV.mono ?_
                rintro e wv ⟨rfl, hkv⟩
                go_wp2
                exact ⟨rfl, PItEnd.bad_ H9.out (HKK.out.trans (hkv.mono (S' := Own g base) (fun k _ q => .inl q)))⟩
              | ok l j9 =>
                have H9' := hd (show IRes.ok (⟨depth, xo, d, l.getD 0 ⟨#[]⟩, ⟨#[]⟩, [], ⟨#[]⟩, ⟨#[]⟩, false⟩ : Nd) j9 = R by rw [hv] at HR8; exact HR8)
                rw [hv] at cV
                clear hv HR8
                refine cV.mono ?_
                rintro e wv ⟨Az, cz, rfl, hpv, hkv, hsv, hlv, hlv2, hj90, hj91⟩
                obtain ⟨bv, capv, hbv, hbb, hbl, hcv⟩ := hsv.form hlv
                injection hbv with e1 e2 e3
                subst e1 e3
                have hx0 := hcv 0 hlv
                have hlen2 : l.length ≤ 4194305 := by omega
                have z1 := eq_true (show 0 < l.length from hlv)
                have HP6 := hd hpv
                have HK6 := hd (HKK.out.trans (hkv.mono (S' := Own g base) (fun k _ q => .inl q)))
                have HB6 := hd (HBK.out.kp hkv (fun q => hngb q))
                have HN6 := hd (HNK.out.kp hkv (fun k h1 _ q => by have q' : k = g := q; omega))
                have f3 := HB6.out.f 3
                have c3 : wv.cell? ⟨nb, 3, none⟩ = some (.string ⟨#[]⟩) := HB6.out.c 3 rfl
                have n1 : (nb = bv) = False := eq_false (Nat.ne_of_lt (Nat.lt_of_lt_of_le HBK.out.lt hbb))
                generalize l.getD 0 ⟨#[]⟩ = x0 at hx0 H9'
                clear hcv hsv hpv hkv
                clear HBK
                go_upto_region 25 with (fail)
                have hW : ∃ WH, WH = wv.setCell ⟨nb, 3, none⟩ (.string x0) := ⟨_, rfl⟩
                obtain ⟨WH, hWH⟩ := hW
                have HPH : Hid (PB WH g s j9 v) := hd (by rw [hWH]; exact HP6.out.kp (S := One nb) ((Kp.refl _ _).setOne 3 _) (fun q => hngb q.symm))
                have HBH : Hid (Blk WH nb (Nd.cells ⟨depth, xo, d, x0, ⟨#[]⟩, [], ⟨#[]⟩, ⟨#[]⟩, false⟩ (.slice none ([] : List ByteArray).length 0)) 49) := hd (by rw [hWH]; exact Blk.cast (HB6.out.set 3 _) (by kernel_rfl))
                have HAH : Hid (AnyR WH base (fun k => base ≤ k) (.slice none ([] : List ByteArray).length 0) []) := hd (AnyR.nil _ _ _)
                have HKH : Hid (Kp (Own g base) w WH) := hd (by rw [hWH]; exact HK6.out.setCell (p := ⟨nb, 3, none⟩) (fun _ => .inr (by show base ≤ nb; omega)) _)
                have HNH : Hid (NS WH base v ns) := hd (by rw [hWH]; exact (HN6.out.kp ((Kp.refl (One nb) _).setOne 3 _) (fun k _ h2 q => by have q' : k = nb := q; omega)).up)
                have H9 := H9'
                rw [← hWH]
                clear hWH H9' HN6 HK6 HB6 HP6 f3 c3
                have r2 := HPH.out.c2
                have z2 := HPH.out.fz 2
                have b0 : WH.cell? ⟨nb, 0, none⟩ = some (.int .i64 depth) := HBH.out.c 0 rfl
                have b1 : WH.cell? ⟨nb, 1, none⟩ = some (.int .i64 xo) := HBH.out.c 1 rfl
                have b2 : WH.cell? ⟨nb, 2, none⟩ = some (.string d) := HBH.out.c 2 rfl
                have b3 : WH.cell? ⟨nb, 3, none⟩ = some (.string x0) := HBH.out.c 3 rfl
                have b4 : WH.cell? ⟨nb, 4, none⟩ = some (.string ⟨#[]⟩) := HBH.out.c 4 rfl
                have b5 : WH.cell? ⟨nb, 5, none⟩ = some (.slice none 0 0) := HBH.out.c 5 rfl
                have b6 : WH.cell? ⟨nb, 6, none⟩ = some (.string ⟨#[]⟩) := HBH.out.c 6 rfl
                have b7 : WH.cell? ⟨nb, 7, none⟩ = some (.string ⟨#[]⟩) := HBH.out.c 7 rfl
                have b8 : WH.cell? ⟨nb, 8, none⟩ = some (.bool false) := HBH.out.c 8 rfl
                have r2a : (WH.alloc (.cells #[.int .i64 depth, .int .i64 xo, .string d, .string x0, .string ⟨#[]⟩, .slice none 0 0, .string ⟨#[]⟩, .string ⟨#[]⟩, .bool false] 49)).cell? ⟨g, 2, none⟩ = some v := (HPH.out.alloc _).c2
                have hnH : NS WH.drew base v ns := HNH.out.drewN 1
                have hbH : base ≤ WH.heap.size := Nat.le_trans hbase HKH.out.size
                go_wp2_with (fail)
                go_region_law (refine step_app_node WH.drew base rfl (.tmp 112) (.tmp 114) rfl v ns (⟨depth, xo, d, x0, ⟨#[]⟩, [], ⟨#[]⟩, ⟨#[]⟩, false⟩ : Nd) ((.slice none 0 0)) rfl rfl hnH HAH.out hbH hlen rfl ?_; rintro A3 c3 w3 ⟨hs3, hg3⟩; have HR3 : Hid (PB w3 g s (j9) v) := hd (blk_grown HPH.out.drew hg3 (fun e => absurd (hnH.own g e.symm) (by omega))); have HS3 := hd hs3; have HG3 := hd hg3; clear hs3 hg3; have z3 := HR3.out.fz 2; have y3 := HR3.out.c2)
                all_goals
                  go_wp2
                  go_end0
                  exact PItEnd.app_ hgb HN.out HPH.out.drew HKH.out.drew HS3.out HG3.out (by omega) (by omega) H9.out
        · rw [if_neg (by omega), if_neg (by omega), if_neg (by omega)] at HRN
          have H9 := hd HRN
          have n1 : (c == 61) = false := by rw [beq_eq_false_iff_ne]; omega
          have n2 : (c == 58) = false := by rw [beq_eq_false_iff_ne]; omega
          have n3 : (c == 126) = false := by rw [beq_eq_false_iff_ne]; omega
          have n4 : (c == 62) = false := by rw [beq_eq_false_iff_ne]; omega
          have n5 : (c == 60) = false := by rw [beq_eq_false_iff_ne]; omega
          clear HRN
          go_enter Tryd.func18, Tryd.ntmps18
          go_wp2_with (fail)
          refine cR.out.mono ?_
          rintro e w1 ⟨rfl, hr1, hk1⟩
          have HP1 := hd hr1
          have HK1 := hd (hk1.mono (S' := Own g base) (fun k _ q => .inl q))
          have HN1 := hd (HN.out.one hk1 hgb).bd
          have HT1 := hd (HT.out.one hk1 hg)
          have hb1 : base ≤ w1.heap.size := Nat.le_trans hbase hk1.size
          have hnbt : gTop < w1.heap.size := HT1.out.top
          have hngb : w1.heap.size ≠ g := by have := hr1.lt; omega
          clear hr1 hk1 c1
          go_wp2_with (fail)
          refine at_world (fun W => Hid (PB W g s j v) ∧ Hid (Blk W w1.heap.size #[.int .i64 depth, .int .i64 0, .string d, .string ⟨#[]⟩, .string ⟨#[]⟩, .slice none 0 0, .string ⟨#[]⟩, .string ⟨#[]⟩, .bool false] 49) ∧ Hid (Kp (Own g base) w W) ∧ Hid (NSb W base w1.heap.size v ns) ∧ Hid (Tabs W)) ⟨hd (HP1.out.alloc _), hd (Blk.new _ _ _), hd (HK1.out.alloc _), hd (HN1.out.kp ((Kp.refl No _).alloc _) (fun _ _ _ q => q)), hd (HT1.out.no ((Kp.refl No _).alloc _))⟩ ?_
          rintro WI ⟨HPI, HBI, HKI, HNI, HTI⟩
          obtain ⟨nb, hnb⟩ : ∃ x, w1.heap.size = x := ⟨_, rfl⟩
          rw [hnb] at HBI hb1 hnbt hngb HNI
          rw [hnb]
          clear hnb
          refine (cA.out _ HTI.out).mono ?_
          rintro e wa ⟨x, A, m, cc, rfl, hka⟩
          have HPY0 := hd ((HPI.out.kp hka (fun q => q)).alloc (.cells #[.string x, .slice A m cc] 52))
          have HBY0 := hd ((HBI.out.kp hka (fun q => q)).alloc (.cells #[.string x, .slice A m cc] 52))
          have HKY0 := hd ((HKI.out.trans (hka.mono (S' := Own g base) (fun _ _ q => q.elim))).alloc (.cells #[.string x, .slice A m cc] 52))
          have HNY0 := hd ((HNI.out.kp hka (fun _ _ _ q => q)).kp ((Kp.refl No _).alloc (.cells #[.string x, .slice A m cc] 52)) (fun _ _ _ q => q))
          clear hka HPI HBI HKI HNI
          go_wp2_with (fail)
          refine (peek_in g s j v _ HPY0.out (by omega) hlt).mono ?_
          rintro e wz ⟨rfl, np, rfl⟩
          rw [HC.out]
          have HPY := hd (HPY0.out.drewN np)
          have HBY := hd (HBY0.out.drewN np)
          have HKY := hd (HKY0.out.drewN np)
          have HNY := hd (HNY0.out.kp ((Kp.refl No _).drewN np) (fun _ _ _ q => q))
          have HTY := hd (HT.out.kp HKY.out (fun k hk q => by rcases q with q | q <;> omega))
          have c1y := HPY.out.c1
          have f1y := HPY.out.fz 1
          clear HPY0 HBY0 HKY0 HNY0
          go_wp2_with (fail)
          refine (fail_any g j _).mono ?_
          rintro e wf ⟨rfl, rfl⟩
          go_wp2
          exact ⟨rfl, PItEnd.bad_ H9.out HKY.out⟩
      · have H9 := hd (show IRes.bad j = R by rw [← HR9.out]; unfold itemN chAt; rw [if_neg hlt]; simp)
        clear HR9
        go_enter Tryd.func18, Tryd.ntmps18
        go_wp2_with (fail)
        refine cR.out.mono ?_
        rintro e w1 ⟨rfl, hr1, hk1⟩
        have HP1 := hd hr1
        have HK1 := hd (hk1.mono (S' := Own g base) (fun k _ q => .inl q))
        have HN1 := hd (HN.out.one hk1 hgb).bd
        have HT1 := hd (HT.out.one hk1 hg)
        have hb1 : base ≤ w1.heap.size := Nat.le_trans hbase hk1.size
        have hnbt : gTop < w1.heap.size := HT1.out.top
        have hngb : w1.heap.size ≠ g := by have := hr1.lt; omega
        clear hr1 hk1 c1
        go_wp2_with (fail)
        refine at_world (fun W => Hid (PB W g s j v) ∧ Hid (Blk W w1.heap.size #[.int .i64 depth, .int .i64 0, .string d, .string ⟨#[]⟩, .string ⟨#[]⟩, .slice none 0 0, .string ⟨#[]⟩, .string ⟨#[]⟩, .bool false] 49) ∧ Hid (Kp (Own g base) w W) ∧ Hid (NSb W base w1.heap.size v ns) ∧ Hid (Tabs W)) ⟨hd (HP1.out.alloc _), hd (Blk.new _ _ _), hd (HK1.out.alloc _), hd (HN1.out.kp ((Kp.refl No _).alloc _) (fun _ _ _ q => q)), hd (HT1.out.no ((Kp.refl No _).alloc _))⟩ ?_
        rintro WI ⟨HPI, HBI, HKI, HNI, HTI⟩
        obtain ⟨nb, hnb⟩ : ∃ x, w1.heap.size = x := ⟨_, rfl⟩
        rw [hnb] at HBI hb1 hnbt hngb HNI
        rw [hnb]
        clear hnb
        refine (cA.out _ HTI.out).mono ?_
        rintro e wa ⟨x, A, m, cc, rfl, hka⟩
        have HPY0 := hd ((HPI.out.kp hka (fun q => q)).alloc (.cells #[.string x, .slice A m cc] 52))
        have HBY0 := hd ((HBI.out.kp hka (fun q => q)).alloc (.cells #[.string x, .slice A m cc] 52))
        have HKY0 := hd ((HKI.out.trans (hka.mono (S' := Own g base) (fun _ _ q => q.elim))).alloc (.cells #[.string x, .slice A m cc] 52))
        have HNY0 := hd ((HNI.out.kp hka (fun _ _ _ q => q)).kp ((Kp.refl No _).alloc (.cells #[.string x, .slice A m cc] 52)) (fun _ _ _ q => q))
        clear hka HPI HBI HKI HNI
        have c1y := HPY0.out.c1
        go_wp2_with (fail)
        refine (peek_out g s j v _ HPY0.out (by omega)).mono ?_
        rintro e wz ⟨rfl, np, rfl⟩
        go_wp2_with (fail)
        refine (fail_any g j _).mono ?_
        rintro e wf ⟨rfl, rfl⟩
        go_wp2
        exact ⟨rfl, PItEnd.bad_ H9.out (HKY0.out.drewN _)⟩
    · have te40 : descE d = 40 := by unfold descE at te ⊢; split at te <;> first | (exact absurd rfl te) | (rename_i q; rw [if_neg q])
      have H9 := hd (show IRes.bad (i + descP d) = R by rw [← hR]; unfold itemD; rw [if_neg (fun q => z0 q.1), if_pos ⟨z0, te⟩])
      have htq : 0 ≤ descP d ∧ descP d ≤ 4194304 := by have := descP_le d; omega
      rw [te40] at cA
      clear hR te te40
      generalize descP d = dp at cA H9 htq
      go_enter Tryd.func18, Tryd.ntmps18
      go_wp2_with (fail)
      refine cR.out.mono ?_
      rintro e w1 ⟨rfl, hr1, hk1⟩
      have HP1 := hd hr1
      have HK1 := hd (hk1.mono (S' := Own g base) (fun k _ q => .inl q))
      have HN1 := hd (HN.out.one hk1 hgb).bd
      have HT1 := hd (HT.out.one hk1 hg)
      have hb1 : base ≤ w1.heap.size := Nat.le_trans hbase hk1.size
      have hnbt : gTop < w1.heap.size := HT1.out.top
      have hngb : w1.heap.size ≠ g := by have := hr1.lt; omega
      clear hr1 hk1 c1
      go_wp2_with (fail)
      refine at_world (fun W => Hid (PB W g s j v) ∧ Hid (Blk W w1.heap.size #[.int .i64 depth, .int .i64 0, .string d, .string ⟨#[]⟩, .string ⟨#[]⟩, .slice none 0 0, .string ⟨#[]⟩, .string ⟨#[]⟩, .bool false] 49) ∧ Hid (Kp (Own g base) w W) ∧ Hid (NSb W base w1.heap.size v ns) ∧ Hid (Tabs W)) ⟨hd (HP1.out.alloc _), hd (Blk.new _ _ _), hd (HK1.out.alloc _), hd (HN1.out.kp ((Kp.refl No _).alloc _) (fun _ _ _ q => q)), hd (HT1.out.no ((Kp.refl No _).alloc _))⟩ ?_
      rintro WI ⟨HPI, HBI, HKI, HNI, HTI⟩
      obtain ⟨nb, hnb⟩ : ∃ x, w1.heap.size = x := ⟨_, rfl⟩
      rw [hnb] at HBI hb1 hnbt hngb HNI
      rw [hnb]
      clear hnb
      refine (cA.out _ HTI.out).mono ?_
      rintro e wa ⟨x, A, m, c, rfl, hka⟩
      have HKA := hd (HKI.out.trans (hka.mono (S' := Own g base) (fun _ _ q => q.elim)))
      clear hka
      go_wp2_with (fail)
      refine (fail_any g (i + dp) _).mono ?_
      rintro e wf ⟨rfl, rfl⟩
      go_wp2
      exact ⟨rfl, PItEnd.bad_ H9.out (HKA.out.alloc _)⟩
end Go.Proofs.YtieolphpgjpcmaaDoor
