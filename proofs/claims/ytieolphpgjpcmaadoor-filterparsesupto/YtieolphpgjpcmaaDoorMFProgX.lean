/- filter.parser: extensible. -/
import Derived.Test.YtieolphpgjpcmaaDoorMFProgQ
import Derived.Test.YtieolphpgjpcmaaDoorMFProgR
import Derived.Test.YtieolphpgjpcmaaDoorMFAttrP
import Derived.Test.YtieolphpgjpcmaaDoorM04

namespace Go.Proofs.YtieolphpgjpcmaaDoor
open Go.RowKit Go.Proofs.YtieolphpgjpcmaaDoorW.PrintWords

/-- How the reading of an item's rest ends: the node's block holds the node. -/
def XEnd (w w' : World) (g nb : Nat) (s : ByteArray) (v : Value) (i0 : Int) (e : Ending) : IRes → Prop
  | .bad p => e = faulty 120 p ∧ Kp (Two g nb) w w'
  | .ok n j => e = .returned (.tuple #[]) ∧ ∃ av, PB w' g s j v ∧ Blk w' nb (n.cells av) 49 ∧ AnyR w' w.heap.size (fun k => w.heap.size ≤ k) av n.any ∧ Kp (Two g nb) w w' ∧ i0 ≤ j ∧ j ≤ (s.size : Int)
theorem XEnd.bad_ {w w' : World} {g nb : Nat} {s : ByteArray} {v : Value} {i0 p : Int} {R : IRes} (hR : .bad p = R) (hk : Kp (Two g nb) w w') : XEnd w w' g nb s v i0 (faulty 120 p) R := by subst hR; exact ⟨rfl, hk⟩
theorem isDn_spell (x : ByteArray) : isDn x = ((foldS x).toList == [100, 110]) := rfl
theorem nempty {x : ByteArray} (h : x.size ≠ 0) : x.toList.isEmpty = false := by rw [empty_iff]; simpa using h
theorem yempty {x : ByteArray} (h : x.size = 0) : x.toList.isEmpty = true := by rw [empty_iff]; simpa using h
/-- The text that a row takes up. -/
theorem row_size (s : ByteArray) (a b : Int) : (s.extract a.toNat b.toNat).size ≤ s.size := by rw [ByteArray.size_extract]; omega

theorem tp_range (s : ByteArray) : 0 ≤ typeP s ∧ typeP s ≤ (s.size : Int) := by
  unfold typeP
  split
  · omega
  · have := placeF_spec s true (s.size + 1) 0 s.size (by omega) (by omega) (by omega) (by omega) rfl (fun p h h' => by omega)
    exact ⟨this.1, this.2.1⟩
set_option maxHeartbeats 8000000 in
set_option maxRecDepth 100000 in
theorem pext_any (g nb : Nat) (s : ByteArray) (i : Int) (v : Value) (n : Nd) (w : World) (hp : PB w g s i v) (hT : Tabs w) (hg : gTop < g) (hg2 : gTop < nb) (hne : nb ≠ g) (hB : Blk w nb (n.cells (.slice none 0 0)) 49) (hn : n.any = []) (hn2 : n.op = 9) (hn3 : n.rule.size = 0) (h0 : 0 ≤ i) (h1 : i ≤ (s.size : Int)) (hl : s.size ≤ LIM) :
    Calls Tryd.prog 30 #[.pointer (some ⟨g, 0, none⟩), .pointer (some ⟨nb, 0, none⟩)] w fun e w' => XEnd w w' g nb s v i e (extA s n i) := by
  obtain ⟨R, hR⟩ : ∃ R, extA s n i = R := ⟨_, rfl⟩
  rw [hR]
  have hA := hp.lt
  have hA2 := hB.lt
  have HB := hd hB
  have HT := hd hT
  obtain ⟨nd, no, nde, nv, ni, na, nf, nr, ndn⟩ := n
  obtain rfl : na = [] := hn
  obtain rfl : no = 9 := hn2
  have hnr := yempty hn3
  unfold extA at hR
  simp only at hR
  have cR := hd (prow_any g s i v false w hp h0 h1 hl)
  obtain ⟨j, hj⟩ : ∃ j, rowEnd s false (s.size + 1) i = j := ⟨_, rfl⟩
  have hj0 : i ≤ j := by rw [← hj]; exact rowEnd_ge _ _ _ _
  have hj1 : j ≤ (s.size : Int) := by rw [← hj]; exact rowEnd_le _ _ _ _ h1
  rw [hj] at cR hR
  have hws := row_size s i j
  obtain ⟨wd, hwd⟩ : ∃ x, s.extract i.toNat j.toNat = x := ⟨_, rfl⟩
  rw [hwd] at cR hR hws
  have hlim := hl
  unfold LIM at hl
  have cF := hd (fun W => tfold_any wd W (by unfold LIM; omega))
  have c1 := hp.c1
  have HP0 := hd hp
  clear hT hp hB hwd hj hn3
  cases hdn : isDn wd with
  | true =>
    rw [if_pos hdn] at hR
    rw [isDn_spell] at hdn
    cases hc : isB s j 58 with
    | false =>
      rw [if_pos hc] at hR
      have HRR := hd hR
      have HC := hd hc
      clear hR hc
      go_enter Tryd.func30, Tryd.ntmps30
      go_wp2_with (fail)
      refine cR.out.mono ?_
      rintro e w1 ⟨rfl, hr1, hk1⟩
      have HP1 := hd hr1
      have HK1 := hd hk1
      clear hr1 hk1 c1
      go_wp2_with (fail)
      refine (cF.out _).mono ?_
      rintro e w2 ⟨rfl, hk2⟩
      have HP2 := hd (HP1.out.kp hk2 (fun q => q))
      have HK2 := hd ((HK1.out.mono (S' := Two g nb) (fun k _ q => .inl q)).no hk2)
      have HB2 := hd ((HB.out.kp HK1.out (fun q => hne q)).kp hk2 (fun q => q))
      have f8 := HB2.out.f 8
      have c8 := HB2.out.c 8 rfl
      clear hk2
      go_wp2_with (fail)
      refine (want_no g s j v 58 _ (HP2.out.kp (S := One nb) ((Kp.refl _ _).setOne 8 _) (fun q => hne q.symm)) (by omega) HC.out).mono ?_
      rintro e w3 ⟨rfl, hd3⟩
      go_wp2
      exact ⟨rfl, XEnd.bad_ HRR.out (((HK2.out).setCell (fun _ => .inr rfl) _).dr hd3)⟩
    | true =>
      rw [if_neg (by rw [hc]; simp)] at hR
      have hlt := (isB_true hc).1
      obtain ⟨jj, hjj⟩ : ∃ jj, rowEnd s false (s.size + 1) (j + 1) = jj := ⟨_, rfl⟩
      have hjj0 : j + 1 ≤ jj := by rw [← hjj]; exact rowEnd_ge _ _ _ _
      have hjj1 : jj ≤ (s.size : Int) := by rw [← hjj]; exact rowEnd_le _ _ _ _ (by omega)
      have cR2 := hd (fun W hW => prow_any g s (j + 1) v false W hW (by omega) (by omega) hlim)
      rw [hjj] at hR cR2
      have hws2 := row_size s (j + 1) jj
      obtain ⟨wd2, hwd2⟩ : ∃ x, s.extract (j + 1).toNat jj.toNat = x := ⟨_, rfl⟩
      rw [hwd2] at cR2 hR hws2
      have HRR := hd hR
      have HC := hd hc
      clear hR hc hwd2 hjj
      go_enter Tryd.func30, Tryd.ntmps30
      go_wp2_with (fail)
      refine cR.out.mono ?_
      rintro e w1 ⟨rfl, hr1, hk1⟩
      have HP1 := hd hr1
      have HK1 := hd hk1
      clear hr1 hk1 c1
      go_wp2_with (fail)
      refine (cF.out _).mono ?_
      rintro e w2 ⟨rfl, hk2⟩
      have HP2 := hd (HP1.out.kp hk2 (fun q => q))
      have HK2 := hd ((HK1.out.mono (S' := Two g nb) (fun k _ q => .inl q)).no hk2)
      have HB2 := hd ((HB.out.kp HK1.out (fun q => hne q)).kp hk2 (fun q => q))
      have f8 := HB2.out.f 8
      have c8 := HB2.out.c 8 rfl
      clear hk2
      go_wp2_with (fail)
      refine (want_yes g s j v 58 _ (HP2.out.kp (S := One nb) ((Kp.refl _ _).setOne 8 _) (fun q => hne q.symm)) (by omega) hlim HC.out).mono ?_
      rintro e w3 ⟨rfl, hp3, hk3⟩
      have HP3 := hd hp3
      have HK3 := hd ((HK2.out.setCell (p := ⟨nb, 8, none⟩) (fun _ => .inr rfl) (.bool true)).trans (hk3.mono (fun k _ q => .inl q)))
      have HB3 := hd (show Blk w3 nb (Nd.cells ⟨nd, 9, nde, nv, ni, [], nf, nr, true⟩ (.slice none 0 0)) 49 from Blk.cast ((HB2.out.set 8 (.bool true)).kp hk3 (fun q => hne q)) (by kernel_rfl))
      have c31 := hp3.c1
      clear f8 c8 hp3 hk3 HB2 HK2 HP2
      go_wp2_with (fail)
      refine (cR2.out _ HP3.out).mono ?_
      rintro e w4 ⟨rfl, hr4, hk4⟩
      have HPX := hd hr4
      have HKX := hd (HK3.out.trans (hk4.mono (S' := Two g nb) (fun k _ q => .inl q)))
      have HBX := hd (HB3.out.kp hk4 (fun q => hne q))
      have HTX := hd (HT.out.kp HKX.out (fun k hk q => by rcases q with q | q <;> omega))
      have cFX := hd (fun W => tfold_any wd2 W (by unfold LIM; omega))
      clear hr4 hk4 c31 HB3 HK3 HP3 cR cR2 cF hdn HB
      have c1x := HPX.out.c1
      have f1x := HPX.out.fz 1
      have n2x : w4.cell? ⟨nb, 2, none⟩ = some (.string nde) := HBX.out.c 2 rfl
      have n7x : w4.cell? ⟨nb, 7, none⟩ = some (.string nr) := HBX.out.c 7 rfl
      by_cases z0 : wd2.size = 0
      · have he := yempty z0
        have hRR := HRR.out
        unfold extB at hRR
        rw [if_pos z0] at hRR
        simp only at hRR
        cases hq : isB s jj 61 with
        | false =>
          have HQ := hd hq
          have H9 : Hid (IRes.bad (jj) = R) := hd (by
            rw [← hRR]
            split
            · rfl
            · first | rfl | rw [if_pos hq])
          clear HRR hRR hq
          have HRR := H9
          go_wp2_with (fail)
          refine (is_any g s (jj) v 61 _ HPX.out (by omega)).mono ?_
          rintro e wi ⟨rfl, ni9, rfl⟩
          rw [HQ.out]
          go_wp2_with (fail)
          refine (fail_any g (jj) _).mono ?_
          rintro e wf ⟨rfl, rfl⟩
          go_wp2
          exact ⟨rfl, XEnd.bad_ HRR.out (HKX.out.drewN _)⟩
        | true =>
          have HQ := hd hq
          have HEQ := hd (isB_true hq)
          by_cases zd : nde.size = 0
          · have hde := yempty zd
            have H9 : Hid (IRes.bad (jj) = R) := hd (by rw [← hRR, if_pos zd])
            clear HRR hRR hq
            have HRR := H9
            go_wp2_with (fail)
            refine (is_any g s (jj) v 61 _ HPX.out (by omega)).mono ?_
            rintro e wi ⟨rfl, ni9, rfl⟩
            rw [HQ.out]
            go_wp2_with (fail)
            refine (fail_any g (jj) _).mono ?_
            rintro e wf ⟨rfl, rfl⟩
            go_wp2
            exact ⟨rfl, XEnd.bad_ HRR.out (HKX.out.drewN _)⟩
          · have hde := nempty zd
            rw [if_neg zd, if_neg (by rw [hq]; simp)] at hRR
            clear hq
            have cV := hd (fun W hW hWT => pieces_any g s (jj + 1) v false W hW hWT hg (by omega) (by have := HEQ.out.1; omega) hlim)
            have HRV := hd (show withVal (⟨nd, 9, nde, nv, ni, [], nf, nr, true⟩ : Nd) (vals s false (s.size + 1) (jj + 1) false [] []) = R from hRR)
            clear HRR
            cases hv : vals s false (s.size + 1) (jj + 1) false [] [] with
            | bad p =>
              have H9 := hd (show IRes.bad p = R by have := HRV.out; rw [hv] at this; exact this)
              rw [hv] at cV
              clear hv HRV
              clear hRR
              go_wp2_with (fail)
              refine (is_any g s (jj) v 61 _ HPX.out (by omega)).mono ?_
              rintro e wi ⟨rfl, ni9, rfl⟩
              rw [HQ.out]
              have HPV := hd (HPX.out.drewN ni9)
              have HTV := hd (HTX.out.no ((Kp.refl No _).drewN ni9))
              have HKV := hd (HKX.out.drewN ni9)
              have HBV := hd (HBX.out.drewN ni9)
              go_wp2_with (fail)
              refine (cV.out _ (HPV.out.set1 _) (HTV.out.kp (S := One g) ((Kp.refl _ _).setOne 1 _) (fun k hk q => by have q' : k = g := q; omega))).mono ?_
              rintro e wv ⟨rfl, hkv⟩
              go_wp2
              exact ⟨rfl, XEnd.bad_ H9.out ((HKV.out.setCell (p := ⟨g, 1, none⟩) (fun _ => .inl rfl) _).trans (hkv.mono (S' := Two g nb) (fun k _ q => .inl q)))⟩
            | ok l j9 =>
              have H9 := hd (show IRes.ok { (⟨nd, 9, nde, nv, ni, [], nf, nr, true⟩ : Nd) with value := l.getD 0 ⟨#[]⟩ } j9 = R by have := HRV.out; rw [hv] at this; exact this)
              rw [hv] at cV
              clear hv HRV
              clear hRR
              go_wp2_with (fail)
              refine (is_any g s (jj) v 61 _ HPX.out (by omega)).mono ?_
              rintro e wi ⟨rfl, ni9, rfl⟩
              rw [HQ.out]
              have HPV := hd (HPX.out.drewN ni9)
              have HTV := hd (HTX.out.no ((Kp.refl No _).drewN ni9))
              have HKV := hd (HKX.out.drewN ni9)
              have HBV := hd (HBX.out.drewN ni9)
              go_wp2_with (fail)
              refine (cV.out _ (HPV.out.set1 _) (HTV.out.kp (S := One g) ((Kp.refl _ _).setOne 1 _) (fun k hk q => by have q' : k = g := q; omega))).mono ?_
              rintro e wv ⟨Av, cv, rfl, hpv, hkv, hsv, hlv, hlv2, hj90, hj91⟩
              obtain ⟨bv, capv, hbv, hbb, hbl, hcv⟩ := hsv.form hlv
              injection hbv with e1 e2 e3
              subst e1 e3
              have hx0 := hcv 0 hlv
              have hlen : l.length ≤ 4194305 := by omega
              have z1 := eq_true (show 0 < l.length from hlv)
              have HP9 := hd hpv
              have HK9 := hd ((HKV.out.setCell (p := ⟨g, 1, none⟩) (fun _ => .inl rfl) (.int .i64 (jj + 1))).trans (hkv.mono (S' := Two g nb) (fun k _ q => .inl q)))
              have HB9 := hd ((HBV.out.far (p := ⟨g, 1, none⟩) hne (.int .i64 (jj + 1))).kp hkv (fun q => hne q))
              have f3 := HB9.out.f 3
              have c3 := HB9.out.c 3 rfl
              have n1 : (nb = bv) = False := eq_false (Nat.ne_of_lt (Nat.lt_of_lt_of_le (HBV.out.far (p := ⟨g, 1, none⟩) hne (.int .i64 (jj + 1))).lt hbb))
              generalize l.getD 0 ⟨#[]⟩ = x0 at hx0 H9
              clear hcv hsv hpv hkv 
              go_wp2
              go_end0
              obtain rfl := H9.out
              refine ⟨rfl, .slice none 0 0, HP9.out.kp (S := One nb) ((Kp.refl _ _).setOne 3 _) (fun q => hne q.symm), Blk.cast (HB9.out.set 3 _) (by kernel_rfl), AnyR.nil _ _ _, HK9.out.setCell (fun _ => .inr rfl) _, by omega, by omega⟩
      · have he := nempty z0
        have hRR := HRR.out
        unfold extB at hRR
        rw [if_neg z0] at hRR
        have hwl : wd2.size ≤ LIM := by unfold LIM; omega
        have cT := hd (fun W => aptype_any wd2 W hwl)
        by_cases te : typeE wd2 = 0
        · rw [if_neg (by rw [te]; simp)] at hRR
          rw [te] at cT
          cases hd9 : isDn wd2 with
          | true =>
            rw [if_pos hd9] at hRR
            have H9 : Hid (IRes.bad (jj) = R) := hd hRR
            clear HRR hRR
            have HRR := H9
            rw [isDn_spell] at hd9
            go_wp2_with (fail)
            refine (cT.out _).mono ?_
            rintro e wt ⟨yt, rfl, _, _, hkt⟩
            have HPt := hd (HPX.out.kp hkt (fun q => q))
            have HKt := hd (HKX.out.no hkt)
            clear hkt c1x
            go_wp2_with (fail)
            refine (cFX.out _).mono ?_
            rintro e wu ⟨rfl, hku⟩
            have HKu := hd (HKt.out.no hku)
            have c1u := (HPt.out.kp hku (fun q => q)).c1
            clear hku
            go_wp2_with (fail)
            refine (fail_any g (jj) _).mono ?_
            rintro e wf ⟨rfl, rfl⟩
            go_wp2
            exact ⟨rfl, XEnd.bad_ HRR.out HKu.out⟩
          | false =>
            rw [if_neg (by rw [hd9]; simp)] at hRR
            rw [isDn_spell] at hd9
            cases hq : isB s jj 58 with
            | false =>
              rw [if_pos hq] at hRR
              have H9 : Hid (IRes.bad (jj) = R) := hd hRR
              have HQ := hd hq
              clear HRR hRR hq
              have HRR := H9
              go_wp2_with (fail)
              refine (cT.out _).mono ?_
              rintro e wt ⟨yt, rfl, _, _, hkt⟩
              have HPt := hd (HPX.out.kp hkt (fun q => q))
              have HKt := hd (HKX.out.no hkt)
              have HBt := hd (HBX.out.kp hkt (fun q => q))
              clear hkt c1x f1x n2x n7x
              go_wp2_with (fail)
              refine (cFX.out _).mono ?_
              rintro e wu ⟨rfl, hku⟩
              have HPu := hd (HPt.out.kp hku (fun q => q))
              have HKu := hd (HKt.out.no hku)
              have HBu := hd (HBt.out.kp hku (fun q => q))
              have f7u := HBu.out.f 7
              have c7u := HBu.out.c 7 rfl
              clear hku HPt HKt HBt
              go_wp2_with (fail)
              refine (want_no g s (jj) v 58 _ (HPu.out.kp (S := One nb) ((Kp.refl _ _).setOne 7 _) (fun q => hne q.symm)) (by omega) HQ.out).mono ?_
              rintro e w3 ⟨rfl, hd3⟩
              go_wp2
              exact ⟨rfl, XEnd.bad_ HRR.out (((HKu.out).setCell (fun _ => .inr rfl) _).dr hd3)⟩
            | true =>
              rw [if_neg (by rw [hq]; simp)] at hRR
              have HQ := hd hq
              have hjl := (isB_true hq).1
              clear hq
              go_wp2_with (fail)
              refine (cT.out _).mono ?_
              rintro e wt ⟨yt, rfl, _, _, hkt⟩
              have HPt := hd (HPX.out.kp hkt (fun q => q))
              have HKt := hd (HKX.out.no hkt)
              have HBt := hd (HBX.out.kp hkt (fun q => q))
              clear hkt c1x f1x n2x n7x
              go_wp2_with (fail)
              refine (cFX.out _).mono ?_
              rintro e wu ⟨rfl, hku⟩
              have HPu := hd (HPt.out.kp hku (fun q => q))
              have HKu := hd (HKt.out.no hku)
              have HBu := hd (HBt.out.kp hku (fun q => q))
              have f7u := HBu.out.f 7
              have c7u := HBu.out.c 7 rfl
              clear hku HPt HKt HBt
              go_wp2_with (fail)
              refine (want_yes g s (jj) v 58 _ (HPu.out.kp (S := One nb) ((Kp.refl _ _).setOne 7 _) (fun q => hne q.symm)) (by omega) hlim HQ.out).mono ?_
              rintro e w3 ⟨rfl, hp3, hk3⟩
              have HP3 := hd hp3
              have HK3 := hd ((HKu.out.setCell (p := ⟨nb, 7, none⟩) (fun _ => .inr rfl) (.string wd2)).trans (hk3.mono (fun k _ q => .inl q)))
              have HB3 := hd (show Blk w3 nb (Nd.cells ⟨nd, 9, nde, nv, ni, [], nf, wd2, true⟩ (.slice none 0 0)) 49 from Blk.cast ((HBu.out.set 7 (.string wd2)).kp hk3 (fun q => hne q)) (by kernel_rfl))
              have HT3 := hd (HT.out.kp HK3.out (fun k hk q => by rcases q with q | q <;> omega))
              have c13 := hp3.c1
              have f13 := hp3.fz 1
              have n23 : w3.cell? ⟨nb, 2, none⟩ = some (.string nde) := HB3.out.c 2 rfl
              have n73 : w3.cell? ⟨nb, 7, none⟩ = some (.string wd2) := HB3.out.c 7 rfl
              clear hp3 hk3 f7u c7u HPu HKu HBu
              cases hq2 : isB s (jj + 1) 61 with
              | false =>
                rw [if_pos hq2] at hRR
                have H9 : Hid (IRes.bad (jj + 1) = R) := hd hRR
                have HQ2 := hd hq2
                clear HRR hRR hq2
                have HRR := H9
                go_wp2_with (fail)
                refine (is_any g s (jj + 1) v 61 _ HP3.out (by omega)).mono ?_
                rintro e wi ⟨rfl, ni9, rfl⟩
                rw [HQ2.out]
                go_wp2_with (fail)
                refine (fail_any g (jj + 1) _).mono ?_
                rintro e wf ⟨rfl, rfl⟩
                go_wp2
                exact ⟨rfl, XEnd.bad_ HRR.out (HK3.out.drewN _)⟩
              | true =>
                rw [if_neg (by rw [hq2]; simp)] at hRR
                have HQ2 := hd hq2
                have HEQ := hd (isB_true hq2)
                have e2 : jj + 1 + 1 = jj + 2 := by omega
                clear hq2
                have hdd : nde.toList.isEmpty = true ∨ nde.toList.isEmpty = false := by cases nde.toList.isEmpty <;> simp
                rcases hdd with hde | hde
                all_goals
                  have cV := hd (fun W hW hWT => pieces_any g s (jj + 2) v false W hW hWT hg (by omega) (by have := HEQ.out.1; omega) hlim)
                  have HRV := hd (show withVal (⟨nd, 9, nde, nv, ni, [], nf, wd2, true⟩ : Nd) (vals s false (s.size + 1) (jj + 2) false [] []) = R from hRR)
                  clear HRR
                  cases hv : vals s false (s.size + 1) (jj + 2) false [] [] with
                  | bad p =>
                    have H9 := hd (show IRes.bad p = R by have := HRV.out; rw [hv] at this; exact this)
                    rw [hv] at cV
                    clear hv HRV
                    clear hRR
                    go_wp2_with (fail)
                    refine (is_any g s (jj + 1) v 61 _ HP3.out (by omega)).mono ?_
                    rintro e wi ⟨rfl, ni9, rfl⟩
                    rw [HQ2.out]
                    have HPV := hd (HP3.out.drewN ni9)
                    have HTV := hd (HT3.out.no ((Kp.refl No _).drewN ni9))
                    have HKV := hd (HK3.out.drewN ni9)
                    have HBV := hd (HB3.out.drewN ni9)
                    go_wp2_with (fail)
                    refine (cV.out _ (HPV.out.set1 _) (HTV.out.kp (S := One g) ((Kp.refl _ _).setOne 1 _) (fun k hk q => by have q' : k = g := q; omega))).mono ?_
                    rintro e wv ⟨rfl, hkv⟩
                    go_wp2
                    exact ⟨rfl, XEnd.bad_ H9.out ((HKV.out.setCell (p := ⟨g, 1, none⟩) (fun _ => .inl rfl) _).trans (hkv.mono (S' := Two g nb) (fun k _ q => .inl q)))⟩
                  | ok l j9 =>
                    have H9 := hd (show IRes.ok { (⟨nd, 9, nde, nv, ni, [], nf, wd2, true⟩ : Nd) with value := l.getD 0 ⟨#[]⟩ } j9 = R by have := HRV.out; rw [hv] at this; exact this)
                    rw [hv] at cV
                    clear hv HRV
                    clear hRR
                    go_wp2_with (fail)
                    refine (is_any g s (jj + 1) v 61 _ HP3.out (by omega)).mono ?_
                    rintro e wi ⟨rfl, ni9, rfl⟩
                    rw [HQ2.out]
                    have HPV := hd (HP3.out.drewN ni9)
                    have HTV := hd (HT3.out.no ((Kp.refl No _).drewN ni9))
                    have HKV := hd (HK3.out.drewN ni9)
                    have HBV := hd (HB3.out.drewN ni9)
                    go_wp2_with (fail)
                    refine (cV.out _ (HPV.out.set1 _) (HTV.out.kp (S := One g) ((Kp.refl _ _).setOne 1 _) (fun k hk q => by have q' : k = g := q; omega))).mono ?_
                    rintro e wv ⟨Av, cv, rfl, hpv, hkv, hsv, hlv, hlv2, hj90, hj91⟩
                    obtain ⟨bv, capv, hbv, hbb, hbl, hcv⟩ := hsv.form hlv
                    injection hbv with e1 e2 e3
                    subst e1 e3
                    have hx0 := hcv 0 hlv
                    have hlen : l.length ≤ 4194305 := by omega
                    have z1 := eq_true (show 0 < l.length from hlv)
                    have HP9 := hd hpv
                    have HK9 := hd ((HKV.out.setCell (p := ⟨g, 1, none⟩) (fun _ => .inl rfl) (.int .i64 (jj + 2))).trans (hkv.mono (S' := Two g nb) (fun k _ q => .inl q)))
                    have HB9 := hd ((HBV.out.far (p := ⟨g, 1, none⟩) hne (.int .i64 (jj + 2))).kp hkv (fun q => hne q))
                    have f3 := HB9.out.f 3
                    have c3 := HB9.out.c 3 rfl
                    have n1 : (nb = bv) = False := eq_false (Nat.ne_of_lt (Nat.lt_of_lt_of_le (HBV.out.far (p := ⟨g, 1, none⟩) hne (.int .i64 (jj + 2))).lt hbb))
                    generalize l.getD 0 ⟨#[]⟩ = x0 at hx0 H9
                    clear hcv hsv hpv hkv 
                    go_wp2
                    go_end0
                    obtain rfl := H9.out
                    refine ⟨rfl, .slice none 0 0, HP9.out.kp (S := One nb) ((Kp.refl _ _).setOne 3 _) (fun q => hne q.symm), Blk.cast (HB9.out.set 3 _) (by kernel_rfl), AnyR.nil _ _ _, HK9.out.setCell (fun _ => .inr rfl) _, by omega, by omega⟩
        · rw [if_pos te] at hRR
          have te40 : typeE wd2 = 40 := by unfold typeE at te ⊢; split at te <;> first | (exact absurd rfl te) | (rename_i q; rw [if_neg q])
          rw [te40] at cT
          have H9 : Hid (IRes.bad ((j + 1) + typeP wd2) = R) := hd hRR
          clear HRR hRR te te40
          have HRR := H9
          have htq : 0 ≤ typeP wd2 ∧ typeP wd2 ≤ 4194304 := by
            have h2 : 0 ≤ typeP wd2 ∧ typeP wd2 ≤ (wd2.size : Int) := tp_range wd2
            omega
          generalize typeP wd2 = tp at cT HRR htq
          go_wp2_with (fail)
          refine (cT.out _).mono ?_
          rintro e wt ⟨yt, rfl, _, _, hkt⟩
          have HKt := hd (HKX.out.no hkt)
          clear hkt
          go_wp2_with (fail)
          refine (fail_any g ((j + 1) + tp) _).mono ?_
          rintro e wf ⟨rfl, rfl⟩
          go_wp2
          exact ⟨rfl, XEnd.bad_ HRR.out HKt.out⟩
  | false =>
    rw [if_neg (by rw [hdn]; simp)] at hR
    rw [isDn_spell] at hdn
    have HRR := hd hR
    clear hR
    go_enter Tryd.func30, Tryd.ntmps30
    go_wp2_with (fail)
    refine cR.out.mono ?_
    rintro e w1 ⟨rfl, hr1, hk1⟩
    have HP1 := hd hr1
    have HK1 := hd hk1
    clear hr1 hk1 c1
    have HDN := hd hdn
    have cFX := hd cF.out
    go_wp2_with (fail)
    refine (cF.out _).mono ?_
    rintro e w2 ⟨rfl, hk2⟩
    have HPX := hd (HP1.out.kp hk2 (fun q => q))
    have HKX := hd ((HK1.out.mono (S' := Two g nb) (fun k _ q => .inl q)).no hk2)
    have HBX := hd ((HB.out.kp HK1.out (fun q => hne q)).kp hk2 (fun q => q))
    have HTX := hd (HT.out.kp HKX.out (fun k hk q => by rcases q with q | q <;> omega))
    clear hk2 HB HP1 HK1 cR cF
    have c1x := HPX.out.c1
    have f1x := HPX.out.fz 1
    have n2x : w2.cell? ⟨nb, 2, none⟩ = some (.string nde) := HBX.out.c 2 rfl
    have n7x : w2.cell? ⟨nb, 7, none⟩ = some (.string nr) := HBX.out.c 7 rfl
    by_cases z0 : wd.size = 0
    · have he := yempty z0
      have hRR := HRR.out
      unfold extB at hRR
      rw [if_pos z0] at hRR
      simp only at hRR
      cases hq : isB s j 61 with
      | false =>
        have HQ := hd hq
        have H9 : Hid (IRes.bad (j) = R) := hd (by
          rw [← hRR]
          split
          · rfl
          · first | rfl | rw [if_pos hq])
        clear HRR hRR hq
        have HRR := H9
        go_wp2_with (fail)
        refine (is_any g s (j) v 61 _ HPX.out (by omega)).mono ?_
        rintro e wi ⟨rfl, ni9, rfl⟩
        rw [HQ.out]
        go_wp2_with (fail)
        refine (fail_any g (j) _).mono ?_
        rintro e wf ⟨rfl, rfl⟩
        go_wp2
        exact ⟨rfl, XEnd.bad_ HRR.out (HKX.out.drewN _)⟩
      | true =>
        have HQ := hd hq
        have HEQ := hd (isB_true hq)
        by_cases zd : nde.size = 0
        · have hde := yempty zd
          have H9 : Hid (IRes.bad (j) = R) := hd (by rw [← hRR, if_pos zd])
          clear HRR hRR hq
          have HRR := H9
          go_wp2_with (fail)
          refine (is_any g s (j) v 61 _ HPX.out (by omega)).mono ?_
          rintro e wi ⟨rfl, ni9, rfl⟩
          rw [HQ.out]
          go_wp2_with (fail)
          refine (fail_any g (j) _).mono ?_
          rintro e wf ⟨rfl, rfl⟩
          go_wp2
          exact ⟨rfl, XEnd.bad_ HRR.out (HKX.out.drewN _)⟩
        · have hde := nempty zd
          rw [if_neg zd, if_neg (by rw [hq]; simp)] at hRR
          clear hq
          have cV := hd (fun W hW hWT => pieces_any g s (j + 1) v false W hW hWT hg (by omega) (by have := HEQ.out.1; omega) hlim)
          have HRV := hd (show withVal (⟨nd, 9, nde, nv, ni, [], nf, nr, ndn⟩ : Nd) (vals s false (s.size + 1) (j + 1) false [] []) = R from hRR)
          clear HRR
          cases hv : vals s false (s.size + 1) (j + 1) false [] [] with
          | bad p =>
            have H9 := hd (show IRes.bad p = R by have := HRV.out; rw [hv] at this; exact this)
            rw [hv] at cV
            clear hv HRV
            clear hRR
            go_wp2_with (fail)
            refine (is_any g s (j) v 61 _ HPX.out (by omega)).mono ?_
            rintro e wi ⟨rfl, ni9, rfl⟩
            rw [HQ.out]
            have HPV := hd (HPX.out.drewN ni9)
            have HTV := hd (HTX.out.no ((Kp.refl No _).drewN ni9))
            have HKV := hd (HKX.out.drewN ni9)
            have HBV := hd (HBX.out.drewN ni9)
            go_wp2_with (fail)
            refine (cV.out _ (HPV.out.set1 _) (HTV.out.kp (S := One g) ((Kp.refl _ _).setOne 1 _) (fun k hk q => by have q' : k = g := q; omega))).mono ?_
            rintro e wv ⟨rfl, hkv⟩
            go_wp2
            exact ⟨rfl, XEnd.bad_ H9.out ((HKV.out.setCell (p := ⟨g, 1, none⟩) (fun _ => .inl rfl) _).trans (hkv.mono (S' := Two g nb) (fun k _ q => .inl q)))⟩
          | ok l j9 =>
            have H9 := hd (show IRes.ok { (⟨nd, 9, nde, nv, ni, [], nf, nr, ndn⟩ : Nd) with value := l.getD 0 ⟨#[]⟩ } j9 = R by have := HRV.out; rw [hv] at this; exact this)
            rw [hv] at cV
            clear hv HRV
            clear hRR
            go_wp2_with (fail)
            refine (is_any g s (j) v 61 _ HPX.out (by omega)).mono ?_
            rintro e wi ⟨rfl, ni9, rfl⟩
            rw [HQ.out]
            have HPV := hd (HPX.out.drewN ni9)
            have HTV := hd (HTX.out.no ((Kp.refl No _).drewN ni9))
            have HKV := hd (HKX.out.drewN ni9)
            have HBV := hd (HBX.out.drewN ni9)
            go_wp2_with (fail)
            refine (cV.out _ (HPV.out.set1 _) (HTV.out.kp (S := One g) ((Kp.refl _ _).setOne 1 _) (fun k hk q => by have q' : k = g := q; omega))).mono ?_
            rintro e wv ⟨Av, cv, rfl, hpv, hkv, hsv, hlv, hlv2, hj90, hj91⟩
            obtain ⟨bv, capv, hbv, hbb, hbl, hcv⟩ := hsv.form hlv
            injection hbv with e1 e2 e3
            subst e1 e3
            have hx0 := hcv 0 hlv
            have hlen : l.length ≤ 4194305 := by omega
            have z1 := eq_true (show 0 < l.length from hlv)
            have HP9 := hd hpv
            have HK9 := hd ((HKV.out.setCell (p := ⟨g, 1, none⟩) (fun _ => .inl rfl) (.int .i64 (j + 1))).trans (hkv.mono (S' := Two g nb) (fun k _ q => .inl q)))
            have HB9 := hd ((HBV.out.far (p := ⟨g, 1, none⟩) hne (.int .i64 (j + 1))).kp hkv (fun q => hne q))
            have f3 := HB9.out.f 3
            have c3 := HB9.out.c 3 rfl
            have n1 : (nb = bv) = False := eq_false (Nat.ne_of_lt (Nat.lt_of_lt_of_le (HBV.out.far (p := ⟨g, 1, none⟩) hne (.int .i64 (j + 1))).lt hbb))
            generalize l.getD 0 ⟨#[]⟩ = x0 at hx0 H9
            clear hcv hsv hpv hkv 
            go_wp2
            go_end0
            obtain rfl := H9.out
            refine ⟨rfl, .slice none 0 0, HP9.out.kp (S := One nb) ((Kp.refl _ _).setOne 3 _) (fun q => hne q.symm), Blk.cast (HB9.out.set 3 _) (by kernel_rfl), AnyR.nil _ _ _, HK9.out.setCell (fun _ => .inr rfl) _, by omega, by omega⟩
    · have he := nempty z0
      have hRR := HRR.out
      unfold extB at hRR
      rw [if_neg z0] at hRR
      have hwl : wd.size ≤ LIM := by unfold LIM; omega
      have cT := hd (fun W => aptype_any wd W hwl)
      by_cases te : typeE wd = 0
      · rw [if_neg (by rw [te]; simp)] at hRR
        rw [te] at cT
        cases hd9 : isDn wd with
        | true =>
          rw [isDn_spell] at hd9
          exact absurd (hd9.symm.trans hdn) (by simp)
        | false =>
          rw [if_neg (by rw [hd9]; simp)] at hRR
          rw [isDn_spell] at hd9
          cases hq : isB s j 58 with
          | false =>
            rw [if_pos hq] at hRR
            have H9 : Hid (IRes.bad (j) = R) := hd hRR
            have HQ := hd hq
            clear HRR hRR hq
            have HRR := H9
            go_wp2_with (fail)
            refine (cT.out _).mono ?_
            rintro e wt ⟨yt, rfl, _, _, hkt⟩
            have HPt := hd (HPX.out.kp hkt (fun q => q))
            have HKt := hd (HKX.out.no hkt)
            have HBt := hd (HBX.out.kp hkt (fun q => q))
            clear hkt c1x f1x n2x n7x
            go_wp2_with (fail)
            refine (cFX.out _).mono ?_
            rintro e wu ⟨rfl, hku⟩
            have HPu := hd (HPt.out.kp hku (fun q => q))
            have HKu := hd (HKt.out.no hku)
            have HBu := hd (HBt.out.kp hku (fun q => q))
            have f7u := HBu.out.f 7
            have c7u := HBu.out.c 7 rfl
            clear hku HPt HKt HBt
            go_wp2_with (fail)
            refine (want_no g s (j) v 58 _ (HPu.out.kp (S := One nb) ((Kp.refl _ _).setOne 7 _) (fun q => hne q.symm)) (by omega) HQ.out).mono ?_
            rintro e w3 ⟨rfl, hd3⟩
            go_wp2
            exact ⟨rfl, XEnd.bad_ HRR.out (((HKu.out).setCell (fun _ => .inr rfl) _).dr hd3)⟩
          | true =>
            rw [if_neg (by rw [hq]; simp)] at hRR
            have HQ := hd hq
            have hjl := (isB_true hq).1
            clear hq
            go_wp2_with (fail)
            refine (cT.out _).mono ?_
            rintro e wt ⟨yt, rfl, _, _, hkt⟩
            have HPt := hd (HPX.out.kp hkt (fun q => q))
            have HKt := hd (HKX.out.no hkt)
            have HBt := hd (HBX.out.kp hkt (fun q => q))
            clear hkt c1x f1x n2x n7x
            go_wp2_with (fail)
            refine (cFX.out _).mono ?_
            rintro e wu ⟨rfl, hku⟩
            have HPu := hd (HPt.out.kp hku (fun q => q))
            have HKu := hd (HKt.out.no hku)
            have HBu := hd (HBt.out.kp hku (fun q => q))
            have f7u := HBu.out.f 7
            have c7u := HBu.out.c 7 rfl
            clear hku HPt HKt HBt
            go_wp2_with (fail)
            refine (want_yes g s (j) v 58 _ (HPu.out.kp (S := One nb) ((Kp.refl _ _).setOne 7 _) (fun q => hne q.symm)) (by omega) hlim HQ.out).mono ?_
            rintro e w3 ⟨rfl, hp3, hk3⟩
            have HP3 := hd hp3
            have HK3 := hd ((HKu.out.setCell (p := ⟨nb, 7, none⟩) (fun _ => .inr rfl) (.string wd)).trans (hk3.mono (fun k _ q => .inl q)))
            have HB3 := hd (show Blk w3 nb (Nd.cells ⟨nd, 9, nde, nv, ni, [], nf, wd, ndn⟩ (.slice none 0 0)) 49 from Blk.cast ((HBu.out.set 7 (.string wd)).kp hk3 (fun q => hne q)) (by kernel_rfl))
            have HT3 := hd (HT.out.kp HK3.out (fun k hk q => by rcases q with q | q <;> omega))
            have c13 := hp3.c1
            have f13 := hp3.fz 1
            have n23 : w3.cell? ⟨nb, 2, none⟩ = some (.string nde) := HB3.out.c 2 rfl
            have n73 : w3.cell? ⟨nb, 7, none⟩ = some (.string wd) := HB3.out.c 7 rfl
            clear hp3 hk3 f7u c7u HPu HKu HBu
            cases hq2 : isB s (j + 1) 61 with
            | false =>
              rw [if_pos hq2] at hRR
              have H9 : Hid (IRes.bad (j + 1) = R) := hd hRR
              have HQ2 := hd hq2
              clear HRR hRR hq2
              have HRR := H9
              go_wp2_with (fail)
              refine (is_any g s (j + 1) v 61 _ HP3.out (by omega)).mono ?_
              rintro e wi ⟨rfl, ni9, rfl⟩
              rw [HQ2.out]
              go_wp2_with (fail)
              refine (fail_any g (j + 1) _).mono ?_
              rintro e wf ⟨rfl, rfl⟩
              go_wp2
              exact ⟨rfl, XEnd.bad_ HRR.out (HK3.out.drewN _)⟩
            | true =>
              rw [if_neg (by rw [hq2]; simp)] at hRR
              have HQ2 := hd hq2
              have HEQ := hd (isB_true hq2)
              have e2 : j + 1 + 1 = j + 2 := by omega
              clear hq2
              have hdd : nde.toList.isEmpty = true ∨ nde.toList.isEmpty = false := by cases nde.toList.isEmpty <;> simp
              rcases hdd with hde | hde
              all_goals
                have cV := hd (fun W hW hWT => pieces_any g s (j + 2) v false W hW hWT hg (by omega) (by have := HEQ.out.1; omega) hlim)
                have HRV := hd (show withVal (⟨nd, 9, nde, nv, ni, [], nf, wd, ndn⟩ : Nd) (vals s false (s.size + 1) (j + 2) false [] []) = R from hRR)
                clear HRR
                cases hv : vals s false (s.size + 1) (j + 2) false [] [] with
                | bad p =>
                  have H9 := hd (show IRes.bad p = R by have := HRV.out; rw [hv] at this; exact this)
                  rw [hv] at cV
                  clear hv HRV
                  clear hRR
                  go_wp2_with (fail)
                  refine (is_any g s (j + 1) v 61 _ HP3.out (by omega)).mono ?_
                  rintro e wi ⟨rfl, ni9, rfl⟩
                  rw [HQ2.out]
                  have HPV := hd (HP3.out.drewN ni9)
                  have HTV := hd (HT3.out.no ((Kp.refl No _).drewN ni9))
                  have HKV := hd (HK3.out.drewN ni9)
                  have HBV := hd (HB3.out.drewN ni9)
                  go_wp2_with (fail)
                  refine (cV.out _ (HPV.out.set1 _) (HTV.out.kp (S := One g) ((Kp.refl _ _).setOne 1 _) (fun k hk q => by have q' : k = g := q; omega))).mono ?_
                  rintro e wv ⟨rfl, hkv⟩
                  go_wp2
                  exact ⟨rfl, XEnd.bad_ H9.out ((HKV.out.setCell (p := ⟨g, 1, none⟩) (fun _ => .inl rfl) _).trans (hkv.mono (S' := Two g nb) (fun k _ q => .inl q)))⟩
                | ok l j9 =>
                  have H9 := hd (show IRes.ok { (⟨nd, 9, nde, nv, ni, [], nf, wd, ndn⟩ : Nd) with value := l.getD 0 ⟨#[]⟩ } j9 = R by have := HRV.out; rw [hv] at this; exact this)
                  rw [hv] at cV
                  clear hv HRV
                  clear hRR
                  go_wp2_with (fail)
                  refine (is_any g s (j + 1) v 61 _ HP3.out (by omega)).mono ?_
                  rintro e wi ⟨rfl, ni9, rfl⟩
                  rw [HQ2.out]
                  have HPV := hd (HP3.out.drewN ni9)
                  have HTV := hd (HT3.out.no ((Kp.refl No _).drewN ni9))
                  have HKV := hd (HK3.out.drewN ni9)
                  have HBV := hd (HB3.out.drewN ni9)
                  go_wp2_with (fail)
                  refine (cV.out _ (HPV.out.set1 _) (HTV.out.kp (S := One g) ((Kp.refl _ _).setOne 1 _) (fun k hk q => by have q' : k = g := q; omega))).mono ?_
                  rintro e wv ⟨Av, cv, rfl, hpv, hkv, hsv, hlv, hlv2, hj90, hj91⟩
                  obtain ⟨bv, capv, hbv, hbb, hbl, hcv⟩ := hsv.form hlv
                  injection hbv with e1 e2 e3
                  subst e1 e3
                  have hx0 := hcv 0 hlv
                  have hlen : l.length ≤ 4194305 := by omega
                  have z1 := eq_true (show 0 < l.length from hlv)
                  have HP9 := hd hpv
                  have HK9 := hd ((HKV.out.setCell (p := ⟨g, 1, none⟩) (fun _ => .inl rfl) (.int .i64 (j + 2))).trans (hkv.mono (S' := Two g nb) (fun k _ q => .inl q)))
                  have HB9 := hd ((HBV.out.far (p := ⟨g, 1, none⟩) hne (.int .i64 (j + 2))).kp hkv (fun q => hne q))
                  have f3 := HB9.out.f 3
                  have c3 := HB9.out.c 3 rfl
                  have n1 : (nb = bv) = False := eq_false (Nat.ne_of_lt (Nat.lt_of_lt_of_le (HBV.out.far (p := ⟨g, 1, none⟩) hne (.int .i64 (j + 2))).lt hbb))
                  generalize l.getD 0 ⟨#[]⟩ = x0 at hx0 H9
                  clear hcv hsv hpv hkv 
                  go_wp2
                  go_end0
                  obtain rfl := H9.out
                  refine ⟨rfl, .slice none 0 0, HP9.out.kp (S := One nb) ((Kp.refl _ _).setOne 3 _) (fun q => hne q.symm), Blk.cast (HB9.out.set 3 _) (by kernel_rfl), AnyR.nil _ _ _, HK9.out.setCell (fun _ => .inr rfl) _, by omega, by omega⟩
      · rw [if_pos te] at hRR
        have te40 : typeE wd = 40 := by unfold typeE at te ⊢; split at te <;> first | (exact absurd rfl te) | (rename_i q; rw [if_neg q])
        rw [te40] at cT
        have H9 : Hid (IRes.bad (i + typeP wd) = R) := hd hRR
        clear HRR hRR te te40
        have HRR := H9
        have htq : 0 ≤ typeP wd ∧ typeP wd ≤ 4194304 := by
          have h2 : 0 ≤ typeP wd ∧ typeP wd ≤ (wd.size : Int) := tp_range wd
          omega
        generalize typeP wd = tp at cT HRR htq
        go_wp2_with (fail)
        refine (cT.out _).mono ?_
        rintro e wt ⟨yt, rfl, _, _, hkt⟩
        have HKt := hd (HKX.out.no hkt)
        clear hkt
        go_wp2_with (fail)
        refine (fail_any g (i + tp) _).mono ?_
        rintro e wf ⟨rfl, rfl⟩
        go_wp2
        exact ⟨rfl, XEnd.bad_ HRR.out HKt.out⟩
end Go.Proofs.YtieolphpgjpcmaaDoor
