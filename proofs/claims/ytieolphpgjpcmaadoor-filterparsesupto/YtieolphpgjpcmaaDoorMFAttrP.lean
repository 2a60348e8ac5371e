/- attr.Parse. -/
import Derived.Test.YtieolphpgjpcmaaDoorMFAttrP0
import Derived.Deep.LoopGhost

namespace Go.Proofs.YtieolphpgjpcmaaDoor
open Go.RowKit Go.WideMaps Go.Maps Go.Sort Go.Proofs.YtieolphpgjpcmaaDoorW.PrintWords

theorem lawStr : Keyed Tryd.prog 9 := string_keyed Tryd.underlying9
theorem zeroI (w : World) : (zeroValue 3).run Tryd.prog w = .ok (.int .i64 0) w := by kernel_rfl
/-- How attr.Parse ends. -/
def APost (s : ByteArray) (w w' : World) (e : Ending) : Prop :=
  (isDescB s = false ∧ e = .returned (.tuple #[.agg #[.string ⟨#[]⟩, .slice none 0 0], .int .i64 40, .int .i64 (placeS s false)]) ∧ Kp No w w') ∨
  (isDescB s = true ∧ ∃ A c os, e = .returned (.tuple #[.agg #[.string (canonS ((splitS s).getD 0 ⟨#[]⟩)), .slice A os.length c], .int .i64 0, .int .i64 s.size]) ∧ OptsOk (optsOf (splitS s)) os ∧ w'.ownsRow w.heap.size 9 1 (.slice A os.length c) os.length (os.map encStr) ∧ Kp No w w')

set_option maxHeartbeats 8000000 in
set_option maxRecDepth 100000 in
theorem aparse_no (s : ByteArray) (w : World) (hl : s.size ≤ LIM) (hx : isDescB s = false) :
    Calls Tryd.prog 27 #[.string s] w fun e w' => e = .returned (.tuple #[.agg #[.string ⟨#[]⟩, .slice none 0 0], .int .i64 40, .int .i64 (placeS s false)]) ∧ Kp No w w' := by
  have hx' : isXB s false = false := hx
  have cS := hd (fun W => ascan_any s false W hl)
  rw [hx'] at cS
  clear hx hx' hl
  go_enter Tryd.func27, Tryd.ntmps27
  go_wp2_with (fail)
  refine (cS.out _).mono ?_
  rintro e w1 ⟨rfl, hk1⟩
  have HK1 := hd hk1
  have HB := hd (show Blk w1 w.heap.size #[.string ⟨#[]⟩, .slice none 0 0] 52 from (Blk.new _ _ _).kp hk1 (fun q => q))
  have c0 : w1.cell? ⟨w.heap.size, 0, none⟩ = _ := HB.out.c 0 rfl
  have c1 : w1.cell? ⟨w.heap.size, 1, none⟩ = _ := HB.out.c 1 rfl
  have f0 : w1.frozen? ⟨w.heap.size, 0, none⟩ = false := HB.out.f 0
  have f1 : w1.frozen? ⟨w.heap.size, 1, none⟩ = false := HB.out.f 1
  clear hk1
  simp only [Bool.false_eq_true, if_false]
  go_wp2
  refine bodyPost_ret (results_ctt rfl _ _ w.heap.size 52 #[.string ⟨#[]⟩, .slice none 0 0] (0, 0) _ rfl (Blk.cast ((HB.out.set 0 _).set 1 _) (by kernel_rfl)) Tryd.underlying52 rfl (by kernel_rfl)) rfl ⟨rfl, ?_⟩
  have K1 : Kp No w w1 := ((Kp.refl No w).alloc _).trans HK1.out
  repeat (with_reducible refine Kp.setCell ?_ (fun q => absurd q (by simp)) _)
  exact K1

set_option maxHeartbeats 8000000 in
set_option maxRecDepth 100000 in
theorem aparse_yes (s : ByteArray) (w : World) (hT : Tabs w) (hl : s.size ≤ LIM) (hx : isDescB s = true) (ps : List ByteArray) (hps : splitS s = ps) :
    Calls Tryd.prog 27 #[.string s] w fun e w' => ∃ A c os, e = .returned (.tuple #[.agg #[.string (canonS (ps.getD 0 ⟨#[]⟩)), .slice A os.length c], .int .i64 0, .int .i64 s.size]) ∧ OptsOk (optsOf ps) os ∧ w'.ownsRow w.heap.size 9 1 (.slice A os.length c) os.length (os.map encStr) ∧ Kp No w w' := by
  have hx' : isXB s false = true := hx
  have cS := hd (fun W => ascan_any s false W hl)
  rw [hx'] at cS
  have cP := hd (fun W hW => asplit_any s W hW hl ps hps)
  have hn1 : 1 ≤ ps.length ∧ ps.length ≤ s.size + 1 := by rw [← hps, splitS_len]; have := splitS_count s; omega
  have hsz : ∀ k, (ps.getD k ⟨#[]⟩).size ≤ 4194304 := fun k => by rw [← hps]; have := splitS_size s k; unfold LIM at hl; omega
  have HSZ := hd hsz
  have hl2 : s.size ≤ 4194304 := hl
  obtain ⟨t0, ht0⟩ : ∃ t, ps.getD 0 ⟨#[]⟩ = t := ⟨_, rfl⟩
  have cC := fun W => acanon_any t0 W (by rw [← ht0]; exact hsz 0)
  rw [ht0]
  obtain ⟨y, hy⟩ : ∃ t, canonS t0 = t := ⟨_, rfl⟩
  rw [hy] at cC ⊢
  have CC := hd cC
  have HT0 := hd ht0
  clear hy cC ht0
  clear hx hx' hl hps hsz
  have HT := hd hT
  clear hT
  have hmm := @run_makeMap Tryd.prog
  obtain ⟨i0, hi, hz0, hz1, hz2⟩ := info_parts infoStr
  obtain ⟨A1, hcut, hA1⟩ := print_cut_of (P := Tryd.prog) Value.string (⟨#[]⟩ : ByteArray) 45 9 .i64 Tryd.underlying45 hi hz1 (some ⟨0, 0, none⟩) ps.length ps.length 1 hn1.1
  clear A1 hcut hA1
  go_enter Tryd.func27, Tryd.ntmps27
  go_wp2_with (fail)
  refine (cS.out _).mono ?_
  rintro e w1 ⟨rfl, hk1⟩
  have HB0 := hd (show Blk w1 w.heap.size #[.string ⟨#[]⟩, .slice none 0 0] 52 from (Blk.new _ _ _).kp hk1 (fun q => q))
  have HK1 := hd (((Kp.refl No w).alloc _).trans hk1)
  clear hk1
  simp only [if_true]
  go_wp2_with (fail)
  refine (cP.out _ (HT.out.no HK1.out)).mono ?_
  rintro e w2 ⟨rfl, hB2, hk2⟩
  have HK2 := hd (HK1.out.trans hk2)
  have HB02 := hd (HB0.out.kp hk2 (fun q => q))
  have HLT := hd (show w.heap.size < w1.heap.size from HB0.out.lt)
  obtain ⟨g1, hg1⟩ : ∃ g, w1.heap.size = g := ⟨_, rfl⟩
  rw [hg1] at hB2 HLT
  have HB2 := hd hB2
  have hR : ReadsOf Value.string (⟨#[]⟩ : ByteArray) w2 (some ⟨g1, 0, none⟩) ps.length ps := by
    refine ⟨rfl, by omega, fun _ => ⟨_, rfl, fun j hj => ?_⟩⟩
    rw [add_plain]
    exact hB2.c j (by simp [List.getD_eq_getElem?_getD, List.getElem?_eq_getElem hj])
  rw [hg1]
  clear hk2 HB0 hg1 hB2
  obtain ⟨A1, hcut, hA1⟩ := print_cut_of (P := Tryd.prog) Value.string (⟨#[]⟩ : ByteArray) 45 9 .i64 Tryd.underlying45 hi hz1 (some ⟨g1, 0, none⟩) ps.length ps.length 1 hn1.1
  have HR := hd (hA1 w2 ps (Nat.le_refl _) hR)
  have HPS := hd hR
  clear hA1 hR
  have hcut2 : ∀ W, (Instr.slice 45 (.slice (some ⟨g1, 0, none⟩) ps.length ps.length) (some (.int .i64 1)) none none).run Tryd.prog W = .ok (.slice A1 (ps.length - 1) (ps.length - 1)) W := hcut
  clear hcut
  go_wp2_with (fail)
  clear hcut2
  go_loopg [28] ps.length (fun kq q wr => ∃ (k : Nat) (D : DataW Unit), q = .int .i64 k ∧ k ≤ ps.length - 1 ∧ ps.length - 1 - k < kq ∧ Hid (wr.ownsMap Tryd.prog 9 (plainElem Tryd.prog 3) w2.heap.size k D) ∧ Hid (KeysAre D ((optsOf ps).take k)) ∧ Hid (Kp No w2 wr))
  case atStart => exact ⟨0, _, rfl, Nat.zero_le _, by omega, hd (World.ownsMap_made _ _ _ _), hd KeysAre.nil, hd ((Kp.refl _ _).alloc _)⟩
  case round =>
    obtain ⟨k, D, rfl, hk, hkq, HO, HD, HK⟩ := hrel
    by_cases hlt : k < ps.length - 1
    · have t1 : decide ((k : Int) < ((ps.length - 1 : Nat) : Int)) = true := decide_eq_true (by omega)
      have e1 := eq_true (show (0 : Int) ≤ (k : Int) by omega)
      have e2 := eq_true (show (k : Int) < ((ps.length - 1 : Nat) : Int) by omega)
      obtain ⟨ad, rfl, hc⟩ := (HR.out.below HK.out.toBelow).at_ k (by omega) (by omega)
      have hkey0 : rdOf (⟨#[]⟩ : ByteArray) (ps.drop 1) k = ps.getD (k + 1) ⟨#[]⟩ := by simp [rdOf, List.getD_eq_getElem?_getD]
      rw [hkey0] at hc
      simp only [Int.toNat_natCast] at hc
      have ho := HSZ.out (k + 1)
      have hopt : (optsOf ps).take (k + 1) = (optsOf ps).take k ++ [(foldS (ps.getD (k + 1) ⟨#[]⟩)).data.toList] := by
        unfold optsOf
        have hl : k < ((ps.drop 1).map fun o => (foldS o).data.toList).length := by simp; omega
        rw [List.take_succ_eq_append_getElem hl]
        simp [List.getD_eq_getElem?_getD, List.getElem?_eq_getElem (show k + 1 < ps.length by omega)]
      have HOPT := hd hopt
      generalize ps.getD (k + 1) ⟨#[]⟩ = o at hc ho HOPT
      have cF := hd (fun W => tfold_any o W ho)
      clear hkey0 hopt
      go_wp2_with (fail)
      refine (cF.out _).mono ?_
      rintro e w4 ⟨rfl, hk4⟩
      have HK4 := hd (HK.out.trans hk4)
      have hO4 := HO.out.kept (grown_of_below hk4.toBelow none) (by simp)
      have hfz : (foldS o).size ≤ maxLen := by unfold foldS; rw [strOfNums_size, List.length_map, bytesOf_length]; unfold maxLen; omega
      have hkey := keyOf_string_mk Tryd.underlying9 hfz
      obtain ⟨c, hrun, hat, hwc⟩ := hO4.lookup_int lawStr Tryd.underlying74 Tryd.underlying3 (zeroI _) hkey
      clear hk4 hfz hat hwc
      go_wp2_with (at_mapUpdate; refine wpList_mapUpdate_own _ rfl _ _ _ 74 rfl 9 3 lawStr Tryd.underlying74 _ w2.heap.size k _ rfl hO4 (by unfold maxLen; omega) _ _ _ rfl rfl hkey _ [] (plainElem_int Tryd.underlying3 (wrap64_wf _)) ?_; intro w5 hown5 hgrow5)
      have HO5 := hd hown5
      have HD5 := hd (HD.out.put (foldS o).data.toList (.lit (.int .i64 (wrap64 (c + 1)))))
      have HK5 := hd (HK4.out.grown hgrow5 (fun j e hj => by injection e with e; omega))
      clear hown5 hgrow5 hrun hkey hO4
      go_wp2
      go_roundg (ps.length - 1 - k)
      case measure => omega
      case rel => exact ⟨k + 1, _, by go_num, by omega, by omega, HO5, hd (by rw [HOPT.out]; exact HD5.out), HK5⟩
    · have t1 : decide ((k : Int) < ((ps.length - 1 : Nat) : Int)) = false := decide_eq_false (by omega)
      obtain ⟨wL, rfl⟩ : ∃ x : World, x = wr := ⟨_, rfl⟩
      have hp0 : wL.cell? ⟨g1, 0, none⟩ = some (.string t0) := (HB2.out.kp HK.out (fun q => q)).c 0 (by rw [← HT0.out]; simp [List.getD_eq_getElem?_getD, List.getElem?_eq_getElem (show 0 < ps.length by omega)])
      obtain rfl : k = ps.length - 1 := by omega
      have HD' : Hid (KeysAre D (optsOf ps)) := hd (by
        have h := HD.out
        rwa [List.take_of_length_le (by unfold optsOf; simp)] at h)
      clear HD
      have z1 := eq_true (show 0 < ps.length by omega)
      go_wp2_with (fail)
      refine (CC.out _).mono ?_
      rintro e w6 ⟨rfl, hk6⟩
      have HK6 := hd (HK.out.trans hk6)
      have HO6 := hd (HO.out.kept (grown_of_below hk6.toBelow none) (by simp))
      clear hk6 hp0
      go_wp2_with (at_range; refine wpList_range_own _ rfl _ 74 rfl 9 3 lawStr Tryd.underlying74 _ w2.heap.size (ps.length - 1) _ rfl (HO6.out.alloc _) ?_; intro w7 hrg7 hg7 hs7)
      have hN := (HO6.out).size_le
      have hBD : Blk w7 w6.heap.size #[.string y, .slice none 0 0] 52 := blk_grown (Blk.new _ _ _) hg7 (by simp)
      have HK7 := hd (((Kp.refl No w6).alloc (.cells #[.string y, .slice none 0 0] 52)).grown hg7 (fun k e => by cases e))
      have HRG := hd hrg7
      have HBD := hd hBD
      have hs7' : w7.heap.size = w6.heap.size + 1 + 1 := by simpa using hs7
      have HS7 := hd hs7'
      clear hrg7 hBD hg7 hs7 hs7'
      rw [show (w6.alloc (.cells #[.string y, .slice none 0 0] 52)).heap.size = w6.heap.size + 1 from by simp]
      go_frame
      go_loopg [] (Maps.size D + 1) (fun kq wq => ∃ (left : Lit → Bool) (cnt : Nat) (ss : List (List UInt8)) (v : Value), cnt < kq ∧ ss.length + cnt ≤ Maps.size D ∧ Hid (wq.ranges Tryd.prog 9 (plainElem Tryd.prog 3) w2.heap.size (w6.heap.size + 1) (ps.length - 1) D left cnt) ∧ Hid (wq.ownsRow w6.heap.size 9 1 v ss.length (ss.map encStr)) ∧ Hid (Blk wq w6.heap.size #[.string y, v] 52) ∧ Hid (Collected D left ss) ∧ Hid (Kp No w6 wq))
      case atStart => exact ⟨_, _, [], .slice none 0 0, Nat.lt_succ_self _, by simp, hd (by have := HRG.out; simpa using this), hd (own_nil _ _ _ _), HBD, hd (Collected.start D), HK7⟩
      case round =>
        obtain ⟨left, cnt, ss, v, hcq, hcs, HRG2, HOW, HBQ, HC, HKQ⟩ := hrel
        clear HRG HBD HK7
        have b0 : wr.cell? ⟨w6.heap.size, 0, none⟩ = some (.string y) := HBQ.out.c 0 rfl
        have b1 : wr.cell? ⟨w6.heap.size, 1, none⟩ = some v := HBQ.out.c 1 rfl
        have bf : wr.frozen? ⟨w6.heap.size, 1, none⟩ = false := HBQ.out.f 1
        go_wp2_with (at_next; go_loud (refine wpList_next_ranges _ rfl _ rfl 9 lawStr (plainElem Tryd.prog 3) encStr (Value.int .i64) (fun key kl hk => by obtain ⟨x, hx, _⟩ := Maps.keyOf_str Tryd.underlying9 hk; exact ⟨x, hx⟩) (fun v y hv => by obtain ⟨c, rfl, _⟩ := plainElem_int_inv Tryd.underlying3 hv; exact ⟨c, rfl⟩) w2.heap.size (w6.heap.size + 1) (ps.length - 1) _ _ _ rfl HRG2.out ?_ ?_))
        · intro hc0 hl0
          clear b0 b1 bf
          obtain ⟨A, c, rfl⟩ := own_slice HOW.out
          have hsl : ss.length ≤ LIM := by unfold LIM; omega
          obtain ⟨es, clock, since, seen, cc, hbm, _⟩ := HRG2.out
          obtain ⟨w9, hrun, hgc⟩ := run_clear_map Tryd.underlying74 hbm
          have hlm : w2.heap.size < w6.heap.size := HO6.out.lt
          have HOW9 := hd (HOW.out.kept hgc (.inr (row_ne_low HOW.out hlm).symm))
          have HBQ9 := hd (show Blk w9 w6.heap.size _ 52 from blk_grown HBQ.out hgc (by simp; omega))
          have HK9 := hd ((HKQ.out.mono (S' := fun k => k = w2.heap.size) (fun _ _ q => q.elim)).grown hgc (fun k e _ => by injection e with e; exact e.symm))
          have HOS := hd (optsOk_of HC.out.1 (fun x => ((HC.out.2 x).trans (by rw [hl0]; simp)).trans (HD'.out.2 x)))
          have cS := hd (fun W h => asort_any W w6.heap.size A c ss h hsl)
          have b1 : w9.cell? ⟨w6.heap.size, 1, none⟩ = some (.slice A ss.length c) := HBQ9.out.c 1 rfl
          have h29 : w.heap.size < w2.heap.size := Nat.lt_trans HLT.out HB2.out.lt
          have HBr9 := hd (show Blk w9 w.heap.size _ 52 from blk_grown (HB02.out.kp (HK6.out.trans HKQ.out) (fun q => q)) hgc (by simp; omega))
          have HKw9 := hd (((HK2.out.trans HK6.out).trans HKQ.out).grown hgc (fun k e hk => by injection e with e; omega))
          clear hgc hbm hl0
          go_wp2_with (fail)
          refine (cS.out _ HOW9.out).mono ?_
          rintro e w10 ⟨rfl, hown10, hg10⟩
          have HOW10 := hd hown10
          have HBQ10 := hd (show Blk w10 w6.heap.size _ 52 from blk_grown HBQ9.out hg10 (own_ne HOW9.out HBQ9.out (by decide)))
          have HBr10 := hd (show Blk w10 w.heap.size _ 52 from blk_grown HBr9.out hg10 (own_ne HOW9.out HBr9.out (by decide)))
          have HKw10 := hd (HKw9.out.grown hg10 (fun k e hk => absurd (own_base HOW9.out k e) (by omega)))
          have d0 : w10.cell? ⟨w6.heap.size, 0, none⟩ = some (.string y) := HBQ10.out.c 0 rfl
          have d1 : w10.cell? ⟨w6.heap.size, 1, none⟩ = some (.slice A ss.length c) := HBQ10.out.c 1 rfl
          have r0 : w10.cell? ⟨w.heap.size, 0, none⟩ = some (.string ⟨#[]⟩) := HBr10.out.c 0 rfl
          have r1 : w10.cell? ⟨w.heap.size, 1, none⟩ = some (.slice none 0 0) := HBr10.out.c 1 rfl
          have rf0 : w10.frozen? ⟨w.heap.size, 0, none⟩ = false := HBr10.out.f 0
          have rf1 : w10.frozen? ⟨w.heap.size, 1, none⟩ = false := HBr10.out.f 1
          clear b1 hown10 hg10
          go_wp2
          refine bodyPost_ret (results_ctt rfl _ _ w.heap.size 52 #[.string y, .slice A ss.length c] (0, 0) _ rfl (Blk.cast ((HBr10.out.set 0 _).set 1 _) (by kernel_rfl)) Tryd.underlying52 rfl (by kernel_rfl)) rfl ⟨A, c, _, ?_, HOS.out, ?_, ?_⟩
          · rw [List.length_mergeSort]; rfl
          · rw [List.length_mergeSort]
            have q1 := own_setCell (own_weaken HOW10.out (show w.heap.size ≤ w6.heap.size by omega)) (own_ne HOW10.out HBr10.out (by decide)) (.string y) (p := ⟨w.heap.size, 0, none⟩)
            exact own_setCell q1 (own_ne q1 (HBr10.out.set 0 _) (by decide)) _ (p := ⟨w.heap.size, 1, none⟩)
          · exact (HKw10.out.setCell (fun q => absurd q (by simp)) _).setCell (fun q => absurd q (by simp)) _
        · intro x c kl yd yp w8 cnt2 hkey hlk hv hat hrg2 hlt hg2 hs2 hen
          obtain ⟨x', ex, rfl, _⟩ := Maps.keyOf_str Tryd.underlying9 hkey
          obtain rfl : x = x' := encStr_inj ex
          have hlm : w2.heap.size < w6.heap.size := HO6.out.lt
          have hrow8 := HOW.out.kept hg2 (.inr (row_ne_iter HOW.out HRG2.out).symm)
          have HB8 := hd (show Blk w8 w6.heap.size #[.string y, v] 52 from blk_grown HBQ.out hg2 (by simp))
          have HK8 := hd (HKQ.out.grown hg2 (fun k e hk => by injection e with e; omega))
          have b1' : w8.cell? ⟨w6.heap.size, 1, none⟩ = some v := HB8.out.c 1 rfl
          have HRG8 := hd hrg2
          have HC8 := hd (HC.out.step hlk hat)
          have HLT8 := hd hlt
          clear b0 b1 bf hs2 hrg2 hkey ex hlk hat hlt hv hg2
          go_wp2_with (at_builtin; refine wpList_append_own _ rfl _ _ 45 rfl w6.heap.size 9 i0 (.string ⟨#[]⟩) 1 16 Tryd.underlying45 hi hz0 hz1 hz2 rfl (by decide) _ _ _ rfl (hrow8.alloc _) ⟨w8.heap.size, 0, none⟩ 1 1 [encStr x] rfl rfl (cell_one_new _ _ _) (by simp [Value.oneCell', encStr]) (by unfold maxLen; omega) (by omega) (by have := HK8.out.size; simp; omega) ?_; intro v' w9 hown9 hg9 hnil9; obtain ⟨A9, c9, rfl⟩ := own_slice hown9; have HB9 := hd (show Blk w9 w6.heap.size #[.string y, v] 52 from blk_grown (HB8.out.alloc _) hg9 (own_ne hrow8 HB8.out (by decide))); have hrg9 := (HRG8.out.alloc (.cells #[encStr x] 9)).kept hg9 (row_ne_low hrow8 hlm) (row_ne_iter hrow8 HRG8.out); have HRG9 := hd hrg9; have HOW9 := hd hown9; have HK9 := hd ((HK8.out.alloc (.cells #[encStr x] 9)).grown hg9 (fun k e hk => absurd (own_base hrow8 k e) (by omega))); have b1'' : w9.cell? ⟨w6.heap.size, 1, none⟩ = some v := HB9.out.c 1 rfl; have bf'' : w9.frozen? ⟨w6.heap.size, 1, none⟩ = false := HB9.out.f 1; clear hown9 hg9 hnil9 hrg9)
          go_roundg cnt
          case measure => omega
          case rel => exact ⟨_, cnt2, ss ++ [x], .slice A9 (ss.length + 1) c9, HLT8.out, by have := HLT8.out; simp; omega, hd (HRG9.out.kept (grown_set _ _ _) (by simp; omega) (by simp)), hd (by have := own_setCell HOW9.out (own_ne HOW9.out HB9.out (by decide)) (.slice A9 (ss.length + 1) c9) (p := ⟨w6.heap.size, 1, none⟩); simpa using this), hd (HB9.out.set 1 _), HC8, hd (HK9.out.setCell (fun q => absurd q (by simp)) _)⟩
theorem aparse_any (s : ByteArray) (w : World) (hT : Tabs w) (hl : s.size ≤ LIM) : Calls Tryd.prog 27 #[.string s] w fun e w' => APost s w w' e := by
  cases hx : isDescB s with
  | false => exact (aparse_no s w hl hx).mono fun e w' h => .inl ⟨hx, h.1, h.2⟩
  | true => exact (aparse_yes s w hT hl hx _ rfl).mono fun e w' ⟨A, c, os, h⟩ => .inr ⟨hx, A, c, os, h.1, h.2.1, h.2.2.1, h.2.2.2⟩
/-- What a reader of a filter asks of attr.Parse. -/
theorem aparse_err (s : ByteArray) (w : World) (hT : Tabs w) (hl : s.size ≤ LIM) :
    Calls Tryd.prog 27 #[.string s] w fun e w' => ∃ x A m c, e = .returned (.tuple #[.agg #[.string x, .slice A m c], .int .i64 (descE s), .int .i64 (descP s)]) ∧ Kp No w w' := by
  refine (aparse_any s w hT hl).mono ?_
  rintro e w' (⟨hx, rfl, hk⟩ | ⟨hx, A, c, os, rfl, _, _, hk⟩)
  · exact ⟨_, _, _, _, by unfold descE descP; rw [if_neg (by rw [hx]; simp), if_neg (by rw [hx]; simp)], hk⟩
  · exact ⟨_, _, _, _, by unfold descE descP; rw [if_pos hx, if_pos hx], hk⟩
end Go.Proofs.YtieolphpgjpcmaaDoor
