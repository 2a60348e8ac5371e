/- filter.parser: filter. | filter: given; the deferred function of Parse. -/
import Derived.Test.YtieolphpgjpcmaaDoorMFProgT
import Derived.Test.YtieolphpgjpcmaaDoorMI0
import Derived.Defers
import Derived.Recover

namespace Go.Proofs.YtieolphpgjpcmaaDoor
open Go.RowKit Go.Proofs.YtieolphpgjpcmaaDoorW.PrintWords

theorem isB_ne {s : ByteArray} {i : Int} {a b : Int} (h : isB s i a = true) (hne : a ≠ b) : isB s i b = false := by
  have h2 := (isB_true h).2
  unfold isB
  rw [h2]
  have : (a == b) = false := by simpa using hne
  rw [this, Bool.and_false]
section
variable {s : ByteArray} {K : Nat} {i : Int} {o : List Int} {ns : List Nd}
theorem pr_A : parseR s (K + 1) i o true ns = (match stepA s i o ns with
    | .bad e p => .bad e p
    | .next i' o' w' ns' => parseR s K i' o' w' ns') := by
  simp only [parseR, stepR]
  simp
  cases stepA s i o ns <;> rfl
theorem pr_no (h : isB s i 40 = false) : parseR s (K + 1) i o true ns = .bad 120 i := by rw [pr_A]; unfold stepA; rw [if_pos h]
theorem pr_deep (h : isB s i 40 = true) (ho : 64 ≤ o.length) : parseR s (K + 1) i o true ns = .bad 121 i := by rw [pr_A]; unfold stepA; rw [if_neg (by rw [h]; simp), if_pos ho]
theorem pr_op (h : isB s i 40 = true) (ho : o.length < 64) {c : Int} (hc : opAt s (i + 1) = c) (h0 : 0 ≤ c) : parseR s (K + 1) i o true ns = parseR s K (i + 1 + 1) (o ++ [c]) (c == 2) (ns ++ [Nd.at ((o.length + 1 : Nat) : Int) c]) := by
  rw [pr_A]; unfold stepA; rw [if_neg (by rw [h]; simp), if_neg (by omega)]; unfold stepB; rw [hc, if_pos h0]
theorem pr_item (h : isB s i 40 = true) (ho : o.length < 64) (hc : opAt s (i + 1) = -1) : parseR s (K + 1) i o true ns = (match itemS s ((o.length : Int) + 1) (i + 1) with
    | .bad p => .bad 120 p
    | .ok n j => if isB s j 41 = true then parseR s K (j + 1) o false (ns ++ [n]) else .bad 120 j) := by
  rw [pr_A]; unfold stepA; rw [if_neg (by rw [h]; simp), if_neg (by omega)]; unfold stepB; rw [hc, if_neg (by decide)]
  cases itemS s ((o.length : Int) + 1) (i + 1) with
  | bad p => rfl
  | ok n j =>
    simp only
    by_cases hq : isB s j 41 = true
    · rw [if_pos hq, if_pos hq]
    · rw [if_neg hq, if_neg hq]
theorem pr_close {x : Int} (h : ¬ (x ≠ 2 ∧ isB s i 40 = true)) : parseR s (K + 1) i (o ++ [x]) false ns = (if isB s i 41 = true then parseR s K (i + 1) o false ns else .bad 120 i) := by
  have hx : (o ++ [x]).getD ((o ++ [x]).length - 1) 0 = x := by simp [List.getD_eq_getElem?_getD]
  simp only [parseR]
  rw [if_neg (by simp)]
  unfold stepR
  rw [hx, if_neg (by simp at h ⊢; exact h)]
  by_cases hc : isB s i 41 = true
  · rw [if_pos hc, if_pos hc]; simp
  · rw [if_neg hc, if_neg hc]
theorem pr_more {x : Int} (h2 : x ≠ 2) (h : isB s i 40 = true) : parseR s (K + 1) i (o ++ [x]) false ns = parseR s (K + 1) i (o ++ [x]) true ns := by
  have hx : (o ++ [x]).getD ((o ++ [x]).length - 1) 0 = x := by simp [List.getD_eq_getElem?_getD]
  simp only [parseR]
  rw [if_neg (by simp), if_neg (by simp)]
  unfold stepR
  rw [hx, if_pos (.inr ⟨h2, h⟩), if_pos (.inl rfl)]
end
/-- The parser's block and its list while a filter is read. -/
structure FS (w W : World) (g base : Nat) (s : ByteArray) (i : Int) (v : Value) (ns : List Nd) : Prop where
  pb : PB W g s i v
  ns : NS W base v ns
  kp : Kp (Own g base) w W
namespace FS
variable {w W w1 : World} {g base : Nat} {s : ByteArray} {i i' : Int} {v v1 : Value} {ns ms : List Nd}
theorem one (h : FS w W g base s i v ns) (hp : PB w1 g s i' v) (hk : Kp (One g) W w1) (hg : g < base) : FS w w1 g base s i' v ns := ⟨hp, h.ns.one hk hg, h.kp.trans (hk.mono (fun _ _ q => .inl q))⟩
theorem drewN (h : FS w W g base s i v ns) (n : Nat) : FS w (W.drewN n) g base s i v ns := ⟨h.pb, h.ns.drewN n, h.kp.drewN n⟩
theorem set1 (h : FS w W g base s i v ns) (hg : g < base) (x : Int) : FS w (W.setCell ⟨g, 1, none⟩ (.int .i64 x)) g base s x v ns := h.one (h.pb.set1 x) ((Kp.refl _ _).setOne _ _) hg
theorem app (h : FS w W g base s i v ns) (hg : g < base) (hG : W.grownBy w1 v.ownBlock) (hn : NS w1 base v1 ms) : FS w (w1.setCell ⟨g, 2, none⟩ v1) g base s i v1 ms :=
  have hP3 : PB w1 g s i v := blk_grown h.pb hG (fun e => absurd (h.ns.own g e.symm) (by omega))
  ⟨hP3.set2 _, hn.one ((Kp.refl (One g) w1).setOne 2 _) hg, (h.kp.grown hG (fun k e _ => .inr (h.ns.own k e))).setCell (fun _ => .inl rfl) _⟩
theorem pb3 (h : FS w W g base s i v ns) (hg : g < base) (hG : W.grownBy w1 v.ownBlock) : PB w1 g s i v := blk_grown h.pb hG (fun e => absurd (h.ns.own g e.symm) (by omega))
theorem tabs (h : FS w W g base s i v ns) (hT : Tabs w) (hg : gTop < g) (hgb : g < base) : Tabs W := hT.kp h.kp (fun k hk q => by rcases q with q | q <;> omega)
theorem trans (h : FS w W g base s i v ns) (k : FS W w1 g base s i' v1 ms) : FS w w1 g base s i' v1 ms := ⟨k.pb, k.ns, h.kp.trans k.kp⟩
end FS
/-- How the reading of one filter ends: what is left for the reference's reader comes to the same. -/
def FEnd (w w' : World) (g base : Nat) (s : ByteArray) (i : Int) (o : List Int) (R : PRes) (e : Ending) : Prop :=
  (∃ er p, R = .bad er p ∧ e = faulty er p ∧ Kp (Own g base) w w') ∨
  (∃ v' ns' j K', e = .returned (.tuple #[]) ∧ FS w w' g base s j v' ns' ∧ parseR s K' j o false ns' = R ∧ (s.size : Int) - j < (K' : Int) ∧ i < j ∧ j ≤ (s.size : Int) ∧ (ns'.length : Int) ≤ j)
theorem FEnd.bad_ {w w' : World} {g base : Nat} {s : ByteArray} {i er p : Int} {o : List Int} {R : PRes} (hR : R = .bad er p) (hk : Kp (Own g base) w w') : FEnd w w' g base s i o R (faulty er p) := .inl ⟨er, p, hR, rfl, hk⟩
def FSpec (N : Nat) (g base : Nat) (s : ByteArray) (w0 : World) : Prop := ∀ (i : Int) (o : List Int) (v : Value) (ns : List Nd) (R : PRes) (w : World) (K : Nat), (s.size : Int) - i < N → FS w0 w g base s i v ns → Tabs w → parseR s K i o true ns = R → (s.size : Int) - i < K → 0 ≤ i → i ≤ (s.size : Int) → (ns.length : Int) ≤ i → o.length ≤ 64 → base ≤ w.heap.size →
  Calls Tryd.prog 9 #[.pointer (some ⟨g, 0, none⟩), .int .i64 ((o.length : Int) + 1)] w fun e w' => FEnd w w' g base s i o R e

set_option maxHeartbeats 16000000 in
set_option maxRecDepth 100000 in
theorem pfilter_any (g base : Nat) (s : ByteArray) (w0 : World) (hg : gTop < g) (hgb : g < base) (hl : s.size ≤ LIM) (N : Nat) : FSpec N g base s w0 := by
  induction N with
  | zero =>
    intro i o v ns R w K hN _ _ _ _ _ h1 _ _ _
    omega
  | succ N ih =>
    intro i o v ns R w K hN hF0 hT hR hK h0 h1 hns ho hbase
    have IH := hd ih
    clear ih
    have hF : FS w w g base s i v ns := ⟨hF0.pb, hF0.ns, Kp.refl _ _⟩
    obtain ⟨K, rfl⟩ : ∃ k, K = k + 1 := ⟨K - 1, by omega⟩
    have HF := hd hF
    have HF0K := hd hF0.kp
    have HT := hd hT
    have hlim := hl
    unfold LIM at hl
    clear hF0 hF hT
    cases hq : isB s i 40 with
    | false =>
      have H9 := hd (show R = .bad 120 i from hR.symm.trans (pr_no hq))
      have HQ := hd hq
      clear hR hq
      go_enter Tryd.func9, Tryd.ntmps9
      go_wp2_with (fail)
      refine (is_any g s i v 40 _ HF.out.pb h0).mono ?_
      rintro e w1 ⟨rfl, n1, rfl⟩
      rw [HQ.out]
      go_wp2_with (fail)
      refine (want_no g s i v 40 _ (HF.out.drewN n1).pb h0 HQ.out).mono ?_
      rintro e w2 ⟨rfl, hd2⟩
      go_wp2
      exact ⟨rfl, FEnd.bad_ H9.out ((HF.out.drewN n1).kp.dr hd2)⟩
    | true =>
      have hlt := (isB_true hq).1
      by_cases hdp : 64 ≤ o.length
      · have H9 := hd (show R = .bad 121 i from hR.symm.trans (pr_deep hq hdp))
        have HQ := hd hq
        have d0 : decide (64 < (o.length : Int) + 1) = true := decide_eq_true (by omega)
        have d1 : decide ((o.length : Int) + 1 > 64) = true := decide_eq_true (by omega)
        have c1 := HF.out.pb.c1
        clear hR hq
        go_enter Tryd.func9, Tryd.ntmps9
        go_wp2_with (fail)
        refine (is_any g s i v 40 _ HF.out.pb h0).mono ?_
        rintro e w1 ⟨rfl, n1, rfl⟩
        rw [HQ.out]
        go_wp2
        exact ⟨rfl, FEnd.bad_ H9.out (HF.out.drewN n1).kp⟩
      · have d0 : decide (64 < (o.length : Int) + 1) = false := decide_eq_false (by omega)
        have d1 : decide ((o.length : Int) + 1 > 64) = false := decide_eq_false (by omega)
        have hol : o.length < 64 := by omega
        have HQ := hd hq
        cases h33 : isB s (i + 1) 33 with
        | true =>
          have H33 := hd h33
          have hl1 := (isB_true h33).1
          have hop : opAt s (i + 1) = 2 := by unfold opAt; rw [isB_ne h33 (by decide), isB_ne h33 (by decide), h33]; rfl
          have HR := hd (show parseR s K (i + 1 + 1) (o ++ [2]) true (ns ++ [Nd.at ((o.length + 1 : Nat) : Int) 2]) = R from (pr_op hq hol hop (by decide)).symm.trans hR)
          clear hR hq h33 hop
          go_enter Tryd.func9, Tryd.ntmps9
          go_wp2_with (fail)
          refine (is_any g s i v 40 _ HF.out.pb h0).mono ?_
          rintro e w1 ⟨rfl, n1, rfl⟩
          rw [HQ.out]
          go_wp2_with (fail)
          refine (want_yes g s i v 40 _ (HF.out.drewN n1).pb h0 hlim HQ.out).mono ?_
          rintro e w2 ⟨rfl, hp2, hk2⟩
          have HFX := hd ((HF.out.drewN n1).one hp2 hk2 hgb)
          clear hp2 hk2
          go_wp2_with (fail)
          refine at_world (fun W => Hid (FS w W g base s (i + 1) v ns)) (by first | exact HFX | exact hd (HFX.out.drewN _)) ?_
          rintro WX HFX
          refine (is_any g s (i + 1) v 33 _ HFX.out.pb (by omega)).mono ?_
          rintro e wi ⟨rfl, nn, rfl⟩
          rw [H33.out]
          have c1x := HFX.out.pb.c1
          have c2x := HFX.out.pb.c2
          have f1x := HFX.out.pb.fz 1
          have f2x := HFX.out.pb.fz 2
          go_wp2_with (at_builtin; refine wp_app_node ((WX.drewN nn).setCell ⟨g, 1, none⟩ (.int .i64 (i + 1 + 1))) base rfl (.tmp 39) (.tmp 42) rfl v ns (Nd.at ((o.length + 1 : Nat) : Int) (2)) (.slice none 0 0) rfl (by simp [World.setCell]; rfl) ((HFX.out.drewN nn).set1 hgb _).ns (AnyR.nil _ _ _) (Nat.le_trans hbase ((HFX.out.drewN nn).set1 hgb (i + 1 + 1)).kp.size) (by omega) rfl ?_; rintro A6 c6 w5 ⟨hn6, hg6⟩; have HF6' := hd (((HFX.out.drewN nn).set1 hgb (i + 1 + 1)).app hgb hg6 hn6); have HP6' := hd (((HFX.out.drewN nn).set1 hgb (i + 1 + 1)).pb3 hgb hg6); clear hn6 hg6; have z2 := HP6'.out.fz 2; have y2 := HP6'.out.c2)
          refine at_world (fun W => Hid (FS w W g base s (i + 1 + 1) (.slice A6 (ns.length + 1) c6) (ns ++ [Nd.at ((o.length + 1 : Nat) : Int) (2)]))) HF6' ?_
          rintro w6 HF6
          clear HF6' HP6' z2 y2 c1x c2x f1x f2x
          have ed : (o.length : Int) + 1 + 1 = ((o ++ [(2 : Int)]).length : Int) + 1 := by simp
          rw [ed]
          clear ed
          refine (IH.out (i + 1 + 1) (o ++ [2]) _ _ R w6 K (by omega) ⟨HF6.out.pb, HF6.out.ns, (HF0K.out.trans HF6.out.kp)⟩ (HF6.out.tabs HT.out hg hgb) HR.out (by omega) (by omega) (by omega) (by simp; omega) (by simp; omega) (Nat.le_trans hbase HF6.out.kp.size)).mono ?_
          rintro e w7 hend
          · rcases hend with ⟨er, p, hb, rfl, hk⟩ | ⟨v', ns', j, K', rfl, hfs, hpr, hkk, hij, hjs, hnl⟩
            · have HKK := hd (HF6.out.kp.trans hk)
              have HB := hd hb
              clear hk hb
              go_wp2
              exact ⟨rfl, FEnd.bad_ HB.out HKK.out⟩
            · have HF7 := hd (HF6.out.trans hfs)
              have HPR := hd hpr
              obtain ⟨K2, rfl⟩ : ∃ k, K' = k + 1 := ⟨K' - 1, by omega⟩
              clear hfs hpr
              cases hq4 : isB s j 41 with
              | false =>
                have H9 := hd (show R = .bad 120 j from (by have := HPR.out; rw [pr_close (fun q => q.1 rfl), if_neg (by rw [hq4]; simp)] at this; exact this.symm))
                have HQ4 := hd hq4
                clear hq4 HPR
                go_wp2_with (fail)
                refine (want_no g s j v' 41 _ HF7.out.pb (by omega) HQ4.out).mono ?_
                rintro e w8 ⟨rfl, hd8⟩
                go_wp2
                exact ⟨rfl, FEnd.bad_ H9.out (HF7.out.kp.dr hd8)⟩
              | true =>
                have H9 := hd (show parseR s K2 (j + 1) o false ns' = R from (by have := HPR.out; rw [pr_close (fun q => q.1 rfl), if_pos hq4] at this; exact this))
                have HQ4 := hd hq4
                have hl4 := (isB_true hq4).1
                clear hq4 HPR
                go_wp2_with (fail)
                refine (want_yes g s j v' 41 _ HF7.out.pb (by omega) hlim HQ4.out).mono ?_
                rintro e w8 ⟨rfl, hp8, hk8⟩
                have HF8 := hd (HF7.out.one hp8 hk8 hgb)
                clear hp8 hk8
                go_wp2
                first | go_end0 | ((try simp only [Exit.inBlock, Exit.then]); refine bodyPost_ret (results_none rfl _ _ _) rfl ?_)
                exact .inr ⟨v', _, j + 1, K2, rfl, HF8.out, H9.out, by omega, by omega, by omega, by omega⟩
        | false =>
          have H33 := hd h33
          cases h124 : isB s (i + 1) 124 with
          | true =>
            have H124 := hd h124
            have hl1 := (isB_true h124).1
            have hop : opAt s (i + 1) = 1 := by unfold opAt; rw [isB_ne h124 (by decide), h124]; rfl
            have HR := hd (show parseR s K (i + 1 + 1) (o ++ [1]) false (ns ++ [Nd.at ((o.length + 1 : Nat) : Int) 1]) = R from (pr_op hq hol hop (by decide)).symm.trans hR)
            clear hR hq h33 h124 hop
            go_enter Tryd.func9, Tryd.ntmps9
            go_wp2_with (fail)
            refine (is_any g s i v 40 _ HF.out.pb h0).mono ?_
            rintro e w1 ⟨rfl, n1, rfl⟩
            rw [HQ.out]
            go_wp2_with (fail)
            refine (want_yes g s i v 40 _ (HF.out.drewN n1).pb h0 hlim HQ.out).mono ?_
            rintro e w2 ⟨rfl, hp2, hk2⟩
            have HFX := hd ((HF.out.drewN n1).one hp2 hk2 hgb)
            clear hp2 hk2
            go_wp2_with (fail)
            refine at_world (fun W => Hid (FS w W g base s (i + 1) v ns)) (by first | exact HFX | exact hd (HFX.out.drewN _)) ?_
            rintro WX HFX
            refine (is_any g s (i + 1) v 33 _ HFX.out.pb (by omega)).mono ?_
            rintro e wi ⟨rfl, nn, rfl⟩
            rw [H33.out]
            go_wp2_with (fail)
            refine at_world (fun W => Hid (FS w W g base s (i + 1) v ns)) (by first | exact HFX | exact hd (HFX.out.drewN _)) ?_
            rintro WX HFX
            refine (is_any g s (i + 1) v 124 _ HFX.out.pb (by omega)).mono ?_
            rintro e wi ⟨rfl, nn, rfl⟩
            rw [H124.out]
            have c1x := HFX.out.pb.c1
            have c2x := HFX.out.pb.c2
            have f1x := HFX.out.pb.fz 1
            have f2x := HFX.out.pb.fz 2
            go_wp2_with (at_builtin; refine wp_app_node ((WX.drewN nn).setCell ⟨g, 1, none⟩ (.int .i64 (i + 1 + 1))) base rfl (.tmp 63) (.tmp 67) rfl v ns (Nd.at ((o.length + 1 : Nat) : Int) (1)) (.slice none 0 0) rfl (by simp [World.setCell]; rfl) ((HFX.out.drewN nn).set1 hgb _).ns (AnyR.nil _ _ _) (Nat.le_trans hbase ((HFX.out.drewN nn).set1 hgb (i + 1 + 1)).kp.size) (by omega) rfl ?_; rintro A6 c6 w5 ⟨hn6, hg6⟩; have HF6' := hd (((HFX.out.drewN nn).set1 hgb (i + 1 + 1)).app hgb hg6 hn6); have HP6' := hd (((HFX.out.drewN nn).set1 hgb (i + 1 + 1)).pb3 hgb hg6); clear hn6 hg6; have z2 := HP6'.out.fz 2; have y2 := HP6'.out.c2)
            go_loopg [] (s.size + 1) (fun kq wq => ∃ (j : Int) (v' : Value) (ns' : List Nd) (K' : Nat), i < j ∧ j ≤ (s.size : Int) ∧ (ns'.length : Int) ≤ j ∧ Hid ((s.size : Int) - j < (K' : Int)) ∧ (s.size : Int) - j < kq ∧ Hid (FS w wq g base s j v' ns') ∧ Hid (parseR s K' j (o ++ [1]) false ns' = R))
            case atStart => exact ⟨i + 1 + 1, _, _, K, by omega, by omega, by simp; omega, hd (by omega), by omega, HF6', HR⟩
            case round =>
              obtain ⟨j, v', ns', K', hij, hjs, hnl, HKK, hkq, HF7, HPR⟩ := hrel
              clear HF6' HP6' z2 y2 c1x c2x f1x f2x HR
              obtain ⟨K2, rfl⟩ : ∃ k, K' = k + 1 := ⟨K' - 1, by have := HKK.out; omega⟩
              go_wp2_with (fail)
              refine (is_any g s j v' 40 _ HF7.out.pb (by omega)).mono ?_
              rintro e w8 ⟨rfl, n8, rfl⟩
              have HF8 := hd (HF7.out.drewN n8)
              cases hq4 : isB s j 40 with
              | true =>
                have HR2 := hd ((pr_more (by decide) hq4).symm.trans HPR.out)
                clear hq4 HPR
                go_wp2_with (fail)
                refine at_world (fun W => Hid (FS w W g base s j v' ns')) HF8 ?_
                clear HF8 HF7
                rintro w9 HF9
                have ed : (o.length : Int) + 1 + 1 = ((o ++ [(1 : Int)]).length : Int) + 1 := by simp
                rw [ed]
                clear ed
                refine (IH.out j (o ++ [1]) _ _ R w9 (K2 + 1) (by omega) ⟨HF9.out.pb, HF9.out.ns, (HF0K.out.trans HF9.out.kp)⟩ (HF9.out.tabs HT.out hg hgb) HR2.out (by have := HKK.out; omega) (by omega) (by omega) (by omega) (by simp; omega) (Nat.le_trans hbase HF9.out.kp.size)).mono ?_
                rintro e w10 hend
                rcases hend with ⟨er, p, hb, rfl, hk⟩ | ⟨v2, ns2, j2, K3, rfl, hfs, hpr, hkk, hij2, hjs2, hnl2⟩
                · have HK9 := hd (HF9.out.kp.trans hk)
                  have HB := hd hb
                  clear hk hb
                  go_wp2
                  exact ⟨rfl, FEnd.bad_ HB.out HK9.out⟩
                · have HF10 := hd (HF9.out.trans hfs)
                  have HPR2 := hd hpr
                  clear hfs hpr
                  go_wp2
                  go_roundg ((s.size : Int) - j).toNat
                  case measure => omega
                  case rel => exact ⟨j2, v2, ns2, K3, by omega, hjs2, hnl2, hd hkk, by omega, HF10, HPR2⟩
              | false =>
                have HPR3 := hd (show (if isB s j 41 = true then parseR s K2 (j + 1) o false ns' else .bad 120 j) = R from (pr_close (fun q => by rw [hq4] at q; exact absurd q.2 (by simp))).symm.trans HPR.out)
                clear hq4 HPR
                have hK2 := HKK.out
                go_wp2_with (fail)
                refine at_world (fun W => Hid (FS w W g base s j v' ns')) HF8 ?_
                clear HF8 HF7
                rintro w9 HF7
                cases hq5 : isB s j 41 with
                | false =>
                  have H9 := hd (show R = .bad 120 j from (by have := HPR3.out; rw [if_neg (by rw [hq5]; simp)] at this; exact this.symm))
                  have HQ4 := hd hq5
                  clear hq5 HPR3
                  refine (want_no g s j v' 41 _ HF7.out.pb (by omega) HQ4.out).mono ?_
                  rintro e wz ⟨rfl, hd8⟩
                  go_wp2
                  exact ⟨rfl, FEnd.bad_ H9.out (HF7.out.kp.dr hd8)⟩
                | true =>
                  have H9 := hd (show parseR s K2 (j + 1) o false ns' = R from (by have := HPR3.out; rw [if_pos hq5] at this; exact this))
                  have HQ4 := hd hq5
                  have hl4 := (isB_true hq5).1
                  clear hq5 HPR3
                  refine (want_yes g s j v' 41 _ HF7.out.pb (by omega) hlim HQ4.out).mono ?_
                  rintro e wz ⟨rfl, hp8, hk8⟩
                  have HFz := hd (HF7.out.one hp8 hk8 hgb)
                  clear hp8 hk8
                  go_wp2
                  first | go_end0 | ((try simp only [Exit.inBlock, Exit.then]); refine bodyPost_ret (results_none rfl _ _ _) rfl ?_)
                  exact .inr ⟨v', _, j + 1, K2, rfl, HFz.out, H9.out, by omega, by omega, by omega, by omega⟩
          | false =>
            have H124 := hd h124
            cases h38 : isB s (i + 1) 38 with
            | true =>
              have H38 := hd h38
              have hl1 := (isB_true h38).1
              have hop : opAt s (i + 1) = 0 := by unfold opAt; rw [h38]; rfl
              have HR := hd (show parseR s K (i + 1 + 1) (o ++ [0]) false (ns ++ [Nd.at ((o.length + 1 : Nat) : Int) 0]) = R from (pr_op hq hol hop (by decide)).symm.trans hR)
              clear hR hq h33 h124 h38 hop
              go_enter Tryd.func9, Tryd.ntmps9
              go_wp2_with (fail)
              refine (is_any g s i v 40 _ HF.out.pb h0).mono ?_
              rintro e w1 ⟨rfl, n1, rfl⟩
              rw [HQ.out]
              go_wp2_with (fail)
              refine (want_yes g s i v 40 _ (HF.out.drewN n1).pb h0 hlim HQ.out).mono ?_
              rintro e w2 ⟨rfl, hp2, hk2⟩
              have HFX := hd ((HF.out.drewN n1).one hp2 hk2 hgb)
              clear hp2 hk2
              go_wp2_with (fail)
              refine at_world (fun W => Hid (FS w W g base s (i + 1) v ns)) (by first | exact HFX | exact hd (HFX.out.drewN _)) ?_
              rintro WX HFX
              refine (is_any g s (i + 1) v 33 _ HFX.out.pb (by omega)).mono ?_
              rintro e wi ⟨rfl, nn, rfl⟩
              rw [H33.out]
              go_wp2_with (fail)
              refine at_world (fun W => Hid (FS w W g base s (i + 1) v ns)) (by first | exact HFX | exact hd (HFX.out.drewN _)) ?_
              rintro WX HFX
              refine (is_any g s (i + 1) v 124 _ HFX.out.pb (by omega)).mono ?_
              rintro e wi ⟨rfl, nn, rfl⟩
              rw [H124.out]
              go_wp2_with (fail)
              refine at_world (fun W => Hid (FS w W g base s (i + 1) v ns)) (by first | exact HFX | exact hd (HFX.out.drewN _)) ?_
              rintro WX HFX
              refine (is_any g s (i + 1) v 38 _ HFX.out.pb (by omega)).mono ?_
              rintro e wi ⟨rfl, nn, rfl⟩
              rw [H38.out]
              have c1x := HFX.out.pb.c1
              have c2x := HFX.out.pb.c2
              have f1x := HFX.out.pb.fz 1
              have f2x := HFX.out.pb.fz 2
              go_wp2_with (at_builtin; refine wp_app_node ((WX.drewN nn).setCell ⟨g, 1, none⟩ (.int .i64 (i + 1 + 1))) base rfl (.tmp 63) (.tmp 67) rfl v ns (Nd.at ((o.length + 1 : Nat) : Int) (0)) (.slice none 0 0) rfl (by simp [World.setCell]; rfl) ((HFX.out.drewN nn).set1 hgb _).ns (AnyR.nil _ _ _) (Nat.le_trans hbase ((HFX.out.drewN nn).set1 hgb (i + 1 + 1)).kp.size) (by omega) rfl ?_; rintro A6 c6 w5 ⟨hn6, hg6⟩; have HF6' := hd (((HFX.out.drewN nn).set1 hgb (i + 1 + 1)).app hgb hg6 hn6); have HP6' := hd (((HFX.out.drewN nn).set1 hgb (i + 1 + 1)).pb3 hgb hg6); clear hn6 hg6; have z2 := HP6'.out.fz 2; have y2 := HP6'.out.c2)
              go_loopg [] (s.size + 1) (fun kq wq => ∃ (j : Int) (v' : Value) (ns' : List Nd) (K' : Nat), i < j ∧ j ≤ (s.size : Int) ∧ (ns'.length : Int) ≤ j ∧ Hid ((s.size : Int) - j < (K' : Int)) ∧ (s.size : Int) - j < kq ∧ Hid (FS w wq g base s j v' ns') ∧ Hid (parseR s K' j (o ++ [0]) false ns' = R))
              case atStart => exact ⟨i + 1 + 1, _, _, K, by omega, by omega, by simp; omega, hd (by omega), by omega, HF6', HR⟩
              case round =>
                obtain ⟨j, v', ns', K', hij, hjs, hnl, HKK, hkq, HF7, HPR⟩ := hrel
                clear HF6' HP6' z2 y2 c1x c2x f1x f2x HR
                obtain ⟨K2, rfl⟩ : ∃ k, K' = k + 1 := ⟨K' - 1, by have := HKK.out; omega⟩
                go_wp2_with (fail)
                refine (is_any g s j v' 40 _ HF7.out.pb (by omega)).mono ?_
                rintro e w8 ⟨rfl, n8, rfl⟩
                have HF8 := hd (HF7.out.drewN n8)
                cases hq4 : isB s j 40 with
                | true =>
                  have HR2 := hd ((pr_more (by decide) hq4).symm.trans HPR.out)
                  clear hq4 HPR
                  go_wp2_with (fail)
                  refine at_world (fun W => Hid (FS w W g base s j v' ns')) HF8 ?_
                  clear HF8 HF7
                  rintro w9 HF9
                  have ed : (o.length : Int) + 1 + 1 = ((o ++ [(0 : Int)]).length : Int) + 1 := by simp
                  rw [ed]
                  clear ed
                  refine (IH.out j (o ++ [0]) _ _ R w9 (K2 + 1) (by omega) ⟨HF9.out.pb, HF9.out.ns, (HF0K.out.trans HF9.out.kp)⟩ (HF9.out.tabs HT.out hg hgb) HR2.out (by have := HKK.out; omega) (by omega) (by omega) (by omega) (by simp; omega) (Nat.le_trans hbase HF9.out.kp.size)).mono ?_
                  rintro e w10 hend
                  rcases hend with ⟨er, p, hb, rfl, hk⟩ | ⟨v2, ns2, j2, K3, rfl, hfs, hpr, hkk, hij2, hjs2, hnl2⟩
                  · have HK9 := hd (HF9.out.kp.trans hk)
                    have HB := hd hb
                    clear hk hb
                    go_wp2
                    exact ⟨rfl, FEnd.bad_ HB.out HK9.out⟩
                  · have HF10 := hd (HF9.out.trans hfs)
                    have HPR2 := hd hpr
                    clear hfs hpr
                    go_wp2
                    go_roundg ((s.size : Int) - j).toNat
                    case measure => omega
                    case rel => exact ⟨j2, v2, ns2, K3, by omega, hjs2, hnl2, hd hkk, by omega, HF10, HPR2⟩
                | false =>
                  have HPR3 := hd (show (if isB s j 41 = true then parseR s K2 (j + 1) o false ns' else .bad 120 j) = R from (pr_close (fun q => by rw [hq4] at q; exact absurd q.2 (by simp))).symm.trans HPR.out)
                  clear hq4 HPR
                  have hK2 := HKK.out
                  go_wp2_with (fail)
                  refine at_world (fun W => Hid (FS w W g base s j v' ns')) HF8 ?_
                  clear HF8 HF7
                  rintro w9 HF7
                  cases hq5 : isB s j 41 with
                  | false =>
                    have H9 := hd (show R = .bad 120 j from (by have := HPR3.out; rw [if_neg (by rw [hq5]; simp)] at this; exact this.symm))
                    have HQ4 := hd hq5
                    clear hq5 HPR3
                    refine (want_no g s j v' 41 _ HF7.out.pb (by omega) HQ4.out).mono ?_
                    rintro e wz ⟨rfl, hd8⟩
                    go_wp2
                    exact ⟨rfl, FEnd.bad_ H9.out (HF7.out.kp.dr hd8)⟩
                  | true =>
                    have H9 := hd (show parseR s K2 (j + 1) o false ns' = R from (by have := HPR3.out; rw [if_pos hq5] at this; exact this))
                    have HQ4 := hd hq5
                    have hl4 := (isB_true hq5).1
                    clear hq5 HPR3
                    refine (want_yes g s j v' 41 _ HF7.out.pb (by omega) hlim HQ4.out).mono ?_
                    rintro e wz ⟨rfl, hp8, hk8⟩
                    have HFz := hd (HF7.out.one hp8 hk8 hgb)
                    clear hp8 hk8
                    go_wp2
                    first | go_end0 | ((try simp only [Exit.inBlock, Exit.then]); refine bodyPost_ret (results_none rfl _ _ _) rfl ?_)
                    exact .inr ⟨v', _, j + 1, K2, rfl, HFz.out, H9.out, by omega, by omega, by omega, by omega⟩
            | false =>
              have H38 := hd h38
              have hop : opAt s (i + 1) = -1 := by unfold opAt; rw [h38, h124, h33]; rfl
              have HR := hd ((pr_item hq hol hop).symm.trans hR)
              clear hR hq h33 h124 h38 hop
              have hnl2 : ns.length ≤ 4194400 := by omega
              go_enter Tryd.func9, Tryd.ntmps9
              go_wp2_with (fail)
              refine (is_any g s i v 40 _ HF.out.pb h0).mono ?_
              rintro e w1 ⟨rfl, n1, rfl⟩
              rw [HQ.out]
              go_wp2_with (fail)
              refine (want_yes g s i v 40 _ (HF.out.drewN n1).pb h0 hlim HQ.out).mono ?_
              rintro e w2 ⟨rfl, hp2, hk2⟩
              have HFX := hd ((HF.out.drewN n1).one hp2 hk2 hgb)
              clear hp2 hk2
              go_wp2_with (fail)
              refine at_world (fun W => Hid (FS w W g base s (i + 1) v ns)) (by first | exact HFX | exact hd (HFX.out.drewN _)) ?_
              rintro WX HFX
              refine (is_any g s (i + 1) v 33 _ HFX.out.pb (by omega)).mono ?_
              rintro e wi ⟨rfl, nn, rfl⟩
              rw [H33.out]
              go_wp2_with (fail)
              refine at_world (fun W => Hid (FS w W g base s (i + 1) v ns)) (by first | exact HFX | exact hd (HFX.out.drewN _)) ?_
              rintro WX HFX
              refine (is_any g s (i + 1) v 124 _ HFX.out.pb (by omega)).mono ?_
              rintro e wi ⟨rfl, nn, rfl⟩
              rw [H124.out]
              go_wp2_with (fail)
              refine at_world (fun W => Hid (FS w W g base s (i + 1) v ns)) (by first | exact HFX | exact hd (HFX.out.drewN _)) ?_
              rintro WX HFX
              refine (is_any g s (i + 1) v 38 _ HFX.out.pb (by omega)).mono ?_
              rintro e wi ⟨rfl, nn, rfl⟩
              rw [H38.out]
              go_wp2_with (fail)
              refine at_world (fun W => Hid (FS w W g base s (i + 1) v ns)) (by first | exact HFX | exact hd (HFX.out.drewN _)) ?_
              rintro WX HFX
              cases hit : itemS s ((o.length : Int) + 1) (i + 1) with
              | bad p =>
                have H9 := hd (show R = .bad 120 p from (by have := HR.out; rw [hit] at this; exact this.symm))
                have cI := pitem_any g base s (i + 1) v ns ((o.length : Int) + 1) WX HFX.out.pb (HFX.out.tabs HT.out hg hgb) hg hgb (Nat.le_trans hbase HFX.out.kp.size) HFX.out.ns hnl2 (by omega) (by omega) hlim
                rw [hit] at cI
                clear hit HR
                refine cI.mono ?_
                rintro e w6 ⟨rfl, hk6⟩
                have HKK := hd (HFX.out.kp.trans hk6)
                clear hk6
                go_wp2
                exact ⟨rfl, FEnd.bad_ H9.out HKK.out⟩
              | ok nx j =>
                have HPR := hd (show (if isB s j 41 = true then parseR s K (j + 1) o false (ns ++ [nx]) else .bad 120 j) = R from (by have := HR.out; rw [hit] at this; exact this))
                have cI := pitem_any g base s (i + 1) v ns ((o.length : Int) + 1) WX HFX.out.pb (HFX.out.tabs HT.out hg hgb) hg hgb (Nat.le_trans hbase HFX.out.kp.size) HFX.out.ns hnl2 (by omega) (by omega) hlim
                rw [hit] at cI
                clear hit HR
                refine cI.mono ?_
                rintro e w6 ⟨rfl, v', hp6, hn6, hk6, hj0, hj1⟩
                have HF7 := hd (show FS w w6 g base s j v' (ns ++ [nx]) from ⟨hp6, hn6, HFX.out.kp.trans hk6⟩)
                clear hp6 hn6 hk6
                cases hq4 : isB s j 41 with
                | false =>
                  have H9 := hd (show R = .bad 120 j from (by have := HPR.out; rw [if_neg (by rw [hq4]; simp)] at this; exact this.symm))
                  have HQ4 := hd hq4
                  clear hq4 HPR
                  go_wp2_with (fail)
                  refine (want_no g s j v' 41 _ HF7.out.pb (by omega) HQ4.out).mono ?_
                  rintro e w8 ⟨rfl, hd8⟩
                  go_wp2
                  exact ⟨rfl, FEnd.bad_ H9.out (HF7.out.kp.dr hd8)⟩
                | true =>
                  have H9 := hd (show parseR s K (j + 1) o false (ns ++ [nx]) = R from (by have := HPR.out; rw [if_pos hq4] at this; exact this))
                  have HQ4 := hd hq4
                  have hl4 := (isB_true hq4).1
                  clear hq4 HPR
                  go_wp2_with (fail)
                  refine (want_yes g s j v' 41 _ HF7.out.pb (by omega) hlim HQ4.out).mono ?_
                  rintro e w8 ⟨rfl, hp8, hk8⟩
                  have HF8 := hd (HF7.out.one hp8 hk8 hgb)
                  clear hp8 hk8
                  go_wp2
                  first | go_end0 | ((try simp only [Exit.inBlock, Exit.then]); refine bodyPost_ret (results_none rfl _ _ _) rfl ?_)
                  exact .inr ⟨v', _, j + 1, K, rfl, HF8.out, H9.out, by omega, by omega, by omega, by simp; omega⟩
end Go.Proofs.YtieolphpgjpcmaaDoor

namespace Go.Proofs.YtieolphpgjpcmaaDoor
open Go.RowKit Go.Proofs.YtieolphpgjpcmaaDoorW.PrintWords

set_option maxHeartbeats 1000000 in
set_option maxRecDepth 100000 in
theorem given_fault (er p : Int) (w : World) :
    Calls Tryd.prog 8 #[faultV er p] w fun e w' => e = .returned (.tuple #[.agg #[.int .i64 er, .int .i64 p], .bool true]) ∧ Kp No w w' := by
  unfold faultV
  have hta : ∀ W, (Instr.typeAssert (.iface 30 (.agg #[.int .i64 er, .int .i64 p])) 20 30 true).run Tryd.prog W = .ok (.tuple #[.agg #[.int .i64 er, .int .i64 p], .bool true]) W := fun _ => by kernel_rfl
  go_enter Tryd.func8, Tryd.ntmps8
  go_wp2
  refine bodyPost_ret (results_ct rfl _ _ w.heap.size 30 #[.int .i64 er, .int .i64 p] (0, 0) _ rfl (by exact (Blk.new _ _ _).alloc _) Tryd.underlying30 rfl (by kernel_rfl)) rfl ⟨rfl, ((Kp.refl _ _).alloc _).alloc _⟩
set_option maxHeartbeats 1000000 in
set_option maxRecDepth 100000 in
theorem given_nil (w : World) :
    Calls Tryd.prog 8 #[.nilIface] w fun e w' => e = .returned (.tuple #[.agg #[.int .i64 0, .int .i64 0], .bool false]) ∧ Kp No w w' := by
  go_enter Tryd.func8, Tryd.ntmps8
  go_wp2
  refine bodyPost_ret (results_ct rfl _ _ w.heap.size 30 #[.int .i64 0, .int .i64 0] (0, 0) _ rfl (Blk.new _ _ _) Tryd.underlying30 rfl (by kernel_rfl)) rfl ⟨rfl, (Kp.refl _ _).alloc _⟩

/-- A region whose first operation asks 'recover': it hands something back. -/
theorem wpS_region_rec {P : Program} {id : Nat} {o : Oper} {l : List Oper} {Q : Exit → Act → List Frame → World → Prop} {a : Act} {cs cs' : List Frame} {w : World} {v : Value} (hw : Region.wanted o (yielded (o :: l).toArray a.tmps) = true)
    (hr : (execOp a.eval o).run P w = .ok .recover w) (hrec : recoverD cs = some (v, cs')) (h : wpList P (o :: l).toArray (fun e a w => Q e a cs' w) l (a.put o.dst v) w) : (Code.region id (o :: l).toArray false).wpS P Q a cs w := by
  intro b k hb hro
  have h2 : wpOps P (o :: l).toArray (fun e a w => Q e a cs' w) (List.range' 1 l.length) (a.put o.dst v) w := by
    rw [wpOps_eq_wpList l 1 (fun j => by simp [Nat.add_comm 1 j])]
    exact h
  obtain ⟨e, a', w', hq, harr⟩ := wp_ops _ _ _ h2 b k cs'
  have ho : (o :: l).toArray[0]? = some o := rfl
  have hg := stepG_op (P := P) (b := b) (k := k) (cs := cs) (w := w) (rest := List.range' 1 l.length) ho hw
  have hfin : ∀ v, (b.at a (.inRegion (o :: l).toArray (0 :: List.range' 1 l.length) :: k)).finish v = b.at (a.put o.dst v) (.inRegion (o :: l).toArray (List.range' 1 l.length) :: k) := by
    intro v; rw [Frame.finish_at, ho]; rfl
  have hk : (b.at a (.inRegion (o :: l).toArray (0 :: List.range' 1 l.length) :: k)).kind = .deferred := hb
  have htr := tryRecover_deferred hk cs
  have hrange : List.range (o :: l).toArray.size = 0 :: List.range' 1 l.length := by simp [List.range_eq_range', List.range'_succ]
  refine ⟨e, a', cs', w', hq, .of_steps (.one step_region) ?_⟩
  rw [hrange]
  refine .of_steps (.one (step_lone_go ?_)) harr
  rw [hg, ← hfin]
  simp only [Frame.at] at htr ⊢
  simp [stepG.apply, hr, htr, hrec]
/-- The same where there is nothing to hand back. -/
theorem wpS_region_idle {P : Program} {id : Nat} {o : Oper} {l : List Oper} {Q : Exit → Act → List Frame → World → Prop} {a : Act} {cs : List Frame} {w : World} (hw : Region.wanted o (yielded (o :: l).toArray a.tmps) = true)
    (hr : (execOp a.eval o).run P w = .ok .recover w) (hrec : recoverD cs = none) (h : wpList P (o :: l).toArray (fun e a w => Q e a cs w) l (a.put o.dst .nilIface) w) : (Code.region id (o :: l).toArray false).wpS P Q a cs w := by
  intro b k hb hro
  have h2 : wpOps P (o :: l).toArray (fun e a w => Q e a cs w) (List.range' 1 l.length) (a.put o.dst .nilIface) w := by
    rw [wpOps_eq_wpList l 1 (fun j => by simp [Nat.add_comm 1 j])]
    exact h
  obtain ⟨e, a', w', hq, harr⟩ := wp_ops _ _ _ h2 b k cs
  have ho : (o :: l).toArray[0]? = some o := rfl
  have hg := stepG_op (P := P) (b := b) (k := k) (cs := cs) (w := w) (rest := List.range' 1 l.length) ho hw
  have hfin : ∀ v, (b.at a (.inRegion (o :: l).toArray (0 :: List.range' 1 l.length) :: k)).finish v = b.at (a.put o.dst v) (.inRegion (o :: l).toArray (List.range' 1 l.length) :: k) := by
    intro v; rw [Frame.finish_at, ho]; rfl
  have hk : (b.at a (.inRegion (o :: l).toArray (0 :: List.range' 1 l.length) :: k)).kind = .deferred := hb
  have htr := tryRecover_deferred hk cs
  have hrange : List.range (o :: l).toArray.size = 0 :: List.range' 1 l.length := by simp [List.range_eq_range', List.range'_succ]
  refine ⟨e, a', cs, w', hq, .of_steps (.one step_region) ?_⟩
  rw [hrange]
  refine .of_steps (.one (step_lone_go ?_)) harr
  rw [hg, ← hfin]
  simp only [Frame.at] at htr ⊢
  simp [stepG.apply, hr, htr, hrec]

theorem p1_frame (x y z : Value) : (#[x, y, z] : Array Value) ++ Array.replicate (Tryd.f7.ntmps - (#[x, y, z] : Array Value).size) undef = #[x, y, z, undef, undef, undef, undef, undef, undef, undef, undef, undef, undef, undef, undef] := rfl
def Three (b : Nat) : Nat → Prop := fun k => k = b ∨ k = b + 1 ∨ k = b + 2
set_option maxHeartbeats 4000000 in
set_option maxRecDepth 100000 in
/-- The deferred function, where the reader has given up: what was given up with becomes the results. -/
theorem catch_fault (b : Nat) (f0 e0 a0 : Value) (er p : Int) (older : List PanicEntry) (w : World) (h0 : Blk w b #[f0] 23) (h1 : Blk w (b + 1) #[e0] 24) (h2 : Blk w (b + 2) #[a0] 3) :
    CallsD Tryd.prog 7 #[.pointer (some ⟨b, 0, none⟩), .pointer (some ⟨b + 1, 0, none⟩), .pointer (some ⟨b + 2, 0, none⟩)] (.panicking ({ v := faultV er p, recovered := false } :: older)) w fun e u' w' =>
      e = .returned (.tuple #[]) ∧ u' = .panicking ({ v := faultV er p, recovered := true } :: older) ∧ Blk w' b #[.slice none 0 0] 23 ∧ Blk w' (b + 1) #[.int .i64 er] 24 ∧ Blk w' (b + 2) #[.int .i64 p] 3 ∧ Kp (Three b) w w' := by
  have H0 := hd h0
  have H1 := hd h1
  have H2 := hd h2
  clear h0 h1 h2
  refine callsD_of_wpS Tryd.func7 rfl fun c₀ cs hu => ?_
  rw [p1_frame]
  apply wpS_seq
  refine wpS_region_rec (v := faultV er p) (cs' := { c₀ with mode := .panicking ({ v := faultV er p, recovered := true } :: older) } :: cs) rfl rfl (by simp [recoverD, hu]) ?_
  show wpList _ _ _ _ { tmps := #[.pointer (some ⟨b, 0, none⟩), .pointer (some ⟨b + 1, 0, none⟩), .pointer (some ⟨b + 2, 0, none⟩), undef, undef, undef, faultV er p, undef, undef, undef, undef, undef, undef, undef, undef], defers := [] } w
  go_wp2_with (fail)
  refine (given_fault er p w).mono ?_
  rintro e w1 ⟨rfl, hk1⟩
  have K0 := H0.out.kp hk1 (fun q => q)
  have K1 := H1.out.kp hk1 (fun q => q)
  have K2 := H2.out.kp hk1 (fun q => q)
  have HK1 := hd hk1
  have hb1 := K0.lt
  have hb2 := K1.lt
  have hb3 := K2.lt
  go_wp2_with (fail)
  show Code.wpS _ _ _ _ _ _
  refine wpS_of_wp ?_
  have C0 := hd (K0.alloc (.cells #[.int .i64 er, .int .i64 p] 30))
  have C1 := hd (K1.alloc (.cells #[.int .i64 er, .int .i64 p] 30))
  have C2 := hd (K2.alloc (.cells #[.int .i64 er, .int .i64 p] 30))
  have CF := hd (Blk.new w1 #[.int .i64 er, .int .i64 p] 30)
  have HKA := hd (HK1.out.alloc (.cells #[.int .i64 er, .int .i64 p] 30))
  have hsz := hd (show (w1.alloc (.cells #[.int .i64 er, .int .i64 p] 30)).heap.size = w1.heap.size + 1 by simp)
  obtain ⟨fb, hfb⟩ : ∃ x, w1.heap.size = x := ⟨_, rfl⟩
  rw [hfb] at CF hb1 hb2 hb3 hsz
  rw [hfb]
  generalize w1.alloc (.cells #[.int .i64 er, .int .i64 p] 30) = w2 at C0 C1 C2 CF HKA hsz ⊢
  clear K0 K1 K2 HK1 hk1 hfb
  have c0 := C0.out.c 0 rfl
  have c1 := C1.out.c 0 rfl
  have c2 := C2.out.c 0 rfl
  have f0' := C0.out.f 0
  have f1' := C1.out.f 0
  have f2' := C2.out.f 0
  have d0 := CF.out.c 0 rfl
  have d1 := CF.out.c 1 rfl
  have n1 : (b = fb) = False := eq_false (by omega)
  have n2 : (b + 1 = fb) = False := eq_false (by omega)
  have n3 : (b + 2 = fb) = False := eq_false (by omega)
  go_wp2_with (fail)
  go_region_held3 (fun w' => w'.cell? ⟨fb, 0, none⟩ = some (.int .i64 er) ∧ w'.cell? ⟨fb, 1, none⟩ = some (.int .i64 p)) (go_keep) (fail)
  all_goals
    go_wp2
    have x01 : b ≠ b + 1 := by omega
    have x02 : b ≠ b + 2 := by omega
    have x12 : b + 1 ≠ b + 2 := by omega
    refine ⟨rfl, _, rfl, .tuple #[], results_none rfl _ _ _, rfl, rfl, ?_, ?_, ?_, ?_⟩
    · exact Blk.drew (((Blk.cast (C0.out.set 0 _) rfl).far (p := ⟨b + 1, 0, none⟩) x01 _).far (p := ⟨b + 2, 0, none⟩) x02 _)
    · exact Blk.drew ((Blk.cast ((C1.out.far (p := ⟨b, 0, none⟩) x01.symm _).set 0 _) rfl).far (p := ⟨b + 2, 0, none⟩) x12 _)
    · exact Blk.drew (Blk.cast (((C2.out.far (p := ⟨b, 0, none⟩) x02.symm _).far (p := ⟨b + 1, 0, none⟩) x12.symm _).set 0 _) rfl)
    · exact ((((HKA.out.mono (S' := Three b) (fun _ _ q => q.elim)).setCell (p := ⟨b, 0, none⟩) (fun _ => .inl rfl) _).setCell (p := ⟨b + 1, 0, none⟩) (fun _ => .inr (.inl rfl)) _).setCell (p := ⟨b + 2, 0, none⟩) (fun _ => .inr (.inr rfl)) _).drew
set_option maxHeartbeats 4000000 in
set_option maxRecDepth 100000 in
/-- The deferred function, where nothing was given up. -/
theorem catch_none (b : Nat) (w : World) :
    CallsD Tryd.prog 7 #[.pointer (some ⟨b, 0, none⟩), .pointer (some ⟨b + 1, 0, none⟩), .pointer (some ⟨b + 2, 0, none⟩)] .returning w fun e u' w' => e = .returned (.tuple #[]) ∧ u' = .returning ∧ Kp No w w' := by
  refine callsD_of_wpS Tryd.func7 rfl fun c₀ cs hu => ?_
  rw [p1_frame]
  apply wpS_seq
  refine wpS_region_idle rfl rfl (by simp [recoverD, hu]) ?_
  show wpList _ _ _ _ { tmps := #[.pointer (some ⟨b, 0, none⟩), .pointer (some ⟨b + 1, 0, none⟩), .pointer (some ⟨b + 2, 0, none⟩), undef, undef, undef, .nilIface, undef, undef, undef, undef, undef, undef, undef, undef], defers := [] } w
  go_wp2_with (fail)
  refine (given_nil w).mono ?_
  rintro e w1 ⟨rfl, hk1⟩
  have HK1 := hd hk1
  clear hk1
  go_wp2_with (fail)
  show Code.wpS _ _ _ _ _ _
  refine wpS_of_wp ?_
  go_wp2
  cases c₀
  simp only at hu
  subst hu
  exact ⟨rfl, _, rfl, .tuple #[], results_none rfl _ _ _, rfl, rfl, HK1.out.alloc _⟩
end Go.Proofs.YtieolphpgjpcmaaDoor
