/- filter.parser: pieces. -/
import Derived.Test.YtieolphpgjpcmaaDoorM06
import Derived.Test.YtieolphpgjpcmaaDoorMFProgE
import Derived.StillTailTactics
import Derived.Deep.RegionWith

namespace Go.Proofs.YtieolphpgjpcmaaDoor
open Go.RowKit Go.Proofs.YtieolphpgjpcmaaDoorW.PrintWords

/-- The parser's block, the texts and the bytes that a value's reading holds. -/
structure VP (w W : World) (g : Nat) (s : ByteArray) (i : Int) (v : Value) (vl : Value) (l : List ByteArray) (vn : Value) (now : List Int) : Prop where
  pb : PB W g s i v
  lt : g < w.heap.size
  kp : Kp (One g) w W
  ls : Strs W w.heap.size vl l
  ns : Bys W w.heap.size vn now
namespace VP
variable {w W w1 : World} {g : Nat} {s : ByteArray} {i : Int} {v : Value} {vl : Value} {l : List ByteArray} {vn : Value} {now : List Int}
theorem drewN (h : VP w W g s i v vl l vn now) (n : Nat) : VP w (W.drewN n) g s i v vl l vn now := ⟨h.pb, h.lt, h.kp.drewN n, h.ls, h.ns⟩
theorem drew (h : VP w W g s i v vl l vn now) : VP w W.drew g s i v vl l vn now := ⟨h.pb, h.lt, h.kp.drew, h.ls, h.ns⟩
theorem moved (h : VP w W g s i v vl l vn now) {i' : Int} (hr : PB w1 g s i' v) (hk : Kp (One g) W w1) : VP w w1 g s i' v vl l vn now :=
  ⟨hr, h.lt, h.kp.trans hk, h.ls.kp hk (fun k e q => by have := own_base h.ls k e; have h2 := h.lt; rw [show k = g from q] at this; omega), h.ns.kp hk (fun k e q => by have := own_base h.ns k e; have h2 := h.lt; rw [show k = g from q] at this; omega)⟩
theorem no (h : VP w W g s i v vl l vn now) (hk : Kp No W w1) : VP w w1 g s i v vl l vn now := h.moved (h.pb.kp hk (fun q => q)) (hk.mono (fun _ _ q => q.elim))
theorem set1 (h : VP w W g s i v vl l vn now) (x : Int) : VP w (W.setCell ⟨g, 1, none⟩ (.int .i64 x)) g s x v vl l vn now := h.moved (h.pb.set1 x) ((Kp.refl _ _).setOne _ _)
theorem none_ (h : VP w W g s i v vl l vn now) : VP w W g s i v vl l (.slice none 0 0) [] := ⟨h.pb, h.lt, h.kp, h.ls, Bys.nil _ _⟩
theorem app_l (h : VP w W g s i v vl l vn now) {v1 : Value} {y : ByteArray} (hg : W.grownBy w1 vl.ownBlock) (ho : Strs w1 w.heap.size v1 (l ++ [y])) : VP w w1 g s i v v1 (l ++ [y]) vn now :=
  ⟨blk_grown h.pb hg (fun e => by have := own_base h.ls g e.symm; have h2 := h.lt; omega), h.lt, h.kp.grown hg (fun k e hk => by have := own_base h.ls k e; omega), ho, own_other h.ns hg (own_type_ne h.ns h.ls (by decide))⟩
theorem app_n (h : VP w W g s i v vl l vn now) {v1 : Value} {ys : List Int} (hg : W.grownBy w1 vn.ownBlock) (ho : Bys w1 w.heap.size v1 ys) : VP w w1 g s i v vl l v1 ys :=
  ⟨blk_grown h.pb hg (fun e => by have := own_base h.ns g e.symm; have h2 := h.lt; omega), h.lt, h.kp.grown hg (fun k e hk => by have := own_base h.ns k e; omega), own_other h.ls hg (own_type_ne h.ls h.ns (by decide)), ho⟩
end VP
/-- How a value's reading ends. -/
def PiEnd (w w' : World) (g : Nat) (s : ByteArray) (v : Value) (i0 : Int) (e : Ending) : VRes → Prop
  | .ok l j => ∃ A c, e = .returned (.slice A l.length c) ∧ PB w' g s j v ∧ Kp (One g) w w' ∧ Strs w' w.heap.size (.slice A l.length c) l ∧ 0 < l.length ∧ (l.length : Int) ≤ (s.size : Int) + 1 ∧ i0 ≤ j ∧ j < (s.size : Int)
  | .bad p => e = faulty 120 p ∧ Kp (One g) w w'
theorem PiEnd.bad_ {w w' : World} {g : Nat} {s : ByteArray} {v : Value} {i0 p : Int} (hk : Kp (One g) w w') : PiEnd w w' g s v i0 (faulty 120 p) (.bad p) := ⟨rfl, hk⟩
theorem PiEnd.ok_ {w w' : World} {g : Nat} {s : ByteArray} {v : Value} {i0 j : Int} {vl vn : Value} {l : List ByteArray} {now : List Int} (h : VP w w' g s j v vl l vn now) (hl : 0 < l.length) (hl2 : (l.length : Int) ≤ (s.size : Int) + 1) (h0 : i0 ≤ j) (h1 : j < (s.size : Int)) : PiEnd w w' g s v i0 (.returned vl) (.ok l j) := by
  obtain ⟨A, c, e⟩ := own_slice h.ls
  subst e
  exact ⟨A, c, rfl, h.pb, h.kp, h.ls, hl, hl2, h0, h1⟩

set_option maxHeartbeats 8000000 in
set_option maxRecDepth 100000 in
theorem pieces_any (g : Nat) (s : ByteArray) (i : Int) (v : Value) (stars : Bool) (w : World) (hp : PB w g s i v) (hT : Tabs w) (hg : gTop < g) (h0 : 0 ≤ i) (h1 : i ≤ (s.size : Int)) (hl : s.size ≤ LIM) :
    Calls Tryd.prog 29 #[.pointer (some ⟨g, 0, none⟩), .bool stars] w fun e w' => PiEnd w w' g s v i e (vals s stars (s.size + 1) i false [] []) := by
  have hlim := hl
  unfold LIM at hl
  obtain ⟨R, hR⟩ : ∃ R, vals s stars (s.size + 1) i false [] [] = R := ⟨_, rfl⟩
  rw [hR]
  have HR := hd hR
  have HV : Hid (VP w w g s i v (.slice none 0 0) [] (.slice none 0 0) []) := ⟨hp, hp.lt, Kp.refl _ _, Strs.nil _ _, Bys.nil _ _⟩
  have HT := hd hT
  have HH := hd h1
  clear hR hT h1 hp
  go_enter Tryd.func29, Tryd.ntmps29
  go_wp2
  go_loopg [5, 6, 7] (s.size + 1) (fun kq vl vn vs w' => ∃ (j : Int) (star : Bool) (l : List ByteArray) (now : List Int), vs = .bool star ∧ i ≤ j ∧ j ≤ (s.size : Int) ∧ Hid ((s.size : Int) - j < kq) ∧ Hid ((l.length : Int) ≤ j ∧ (now.length : Int) ≤ j) ∧ Hid (VP w w' g s j v vl l vn now) ∧ Hid (vals s stars kq j star l now = R))
  case atStart => exact ⟨i, false, [], [], rfl, Int.le_refl _, HH.out, hd (by omega), hd ⟨by simp; omega, by simp; omega⟩, HV, HR⟩
  case round =>
    clear HR HV HH
    obtain ⟨j, star, l, now, rfl, hj0, hj1, HF, HL, HV, HR⟩ := hrel
    have hv := HV.out
    have c1 := hv.pb.c1
    have f1 := hv.pb.fz 1
    have HTr : Hid (Tabs wr) := hd (HT.out.one HV.out.kp hg)
    cases gk with
    | zero => exact absurd HF.out (by omega)
    | succ k1 =>
      have H := HR.out
      clear HR
      simp only [vals] at H
      have p0 : 0 ≤ j := by omega
      by_cases hlt : j < (s.size : Int)
      · rw [if_neg (by omega)] at H
        have hb := bt_range s j
        obtain ⟨c, hc⟩ : ∃ c, bt s j = c := ⟨_, rfl⟩
        rw [hc] at hb H
        have HC := hd hc
        clear hc
        by_cases e41 : c = 41
        · subst e41
          have H' := hd (show VRes.ok (l ++ [strOfNums now]) j = R from H)
          clear H hv
          have hs := fun n => (HV.out.drewN n).ns.str
          go_wp2_with (fail)
          refine (peek_in g s j v _ HV.out.pb p0 hlt).mono ?_
          rintro e w1 ⟨rfl, np, rfl⟩
          rw [HC.out]
          go_wp2_with (at_builtin; refine print_append_of (w0 := wr) Value.string w.heap.size rfl _ _ 45 9 (.string ⟨#[]⟩) 16 rfl Tryd.underlying45 infoStr (by rfl) (by decide) u5 l (strOfNums now) rfl rfl rfl (HV.out.drewN _).ls (pw_below_drewN (Below.refl _ _) _) (HV.out.drewN _).kp.size (by have := HL.out; omega) ?_; intro v1 w2 ho1 hb1 hg1 hat1; clear hb1 hat1)
          go_ret
          obtain rfl : VRes.ok (l ++ [strOfNums now]) j = R := H'.out
          exact PiEnd.ok_ ((HV.out.drewN _).app_l hg1 ho1) (by simp) (by have := HL.out; simp; omega) hj0 hlt
        have n41 : (c == 41) = false := beq_eq_false_iff_ne.2 e41
        rw [if_neg e41] at H
        by_cases e42 : c = 42
        · subst e42
          cases stars
          · clear n41
            have H' := hd (show VRes.bad j = R by rw [← H, if_neg (by simp), if_pos (by simp)])
            clear H hv
            go_wp2_with (fail)
            refine (peek_in g s j v _ HV.out.pb p0 hlt).mono ?_
            rintro e w1 ⟨rfl, np, rfl⟩
            rw [HC.out]
            go_wp2_with (fail)
            refine (fail_any g j _).mono ?_
            rintro e wf ⟨rfl, rfl⟩
            go_wp2
            obtain rfl : VRes.bad j = R := H'.out
            exact ⟨rfl, PiEnd.bad_ (HV.out.drewN _).kp⟩
          · cases star
            · have H' := hd (show vals s true k1 (j + 1) true (l ++ [strOfNums now]) [] = R by rw [← H, if_pos ⟨rfl, rfl, rfl⟩])
              clear H hv n41
              have hs := fun n => (HV.out.drewN n).ns.str
              go_wp2_with (fail)
              refine (peek_in g s j v _ HV.out.pb p0 hlt).mono ?_
              rintro e w1 ⟨rfl, np, rfl⟩
              rw [HC.out]
              go_wp2_with (at_builtin; refine print_append_of (w0 := wr) Value.string w.heap.size rfl _ _ 45 9 (.string ⟨#[]⟩) 16 rfl Tryd.underlying45 infoStr (by rfl) (by decide) u5 l (strOfNums now) rfl rfl rfl (HV.out.drewN _).ls (pw_below_drewN (Below.refl _ _) _) (HV.out.drewN _).kp.size (by have := HL.out; omega) ?_; intro v1 w2 ho1 hb1 hg1 hat1; clear hb1 hat1; have hv3 := hd ((HV.out.drewN _).app_l hg1 ho1); clear hg1 ho1; have c1' := hv3.out.pb.c1; have f1' := hv3.out.pb.fz 1)
              go_roundg k1
              case measure => omega
              case rel => exact ⟨j + 1, true, l ++ [strOfNums now], [], rfl, by omega, by omega, hd (by have := HF.out; omega), hd ⟨by have := HL.out; simp; omega, by simp; omega⟩, hd (hv3.out.none_.set1 _), H'⟩
            · clear n41
              have H' := hd (show VRes.bad j = R by rw [← H, if_neg (by simp), if_pos (by simp)])
              clear H hv
              go_wp2_with (fail)
              refine (peek_in g s j v _ HV.out.pb p0 hlt).mono ?_
              rintro e w1 ⟨rfl, np, rfl⟩
              rw [HC.out]
              go_wp2_with (fail)
              refine (fail_any g j _).mono ?_
              rintro e wf ⟨rfl, rfl⟩
              go_wp2
              obtain rfl : VRes.bad j = R := H'.out
              exact ⟨rfl, PiEnd.bad_ (HV.out.drewN _).kp⟩
        have n42 : (c == 42) = false := beq_eq_false_iff_ne.2 e42
        rw [if_neg (fun q => e42 q.1)] at H
        by_cases e0 : c = 0
        · subst e0
          clear n41 n42
          have H' := hd (show VRes.bad j = R by rw [← H, if_pos (by simp)])
          clear H hv
          go_wp2_with (fail)
          refine (peek_in g s j v _ HV.out.pb p0 hlt).mono ?_
          rintro e w1 ⟨rfl, np, rfl⟩
          rw [HC.out]
          go_wp2_with (fail)
          refine (fail_any g j _).mono ?_
          rintro e wf ⟨rfl, rfl⟩
          go_wp2
          obtain rfl : VRes.bad j = R := H'.out
          exact ⟨rfl, PiEnd.bad_ (HV.out.drewN _).kp⟩
        have n0 : (c == 0) = false := beq_eq_false_iff_ne.2 e0
        by_cases e40 : c = 40
        · subst e40
          clear n41 n42 n0
          have H' := hd (show VRes.bad j = R by rw [← H, if_pos (by simp)])
          clear H hv
          go_wp2_with (fail)
          refine (peek_in g s j v _ HV.out.pb p0 hlt).mono ?_
          rintro e w1 ⟨rfl, np, rfl⟩
          rw [HC.out]
          go_wp2_with (fail)
          refine (fail_any g j _).mono ?_
          rintro e wf ⟨rfl, rfl⟩
          go_wp2
          obtain rfl : VRes.bad j = R := H'.out
          exact ⟨rfl, PiEnd.bad_ (HV.out.drewN _).kp⟩
        have n40 : (c == 40) = false := beq_eq_false_iff_ne.2 e40
        rw [if_neg (by omega)] at H
        clear e0 e40 e41 e42
        by_cases e92 : c = 92
        · subst e92
          rw [if_pos rfl] at H
          clear hv n41 n42 n0 n40
          have hr1 := hexOf_range s (j + 1)
          have hr2 := hexOf_range s (j + 2)
          obtain ⟨h1, hh1⟩ : ∃ h1, hexOf s (j + 1) = h1 := ⟨_, rfl⟩
          obtain ⟨h2, hh2⟩ : ∃ h2, hexOf s (j + 2) = h2 := ⟨_, rfl⟩
          rw [hh1] at H hr1
          rw [hh2] at H hr2
          have H2 := hd hh2
          have cE := hd (fun W hW => pescape_any g s j v h1 h2 W hW p0 hlt hlim hh1 hh2)
          clear hh1 hh2
          by_cases l1 : h1 < 0
          · have H' := hd (show VRes.bad (j + 1) = R by rw [← H, if_pos l1])
            clear H
            go_wp2_with (fail)
            refine (peek_in g s j v _ HV.out.pb p0 hlt).mono ?_
            rintro e w1 ⟨rfl, np, rfl⟩
            rw [HC.out]
            go_wp2_with (fail)
            refine (cE.out _ (HV.out.pb.drewN _)).mono ?_
            rintro e w1 ⟨hk, hE⟩
            unfold EscPost at hE
            rw [if_pos l1] at hE
            obtain rfl := hE
            have hk2 := hd ((HV.out.kp.drewN np).trans hk)
            clear hk
            go_wp2
            obtain rfl : VRes.bad (j + 1) = R := H'.out
            exact ⟨rfl, PiEnd.bad_ hk2.out⟩
          · rw [if_neg l1] at H
            by_cases l2 : h2 < 0
            · have H' := hd (show VRes.bad (j + 2) = R by rw [← H, if_pos l2])
              clear H
              go_wp2_with (fail)
              refine (peek_in g s j v _ HV.out.pb p0 hlt).mono ?_
              rintro e w1 ⟨rfl, np, rfl⟩
              rw [HC.out]
              go_wp2_with (fail)
              refine (cE.out _ (HV.out.pb.drewN _)).mono ?_
              rintro e w1 ⟨hk, hE⟩
              unfold EscPost at hE
              rw [if_neg (by omega), if_pos l2] at hE
              obtain rfl := hE
              have hk2 := hd ((HV.out.kp.drewN np).trans hk)
              clear hk
              go_wp2
              obtain rfl : VRes.bad (j + 2) = R := H'.out
              exact ⟨rfl, PiEnd.bad_ hk2.out⟩
            · rw [if_neg l2] at H
              have H' := hd H
              clear H
              have hj3 : j + 2 < (s.size : Int) := by
                have := H2.out
                unfold hexOf at this
                split at this <;> omega
              go_wp2_with (fail)
              refine (peek_in g s j v _ HV.out.pb p0 hlt).mono ?_
              rintro e w1 ⟨rfl, np, rfl⟩
              rw [HC.out]
              go_wp2_with (fail)
              refine (cE.out _ (HV.out.pb.drewN _)).mono ?_
              rintro e w1 ⟨hk, hE⟩
              unfold EscPost at hE
              rw [if_neg (by omega), if_neg (by omega)] at hE
              obtain ⟨rfl, hP⟩ := hE
              have hv2 := hd ((HV.out.drewN np).moved hP hk)
              clear hk hP
              go_wp2_with (at_builtin; refine print_append_num (w0 := w1) w.heap.size rfl _ _ 76 5 .u8 1 rfl Tryd.underlying76 infoU8 (by decide) u6 now (h1 * 16 + h2) rfl rfl hv2.out.ns (Below.refl _ _) hv2.out.kp.size (by have := HL.out; omega) ?_; intro v1 w2 ho1 hb1 hg1 hat1; clear hb1 hat1; have hv3 := hd (hv2.out.app_n hg1 ho1); clear hg1 ho1)
              go_roundg k1
              case measure => omega
              case rel => exact ⟨j + 3, false, l, now ++ [h1 * 16 + h2], rfl, by omega, by omega, hd (by have := HF.out; omega), hd ⟨by have := HL.out; omega, by have := HL.out; simp; omega⟩, hv3, H'⟩
        have n92 : (c == 92) = false := beq_eq_false_iff_ne.2 e92
        rw [if_neg e92] at H
        clear e92 hv
        obtain ⟨m, hm⟩ : ∃ m, seqN s j = m := ⟨_, rfl⟩
        obtain ⟨d1, d2, hD, hdd⟩ := pdec s j m hm p0 hlt
        rw [hm] at H
        have cD := hd hD
        clear hm hD
        have c0 := HV.out.pb.c0
        have q5 := eq_true (show j ≤ (s.size : Int) by omega)
        have p1 := eq_true p0
        by_cases m0 : m = 0
        · obtain ⟨rfl, rfl⟩ : d1 = 65533 ∧ d2 = 1 := by
            rcases hdd with q | q
            · exact ⟨q.2.1, q.2.2⟩
            · omega
          have H' := hd (show VRes.bad j = R by rw [← H, if_pos m0])
          clear H m0 hdd
          go_wp2_with (fail)
          refine (peek_in g s j v _ HV.out.pb p0 hlt).mono ?_
          rintro e w1 ⟨rfl, np, rfl⟩
          rw [HC.out]
          go_wp2_with (fail)
          go_region_with (go_at_call 46; refine (cD.out _ (HTr.out.no ((Kp.refl No _).drewN np).drew)).mono ?_; rintro e w2 ⟨rfl, hk2⟩)
          all_goals
            have hv2 := hd ((HV.out.drewN np).drew.no hk2)
            clear hk2
            have c1' := hv2.out.pb.c1
            have c0' := hv2.out.pb.c0
            have f1' := hv2.out.pb.fz 1
            go_wp2_with (fail)
            refine (fail_any g j _).mono ?_
            rintro e wf ⟨rfl, rfl⟩
            go_wp2
            obtain rfl : VRes.bad j = R := H'.out
            exact ⟨rfl, PiEnd.bad_ hv2.out.kp⟩
        · rw [if_neg m0] at H
          have H' := hd H
          clear H
          obtain ⟨g1, g2, g3, rfl, g5⟩ : 1 ≤ m ∧ m ≤ 4 ∧ j + m ≤ (s.size : Int) ∧ d2 = m ∧ ¬ (d1 = 65533 ∧ d2 < 2) := by
            rcases hdd with q | q
            · exact absurd q.1 m0
            · exact q
          clear hdd m0
          have q4 := eq_true (show j ≤ j + d2 by omega)
          have q7 := eq_true g3
          have q6 := eq_true (show 0 ≤ d2 by omega)
          by_cases e5 : d1 = 65533
          all_goals
            first | (have t2 : decide (d2 < 2) = false := decide_eq_false (fun q => g5 ⟨e5, q⟩)) | skip
            first | (have t1 : (d1 == 65533) = false := beq_eq_false_iff_ne.2 e5) | (subst e5; have t1 : True := trivial)
            clear g5
            try clear e5
            go_wp2_with (fail)
            refine (peek_in g s j v _ HV.out.pb p0 hlt).mono ?_
            rintro e w1 ⟨rfl, np, rfl⟩
            rw [HC.out]
            go_wp2_with (fail)
            go_region_with (go_at_call 46; refine (cD.out _ (HTr.out.no ((Kp.refl No _).drewN np).drew)).mono ?_; rintro e w2 ⟨rfl, hk2⟩)
            all_goals
              have hv2 := hd ((HV.out.drewN np).drew.no hk2)
              clear hk2
              have c1' := hv2.out.pb.c1
              have c0' := hv2.out.pb.c0
              have f1' := hv2.out.pb.fz 1
              go_wp2_with (fail)
              refine region_tail 16 (by kernel_rfl) (by kernel_rfl) ?_
              simp only [List.take_succ_cons, List.take_zero, List.drop_succ_cons, List.drop_zero]
              have ew : IntKind.i64.wrap (j + d2) = j + d2 := IntWalk.i64_in _ (by omega)
              repeat still_step
              refine wpStill_nil ?_
              clear ew
              go_wp2_with (at_builtin; go_loud (refine print_append_str (w0 := w2) w.heap.size rfl _ _ 76 9 5 rfl Tryd.underlying76 Tryd.underlying9 infoU8 u6 now (s.extract j.toNat (j + d2).toNat) rfl rfl hv2.out.drew.ns (below_drew (Below.refl _ _)) hv2.out.kp.size (by have := HL.out; rw [ByteArray.size_extract]; omega) ?_; intro v1 w3 ho1 hb1 hg1; clear hb1; have hv3 := hd (hv2.out.drew.app_n hg1 ho1); clear hg1 ho1; have c1'' := hv3.out.pb.c1; have f1'' := hv3.out.pb.fz 1))
              go_roundg k1
              case measure => omega
              case rel => exact ⟨j + d2, false, l, now ++ bytesOf (s.extract j.toNat (j + d2).toNat), rfl, by omega, by omega, hd (by have := HF.out; omega), hd ⟨by have := HL.out; omega, by have := HL.out; rw [List.length_append, bytesOf_length, ByteArray.size_extract]; omega⟩, hd (hv3.out.set1 _), H'⟩
      · rw [if_pos (by omega)] at H
        have H' := hd H
        clear H hv
        go_wp2_with (fail)
        refine (peek_out g s j v _ HV.out.pb (by omega)).mono ?_
        rintro e w1 ⟨rfl, np, rfl⟩
        go_wp2_with (fail)
        refine (fail_any g j _).mono ?_
        rintro e wf ⟨rfl, rfl⟩
        go_wp2
        obtain rfl : VRes.bad j = R := H'.out
        exact ⟨rfl, PiEnd.bad_ (HV.out.drewN _).kp⟩
end Go.Proofs.YtieolphpgjpcmaaDoor
