/- filter.parser: equals. -/
import Derived.Test.YtieolphpgjpcmaaDoorMFProgP
import Derived.Test.YtieolphpgjpcmaaDoorM02
import Derived.Deep.RegionHeld3

namespace Go.Proofs.YtieolphpgjpcmaaDoor
open Go.RowKit Go.Proofs.YtieolphpgjpcmaaDoorW.PrintWords

theorem cut3 (A : Option Addr) (l : List ByteArray) (c : Nat) (h2 : 2 ≤ l.length) (hc : l.length ≤ c) :
    ∃ A', (∀ W, (Instr.slice 45 (.slice A l.length c) (some (.int .i64 1)) (some (.int .i64 ((l.length : Int) - 1))) (some (.int .i64 ((l.length : Int) - 1)))).run Tryd.prog W = .ok (.slice A' ((l.take (l.length - 1)).drop 1).length ((l.take (l.length - 1)).drop 1).length) W) ∧
      (l.length = 2 ∨ A' = A.map (·.add 1)) := by
  obtain ⟨i, hi, hsz⟩ := infoTStr
  refine ⟨if l.length - 1 = 1 then A else A.map (·.add 1), fun W => ?_, ?_⟩
  · have ht := Tryd.underlying45
    have hel : Tryd.prog.elem 45 = 9 := by simp [Program.elem, ht]
    have hu : Tryd.prog.underlying 45 = some (.slice (Tryd.prog.elem 45)) := by rw [hel]; exact ht
    rw [run_slice_lhm W 45 A l.length c hu .i64 .i64 .i64 1 ((l.length : Int) - 1) ((l.length : Int) - 1) (by omega) (by omega) (by omega) (by omega), hel]
    have e : ((l.length : Int) - 1).toNat = l.length - 1 := by omega
    simp [sizeOf, typeInfo, hi, hsz, sliced, Result.andThen, e]
  · by_cases h : l.length - 1 = 1
    · exact .inl (by omega)
    · rw [if_neg h]; exact .inr rfl
def ndC (n : Nd) : Array Value := n.cells (.slice none 0 0)
/-- How the reading of what stands behind "=" ends. -/
def QEnd (w w' : World) (g nb : Nat) (s : ByteArray) (v : Value) (i0 : Int) (n : Nd) (e : Ending) : VRes → Prop
  | .bad p => e = faulty 120 p ∧ Kp (Two g nb) w w'
  | .ok l j => e = .returned (.tuple #[]) ∧ ∃ av, PB w' g s j v ∧ Blk w' nb ((eqRes n l).cells av) 49 ∧ AnyR w' w.heap.size (fun k => w.heap.size ≤ k) av (eqRes n l).any ∧ Kp (Two g nb) w w' ∧ i0 ≤ j ∧ j ≤ (s.size : Int)
theorem One.two1 {g : Nat} (nb : Nat) : ∀ k : Nat, One g k → Two g nb k := fun _ h => .inl h

set_option maxHeartbeats 8000000 in
set_option maxRecDepth 100000 in
theorem pequals_any (g nb : Nat) (s : ByteArray) (i : Int) (v : Value) (n : Nd) (w : World) (hp : PB w g s i v) (hT : Tabs w) (hg : gTop < g) (hne : nb ≠ g) (hB : Blk w nb (n.cells (.slice none 0 0)) 49) (hn : n.any = []) (h0 : 0 ≤ i) (h1 : i ≤ (s.size : Int)) (hl : s.size ≤ LIM) :
    Calls Tryd.prog 28 #[.pointer (some ⟨g, 0, none⟩), .pointer (some ⟨nb, 0, none⟩)] w fun e w' => QEnd w w' g nb s v i n e (vals s true (s.size + 1) i false [] []) := by
  obtain ⟨R, hR⟩ : ∃ R, vals s true (s.size + 1) i false [] [] = R := ⟨_, rfl⟩
  rw [hR]
  have cV := hd (pieces_any g s i v true w hp hT hg h0 h1 hl)
  rw [hR] at cV
  have hA := hp.lt
  have hA2 := hB.lt
  have HB := hd hB
  obtain ⟨nd, no, nde, nv, ni, na, nf, nr, ndn⟩ := n
  obtain rfl : na = [] := hn
  clear hR hT hp hB
  cases R with
  | bad p =>
    go_enter Tryd.func28, Tryd.ntmps28
    go_wp2_with (fail)
    refine cV.out.mono ?_
    rintro e w1 ⟨rfl, hk⟩
    go_wp2
    exact ⟨rfl, rfl, hk.mono (fun k _ q => .inl q)⟩
  | ok l j =>
    go_enter Tryd.func28, Tryd.ntmps28
    go_wp2_with (fail)
    refine cV.out.mono ?_
    rintro e w1 ⟨A, c, rfl, hr, hk, hs, hz, hz9, hj0, hj1⟩
    have hlm : l.length ≤ 4194305 := by unfold LIM at hl; omega
    clear hz9
    have HB1 := hd (HB.out.kp hk (fun q => hne q))
    have HK := hd hk
    have HR := hd hr
    have HS := hd hs
    obtain ⟨b, cap, hbv, hbb, hbl, hc⟩ := hs.form hz
    injection hbv with e1 e2 e3
    subst e1 e3
    have hcap : l.length ≤ c := own_le hs
    have HC := hd hc
    have hc0 := hc 0 hz
    have z1 : 0 < l.length := hz
    have HNB := hd (show nb ≠ b by omega)
    have n1 : (nb = b) = False := eq_false HNB.out
    clear hc hs hr hk cV HB
    have c1 := HB1.out.c 1 rfl
    have c3 := HB1.out.c 3 rfl
    have c4 := HB1.out.c 4 rfl
    have c5 := HB1.out.c 5 rfl
    have c6 := HB1.out.c 6 rfl
    have f1 := HB1.out.f 1
    have f3 := HB1.out.f 3
    have f4 := HB1.out.f 4
    have f5 := HB1.out.f 5
    have f6 := HB1.out.f 6
    by_cases l1 : l.length = 1
    · have er : eqRes ⟨nd, no, nde, nv, ni, [], nf, nr, ndn⟩ l = ⟨nd, 3, nde, l.getD 0 ⟨#[]⟩, ni, [], nf, nr, ndn⟩ := by unfold eqRes; rw [if_pos l1]
      have ER := hd er
      clear er
      generalize l.getD 0 ⟨#[]⟩ = x0 at hc0 ER
      go_wp2
      go_end0
      refine ⟨rfl, .slice none 0 0, ?_, ?_, ?_, ?_, hj0, by omega⟩
      · exact HR.out.kp (S := One nb) (((Kp.refl _ _).setOne 1 _).setOne 3 _) (fun q => hne q.symm)
      · rw [ER.out]; exact Blk.cast ((HB1.out.set 1 _).set 3 _) (by kernel_rfl)
      · rw [ER.out]; exact AnyR.nil _ _ _
      · exact (((HK.out.mono (fun k _ q => .inl q)).setCell (fun _ => .inr rfl) _).setCell (fun _ => .inr rfl) _)
    · by_cases l2 : l.length = 2 ∧ (l.getD 0 ⟨#[]⟩).size = 0 ∧ (l.getD 1 ⟨#[]⟩).size = 0
      · have er : eqRes ⟨nd, no, nde, nv, ni, [], nf, nr, ndn⟩ l = ⟨nd, 7, nde, nv, ni, [], nf, nr, ndn⟩ := by unfold eqRes; rw [if_neg l1, if_pos l2]
        have ER := hd er
        clear er
        have hc1 := HC.out 1 (by omega)
        have y0 := empty_iff (l.getD 0 ⟨#[]⟩)
        have y1 := empty_iff (l.getD 1 ⟨#[]⟩)
        rw [l2.2.1] at y0
        rw [l2.2.2] at y1
        have l2' := l2.1
        clear l2 l1
        generalize l.getD 0 ⟨#[]⟩ = x0 at hc0 y0
        generalize l.getD 1 ⟨#[]⟩ = x1 at hc1 y1
        go_wp2
        go_end0
        refine ⟨rfl, .slice none 0 0, ?_, ?_, ?_, ?_, hj0, by omega⟩
        · exact HR.out.kp (S := One nb) ((Kp.refl _ _).setOne 1 _) (fun q => hne q.symm)
        · rw [ER.out]; exact Blk.cast (HB1.out.set 1 _) (by kernel_rfl)
        · rw [ER.out]; exact AnyR.nil _ _ _
        · exact (HK.out.mono (fun k _ q => .inl q)).setCell (fun _ => .inr rfl) _
      · have er : eqRes ⟨nd, no, nde, nv, ni, [], nf, nr, ndn⟩ l = ⟨nd, 4, nde, nv, l.getD 0 ⟨#[]⟩, (l.take (l.length - 1)).drop 1, l.getD (l.length - 1) ⟨#[]⟩, nr, ndn⟩ := by unfold eqRes; rw [if_neg l1, if_neg l2]
        have ER := hd er
        clear er
        have hcl := HC.out (l.length - 1) (by omega)
        have hl3 : 2 ≤ l.length := by omega
        have t0 : ((l.length : Int) - 1 == 0) = false := by rw [beq_eq_false_iff_ne]; omega
        have hcs : (l.length = 2 ∧ (l.getD 0 ⟨#[]⟩).size = 0 ∧ (l.getD 1 ⟨#[]⟩).size ≠ 0) ∨ (l.length = 2 ∧ (l.getD 0 ⟨#[]⟩).size ≠ 0) ∨ l.length ≠ 2 := by
          by_cases q1 : l.length = 2
          · by_cases q2 : (l.getD 0 ⟨#[]⟩).size = 0
            · exact .inl ⟨q1, q2, fun q3 => l2 ⟨q1, q2, q3⟩⟩
            · exact .inr (.inl ⟨q1, q2⟩)
          · exact .inr (.inr q1)
        have hc1 := HC.out 1 (by omega)
        have y0 := empty_iff (l.getD 0 ⟨#[]⟩)
        have y1 := empty_iff (l.getD 1 ⟨#[]⟩)
        obtain ⟨A', hcut, hA'⟩ := cut3 (some ⟨b, 0, none⟩) l c hl3 hcap
        have hav : AnyR w1 w.heap.size (fun k => w.heap.size ≤ k) (.slice A' ((l.take (l.length - 1)).drop 1).length ((l.take (l.length - 1)).drop 1).length) ((l.take (l.length - 1)).drop 1) := by
          refine ⟨A', _, rfl, Nat.le_refl _, by simp; unfold maxLen; omega, ?_⟩
          rcases hA' with q | q
          · exact .inl (List.eq_nil_of_length_eq_zero (by simp; omega))
          · refine .inr ⟨b, 1, ?_⟩
            rcases HS.out.2 with ⟨hz1, _⟩ | ⟨g', cap', cur, hv1, hb1, hh1, _, _, _, ht1⟩
            · cases hz1
            · injection hv1 with u1
              injection u1 with u1
              injection u1 with u1
              subst u1
              refine ⟨cur, by rw [q]; rfl, hb1, hb1, hh1, fun j hj => ?_⟩
              have hj' : 1 + j < l.length := by simp at hj; omega
              have := HC.out (1 + j) hj'
              rw [blk_cell hh1] at this
              rw [this]
              have hj2 : j + 1 < l.length - 1 := by simp at hj; omega
              simp [List.getD_eq_getElem?_getD, Nat.add_comm 1 j, hj2, List.getElem?_eq_getElem (show j + 1 < l.length by omega)]
        have HAV := hd hav
        have HXL : Hid (((l.take (l.length - 1)).drop 1).length ≤ 4194400) := hd (by simp; omega)
        generalize (l.take (l.length - 1)).drop 1 = xs at hcut HAV ER HXL
        clear l1 l2 hav hA'
        generalize l.getD 0 ⟨#[]⟩ = x0 at hc0 y0 ER hcs
        generalize l.getD 1 ⟨#[]⟩ = x1 at hc1 y1 hcs
        generalize l.getD (l.length - 1) ⟨#[]⟩ = xl at hcl ER
        have hT1 : (((l.length : Int) - 1 == 1) = true ∧ x0.toList.isEmpty = true ∧ x1.toList.isEmpty = false) ∨ (((l.length : Int) - 1 == 1) = true ∧ x0.toList.isEmpty = false) ∨ ((l.length : Int) - 1 == 1) = false := by
          rcases hcs with ⟨q1, q2, q3⟩ | ⟨q1, q2⟩ | q1
          · exact .inl ⟨by rw [q1]; rfl, by rw [y0, q2]; rfl, by rw [y1]; simpa using q3⟩
          · exact .inr (.inl ⟨by rw [q1]; rfl, by rw [y0]; simpa using q2⟩)
          · exact .inr (.inr (by rw [beq_eq_false_iff_ne]; omega))
        clear hcs y0 y1
        have u5 : 1 < l.length := by omega
        have u6 := eq_true (show (1 : Int) < (l.length : Int) by omega)
        have u0 := eq_true (show (0 : Int) < (l.length : Int) by omega)
        have u1 := eq_true (show (1 : Int) ≤ (l.length : Int) by omega)
        have u2 := eq_true (show (0 : Int) ≤ (l.length : Int) - 1 by omega)
        have u3 := eq_true (show (l.length : Int) - 1 < (l.length : Int) by omega)
        have u4 : ((l.length : Int) - 1).toNat = l.length - 1 := by omega
        rcases hT1 with ⟨t1, t2, t3⟩ | ⟨t1, t2⟩ | t1
        all_goals
          go_wp2_with (fail)
          go_region_held3 (fun w' => w'.cell? ⟨b, 0, none⟩ = some (.string x0) ∧ w'.cell? ⟨b, l.length - 1, none⟩ = some (.string xl)) (go_keep) (fail)
          all_goals
            go_wp2
            go_end0
            refine ⟨rfl, .slice A' xs.length xs.length, ?_, ?_, ?_, ?_, hj0, by omega⟩
            · exact HR.out.kp (S := One nb) (((((Kp.refl _ _).setOne 1 _).setOne 4 _).setOne 5 _).setOne 6 _).drew (fun q => hne q.symm)
            · rw [ER.out]; exact Blk.cast (Blk.drew ((((HB1.out.set 1 _).set 4 _).set 5 _).set 6 _)) (by kernel_rfl)
            · rw [ER.out]; exact HAV.out.kp (S := One nb) (((((Kp.refl _ _).setOne 1 _).setOne 4 _).setOne 5 _).setOne 6 _).drew (fun k hk q => by have q' : k = nb := q; omega)
            · exact (HK.out.mono (fun k _ q => .inl q)).trans ((show Kp (One nb) w1 _ from (((((Kp.refl _ _).setOne 1 _).setOne 4 _).setOne 5 _).setOne 6 _).drew).mono (fun k _ q => .inr q))
end Go.Proofs.YtieolphpgjpcmaaDoor
