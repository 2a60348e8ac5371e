/- rosterref12: sameNode, Equal; the law's same, of two lists that read alike. | rosterref12.Equal, the law's same, of two lists that read alike. -/
import Derived.Test.YtieolphpgjpcmaaDoorM01
import Derived.Deep.LoopGhost
import Derived.KernelRfl
import Derived.Test.YtieolphpgjpcmaaDoorM02

namespace Go.Proofs.YtieolphpgjpcmaaDoor
open Go.RowKit Go.Proofs.YtieolphpgjpcmaaDoorW.PrintWords

set_option maxHeartbeats 4000000 in
set_option maxRecDepth 100000 in
theorem rsame_any (n : Nd) (A B : Option Addr) (c d : Nat) (w : World) (hA : RdS w A c n.any) (hB : RdS w B d n.any) (hl : n.any.length ≤ 4194400) :
    Calls Tryd.prog 24 #[.agg (n.cells (.slice A n.any.length c)), .agg (n.cells (.slice B n.any.length d))] w fun e w' => e = .returned (.bool true) ∧ Kp No w w' := by
  obtain ⟨nd, no, nde, nv, ni, na, nf, nr, ndn⟩ := n
  simp only at hA hB hl
  unfold Nd.cells
  have HA := hd hA
  have HB := hd hB
  clear hA hB
  have t1 : ((ndn == ndn)) = true := by cases ndn <;> rfl
  have t2 : ((ndn != ndn)) = false := by cases ndn <;> rfl
  go_enter Tryd.func24, Tryd.ntmps24
  go_wp2
  obtain ⟨w1, hw1⟩ : ∃ x, (w.alloc (.cells #[.int .i64 nd, .int .i64 no, .string nde, .string nv, .string ni, .slice A na.length c, .string nf, .string nr, .bool ndn] 49)).alloc (.cells #[.int .i64 nd, .int .i64 no, .string nde, .string nv, .string ni, .slice B na.length d, .string nf, .string nr, .bool ndn] 49) = x := ⟨_, rfl⟩
  have hB1 : Blk w1 w.heap.size #[.int .i64 nd, .int .i64 no, .string nde, .string nv, .string ni, .slice A na.length c, .string nf, .string nr, .bool ndn] 49 := by rw [← hw1]; exact (Blk.new w _ 49).alloc _
  have hB2 : Blk w1 (w.heap.size + 1) #[.int .i64 nd, .int .i64 no, .string nde, .string nv, .string ni, .slice B na.length d, .string nf, .string nr, .bool ndn] 49 := by
    rw [← hw1]
    have h := Blk.new (w.alloc (.cells #[.int .i64 nd, .int .i64 no, .string nde, .string nv, .string ni, .slice A na.length c, .string nf, .string nr, .bool ndn] 49)) #[.int .i64 nd, .int .i64 no, .string nde, .string nv, .string ni, .slice B na.length d, .string nf, .string nr, .bool ndn] 49
    simpa using h
  have hK : Kp No w w1 := by rw [← hw1]; exact ((Kp.refl _ _).alloc _).alloc _
  rw [hw1]
  have hA1 : RdS w1 A c na := HA.out.below (hK.toBelow)
  have hC1 : RdS w1 B d na := HB.out.below (hK.toBelow)
  have H1 := hd hB1
  have H2 := hd hB2
  have H3 := hd hK
  have H4 := hd hA1
  have H5 := hd hC1
  clear hw1 hB1 hB2 hK hA1 hC1 HA HB
  go_loopg [5] (na.length + 1) (fun k q wr => ∃ i : Nat, q = .int .i64 i ∧ i ≤ na.length ∧ na.length - i < k ∧ Hid (Kp No w1 wr))
  case atStart => exact ⟨0, rfl, by omega, by omega, hd (Kp.refl _ _)⟩
  case round =>
    obtain ⟨i, rfl, hi, hk, hm⟩ := hrel
    have c5 : wr.cell? ⟨w.heap.size, 5, none⟩ = some (.slice A na.length c) := (H1.out.kp hm.out (fun q => q)).c 5 rfl
    have d5 : wr.cell? ⟨w.heap.size + 1, 5, none⟩ = some (.slice B na.length d) := (H2.out.kp hm.out (fun q => q)).c 5 rfl
    have M4 := hd (H4.out.below hm.out.toBelow)
    have M5 := hd (H5.out.below hm.out.toBelow)
    by_cases hlt : i < na.length
    · obtain ⟨a1, rfl, g1⟩ := M4.out.get i hlt
      obtain ⟨a2, rfl, g2⟩ := M5.out.get i hlt
      have g1' : wr.cell? (a1.add i) = some (.string (na.getD i ⟨#[]⟩)) := g1
      have g2' : wr.cell? (a2.add i) = some (.string (na.getD i ⟨#[]⟩)) := g2
      clear g1 g2
      generalize na.getD i ⟨#[]⟩ = x at g1' g2'
      have e1 := eq_true (show (0 : Int) ≤ (i : Int) by omega)
      have e2 := eq_true (show (i : Int) < (na.length : Int) by omega)
      have e3 : decide ((i : Int) < (na.length : Int)) = true := decide_eq_true (by omega)
      go_wp2_with (fail)
      go_quiet (fail)
      go_wp2
      go_roundg (na.length - i)
      case measure => omega
      case rel => exact ⟨i + 1, by go_num, by omega, by omega, hd (hm.out.drewN _)⟩
    · have e3 : decide ((i : Int) < (na.length : Int)) = false := decide_eq_false (by omega)
      go_wp2
      go_ret
      exact ⟨rfl, H3.out.trans hm.out⟩
end Go.Proofs.YtieolphpgjpcmaaDoor

namespace Go.Proofs.YtieolphpgjpcmaaDoor
open Go.RowKit Go.Proofs.YtieolphpgjpcmaaDoorW.PrintWords

theorem node_at {w : World} {A : Option Addr} {ns : List Nd} (h : kN.C w A ns.length ns) (i : Nat) (hi : i < ns.length) :
    ∃ ad X c, A = some ad ∧ RdS w X c (ns.getD i Nd.zero).any ∧ (ns.getD i Nd.zero).any.length ≤ 9223372036854775807 ∧ ∀ j u, ((ns.getD i Nd.zero).cells (.slice X (ns.getD i Nd.zero).any.length c))[j]? = some u → w.cell? ((ad.add (i * 9)).add j) = some u := by
  obtain ⟨ad, cs, e, hs, hR, hc⟩ := h.get_ Nd.zero (i : Int) (by omega) (by omega)
  simp only [Int.toNat_natCast] at hR hc
  obtain ⟨X, c, rfl, hr⟩ := hR
  refine ⟨ad, X, c, e, hr, hr.1.2.1, fun j u hu => (Addr.add_add ad (i * 9) j ▸ hc j u ?_)⟩
  rw [Array.getElem?_toList]
  exact hu

set_option maxHeartbeats 4000000 in
set_option maxRecDepth 100000 in
theorem requal_any (ns : List Nd) (A B : Option Addr) (c d : Nat) (w : World) (hA : kN.C w A ns.length ns) (hB : kN.C w B ns.length ns) (hl : ns.length ≤ 4194400) (hll : ∀ n ∈ ns, n.any.length ≤ 4194400) :
    Calls Tryd.prog 15 #[.slice A ns.length c, .slice B ns.length d] w fun e w' => e = .returned (.bool true) ∧ Kp No w w' := by
  have HA := hd hA
  have HB := hd hB
  have HL := hd hll
  clear hA hB hll
  go_enter Tryd.func15, Tryd.ntmps15
  go_wp2
  go_loopg [5] (ns.length + 1) (fun k q wr => ∃ i : Nat, q = .int .i64 i ∧ i ≤ ns.length ∧ ns.length - i < k ∧ Hid (Kp No w wr))
  case atStart => exact ⟨0, rfl, by omega, by omega, hd (Kp.refl _ _)⟩
  case round =>
    obtain ⟨i, rfl, hi, hk, hm⟩ := hrel
    by_cases hlt : i < ns.length
    · have e3 : decide ((i : Int) < (ns.length : Int)) = true := decide_eq_true (by omega)
      have e1 := eq_true (show (0 : Int) ≤ (i : Int) by omega)
      have e2 := eq_true (show (i : Int) < (ns.length : Int) by omega)
      obtain ⟨a1, X1, c1, rfl, hr1, hz, hx1⟩ := node_at (HA.out.imp_ hm.out.toBelow (fun _ _ hp => kN.K_below hm.out.toBelow hp)) i hlt
      obtain ⟨a2, X2, c2, rfl, hr2, _, hx2⟩ := node_at (HB.out.imp_ hm.out.toBelow (fun _ _ hp => kN.K_below hm.out.toBelow hp)) i hlt
      have hn : (ns.getD i Nd.zero).any.length ≤ 4194400 := HL.out _ (by rw [List.getD_eq_getElem?_getD, List.getElem?_eq_getElem hlt]; exact List.getElem_mem _)
      generalize ns.getD i Nd.zero = x at hr1 hz hx1 hr2 hx2 hn
      have HC := hd (fun W (hk : Kp No wr W) => rsame_any x X1 X2 c1 c2 W (hr1.below hk.toBelow) (hr2.below hk.toBelow) hn)
      obtain ⟨nd, no, nde, nv, ni, na, nf, nr, ndn⟩ := x
      unfold Nd.cells at hx1 hx2 HC
      simp only at hx1 hx2 HC
      obtain ⟨p1, hp1⟩ : ∃ p, a1.add (i * 9) = p := ⟨_, rfl⟩
      obtain ⟨p2, hp2⟩ : ∃ p, a2.add (i * 9) = p := ⟨_, rfl⟩
      rw [hp1] at hx1
      rw [hp2] at hx2
      have x0 : wr.cell? p1 = _ := hx1 0 _ rfl
      have x1 : wr.cell? ⟨p1.block, p1.off + 1, none⟩ = _ := hx1 1 _ rfl
      have x2 : wr.cell? ⟨p1.block, p1.off + 2, none⟩ = _ := hx1 2 _ rfl
      have x3 : wr.cell? ⟨p1.block, p1.off + 3, none⟩ = _ := hx1 3 _ rfl
      have x4 : wr.cell? ⟨p1.block, p1.off + 4, none⟩ = _ := hx1 4 _ rfl
      have x5 : wr.cell? ⟨p1.block, p1.off + 5, none⟩ = _ := hx1 5 _ rfl
      have x6 : wr.cell? ⟨p1.block, p1.off + 6, none⟩ = _ := hx1 6 _ rfl
      have x7 : wr.cell? ⟨p1.block, p1.off + 7, none⟩ = _ := hx1 7 _ rfl
      have x8 : wr.cell? ⟨p1.block, p1.off + 8, none⟩ = _ := hx1 8 _ rfl
      have y0 : wr.cell? p2 = _ := hx2 0 _ rfl
      have y1 : wr.cell? ⟨p2.block, p2.off + 1, none⟩ = _ := hx2 1 _ rfl
      have y2 : wr.cell? ⟨p2.block, p2.off + 2, none⟩ = _ := hx2 2 _ rfl
      have y3 : wr.cell? ⟨p2.block, p2.off + 3, none⟩ = _ := hx2 3 _ rfl
      have y4 : wr.cell? ⟨p2.block, p2.off + 4, none⟩ = _ := hx2 4 _ rfl
      have y5 : wr.cell? ⟨p2.block, p2.off + 5, none⟩ = _ := hx2 5 _ rfl
      have y6 : wr.cell? ⟨p2.block, p2.off + 6, none⟩ = _ := hx2 6 _ rfl
      have y7 : wr.cell? ⟨p2.block, p2.off + 7, none⟩ = _ := hx2 7 _ rfl
      have y8 : wr.cell? ⟨p2.block, p2.off + 8, none⟩ = _ := hx2 8 _ rfl
      clear hx1 hx2 hr1 hr2
      go_wp2_with (fail)
      refine region_tail 8 (by kernel_rfl) (by kernel_rfl) ?_
      simp only [List.take_succ_cons, List.take_zero, List.drop_succ_cons, List.drop_zero]
      repeat still_step
      refine wpStill_nil ?_
      go_wp2_with (fail)
      refine (HC.out _ ((Kp.refl _ _).drew)).mono ?_
      rintro e w1 ⟨rfl, hk1⟩
      have hk2 := hd (hm.out.trans ((Kp.refl No wr).drew.trans hk1))
      clear hk1
      go_wp2
      go_roundg (ns.length - i)
      case measure => omega
      case rel => exact ⟨i + 1, by go_num, by omega, by omega, hk2⟩
    · have e3 : decide ((i : Int) < (ns.length : Int)) = false := decide_eq_false (by omega)
      go_wp2
      go_ret
      exact ⟨rfl, hm.out⟩

theorem lsame_any (ns : List Nd) (A B : Option Addr) (c d : Nat) (w : World) (hA : kN.C w A ns.length ns) (hB : kN.C w B ns.length ns) (hl : ns.length ≤ 4194400) (hll : ∀ n ∈ ns, n.any.length ≤ 4194400) :
    Calls Tryd.prog 6 #[.slice A ns.length c, .slice B ns.length d] w fun e w' => e = .returned (.bool true) ∧ Kp No w w' := by
  have HC := hd (requal_any ns A B c d w hA hB hl hll)
  clear hA hB hll
  go_enter Tryd.func6, Tryd.ntmps6
  go_wp2_with (fail)
  refine HC.out.mono ?_
  rintro e w1 ⟨rfl, hk1⟩
  go_wp2
  go_ret
  exact ⟨rfl, hk1⟩
end Go.Proofs.YtieolphpgjpcmaaDoor
