/- filter.Parse. | The law's walk: both readings of a text, and of each of its fronts, come to the same. -/
import Derived.Test.YtieolphpgjpcmaaDoorMProgF
import Derived.Test.YtieolphpgjpcmaaDoorMFWalkJ
import Derived.Test.YtieolphpgjpcmaaDoorMI0
import Derived.Test.YtieolphpgjpcmaaDoorMLawL

namespace Go.Proofs.YtieolphpgjpcmaaDoor
open Go.RowKit Go.Proofs.YtieolphpgjpcmaaDoorW.PrintWords

theorem NSlower {w : World} {base base' : Nat} {v : Value} {ns : List Nd} (h : NS w base v ns) (hb : base' ≤ base) : NS w base' v ns := h.lower hb
set_option maxHeartbeats 4000000 in
set_option maxRecDepth 100000 in
theorem pparse_any (s : ByteArray) (w : World) (hT : Tabs w) (hl : s.size ≤ LIM) :
    Calls Tryd.prog 4 #[.string s] w fun e w' => REnd w w' e (parseS s) := by
  obtain ⟨R, hR⟩ : ∃ R, parseS s = R := ⟨_, rfl⟩
  rw [hR]
  unfold parseS at hR
  have hmf : ∀ (fn : Fn) (first cap : Array Value) (w : World), (Instr.makeFunc fn first cap).run Tryd.prog w = .ok (.func fn first cap) w := fun _ _ _ _ => rfl
  have HT := hd hT
  have hlim := hl
  unfold LIM at hl
  have HR := hd hR
  clear hT hR
  go_enter_defers Tryd.func4, Tryd.ntmps4
  go_wp2_with (fail)
  refine at_world (fun W => Hid (Blk W w.heap.size #[.slice none 0 0] 23) ∧ Hid (Blk W (w.heap.size + 1) #[.int .i64 0] 24) ∧ Hid (Blk W (w.heap.size + 2) #[.int .i64 0] 3) ∧ Hid (PB W (w.heap.size + 3) s 0 (.slice none 0 0)) ∧ Hid (Kp No w W) ∧ Hid (W.heap.size = w.heap.size + 4)) ⟨hd ((((Blk.new _ _ _).alloc _).alloc _).alloc _), hd (((Blk.new2 w _ _ _).alloc _).alloc _), hd (by have h := (Blk.new ((w.alloc (.cells #[.slice none 0 0] 23)).alloc (.cells #[.int .i64 0] 24)) #[.int .i64 0] 3).alloc (.cells #[.string s, .int .i64 0, .slice none 0 0] 35); simpa using h), hd (by have h := Blk.new (((w.alloc (.cells #[.slice none 0 0] 23)).alloc (.cells #[.int .i64 0] 24)).alloc (.cells #[.int .i64 0] 3)) #[.string s, .int .i64 0, .slice none 0 0] 35; simp only [World.size_alloc] at h; exact h), hd ((((((Kp.refl No w).alloc _).alloc _).alloc _)).alloc _), hd (by simp)⟩ ?_
  rintro W ⟨HB0, HB1, HB2, HP, HK, HZ⟩
  have htop := HT.out.top
  have cF : Calls Tryd.prog 9 #[.pointer (some ⟨w.heap.size + 3, 0, none⟩), .int .i64 1] W fun e w' => FEnd W w' (w.heap.size + 3) (w.heap.size + 4) s 0 [] R e :=
    pfilter_any (w.heap.size + 3) (w.heap.size + 4) s W (by omega) (by omega) hlim (s.size + 1) 0 [] (.slice none 0 0) [] R W (s.size + 1) (by omega) ⟨HP.out, NS.nil _ _, Kp.refl _ _⟩ (HT.out.no HK.out) HR.out (by omega) (by omega) (by omega) (by simp) (by simp) (by rw [HZ.out]; exact Nat.le_refl _)
  refine cF.mono ?_
  rintro e W1 hend
  clear cF HR
  rcases hend with ⟨er, p, hb, rfl, hk⟩ | ⟨v', ns', j, K', rfl, hfs, hpr, hkk, hij, hjs, hnl⟩
  · have HD0 := hd (HB0.out.kp hk (fun q => by rcases q with q | q <;> omega))
    have HD1 := hd (HB1.out.kp hk (fun q => by rcases q with q | q <;> omega))
    have HD2 := hd (HB2.out.kp hk (fun q => by rcases q with q | q <;> omega))
    have HKK := hd (HK.out.trans' hk (fun i hi q => by rcases q with q | q <;> omega))
    have HB := hd hb
    clear hk hb
    go_wp2
    refine leaves_cons (f := 7) (args := #[.pointer (some ⟨w.heap.size, 0, none⟩), .pointer (some ⟨w.heap.size + 1, 0, none⟩), .pointer (some ⟨w.heap.size + 2, 0, none⟩)]) (by simp) (by simp [go_sem]) ?_
    refine (catch_fault w.heap.size (.slice none 0 0) (.int .i64 0) (.int .i64 0) er p [] _ HD0.out HD1.out HD2.out).mono ?_
    rintro e u' w2 ⟨rfl, rfl, k0, k1, k2, kk⟩
    have c0 : w2.cell? ⟨w.heap.size, 0, none⟩ = some (.slice none 0 0) := k0.c 0 rfl
    have c1 : w2.cell? ⟨w.heap.size + 1, 0, none⟩ = some (.int .i64 er) := k1.c 0 rfl
    have c2 : w2.cell? ⟨w.heap.size + 1 + 1, 0, none⟩ = some (.int .i64 p) := k2.c 0 rfl
    have hfin : REnd w w2 (.returned (.tuple #[.slice none 0 0, .int .i64 er, .int .i64 p])) R := by
      rw [HB.out]
      exact ⟨rfl, HKK.out.trans' kk (fun i hi q => by rcases q with q | q | q <;> omega)⟩
    simp [Leaves, settle, results, Tryd.results4, go_sem, c0, c1, c2]
    exact hfin
  · obtain ⟨K2, rfl⟩ : ∃ k, K' = k + 1 := ⟨K' - 1, by omega⟩
    have hR2 : (if j < (s.size : Int) then PRes.bad 120 j else PRes.ok ns') = R := by rw [← hpr]; simp [parseR]
    have HD0 := hd (HB0.out.kp hfs.kp (fun q => by rcases q with q | q <;> omega))
    have HD1 := hd (HB1.out.kp hfs.kp (fun q => by rcases q with q | q <;> omega))
    have HD2 := hd (HB2.out.kp hfs.kp (fun q => by rcases q with q | q <;> omega))
    have HKK := hd (HK.out.trans' hfs.kp (fun i hi q => by rcases q with q | q <;> omega))
    have HP9 := hd hfs.pb
    have HN9 := hd hfs.ns
    have c1p := hfs.pb.c1
    have c2p := hfs.pb.c2
    by_cases hlt : j < (s.size : Int)
    · have HB := hd (show R = .bad 120 j by rw [← hR2, if_pos hlt])
      have t1 : decide (j < (s.size : Int)) = true := decide_eq_true hlt
      clear hfs hpr hR2
      go_wp2_with (fail)
      refine (fail_any (w.heap.size + 3) j _).mono ?_
      rintro e wf ⟨rfl, rfl⟩
      go_wp2
      refine leaves_cons (f := 7) (args := #[.pointer (some ⟨w.heap.size, 0, none⟩), .pointer (some ⟨w.heap.size + 1, 0, none⟩), .pointer (some ⟨w.heap.size + 2, 0, none⟩)]) (by simp) (by simp [go_sem]) ?_
      refine (catch_fault w.heap.size (.slice none 0 0) (.int .i64 0) (.int .i64 0) 120 j [] _ HD0.out HD1.out HD2.out).mono ?_
      rintro e u' w2 ⟨rfl, rfl, k0, k1, k2, kk⟩
      have c0 : w2.cell? ⟨w.heap.size, 0, none⟩ = some (.slice none 0 0) := k0.c 0 rfl
      have c1 : w2.cell? ⟨w.heap.size + 1, 0, none⟩ = some (.int .i64 120) := k1.c 0 rfl
      have c2 : w2.cell? ⟨w.heap.size + 1 + 1, 0, none⟩ = some (.int .i64 j) := k2.c 0 rfl
      have hfin : REnd w w2 (.returned (.tuple #[.slice none 0 0, .int .i64 120, .int .i64 j])) R := by
        rw [HB.out]
        exact ⟨rfl, HKK.out.trans' kk (fun i hi q => by rcases q with q | q | q <;> omega)⟩
      simp [Leaves, settle, results, Tryd.results4, go_sem, c0, c1, c2]
      exact hfin
    · have HB := hd (show R = .ok ns' by rw [← hR2, if_neg hlt])
      have t1 : decide (j < (s.size : Int)) = false := decide_eq_false hlt
      obtain ⟨A9, c9, hv9⟩ := Kd.R_slice hfs.ns
      subst hv9
      have r0 := HD0.out.c 0 rfl
      have r1 := HD1.out.c 0 rfl
      have r2 := HD2.out.c 0 rfl
      have q0 := HD0.out.f 0
      have q1 := HD1.out.f 0
      have q2 := HD2.out.f 0
      clear hfs hpr hR2
      have x01 : w.heap.size ≠ w.heap.size + 1 := by omega
      have x02 : w.heap.size ≠ w.heap.size + 2 := by omega
      have x12 : w.heap.size + 1 ≠ w.heap.size + 2 := by omega
      have E0 := hd (((Blk.cast (HD0.out.set 0 (.slice A9 ns'.length c9)) rfl).far (p := ⟨w.heap.size + 1, 0, none⟩) x01 (.int .i64 0)).far (p := ⟨w.heap.size + 1 + 1, 0, none⟩) x02 (.int .i64 0))
      have E1 := hd ((Blk.cast ((HD1.out.far (p := ⟨w.heap.size, 0, none⟩) x01.symm (.slice A9 ns'.length c9)).set 0 (.int .i64 0)) rfl).far (p := ⟨w.heap.size + 1 + 1, 0, none⟩) x12 (.int .i64 0))
      have E2 := hd (Blk.cast (((HD2.out.far (p := ⟨w.heap.size, 0, none⟩) x02.symm (.slice A9 ns'.length c9)).far (p := ⟨w.heap.size + 1, 0, none⟩) x12.symm (.int .i64 0)).set 0 (.int .i64 0)) rfl)
      have EK := hd (((HKK.out.setCell (p := ⟨w.heap.size, 0, none⟩) (fun q => absurd q (Nat.lt_irrefl _)) (.slice A9 ns'.length c9)).setCell (p := ⟨w.heap.size + 1, 0, none⟩) (fun q => absurd (show w.heap.size + 1 < w.heap.size from q) (by omega)) (.int .i64 0)).setCell (p := ⟨w.heap.size + 1 + 1, 0, none⟩) (fun q => absurd (show w.heap.size + 1 + 1 < w.heap.size from q) (by omega)) (.int .i64 0))
      have EN := hd ((((HN9.out.kp (S := One w.heap.size) ((Kp.refl _ _).setOne 0 (.slice A9 ns'.length c9)) (fun k hk q => by have q' : k = w.heap.size := q; omega)).kp (S := One (w.heap.size + 1)) ((Kp.refl _ _).setOne 0 (.int .i64 0)) (fun k hk q => by have q' : k = w.heap.size + 1 := q; omega)).kp (S := One (w.heap.size + 1 + 1)) ((Kp.refl _ _).setOne 0 (.int .i64 0)) (fun k hk q => by have q' : k = w.heap.size + 1 + 1 := q; omega)))
      go_wp2
      refine leaves_cons (f := 7) (args := #[.pointer (some ⟨w.heap.size, 0, none⟩), .pointer (some ⟨w.heap.size + 1, 0, none⟩), .pointer (some ⟨w.heap.size + 2, 0, none⟩)]) (by simp) (by simp [go_sem]) ?_
      refine (catch_none w.heap.size _).mono ?_
      rintro e u' w2 ⟨rfl, rfl, kk⟩
      have c0 : w2.cell? ⟨w.heap.size, 0, none⟩ = some (.slice A9 ns'.length c9) := (E0.out.kp kk (fun q => q)).c 0 rfl
      have c1 : w2.cell? ⟨w.heap.size + 1, 0, none⟩ = some (.int .i64 0) := (E1.out.kp kk (fun q => q)).c 0 rfl
      have c2 : w2.cell? ⟨w.heap.size + 1 + 1, 0, none⟩ = some (.int .i64 0) := (E2.out.kp kk (fun q => q)).c 0 rfl
      have hfin : REnd w w2 (.returned (.tuple #[.slice A9 ns'.length c9, .int .i64 0, .int .i64 0])) R := by
        rw [HB.out]
        exact ⟨_, rfl, NSlower (EN.out.kp kk (fun _ _ q => q)) (by omega), EK.out.trans kk⟩
      simp [Leaves, settle, results, Tryd.results4, go_sem, c0, c1, c2]
      exact hfin
end Go.Proofs.YtieolphpgjpcmaaDoor

namespace Go.Proofs.YtieolphpgjpcmaaDoor
open Go.RowKit Go.Proofs.YtieolphpgjpcmaaDoorW.PrintWords

def nsOf : PRes → List Nd
  | .bad _ _ => []
  | .ok ns => ns
def erOf : PRes → Int
  | .bad e _ => e
  | .ok _ => 0
def plOf : PRes → Int
  | .bad _ p => p
  | .ok _ => 0
/-- A reading's results, and what they read as. -/
def RSame (w w' : World) (e : Ending) (ns : List Nd) (er p : Int) : Prop :=
  ∃ A c, e = .returned (.tuple #[.slice A ns.length c, .int .i64 er, .int .i64 p]) ∧ kN.C w' A ns.length ns ∧ Kp No w w'
theorem REnd.same {w w' : World} {e : Ending} {R : PRes} (h : REnd w w' e R) : RSame w w' e (nsOf R) (erOf R) (plOf R) := by
  cases R with
  | bad er p =>
    obtain ⟨rfl, hk⟩ := h
    exact ⟨none, 0, rfl, (Kd.R_reads' (NS.nil w' 0)).2.2, hk⟩
  | ok ns =>
    obtain ⟨v, rfl, hn, hk⟩ := h
    obtain ⟨A, c, rfl, _, hc⟩ := Kd.R_reads hn
    exact ⟨A, c, rfl, hc, hk⟩
theorem nsOf_len (s : ByteArray) (hl : s.size + 2 ≤ LIM) : (nsOf (parseS s)).length ≤ 4194400 ∧ ∀ n ∈ nsOf (parseS s), n.any.length ≤ 4194400 := by
  unfold LIM at hl
  cases h : parseS s with
  | bad e p => exact ⟨by simp [nsOf], fun n hn => absurd hn (by simp [nsOf])⟩
  | ok ns =>
    have := parseS_len h
    exact ⟨by simp only [nsOf]; omega, fun n hn => by have := this.2 n hn; omega⟩
theorem kp_C {A : Option Addr} {ns : List Nd} {w w1 : World} (h : kN.C w A ns.length ns) (hk : Kp No w w1) : kN.C w1 A ns.length ns :=
  h.imp_ hk.toBelow (fun _ _ hp => kN.K_below hk.toBelow hp)

set_option maxHeartbeats 4000000 in
set_option maxRecDepth 100000 in
theorem law_any (s : ByteArray) (w : World) (hT : Tabs w) (hl : s.size + 2 ≤ LIM) :
    Calls Tryd.prog 3 #[.string s] w fun e w' => e = .returned (.bool true) ∧ Kp No w w' := by
  have HT := hd hT
  have HP := hd (fun (x : ByteArray) (W : World) (hx : x.size + 2 ≤ LIM) (hk : Kp No w W) => (pparse_any x W (hT.no hk) (by omega)).mono (fun e w' h => REnd.same h))
  have HR := hd (fun (x : ByteArray) (W : World) (hx : x.size + 2 ≤ LIM) (hk : Kp No w W) => (rparse_any x W ((hT.no hk).rows) hx).mono (fun e w' h => REnd.same h))
  have HL := hd hl
  unfold LIM at hl
  clear hT
  go_enter Tryd.func3, Tryd.ntmps3
  go_wp2
  go_loopg [3] (s.size + 2) (fun k q wr => ∃ i : Nat, q = .int .i64 i ∧ i ≤ s.size + 1 ∧ s.size + 1 - i < k ∧ Hid (Kp No w wr))
  case atStart => exact ⟨0, rfl, by omega, by omega, hd (Kp.refl _ _)⟩
  case round =>
    obtain ⟨i, rfl, hi, hk, hm⟩ := hrel
    by_cases h1 : i ≤ s.size
    · have t1 : decide ((i : Int) ≤ (s.size : Int)) = true := decide_eq_true (by omega)
      have hsz : (s.extract 0 i).size + 2 ≤ LIM := by have := HL.out; simp only [ByteArray.size_extract]; omega
      by_cases h2 : i ≤ 400
      · have t2 : decide ((i : Int) ≤ 400) = true := decide_eq_true (by omega)
        go_wp2_with (fail)
        refine (HP.out (s.extract 0 i) wr hsz hm.out).mono ?_
        rintro e w11 ⟨A1, c1, rfl, ca1, k1⟩
        have K11 := hd (Kp.trans hm.out k1)
        have C11 := hd ca1
        clear ca1 k1
        go_wp2_with (fail)
        refine (HR.out (s.extract 0 i) w11 hsz K11.out).mono ?_
        rintro e w12 ⟨A2, c2, rfl, ca2, k2⟩
        have K12 := hd (Kp.trans K11.out k2)
        have C12 := hd ca2
        have C13 := hd (kp_C C11.out k2)
        have z1 := nsOf_len (s.extract 0 i) hsz
        clear ca2 k2
        generalize nsOf (parseS (s.extract 0 i)) = ns1 at C11 C12 C13 z1
        generalize erOf (parseS (s.extract 0 i)) = er1
        generalize plOf (parseS (s.extract 0 i)) = pl1
        go_wp2_with (fail)
        refine (lsame_any ns1 A1 A2 c1 c2 _ C13.out C12.out z1.1 z1.2).mono ?_
        rintro e w13 ⟨rfl, k3⟩
        have K13 := hd (Kp.trans K12.out k3)
        clear k3
        go_wp2_with (fail)
        go_roundg (s.size + 1 - i)
        case measure => omega
        case rel => exact ⟨i + 1, by go_num, by omega, by omega, K13⟩
      · have t2 : decide ((i : Int) ≤ 400) = false := decide_eq_false (by omega)
        go_wp2_with (fail)
        refine (HP.out (s) wr HL.out hm.out).mono ?_
        rintro e w21 ⟨A1, c1, rfl, ca1, k1⟩
        have K21 := hd (Kp.trans hm.out k1)
        have C21 := hd ca1
        clear ca1 k1
        go_wp2_with (fail)
        refine (HR.out (s) w21 HL.out K21.out).mono ?_
        rintro e w22 ⟨A2, c2, rfl, ca2, k2⟩
        have K22 := hd (Kp.trans K21.out k2)
        have C22 := hd ca2
        have C23 := hd (kp_C C21.out k2)
        have z2 := nsOf_len (s) HL.out
        clear ca2 k2
        generalize nsOf (parseS (s)) = ns2 at C21 C22 C23 z2
        generalize erOf (parseS (s)) = er2
        generalize plOf (parseS (s)) = pl2
        go_wp2_with (fail)
        refine (lsame_any ns2 A1 A2 c1 c2 _ C23.out C22.out z2.1 z2.2).mono ?_
        rintro e w23 ⟨rfl, k3⟩
        have K23 := hd (Kp.trans K22.out k3)
        clear k3
        go_wp2_with (fail)
        obtain ⟨n1, hn1⟩ := parseS_one
        refine (HP.out ⟨#[40, 99, 110, 61, 97, 41]⟩ w23 (by decide) K23.out).mono ?_
        rintro e w4 ⟨A4, c4, rfl, ca4, k4⟩
        have K4 := hd (Kp.trans K23.out k4)
        clear ca4 k4
        rw [hn1]
        simp only [nsOf, erOf, plOf, List.length_singleton]
        go_wp2
        go_ret
        exact ⟨rfl, K4.out⟩
    · have t1 : decide ((i : Int) ≤ (s.size : Int)) = false := decide_eq_false (by omega)
      go_wp2_with (fail)
      refine (HP.out (s) wr HL.out hm.out).mono ?_
      rintro e w21 ⟨A1, c1, rfl, ca1, k1⟩
      have K21 := hd (Kp.trans hm.out k1)
      have C21 := hd ca1
      clear ca1 k1
      go_wp2_with (fail)
      refine (HR.out (s) w21 HL.out K21.out).mono ?_
      rintro e w22 ⟨A2, c2, rfl, ca2, k2⟩
      have K22 := hd (Kp.trans K21.out k2)
      have C22 := hd ca2
      have C23 := hd (kp_C C21.out k2)
      have z2 := nsOf_len (s) HL.out
      clear ca2 k2
      generalize nsOf (parseS (s)) = ns2 at C21 C22 C23 z2
      generalize erOf (parseS (s)) = er2
      generalize plOf (parseS (s)) = pl2
      go_wp2_with (fail)
      refine (lsame_any ns2 A1 A2 c1 c2 _ C23.out C22.out z2.1 z2.2).mono ?_
      rintro e w23 ⟨rfl, k3⟩
      have K23 := hd (Kp.trans K22.out k3)
      clear k3
      go_wp2_with (fail)
      obtain ⟨n1, hn1⟩ := parseS_one
      refine (HP.out ⟨#[40, 99, 110, 61, 97, 41]⟩ w23 (by decide) K23.out).mono ?_
      rintro e w4 ⟨A4, c4, rfl, ca4, k4⟩
      have K4 := hd (Kp.trans K23.out k4)
      clear ca4 k4
      rw [hn1]
      simp only [nsOf, erOf, plOf, List.length_singleton]
      go_wp2
      go_ret
      exact ⟨rfl, K4.out⟩
end Go.Proofs.YtieolphpgjpcmaaDoor
