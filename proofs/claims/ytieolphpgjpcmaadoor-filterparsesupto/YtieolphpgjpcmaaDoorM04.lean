/- rosterref12.Reader: row, hexAt. | rosterref12.Reader: steps behind a fault; the plain function of an extensible item. -/
import Derived.Test.YtieolphpgjpcmaaDoorM01
import Derived.Test.YtieolphpgjpcmaaDoorM02
import Derived.Test.YtieolphpgjpcmaaDoorM03

namespace Go.Proofs.YtieolphpgjpcmaaDoor
open Go.RowKit Go.Proofs.YtieolphpgjpcmaaDoorW.PrintWords

set_option maxHeartbeats 2000000 in
set_option maxRecDepth 100000 in
theorem rrow_any (g : Nat) (s : ByteArray) (i : Int) (v : Value) (er pl : Int) (semi : Bool) (w : World) (hp : RB w g s i v er pl) (h0 : 0 ≤ i) (h1 : i ≤ (s.size : Int)) (hl : s.size ≤ LIM) :
    Calls Tryd.prog 19 #[.pointer (some ⟨g, 0, none⟩), .bool semi] w fun e w' => e = .returned (.string (s.extract i.toNat (rowEnd s semi (s.size + 1) i).toNat)) ∧ RB w' g s (rowEnd s semi (s.size + 1) i) v er pl ∧ Kp (One g) w w' := by
  obtain ⟨R, hR⟩ : ∃ R, rowEnd s semi (s.size + 1) i = R := ⟨_, rfl⟩
  have hR1 : i ≤ R := hR ▸ rowEnd_ge _ _ _ _
  have hR2 : R ≤ (s.size : Int) := hR ▸ rowEnd_le _ _ _ _ h1
  rw [hR]
  have c1 := hp.c1
  have c0 := hp.c0
  have HR := hd hR
  have HH := hd (And.intro h0 h1)
  unfold LIM at hl
  clear hR h1
  go_enter Tryd.func19, Tryd.ntmps19
  go_wp2
  clear c1 c0
  go_loopg [] (s.size + 1) (fun kq w' => ∃ j : Int, i ≤ j ∧ j ≤ (s.size : Int) ∧ Hid (rowEnd s semi kq j = R) ∧ Hid ((s.size : Int) - j < kq) ∧ RB w' g s j v er pl ∧ Kp (One g) w w')
  case atStart => exact ⟨i, Int.le_refl _, HH.out.2, HR, hd (by have := HH.out; omega), hp, Kp.refl _ _⟩
  case round =>
    obtain ⟨j, hj0, hj1, HE, HF, hp, hk⟩ := hrel
    cases gk with
    | zero => exact absurd HF.out (by omega)
    | succ k1 =>
      have c0 := hp.c0
      have c1 := hp.c1
      have f1 := hp.fz 1
      by_cases hlt : j < (s.size : Int)
      · have p1 : 0 ≤ j := by have := HH.out; omega
        have hx := bt_at s j
        have hb := bt_range s j
        obtain ⟨c, hc⟩ : ∃ c, bt s j = c := ⟨_, rfl⟩
        rw [hc] at hx hb
        have HC := hd hc
        clear hc
        replace p1 := eq_true p1
        have d1 : decide (j < (s.size : Int)) = true := decide_eq_true hlt
        replace hlt := eq_true hlt
        go_wp2
        go_quiet (fail)
        go_wp2
        go_quiet (fail)
        rcases class_cases c hb with q | q | q | q | q | q | q | q | q | q | q | q <;> cases semi
        all_goals
          first | (have H1 := rowEnd_go HE.out (of_eq_true hlt) HC.out (inRow_yes (by simp; omega)); have HE2 := hd H1; clear H1) | (have H1 := rowEnd_stop HE.out HC.out (inRow_no (by simp; omega)); have HE2 := hd H1; clear H1)
          first | subst q | (
            first | (have t0 : decide (97 ≤ c) = true := decide_eq_true (by omega)) | (have t0 : decide (97 ≤ c) = false := decide_eq_false (by omega))
            first | (have t1 : decide (c ≤ 122) = true := decide_eq_true (by omega)) | (have t1 : decide (c ≤ 122) = false := decide_eq_false (by omega))
            first | (have t2 : decide (65 ≤ c) = true := decide_eq_true (by omega)) | (have t2 : decide (65 ≤ c) = false := decide_eq_false (by omega))
            first | (have t3 : decide (c ≤ 90) = true := decide_eq_true (by omega)) | (have t3 : decide (c ≤ 90) = false := decide_eq_false (by omega))
            first | (have t4 : decide (48 ≤ c) = true := decide_eq_true (by omega)) | (have t4 : decide (48 ≤ c) = false := decide_eq_false (by omega))
            first | (have t5 : decide (c ≤ 57) = true := decide_eq_true (by omega)) | (have t5 : decide (c ≤ 57) = false := decide_eq_false (by omega))
            skip)
          try (have n1 : (c != 46) = true := by rw [bne_iff_ne]; omega)
          try (have n2 : (c != 45) = true := by rw [bne_iff_ne]; omega)
          try (have n3 : (c != 59) = true := by rw [bne_iff_ne]; omega)
          go_wp2
          first
          | (have H1 := HE2.out
             obtain rfl : j = R := H1
             repeat (go_quiet (fail); try go_wp2)
             go_ret
             exact ⟨rfl, by repeat (first | exact hp | apply RB.drewN), by repeat (first | exact hk | apply Kp.drewN)⟩)
          | (go_roundg k1
             case measure => omega
             case rel => exact ⟨j + 1, by omega, by have := of_eq_true hlt; omega, HE2, hd (by have := HF.out; omega), by repeat (first | exact hp | apply RB.set1 | apply RB.drewN), by repeat (first | exact hk | apply Kp.setOne | apply Kp.drewN)⟩)
      · have H1 := rowEnd_out HE.out hlt
        have d1 : decide (j < (s.size : Int)) = false := decide_eq_false hlt
        obtain rfl : j = R := H1
        clear HE
        have p0 : 0 ≤ i := HH.out.1
        have p1 : 0 ≤ j := by omega
        go_wp2
        repeat (go_quiet (fail); try go_wp2)
        go_ret
        exact ⟨rfl, by repeat (first | exact hp | apply RB.drewN), by repeat (first | exact hk | apply Kp.drewN)⟩
end Go.Proofs.YtieolphpgjpcmaaDoor

namespace Go.Proofs.YtieolphpgjpcmaaDoor
open Go.RowKit Go.Proofs.YtieolphpgjpcmaaDoorW.PrintWords

theorem stop_err (g : Nat) (s : ByteArray) (i : Int) (v : Value) (er pl e1 p1 : Int) (w : World) (hp : RB w g s i v er pl) (he : er ≠ 0) :
    Calls Tryd.prog 13 #[.pointer (some ⟨g, 0, none⟩), .int .i64 e1, .int .i64 p1] w fun e w' => e = .returned (.tuple #[]) ∧ RB w' g s i v er pl ∧ Kp (One g) w w' := by
  have := stop_any g s i v er pl e1 p1 w hp
  rwa [show stopE er e1 = er from if_neg he, show stopP er pl p1 = pl from if_neg he] at this
theorem stop_new (g : Nat) (s : ByteArray) (i : Int) (v : Value) (pl e1 p1 : Int) (w : World) (hp : RB w g s i v 0 pl) :
    Calls Tryd.prog 13 #[.pointer (some ⟨g, 0, none⟩), .int .i64 e1, .int .i64 p1] w fun e w' => e = .returned (.tuple #[]) ∧ RB w' g s i v e1 p1 ∧ Kp (One g) w w' := stop_any g s i v 0 pl e1 p1 w hp
theorem must_new (g : Nat) (s : ByteArray) (i : Int) (v : Value) (pl c : Int) (w : World) (hp : RB w g s i v 0 pl) (h0 : 0 ≤ i) (h : isB s i c = false) :
    Calls Tryd.prog 12 #[.pointer (some ⟨g, 0, none⟩), .int .u8 c] w fun e w' => e = .returned (.tuple #[]) ∧ RB w' g s i v 120 i ∧ Kp (One g) w w' := must_no g s i v 0 pl c w hp h0 h
theorem must_err (g : Nat) (s : ByteArray) (i : Int) (v : Value) (er pl c : Int) (w : World) (hp : RB w g s i v er pl) (he : er ≠ 0) (h0 : 0 ≤ i) (h1 : i ≤ (s.size : Int)) (hl : s.size ≤ LIM) :
    Calls Tryd.prog 12 #[.pointer (some ⟨g, 0, none⟩), .int .u8 c] w fun e w' => e = .returned (.tuple #[]) ∧ ∃ j, i ≤ j ∧ j ≤ (s.size : Int) ∧ RB w' g s j v er pl ∧ Kp (One g) w w' := by
  by_cases h : isB s i c = true
  · exact (must_yes g s i v er pl c w hp h0 hl h).mono fun e w' ⟨a, b, k⟩ => ⟨a, i + 1, by omega, by have := (isB_true h).1; omega, b, k⟩
  · refine (must_no g s i v er pl c w hp h0 (Bool.eq_false_iff.2 h)).mono fun e w' ⟨a, b, k⟩ => ⟨a, i, Int.le_refl _, h1, ?_, k⟩
    rwa [show stopE er 120 = er from if_neg he, show stopP er pl i = pl from if_neg he] at b

/-- Is the text "dn", in any case? -/
def isDn (w : ByteArray) : Bool := (foldS w).toList == [100, 110]
/-- What the reading of an item comes to: a node and the place behind it; or the place of the fault. -/
inductive IRes where
  | bad (p : Int)
  | ok (n : Nd) (i : Int)
def withVal (n : Nd) : VRes → IRes
  | .bad p => .bad p
  | .ok l j => .ok { n with value := l.getD 0 ⟨#[]⟩ } j
/-- What stands behind a rule's place: w, which began at from_ and ends at j. -/
def extB (s : ByteArray) (n : Nd) (from_ j : Int) (w : ByteArray) : IRes :=
  if w.size = 0 then
    (if n.desc.size = 0 then .bad j
     else if isB s j 61 = false then .bad j
     else withVal n (vals s false (s.size + 1) (j + 1) false [] []))
  else if typeE w ≠ 0 then .bad (from_ + typeP w)
  else if isDn w = true then .bad j
  else if isB s j 58 = false then .bad j
  else if isB s (j + 1) 61 = false then .bad (j + 1)
  else withVal { n with rule := w } (vals s false (s.size + 1) (j + 2) false [] [])
def extA (s : ByteArray) (n : Nd) (i : Int) : IRes :=
  let j := rowEnd s false (s.size + 1) i
  let w := s.extract i.toNat j.toNat
  if isDn w = true then
    (if isB s j 58 = false then .bad j
     else extB s { n with op := 9, dn := true } (j + 1) (rowEnd s false (s.size + 1) (j + 1)) (s.extract (j + 1).toNat (rowEnd s false (s.size + 1) (j + 1)).toNat))
  else extB s { n with op := 9 } i j w
def IOut (R : IRes) (pl : Int) (n : Nd) (j er' pl' : Int) : Prop := (R = .ok n j ∧ er' = 0 ∧ pl' = pl) ∨ (∃ p, R = .bad p ∧ er' = 120 ∧ pl' = p)
def IEnd (w w' : World) (g : Nat) (s : ByteArray) (v : Value) (pl i0 : Int) (R : IRes) (e : Ending) : Prop :=
  ∃ n j er' pl' av, e = .returned (.agg (n.cells av)) ∧ AnyR w' w.heap.size (fun k => w.heap.size ≤ k) av n.any ∧ RB w' g s j v er' pl' ∧ Kp (One g) w w' ∧ i0 ≤ j ∧ j ≤ (s.size : Int) ∧ IOut R pl n j er' pl'
theorem OEnd.out {w w' : World} {g : Nat} {s : ByteArray} {v : Value} {pl i0 : Int} {e : Ending} {R : VRes} (n : Nd) (h : OEnd w w' g s v pl i0 e R) :
    ∃ y j er' pl', e = .returned (.string y) ∧ RB w' g s j v er' pl' ∧ Kp (One g) w w' ∧ i0 ≤ j ∧ j ≤ (s.size : Int) ∧ IOut (withVal n R) pl { n with value := y } j er' pl' := by
  cases R with
  | ok l j =>
    obtain ⟨rfl, hr, hk, hj0, hj1⟩ := h
    exact ⟨_, j, 0, pl, rfl, hr, hk, hj0, by omega, .inl ⟨rfl, rfl, rfl⟩⟩
  | bad p =>
    obtain ⟨y, j, rfl, hr, hk, hj0, hj1⟩ := h
    exact ⟨y, j, 120, p, rfl, hr, hk, hj0, hj1, .inr ⟨p, rfl, rfl, rfl⟩⟩
end Go.Proofs.YtieolphpgjpcmaaDoor
