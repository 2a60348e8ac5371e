/- filter.parser: row. -/
import Derived.Test.YtieolphpgjpcmaaDoorM04
import Derived.Test.YtieolphpgjpcmaaDoorM06
import Derived.Deep.LoopGhost

namespace Go.Proofs.YtieolphpgjpcmaaDoor
open Go.RowKit Go.Proofs.YtieolphpgjpcmaaDoorW.PrintWords

def moreS : Bool → ByteArray
  | true => ⟨#[46, 45, 59]⟩
  | false => ⟨#[46, 45]⟩
def moreI (semi : Bool) (c : Int) : Int := Lib.indexByte (moreS semi).data.toList c.toNat.toUInt8
theorem more_all : ∀ n : Fin 256, (moreI true (n.val : Int) < 0 ↔ ¬ (n.val = 45 ∨ n.val = 46 ∨ n.val = 59)) ∧ (moreI false (n.val : Int) < 0 ↔ ¬ (n.val = 45 ∨ n.val = 46)) := by decide +kernel
theorem more_yes (semi : Bool) (c : Int) (hb : 0 ≤ c ∧ c ≤ 255) (h : c = 45 ∨ c = 46 ∨ (semi = true ∧ c = 59)) : decide (moreI semi c < 0) = false := by
  have := more_all ⟨c.toNat, by omega⟩
  simp only [Int.toNat_of_nonneg hb.1] at this
  refine decide_eq_false (fun q => ?_)
  cases semi with
  | true => exact this.1.1 q (by omega)
  | false => exact this.2.1 q (by simp at h; omega)
theorem more_no (semi : Bool) (c : Int) (hb : 0 ≤ c ∧ c ≤ 255) (h : ¬ (c = 45 ∨ c = 46 ∨ (semi = true ∧ c = 59))) : decide (moreI semi c < 0) = true := by
  have := more_all ⟨c.toNat, by omega⟩
  simp only [Int.toNat_of_nonneg hb.1] at this
  refine decide_eq_true ?_
  cases semi with
  | true => exact this.1.2 (by simp at h; omega)
  | false => exact this.2.2 (by simp at h; omega)
theorem moreI_any (semi : Bool) (c : Int) (w : World) : Calls Tryd.prog 39 #[.string (moreS semi), .int .u8 c] w fun e w' => e = .returned (.int .i64 (moreI semi c)) ∧ w' = w := Tryd.strings_IndexByte _ _ _

set_option maxHeartbeats 2000000 in
set_option maxRecDepth 100000 in
theorem prow_any (g : Nat) (s : ByteArray) (i : Int) (v : Value) (semi : Bool) (w : World) (hp : PB w g s i v) (h0 : 0 ≤ i) (h1 : i ≤ (s.size : Int)) (hl : s.size ≤ LIM) :
    Calls Tryd.prog 26 #[.pointer (some ⟨g, 0, none⟩), .string (moreS semi)] w fun e w' => e = .returned (.string (s.extract i.toNat (rowEnd s semi (s.size + 1) i).toNat)) ∧ PB w' g s (rowEnd s semi (s.size + 1) i) v ∧ Kp (One g) w w' := by
  obtain ⟨R, hR⟩ : ∃ R, rowEnd s semi (s.size + 1) i = R := ⟨_, rfl⟩
  have hR1 : i ≤ R := hR ▸ rowEnd_ge _ _ _ _
  have hR2 : R ≤ (s.size : Int) := hR ▸ rowEnd_le _ _ _ _ h1
  rw [hR]
  have c1 := hp.c1
  have c0 := hp.c0
  have HR := hd hR
  have HH := hd (And.intro h0 h1)
  unfold LIM at hl
  clear hR h1
  go_enter Tryd.func26, Tryd.ntmps26
  go_wp2
  clear c1 c0
  go_loopg [] (s.size + 1) (fun kq w' => ∃ j : Int, i ≤ j ∧ j ≤ (s.size : Int) ∧ Hid (rowEnd s semi kq j = R) ∧ Hid ((s.size : Int) - j < kq) ∧ PB w' g s j v ∧ Kp (One g) w w')
  case atStart => exact ⟨i, Int.le_refl _, HH.out.2, HR, hd (by have := HH.out; omega), hp, Kp.refl _ _⟩
  case round =>
    obtain ⟨j, hj0, hj1, HE, HF, hp, hk⟩ := hrel
    cases gk with
    | zero => exact absurd HF.out (by omega)
    | succ k1 =>
      have c0 := hp.c0
      have c1 := hp.c1
      have f1 := hp.fz 1
      by_cases hlt : j < (s.size : Int)
      · have p1 : 0 ≤ j := by have := HH.out; omega
        have hx := bt_at s j
        have hb := bt_range s j
        obtain ⟨c, hc⟩ : ∃ c, bt s j = c := ⟨_, rfl⟩
        rw [hc] at hx hb
        have HC := hd hc
        clear hc
        replace p1 := eq_true p1
        have d1 : decide (j < (s.size : Int)) = true := decide_eq_true hlt
        replace hlt := eq_true hlt
        go_wp2
        go_quiet (fail)
        go_wp2
        go_quiet (fail)
        rcases class_cases c hb with q | q | q | q | q | q | q | q | q | q | q | q <;> cases semi
        all_goals
          first | (have H1 := rowEnd_go HE.out (of_eq_true hlt) HC.out (inRow_yes (by simp; omega)); have HE2 := hd H1; clear H1) | (have H1 := rowEnd_stop HE.out HC.out (inRow_no (by simp; omega)); have HE2 := hd H1; clear H1)
          first | (have t0 : decide (97 ≤ c) = true := decide_eq_true (by omega)) | (have t0 : decide (97 ≤ c) = false := decide_eq_false (by omega))
          first | (have t1 : decide (c ≤ 122) = true := decide_eq_true (by omega)) | (have t1 : decide (c ≤ 122) = false := decide_eq_false (by omega))
          first | (have t2 : decide (65 ≤ c) = true := decide_eq_true (by omega)) | (have t2 : decide (65 ≤ c) = false := decide_eq_false (by omega))
          first | (have t3 : decide (c ≤ 90) = true := decide_eq_true (by omega)) | (have t3 : decide (c ≤ 90) = false := decide_eq_false (by omega))
          first | (have t4 : decide (48 ≤ c) = true := decide_eq_true (by omega)) | (have t4 : decide (48 ≤ c) = false := decide_eq_false (by omega))
          first | (have t5 : decide (c ≤ 57) = true := decide_eq_true (by omega)) | (have t5 : decide (c ≤ 57) = false := decide_eq_false (by omega))
          first | (have t9 := more_yes true c hb (by simp; omega)) | (have t9 := more_no true c hb (by simp; omega))
          first | (have t8 := more_yes false c hb (by simp; omega)) | (have t8 := more_no false c hb (by simp; omega))
          clear q
          go_wp2_with (fail)
          try (refine (moreI_any _ c _).mono ?_; rintro e wq ⟨rfl, rfl⟩; go_wp2)
          first
          | (have H1 := HE2.out
             obtain rfl : j = R := H1
             repeat (go_quiet (fail); try go_wp2)
             go_ret
             exact ⟨rfl, by repeat (first | exact hp | apply PB.drewN), by repeat (first | exact hk | apply Kp.drewN)⟩)
          | (go_roundg k1
             case measure => omega
             case rel => exact ⟨j + 1, by omega, by have := of_eq_true hlt; omega, HE2, hd (by have := HF.out; omega), by repeat (first | exact hp | apply PB.set1 | apply PB.drewN), by repeat (first | exact hk | apply Kp.setOne | apply Kp.drewN)⟩)
      · have H1 := rowEnd_out HE.out hlt
        have d1 : decide (j < (s.size : Int)) = false := decide_eq_false hlt
        obtain rfl : j = R := H1
        clear HE
        have p0 : 0 ≤ i := HH.out.1
        have p1 : 0 ≤ j := by omega
        go_wp2
        repeat (go_quiet (fail); try go_wp2)
        go_ret
        exact ⟨rfl, by repeat (first | exact hp | apply PB.drewN), by repeat (first | exact hk | apply Kp.drewN)⟩
end Go.Proofs.YtieolphpgjpcmaaDoor
