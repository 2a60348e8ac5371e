/- rosterref04: key, keys, number, parts. | rosterref04: number, parts. | rosterref04: IsType, IsDesc. | rosterref04: goes, place. | text.Fold, rosterref01.Fold. | rosterref04: names, row, canon. | rosterref04: Parse, ParseType. -/
import Derived.Test.YtieolphpgjpcmaaDoorM01
import Derived.Lib.ConvBytes
import Derived.Laws.BytesArg
import Derived.Laws.Tables
import Derived.Laws.Rows

namespace Go.Proofs.YtieolphpgjpcmaaDoor
open Go.RowKit Go.Proofs.YtieolphpgjpcmaaDoorW.PrintWords

set_option maxHeartbeats 1000000 in
set_option maxRecDepth 100000 in
theorem key_any (c : Int) (w : World) (hb : 0 ≤ c ∧ c ≤ 255) :
    Calls Tryd.prog 64 #[.int .u8 c] w fun e w' => e = .returned (.bool (keyB c)) ∧ Dr w w' := by
  obtain ⟨R, hR⟩ : ∃ R, keyB c = R := ⟨_, rfl⟩
  rw [hR]
  have HR := hd hR
  clear hR
  rcases class_cases c hb with q | q | q | q | q | q | q | q | q | q | q | q
  all_goals
    try subst q
    first | (have e := HR.out.symm.trans (keyB_yes (by omega)); subst e) | (have e := HR.out.symm.trans (keyB_no (by omega)); subst e)
    try first | (have t0 : decide (97 ≤ c) = true := decide_eq_true (by omega)) | (have t0 : decide (97 ≤ c) = false := decide_eq_false (by omega))
    try first | (have t1 : decide (c ≤ 122) = true := decide_eq_true (by omega)) | (have t1 : decide (c ≤ 122) = false := decide_eq_false (by omega))
    try first | (have t2 : decide (65 ≤ c) = true := decide_eq_true (by omega)) | (have t2 : decide (65 ≤ c) = false := decide_eq_false (by omega))
    try first | (have t3 : decide (c ≤ 90) = true := decide_eq_true (by omega)) | (have t3 : decide (c ≤ 90) = false := decide_eq_false (by omega))
    try first | (have t4 : decide (48 ≤ c) = true := decide_eq_true (by omega)) | (have t4 : decide (48 ≤ c) = false := decide_eq_false (by omega))
    try first | (have t5 : decide (c ≤ 57) = true := decide_eq_true (by omega)) | (have t5 : decide (c ≤ 57) = false := decide_eq_false (by omega))
    try (have n2 : (c == 45) = false := by rw [beq_eq_false_iff_ne]; omega)
    go_enter Tryd.func64, Tryd.ntmps64
    go_wp2
    repeat (go_quiet (fail); try go_wp2)
    go_ret
    exact ⟨rfl, by repeat (first | exact Dr.refl _ | apply Dr.drewN)⟩

set_option maxHeartbeats 1000000 in
set_option maxRecDepth 100000 in
theorem keys_any (s : ByteArray) (w : World) (hl : s.size ≤ LIM) :
    Calls Tryd.prog 48 #[.string s] w fun e w' => e = .returned (.bool (keysB s)) ∧ Dr w w' := by
  unfold LIM at hl
  obtain ⟨R, hR⟩ : ∃ R, keysB s = R := ⟨_, rfl⟩
  rw [hR]
  have HR := hd hR
  clear hR
  go_enter Tryd.func48, Tryd.ntmps48
  go_wp2
  go_loopg [3] (s.size + 1) (fun kq q w' => ∃ k : Nat, k ≤ s.size ∧ q = .int .i64 k ∧ Hid (s.size - k < kq) ∧ Hid ((allF keyB s kq k && !(s.size == 0)) = R) ∧ Dr w w')
  case atStart => exact ⟨0, Nat.zero_le _, rfl, hd (by omega), HR, Dr.refl _⟩
  case round =>
    clear HR
    obtain ⟨k, hk, rfl, HF, HR, hw⟩ := hrel
    cases gk with
    | zero => exact absurd HF.out (by omega)
    | succ k1 =>
      by_cases hlt : k < s.size
      · have hx := bt_at s k
        have hb := bt_range s k
        simp only [Int.toNat_natCast] at hx
        by_cases hc : keyB (bt s k) = true
        · have H' := HR.out
          rw [allF_go (by omega) hc] at H'
          have HR' := hd H'
          clear H' HR
          generalize bt s k = c at hx hb hc
          have HC := hd hc
          clear hc
          go_wp2_with (go_at_call 64; refine (key_any c _ hb).mono ?_; rintro e w' ⟨rfl, n, rfl⟩; rw [HC.out])
          go_roundg k1
          case measure => omega
          case rel => exact ⟨k + 1, by omega, by go_num, hd (by have := HF.out; omega), hd (by have := HR'.out; simpa using this), by repeat (first | exact hw | apply Dr.drewN)⟩
        · have hc' := Bool.eq_false_iff.2 hc
          have H' := HR.out
          rw [allF_no (by omega) hc'] at H'
          obtain rfl : false = R := H'
          clear HR
          clear hc
          generalize bt s k = c at hx hb hc'
          have HC := hd hc'
          clear hc'
          go_wp2_with (go_at_call 64; refine (key_any c _ hb).mono ?_; rintro e w' ⟨rfl, n, rfl⟩; rw [HC.out])
          go_ret
          exact ⟨rfl, by repeat (first | exact hw | apply Dr.drewN)⟩
      · obtain rfl : k = s.size := by omega
        have H' := HR.out
        rw [allF_end (by omega), Bool.true_and] at H'
        have he := empty_iff s
        by_cases h0 : s.size = 0
        · have q : s.toList.isEmpty = true := by rw [he]; simp [h0]
          have q2 : R = false := by rw [← H']; simp [h0]
          subst q2
          clear HR H' he h0
          go_wp2
          go_ret
          exact ⟨rfl, by repeat (first | exact hw | apply Dr.drewN)⟩
        · have q : s.toList.isEmpty = false := by rw [he]; simp [h0]
          have q2 : R = true := by rw [← H']; simp [h0]
          subst q2
          clear HR H' he h0
          go_wp2
          go_ret
          exact ⟨rfl, by repeat (first | exact hw | apply Dr.drewN)⟩
end Go.Proofs.YtieolphpgjpcmaaDoor

namespace Go.Proofs.YtieolphpgjpcmaaDoor
open Go.RowKit Go.Proofs.YtieolphpgjpcmaaDoorW.PrintWords

def numEnd (s : ByteArray) : Bool := (s.size == 1 && bt s 0 == 48) || (!(s.size == 0) && bt s 0 != 48)
set_option maxHeartbeats 1000000 in
set_option maxRecDepth 100000 in
theorem number_any (s : ByteArray) (w : World) (hl : s.size ≤ LIM) :
    Calls Tryd.prog 65 #[.string s] w fun e w' => e = .returned (.bool (numberB s)) ∧ Dr w w' := by
  unfold LIM at hl
  obtain ⟨R, hR⟩ : ∃ R, numberB s = R := ⟨_, rfl⟩
  rw [hR]
  have HR : Hid ((allF digB s (s.size + 1) 0 && numEnd s) = R) := hd hR
  clear hR
  go_enter Tryd.func65, Tryd.ntmps65
  go_wp2
  go_loopg [3] (s.size + 1) (fun kq q w' => ∃ k : Nat, k ≤ s.size ∧ q = .int .i64 k ∧ Hid (s.size - k < kq) ∧ Hid ((allF digB s kq k && numEnd s) = R) ∧ Dr w w')
  case atStart => exact ⟨0, Nat.zero_le _, rfl, hd (by omega), HR, Dr.refl _⟩
  case round =>
    clear HR
    obtain ⟨k, hk, rfl, HF, HR, hw⟩ := hrel
    cases gk with
    | zero => exact absurd HF.out (by omega)
    | succ k1 =>
      by_cases hlt : k < s.size
      · have hx := bt_at s k
        have hb := bt_range s k
        simp only [Int.toNat_natCast] at hx
        have H1 := fun h : digB (bt s k) = true => (allF_go (n := k1) (by omega) h).symm
        have H2 := fun h : digB (bt s k) = false => (allF_no (n := k1) (by omega) h).symm
        have H3 := HR.out
        generalize bt s k = c at hx hb H1 H2
        by_cases c1 : c < 48
        · obtain rfl : false = R := by rw [← H3, ← H2 (by simp [digB]; omega)]; rfl
          clear HR H1 H2 H3
          go_wp2
          repeat (go_quiet (fail); try go_wp2)
          go_ret
          exact ⟨rfl, by repeat (first | exact hw | apply Dr.drewN)⟩
        · have t1 : decide (c < 48) = false := decide_eq_false c1
          by_cases c2 : 57 < c
          · have t2 : decide (57 < c) = true := decide_eq_true c2
            obtain rfl : false = R := by rw [← H3, ← H2 (by simp [digB]; omega)]; rfl
            clear HR H1 H2 H3 c1
            go_wp2
            repeat (go_quiet (fail); try go_wp2)
            go_ret
            exact ⟨rfl, by repeat (first | exact hw | apply Dr.drewN)⟩
          · have t2 : decide (57 < c) = false := decide_eq_false c2
            have HR' := hd (show (allF digB s k1 (k + 1) && numEnd s) = R by rw [H1 (by simp [digB]; omega)]; exact H3)
            clear HR H1 H2 H3
            go_wp2
            repeat (go_quiet (fail); try go_wp2)
            go_roundg k1
            case measure => omega
            case rel => exact ⟨k + 1, by omega, by go_num, hd (by have := HF.out; omega), hd (by have := HR'.out; simpa using this), by repeat (first | exact hw | apply Dr.drewN)⟩
      · obtain rfl : k = s.size := by omega
        have H' := HR.out
        rw [allF_end (by omega), Bool.true_and] at H'
        clear HR
        have he := empty_iff s
        have h48 := one_iff s 48
        simp only [show ((48 : UInt8).toNat : Int) = 48 from rfl] at h48
        by_cases h0 : s.size = 0
        · have q : s.toList.isEmpty = true := by rw [he]; simp [h0]
          have q1 : (s.toList == [48]) = false := by rw [h48]; simp [h0]
          have q2 : R = false := by rw [← H']; simp [numEnd, h0]
          subst q2
          clear H' he h48 h0
          go_wp2
          go_ret
          exact ⟨rfl, hw⟩
        · have q : s.toList.isEmpty = false := by rw [he]; simp [h0]
          by_cases h1 : s.size = 1 ∧ bt s 0 = 48
          · have q1 : (s.toList == [48]) = true := by rw [h48]; simp [h1]
            have q2 : R = true := by rw [← H']; simp [numEnd, h1]
            subst q2
            clear H' he h48 h0 h1
            go_wp2
            go_ret
            exact ⟨rfl, hw⟩
          · have q1 : (s.toList == [48]) = false := by rw [h48]; simp; exact fun a b => h1 ⟨a, b⟩
            have q2 : R = (bt s 0 != 48) := by
              rw [← H']
              unfold numEnd
              have : (s.size == 1 && bt s 0 == 48) = false := by simp; exact fun a b => h1 ⟨a, b⟩
              rw [this]
              simp [h0]
            have hx := bt_at s 0
            have z0 := eq_true (show (0 : Int) < (s.size : Int) by omega)
            subst q2
            simp only [Int.toNat_zero] at hx
            clear H' he h48 h1
            go_wp2
            go_ret
            exact ⟨rfl, hw⟩

theorem partsF_hit {s : ByteArray} {c : Int} {n : Nat} {i lo : Int} {acc : List ByteArray} (h : i < (s.size : Int)) (hc : bt s i = c) : partsF s c (n + 1) i lo acc = partsF s c n (i + 1) (i + 1) (acc ++ [s.extract lo.toNat i.toNat]) := by simp only [partsF]; rw [if_pos h, if_pos hc]
theorem partsF_miss {s : ByteArray} {c : Int} {n : Nat} {i lo : Int} {acc : List ByteArray} (h : i < (s.size : Int)) (hc : ¬ bt s i = c) : partsF s c (n + 1) i lo acc = partsF s c n (i + 1) lo acc := by simp only [partsF]; rw [if_pos h, if_neg hc]
theorem partsF_end {s : ByteArray} {c : Int} {n : Nat} {i lo : Int} {acc : List ByteArray} (h : ¬ i < (s.size : Int)) : partsF s c (n + 1) i lo acc = acc ++ [s.extract lo.toNat s.size] := by simp only [partsF]; rw [if_neg h]

set_option maxHeartbeats 1000000 in
set_option maxRecDepth 100000 in
theorem parts_any (s : ByteArray) (c : Int) (w : World) (hl : s.size ≤ LIM) :
    Calls Tryd.prog 33 #[.string s, .int .u8 c] w fun e w' => ∃ v, e = .returned v ∧ Strs w' w.heap.size v (partsS s c) ∧ Kp No w w' := by
  unfold LIM at hl
  obtain ⟨R, hR⟩ : ∃ R, partsS s c = R := ⟨_, rfl⟩
  rw [hR]
  have HR := hd hR
  clear hR
  go_enter Tryd.func33, Tryd.ntmps33
  go_wp2
  go_loopg [5, 6, 7] (s.size + 1) (fun kq v l q w' => ∃ (k lo : Nat) (acc : List ByteArray), lo ≤ k ∧ k ≤ s.size ∧ l = .int .i64 lo ∧ q = .int .i64 k ∧ Hid (s.size - k < kq) ∧ Hid (acc.length ≤ k) ∧ Hid (partsF s c kq k lo acc = R) ∧ Strs w' w.heap.size v acc ∧ Below w.heap.size w w')
  case atStart => exact ⟨0, 0, [], Nat.le_refl _, Nat.zero_le _, rfl, rfl, hd (by omega), hd (by simp), HR, Strs.nil _ _, Below.refl _ _⟩
  case round =>
    clear HR
    obtain ⟨k, lo, acc, hlo, hk, rfl, rfl, HF, HA, HR, hs, hb⟩ := hrel
    cases gk with
    | zero => exact absurd HF.out (by omega)
    | succ k1 =>
      have x1 := eq_true (show (lo : Int) ≤ (k : Int) by omega)
      have x2 := eq_true (show (lo : Int) ≤ (s.size : Int) by omega)
      by_cases hlt : k < s.size
      · have hx := bt_at s k
        simp only [Int.toNat_natCast] at hx
        by_cases hc : bt s k = c
        · have H' := HR.out
          rw [partsF_hit (by omega) hc] at H'
          have HR' := hd H'
          clear H' HR
          rw [hc] at hx
          clear hc
          go_wp2_with (at_builtin; refine print_append_of (w0 := w) Value.string w.heap.size rfl _ _ 45 9 (.string ⟨#[]⟩) 16 rfl Tryd.underlying45 infoStr (by rfl) (by decide) u5 acc (s.extract lo k) rfl rfl rfl hs hb hb.size (by have := HA.out; omega) ?_; intro v1 w2 ho1 hb1 hg1 hat1; clear hg1 hat1 hb hs)
          go_roundg k1
          case measure => omega
          case rel => exact ⟨k + 1, k + 1, acc ++ [s.extract lo k], by omega, by omega, by go_num, by go_num, hd (by have := HF.out; omega), hd (by have := HA.out; simp; omega), hd (by have := HR'.out; simpa using this), ho1, hb1⟩
        · have H' := HR.out
          rw [partsF_miss (by omega) hc] at H'
          have HR' := hd H'
          clear H' HR
          have n1 : (bt s k == c) = false := beq_eq_false_iff_ne.2 hc
          generalize bt s k = d at hx n1
          clear hc
          go_wp2
          go_roundg k1
          case measure => omega
          case rel => exact ⟨k + 1, lo, acc, by omega, by omega, rfl, by go_num, hd (by have := HF.out; omega), hd (by have := HA.out; omega), hd (by have := HR'.out; simpa using this), hs, hb⟩
      · obtain rfl : k = s.size := by omega
        have H' := HR.out
        rw [partsF_end (by omega)] at H'
        have HR' := hd H'
        clear H' HR
        go_wp2_with (at_builtin; refine print_append_of (w0 := w) Value.string w.heap.size rfl _ _ 45 9 (.string ⟨#[]⟩) 16 rfl Tryd.underlying45 infoStr (by rfl) (by decide) u5 acc (s.extract lo s.size) rfl rfl rfl hs hb hb.size (by have := HA.out; omega) ?_; intro v1 w2 ho1 hb1 hg1 hat1; clear hg1 hat1 hb hs)
        go_ret
        exact ⟨_, rfl, by have := HR'.out; rw [← this]; exact ho1, Kp.ofBelow hb1 _⟩
end Go.Proofs.YtieolphpgjpcmaaDoor

namespace Go.Proofs.YtieolphpgjpcmaaDoor
open Go.RowKit Go.Proofs.YtieolphpgjpcmaaDoorW.PrintWords

set_option maxHeartbeats 1000000 in
set_option maxRecDepth 100000 in
theorem istype_any (s : ByteArray) (w : World) (hl : s.size ≤ LIM) :
    Calls Tryd.prog 49 #[.string s] w fun e w' => e = .returned (.bool (isTypeB s)) ∧ Kp No w w' := by
  have hl' := hl
  unfold LIM at hl
  have he := empty_iff s
  by_cases h0 : s.size = 0
  · have q : s.toList.isEmpty = true := by rw [he]; simp [h0]
    have e0 : isTypeB s = false := by simp [isTypeB, h0]
    rw [e0]
    clear e0 he h0
    go_enter Tryd.func49, Tryd.ntmps49
    go_wp2
    go_ret
    exact ⟨rfl, Kp.refl _ _⟩
  · have q : s.toList.isEmpty = false := by rw [he]; simp [h0]
    have hx := bt_at s 0
    have hb := bt_range s 0
    have z1 : 0 < s.size := by omega
    simp only [Int.toNat_zero] at hx
    clear he
    by_cases hlt : letB (bt s 0) = true
    · have e0 : isTypeB s = keysB s := by unfold isTypeB; rw [if_neg h0, if_pos hlt]
      rw [e0]
      clear e0 h0
      have hlt2 : (97 ≤ bt s 0 ∧ bt s 0 ≤ 122) ∨ (65 ≤ bt s 0 ∧ bt s 0 ≤ 90) := by simpa [letB] using hlt
      clear hlt
      generalize bt s 0 = c at hx hb hlt2
      rcases hlt2 with ⟨u1, u2⟩ | ⟨u1, u2⟩
      · have t0 : decide (97 ≤ c) = true := decide_eq_true u1
        have t1 : decide (c ≤ 122) = true := decide_eq_true u2
        go_enter Tryd.func49, Tryd.ntmps49
        go_wp2_with (fail)
        repeat (go_quiet (fail); try go_wp2_with (fail))
        refine (keys_any s _ hl').mono ?_
        rintro e w' ⟨rfl, n, rfl⟩
        go_wp2
        go_ret
        exact ⟨rfl, by repeat (first | exact Kp.refl _ _ | apply Kp.drewN)⟩
      · have t0 : decide (97 ≤ c) = false := decide_eq_false (by omega)
        have t1 : decide (65 ≤ c) = true := decide_eq_true u1
        have t2 : decide (c ≤ 90) = true := decide_eq_true u2
        go_enter Tryd.func49, Tryd.ntmps49
        go_wp2_with (fail)
        repeat (go_quiet (fail); try go_wp2_with (fail))
        refine (keys_any s _ hl').mono ?_
        rintro e w' ⟨rfl, n, rfl⟩
        go_wp2
        go_ret
        exact ⟨rfl, by repeat (first | exact Kp.refl _ _ | apply Kp.drewN)⟩
    · obtain ⟨R, hR⟩ : ∃ R, ((partsS s 46).all numberB && decide (1 < (partsS s 46).length)) = R := ⟨_, rfl⟩
      have e0 : isTypeB s = R := by unfold isTypeB; rw [if_neg h0, if_neg hlt, hR]
      rw [e0]
      clear e0 h0
      have HR := hd hR
      clear hR
      have hlt2 : ¬ ((97 ≤ bt s 0 ∧ bt s 0 ≤ 122) ∨ (65 ≤ bt s 0 ∧ bt s 0 ≤ 90)) := by simpa [letB] using hlt
      clear hlt
      generalize bt s 0 = c at hx hb hlt2
      obtain ⟨l, hL⟩ : ∃ l, partsS s 46 = l := ⟨_, rfl⟩
      have hp := partsS_pos s 46
      have cP := hd (fun W => parts_any s 46 W hl')
      have hz := fun k => partsS_size s 46 k
      rw [hL] at HR cP hp hz
      clear hL
      have HZ := hd hz
      clear hz
      have hc3 : (97 ≤ c ∧ 122 < c) ∨ (65 ≤ c ∧ c < 97 ∧ 90 < c) ∨ c < 65 := by omega
      clear hlt2
      rcases hc3 with ⟨u1, u2⟩ | ⟨u1, u2, u3⟩ | u1
      all_goals
        first | (have t0 : decide (97 ≤ c) = true := decide_eq_true (by omega)) | (have t0 : decide (97 ≤ c) = false := decide_eq_false (by omega))
        first | (have t1 : decide (c ≤ 122) = true := decide_eq_true (by omega)) | (have t1 : decide (c ≤ 122) = false := decide_eq_false (by omega))
        first | (have t2 : decide (65 ≤ c) = true := decide_eq_true (by omega)) | (have t2 : decide (65 ≤ c) = false := decide_eq_false (by omega))
        first | (have t3 : decide (c ≤ 90) = true := decide_eq_true (by omega)) | (have t3 : decide (c ≤ 90) = false := decide_eq_false (by omega))
        go_enter Tryd.func49, Tryd.ntmps49
        go_wp2_with (fail)
        repeat (go_quiet (fail); try go_wp2_with (fail))
        refine (cP.out _).mono ?_
        rintro e w1 ⟨v, rfl, hs, hk⟩
        have hkk := hd (show Kp No w w1 from by repeat (first | exact hk | exact (Kp.drewN (Kp.refl _ _) _).trans hk))
        obtain ⟨b, cap, rfl, hbb, hbl, hc⟩ := hs.form hp.1
        have HC := hd hc
        clear hc hs hk
        go_wp2
        go_loopg [4] (l.length + 1) (fun kq q w' => ∃ k : Nat, k ≤ l.length ∧ q = .int .i64 k ∧ Hid (l.length - k < kq) ∧ Hid (((l.drop k).all numberB && decide (1 < l.length)) = R) ∧ Dr w1 w')
        case atStart => exact ⟨0, Nat.zero_le _, rfl, hd (by omega), HR, Dr.refl _⟩
        case round =>
          clear HR
          obtain ⟨k, hk, rfl, HF, HR, hw⟩ := hrel
          obtain ⟨nw, rfl⟩ := hw
          cases gk with
          | zero => exact absurd HF.out (by omega)
          | succ k1 =>
            by_cases hlt : k < l.length
            · have hck := HC.out k hlt
              have hzk := Nat.le_trans (HZ.out k) hl'
              by_cases hn : numberB (l.getD k ⟨#[]⟩) = true
              · have H' := HR.out
                rw [all_go _ hlt hn] at H'
                have HR' := hd H'
                clear H' HR
                generalize l.getD k ⟨#[]⟩ = y at hck hzk hn
                have HN := hd hn
                clear hn
                go_wp2_with (go_at_call 65; refine (number_any y _ hzk).mono ?_; rintro e w' ⟨rfl, n, rfl⟩; rw [HN.out])
                go_roundg k1
                case measure => omega
                case rel => exact ⟨k + 1, by omega, by go_num, hd (by have := HF.out; omega), HR', by repeat (first | exact Dr.refl _ | apply Dr.drewN)⟩
              · have hn' := Bool.eq_false_iff.2 hn
                have H' := HR.out
                rw [all_no _ hlt hn'] at H'
                obtain rfl : false = R := H'
                clear HR hn
                generalize l.getD k ⟨#[]⟩ = y at hck hzk hn'
                have HN := hd hn'
                clear hn'
                go_wp2_with (go_at_call 65; refine (number_any y _ hzk).mono ?_; rintro e w' ⟨rfl, n, rfl⟩; rw [HN.out])
                go_ret
                exact ⟨rfl, by repeat (first | exact hkk.out | apply Kp.drewN)⟩
            · obtain rfl : k = l.length := by omega
              have H' := HR.out
              rw [List.drop_length, List.all_nil, Bool.true_and] at H'
              subst H'
              clear HR
              go_wp2
              go_ret
              exact ⟨by simp; omega, by repeat (first | exact hkk.out | apply Kp.drewN)⟩

set_option maxHeartbeats 1000000 in
set_option maxRecDepth 100000 in
theorem isdesc_any (s : ByteArray) (w : World) (hl : s.size ≤ LIM) :
    Calls Tryd.prog 31 #[.string s] w fun e w' => e = .returned (.bool (isDescB s)) ∧ Kp No w w' := by
  have hl' := hl
  unfold LIM at hl
  obtain ⟨R, hR⟩ : ∃ R, isDescB s = R := ⟨_, rfl⟩
  rw [hR]
  unfold isDescB at hR
  obtain ⟨l, hL⟩ : ∃ l, partsS s 59 = l := ⟨_, rfl⟩
  have hp := partsS_pos s 59
  have cP := hd (fun W => parts_any s 59 W hl')
  have hz := fun k => partsS_size s 59 k
  rw [hL] at hR cP hp hz
  clear hL
  have HR := hd hR
  have HZ := hd hz
  clear hz hR
  go_enter Tryd.func31, Tryd.ntmps31
  go_wp2_with (fail)
  refine (cP.out _).mono ?_
  rintro e w1 ⟨v, rfl, hs, hk⟩
  obtain ⟨b, cap, rfl, hbb, hbl, hc⟩ := hs.form hp.1
  have HC := hd hc
  have hkk := hd hk
  clear hc hs hk
  go_wp2
  go_loopg [4] (l.length + 1) (fun kq q w' => ∃ k : Nat, 1 ≤ k ∧ k ≤ l.length ∧ q = .int .i64 k ∧ Hid (l.length - k < kq) ∧ Hid (((l.drop k).all keysB && isTypeB (l.getD 0 ⟨#[]⟩)) = R) ∧ Dr w1 w')
  case atStart => exact ⟨1, Nat.le_refl _, hp.1, rfl, hd (by omega), HR, Dr.refl _⟩
  case round =>
    clear HR
    obtain ⟨k, hk1, hk, rfl, HF, HR, hw⟩ := hrel
    obtain ⟨nw, rfl⟩ := hw
    cases gk with
    | zero => exact absurd HF.out (by omega)
    | succ k1 =>
      by_cases hlt : k < l.length
      · have hck := HC.out k hlt
        have hzk := Nat.le_trans (HZ.out k) hl'
        by_cases hn : keysB (l.getD k ⟨#[]⟩) = true
        · have H' := HR.out
          rw [all_go _ hlt hn] at H'
          have HR' := hd H'
          clear H' HR
          generalize l.getD k ⟨#[]⟩ = y at hck hzk hn
          have HN := hd hn
          clear hn
          go_wp2_with (go_at_call 48; refine (keys_any y _ hzk).mono ?_; rintro e w' ⟨rfl, n, rfl⟩; rw [HN.out])
          go_roundg k1
          case measure => omega
          case rel => exact ⟨k + 1, by omega, by omega, by go_num, hd (by have := HF.out; omega), HR', by repeat (first | exact Dr.refl _ | apply Dr.drewN)⟩
        · have hn' := Bool.eq_false_iff.2 hn
          have H' := HR.out
          rw [all_no _ hlt hn', Bool.false_and] at H'
          subst H'
          clear HR hn
          generalize l.getD k ⟨#[]⟩ = y at hck hzk hn'
          have HN := hd hn'
          clear hn'
          go_wp2_with (go_at_call 48; refine (keys_any y _ hzk).mono ?_; rintro e w' ⟨rfl, n, rfl⟩; rw [HN.out])
          go_ret
          exact ⟨rfl, by repeat (first | exact hkk.out | apply Kp.drewN)⟩
      · obtain rfl : k = l.length := by omega
        have H' := HR.out
        rw [List.drop_length, List.all_nil, Bool.true_and] at H'
        have HR' := hd H'
        clear HR H'
        have hc0 := HC.out 0 hp.1
        have z1 : 0 < l.length := hp.1
        have hz0 := Nat.le_trans (HZ.out 0) hl'
        have cT := hd (fun W => istype_any (l.getD 0 ⟨#[]⟩) W hz0)
        rw [HR'.out] at cT
        clear hz0
        generalize l.getD 0 ⟨#[]⟩ = y at hc0 cT
        go_wp2_with (go_at_call 49; refine (cT.out _).mono ?_; rintro e w' ⟨rfl, hk2⟩)
        go_ret
        exact ⟨rfl, by repeat (first | exact hkk.out.trans hk2 | exact (hkk.out.drewN _).trans hk2)⟩
end Go.Proofs.YtieolphpgjpcmaaDoor

namespace Go.Proofs.YtieolphpgjpcmaaDoor
open Go.RowKit Go.Proofs.YtieolphpgjpcmaaDoorW.PrintWords

def EndsAt (w : World) (g : Nat) : Prop := ∀ k : Nat, k < 4 → w.cell? ⟨g, k, none⟩ = some (.string (endsL.getD k ⟨#[]⟩))
theorem EndsAt.new (w : World) : EndsAt (w.alloc (.cells #[.string ⟨#[]⟩, .string ⟨#[97]⟩, .string ⟨#[49]⟩, .string ⟨#[46, 49]⟩] 100)) w.heap.size := by
  intro k hk
  rw [blk_cell (blk_new w _) k]
  rcases k with _ | _ | _ | _ | k <;> first | rfl | omega
theorem EndsAt.kp {w w1 : World} {g : Nat} (h : EndsAt w g) (hk : Kp No w w1) : EndsAt w1 g := fun k hk4 => hk.cell (h k hk4) (fun q => q)

set_option maxHeartbeats 2000000 in
set_option maxRecDepth 100000 in
theorem goes_any (s : ByteArray) (alone : Bool) (w : World) (hl : s.size + 2 ≤ LIM) :
    Calls Tryd.prog 50 #[.string s, .bool alone] w fun e w' => e = .returned (.bool (goesB s alone)) ∧ Kp No w w' := by
  have hl' := hl
  unfold LIM at hl
  obtain ⟨R, hR⟩ : ∃ R, goesB s alone = R := ⟨_, rfl⟩
  rw [hR]
  have HR : Hid ((endsL.drop 0).any (fun e => isXB (s ++ e) alone) = R) := hd hR
  clear hR
  go_enter Tryd.func50, Tryd.ntmps50
  go_wp2
  go_loopg [6] 5 (fun kq q w' => ∃ k : Nat, k ≤ 4 ∧ q = .int .i64 k ∧ Hid (4 - k < kq) ∧ Hid ((endsL.drop k).any (fun e => isXB (s ++ e) alone) = R) ∧ Hid (EndsAt w' w.heap.size) ∧ Kp No w w')
  case atStart => exact ⟨0, Nat.zero_le _, rfl, hd (by omega), HR, hd (EndsAt.new w), (Kp.refl _ _).alloc _⟩
  case round =>
    clear HR
    obtain ⟨k, hk, rfl, HF, HR, HE, hkk⟩ := hrel
    cases gk with
    | zero => exact absurd HF.out (by omega)
    | succ k1 =>
      by_cases hlt : k < 4
      · have hck := HE.out k hlt
        have hzk := endsL_size k
        have hz2 : (s ++ endsL.getD k ⟨#[]⟩).size ≤ LIM := by rw [ByteArray.size_append]; omega
        have HY := hd (fun q : isXB (s ++ endsL.getD k ⟨#[]⟩) alone = true => (any_yes (P := fun e => isXB (s ++ e) alone) (⟨#[]⟩ : ByteArray) (show k < endsL.length from hlt) q).symm.trans HR.out)
        have HN := hd (fun q : isXB (s ++ endsL.getD k ⟨#[]⟩) alone = false => (any_go (P := fun e => isXB (s ++ e) alone) (⟨#[]⟩ : ByteArray) (show k < endsL.length from hlt) q).symm.trans HR.out)
        clear HR
        generalize endsL.getD k ⟨#[]⟩ = y at hck hz2 HY HN hzk
        obtain ⟨t, ht⟩ : ∃ t, s ++ y = t := ⟨_, rfl⟩
        rw [ht] at hz2 HY HN
        have HT := hd ht
        clear ht
        obtain ⟨B, hB⟩ : ∃ B, isXB t alone = B := ⟨_, rfl⟩
        rw [hB] at HY HN
        have HB := hd hB
        clear hB
        cases alone with
        | true =>
          have cT := hd (fun W => istype_any t W hz2)
          rw [show isTypeB t = B from HB.out] at cT
          go_wp2_with (fail)
          rw [HT.out]
          refine (cT.out _).mono ?_
          rintro e w2 ⟨rfl, hk2⟩
          cases B with
          | true =>
            obtain rfl : true = R := HY.out rfl
            go_wp2
            go_ret
            exact ⟨rfl, hkk.trans hk2⟩
          | false =>
            have HR' := hd (HN.out rfl)
            go_wp2
            go_roundg k1
            case measure => omega
            case rel => exact ⟨k + 1, by omega, by go_num, hd (by have := HF.out; omega), HR', hd (HE.out.kp hk2), hkk.trans hk2⟩
        | false =>
          have cT := hd (fun W => isdesc_any t W hz2)
          rw [show isDescB t = B from HB.out] at cT
          go_wp2_with (fail)
          rw [HT.out]
          refine (cT.out _).mono ?_
          rintro e w2 ⟨rfl, hk2⟩
          cases B with
          | true =>
            obtain rfl : true = R := HY.out rfl
            go_wp2
            go_ret
            exact ⟨rfl, hkk.trans hk2⟩
          | false =>
            have HR' := hd (HN.out rfl)
            go_wp2
            go_roundg k1
            case measure => omega
            case rel => exact ⟨k + 1, by omega, by go_num, hd (by have := HF.out; omega), HR', hd (HE.out.kp hk2), hkk.trans hk2⟩
      · obtain rfl : k = 4 := by omega
        obtain rfl : false = R := HR.out
        go_wp2
        go_ret
        exact ⟨rfl, hkk⟩

theorem placeF_yes {s : ByteArray} {alone : Bool} {n : Nat} {lo hi m : Int} (h : lo < hi) (hm : (lo + hi + 1) / 2 = m) (hg : goesB (s.extract 0 m.toNat) alone = true) : placeF s alone (n + 1) lo hi = placeF s alone n m hi := by simp only [placeF]; rw [if_pos h, hm, if_pos hg]
theorem placeF_no {s : ByteArray} {alone : Bool} {n : Nat} {lo hi m : Int} (h : lo < hi) (hm : (lo + hi + 1) / 2 = m) (hg : goesB (s.extract 0 m.toNat) alone = false) : placeF s alone (n + 1) lo hi = placeF s alone n lo (m - 1) := by simp only [placeF]; rw [if_pos h, hm, if_neg (by rw [hg]; simp)]
theorem placeF_end {s : ByteArray} {alone : Bool} {n : Nat} {lo hi : Int} (h : ¬ lo < hi) : placeF s alone (n + 1) lo hi = lo := by simp only [placeF]; rw [if_neg h]

set_option maxHeartbeats 2000000 in
set_option maxRecDepth 100000 in
theorem place_any (s : ByteArray) (alone : Bool) (w : World) (hl : s.size + 2 ≤ LIM) :
    Calls Tryd.prog 32 #[.string s, .bool alone] w fun e w' => e = .returned (.int .i64 (placeS s alone)) ∧ Kp No w w' := by
  have hl' := hl
  unfold LIM at hl
  obtain ⟨R, hR⟩ : ∃ R, placeS s alone = R := ⟨_, rfl⟩
  rw [hR]
  have HR := hd hR
  clear hR
  go_enter Tryd.func32, Tryd.ntmps32
  go_wp2
  go_loopg [5, 6] (s.size + 1) (fun kq a b w' => ∃ lo hi : Int, a = .int .i64 lo ∧ b = .int .i64 hi ∧ 0 ≤ lo ∧ hi ≤ (s.size : Int) ∧ lo ≤ hi ∧ Hid (hi - lo < kq) ∧ Hid (placeF s alone kq lo hi = R) ∧ Kp No w w')
  case atStart => exact ⟨0, s.size, rfl, rfl, Int.le_refl _, Int.le_refl _, by omega, hd (by omega), HR, Kp.refl _ _⟩
  case round =>
    clear HR
    obtain ⟨lo, hi, rfl, rfl, h1, h2, h3, HF, HR, hkk⟩ := hrel
    cases gk with
    | zero => exact absurd HF.out (by omega)
    | succ k1 =>
      by_cases hlt : lo < hi
      · obtain ⟨m, hm⟩ : ∃ m, (lo + hi + 1) / 2 = m := ⟨_, rfl⟩
        have hm1 : lo < m := by omega
        have hm2 : m ≤ hi := by omega
        have HM := hd hm
        clear hm
        have hz : (s.extract 0 m.toNat).size + 2 ≤ LIM := by rw [ByteArray.size_extract]; omega
        have cT := hd (fun W => goes_any (s.extract 0 m.toNat) alone W hz)
        have x1 := eq_true (show (0 : Int) ≤ m by omega)
        have x2 := eq_true (show m ≤ (s.size : Int) by omega)
        have HY := hd (fun q => (placeF_yes (n := k1) hlt HM.out q).symm.trans HR.out)
        have HN := hd (fun q => (placeF_no (n := k1) hlt HM.out q).symm.trans HR.out)
        clear HR hz
        obtain ⟨B, hB⟩ : ∃ B, goesB (s.extract 0 m.toNat) alone = B := ⟨_, rfl⟩
        rw [hB] at HY HN cT
        clear hB
        go_wp2_with (fail)
        rw [HM.out]
        go_wp2_with (fail)
        refine (cT.out _).mono ?_
        rintro e w2 ⟨rfl, hk2⟩
        cases B with
        | true =>
          have HR' := hd (HY.out rfl)
          go_wp2
          go_roundg k1
          case measure => omega
          case rel => exact ⟨m, hi, rfl, rfl, by omega, h2, hm2, hd (by have := HF.out; omega), HR', hkk.trans hk2⟩
        | false =>
          have HR' := hd (HN.out rfl)
          go_wp2
          go_roundg k1
          case measure => omega
          case rel => exact ⟨lo, m - 1, rfl, rfl, h1, by omega, by omega, hd (by have := HF.out; omega), HR', hkk.trans hk2⟩
      · have H' := HR.out
        rw [placeF_end hlt] at H'
        subst H'
        go_wp2
        go_ret
        exact ⟨rfl, hkk⟩
end Go.Proofs.YtieolphpgjpcmaaDoor

namespace Go.Proofs.YtieolphpgjpcmaaDoor
open Go.RowKit Go.Proofs.YtieolphpgjpcmaaDoorW.PrintWords

/-- The bytes of a text while they are folded in place: those ahead of k are. -/
def FoldAt (w : World) (g : Nat) (s : ByteArray) (k : Nat) : Prop := ∀ j : Nat, j < s.size → w.cell? ⟨g, j, none⟩ = some (.int .u8 (if j < k then foldc (bt s j) else bt s j)) ∧ w.frozen? ⟨g, j, none⟩ = false
theorem bt_nat (s : ByteArray) (j : Nat) (h : j < s.size) : bt s j = ((s.data.toList.getD j 0).toNat : Int) := by
  rw [← rd_bytesOf]
  have h' : j < s.data.toList.length := by rw [data_length]; exact h
  simp [rd, bytesOf, List.getD_eq_getElem?_getD, List.getElem?_eq_getElem h']
theorem FoldAt.start (W : World) (s : ByteArray) : FoldAt (Lib.bytesWorld W 5 s) W.heap.size s 0 := by
  intro j hj
  constructor
  · rw [Lib.bytesWorld_cell W _ s j hj, if_neg (by omega), bt_nat s j hj]
  · have h := Lib.bytesWorld_at_new W 5 s
    have h2 : s.size ≤ (Lib.bytesCells W 5 s).size := by simp [Lib.bytesCells]
    simp only [World.frozen?, h]
    simp
    omega
theorem FoldAt.skip {w : World} {g : Nat} {s : ByteArray} {k : Nat} (h : FoldAt w g s k) (hc : foldc (bt s k) = bt s k) : FoldAt w g s (k + 1) := by
  intro j hj
  refine ⟨?_, (h j hj).2⟩
  rw [(h j hj).1]
  by_cases e : j = k
  · subst e; rw [if_neg (by omega), if_pos (by omega), hc]
  · by_cases l : j < k
    · rw [if_pos l, if_pos (by omega)]
    · rw [if_neg l, if_neg (by omega)]
theorem FoldAt.put {w : World} {g : Nat} {s : ByteArray} {k : Nat} (h : FoldAt w g s k) (hk : k < s.size) (c : Int) (hc : foldc (bt s k) = c) : FoldAt (w.setCell ⟨g, k, none⟩ (.int .u8 c)) g s (k + 1) := by
  intro j hj
  constructor
  · by_cases e : j = k
    · subst e
      rw [World.cell?_setCell_same _ _ _ (h j hj).1, if_pos (by omega), hc]
    · rw [World.cell?_setCell_other _ _ _ _ (fun q => e (by injection q with _ q2; exact q2.symm)), (h j hj).1]
      by_cases l : j < k
      · rw [if_pos l, if_pos (by omega)]
      · rw [if_neg l, if_neg (by omega)]
  · rw [World.frozen?_setCell]; exact (h j hj).2
theorem FoldAt.str {w : World} {g : Nat} {s : ByteArray} (h : FoldAt w g s s.size) (cap : Nat) : (convert 76 9 (.slice (some ⟨g, 0, none⟩) s.size cap)).run Tryd.prog w = .ok (.string (foldS s)) w := by
  refine run_convert_bytes_arg w 76 5 Tryd.underlying76 Tryd.underlying5 g 0 s.size cap ((bytesOf s).map foldc) (by rw [List.length_map, bytesOf_length]) (fun i hi => ?_) 9 Tryd.underlying9
  rw [Nat.zero_add, (h i hi).1, if_pos hi]
  have h' : i < (bytesOf s).length := by rw [bytesOf_length]; exact hi
  have h2 : i < s.data.toList.length := by rw [data_length]; exact hi
  rw [bt_nat s i hi]
  simp [List.getD_eq_getElem?_getD, bytesOf, List.getElem?_eq_getElem h2]

set_option maxHeartbeats 1000000 in
set_option maxRecDepth 100000 in
theorem tfold_any (s : ByteArray) (w : World) (hl : s.size ≤ LIM) :
    Calls Tryd.prog 42 #[.string s] w fun e w' => e = .returned (.string (foldS s)) ∧ Kp No w w' := by
  unfold LIM at hl
  have kb := fun W => print_bytes (P := Tryd.prog) 9 76 5 Tryd.underlying9 Tryd.underlying76 Tryd.underlying5 s W
  go_enter Tryd.func42, Tryd.ntmps42
  go_wp2
  go_loopw [4, 5, 10] (fun _ _ i wr => ∃ k : Nat, k ≤ s.size ∧ i = .int .i64 k ∧ FoldAt wr w.heap.size s k ∧ Kp No w wr) (fun _ _ i _ => s.size - (intOf i).toNat)
  case atStart => exact ⟨0, Nat.zero_le _, rfl, FoldAt.start _ _, Kp.ofBelow (bytes_below (Below.refl _ _) (Nat.le_refl _) _ _) _⟩
  case round =>
    obtain ⟨k, hk, rfl, hf, hb⟩ := hrel
    clear kb
    by_cases hlt : k < s.size
    · obtain ⟨hc0, hz0⟩ := hf k hlt
      rw [if_neg (by omega)] at hc0
      have hr := bt_range s k
      by_cases h1 : 65 ≤ bt s k ∧ bt s k ≤ 90
      · have hp := hd (hf.put hlt (bt s k + 97 - 65) (by unfold foldc; rw [if_pos h1]; omega))
        obtain ⟨h1, h2⟩ := h1
        generalize bt s k = c at hc0 hp h1 h2 hr
        clear hf
        go_wp2
        go_roundw
        case rel => exact ⟨k + 1, by omega, by go_num, hp.out, hb.setCell (fun q => absurd q (by simp)) _⟩
        case measure => simp [intOf]; omega
      · have hp := hd (hf.skip (by unfold foldc; rw [if_neg h1]))
        clear hf
        generalize bt s k = c at hc0 hp h1 hr
        by_cases t : 65 ≤ c
        · have t1 : decide (65 ≤ c) = true := decide_eq_true t
          have t2 : decide (c ≤ 90) = false := decide_eq_false (by omega)
          go_wp2
          go_roundw
          case rel => exact ⟨k + 1, by omega, by go_num, hp.out, hb⟩
          case measure => simp [intOf]; omega
        · have t1 : decide (65 ≤ c) = false := decide_eq_false t
          go_wp2
          go_roundw
          case rel => exact ⟨k + 1, by omega, by go_num, hp.out, hb⟩
          case measure => simp [intOf]; omega
    · obtain rfl : k = s.size := by omega
      have hs := hf.str
      go_wp2
      go_ret
      exact ⟨rfl, hb⟩

theorem foldS_take (s : ByteArray) (k : Nat) (hk : k < s.size) : ((bytesOf s).map foldc).take (k + 1) = ((bytesOf s).map foldc).take k ++ [foldc (bt s k)] := by
  have h' : k < ((bytesOf s).map foldc).length := by rw [List.length_map, bytesOf_length]; exact hk
  rw [List.take_succ_eq_append_getElem h']
  have h2 : k < s.data.toList.length := by rw [data_length]; exact hk
  rw [bt_nat s k hk]
  simp [bytesOf, List.getD_eq_getElem?_getD, List.getElem?_eq_getElem h2]

set_option maxHeartbeats 1000000 in
set_option maxRecDepth 100000 in
theorem rfold_any (s : ByteArray) (w : World) (hl : s.size ≤ LIM) :
    Calls Tryd.prog 35 #[.string s] w fun e w' => e = .returned (.string (foldS s)) ∧ Kp No w w' := by
  unfold LIM at hl
  go_enter Tryd.func35, Tryd.ntmps35
  go_wp2
  go_loopw [3, 4] (fun v i wr => ∃ k : Nat, k ≤ s.size ∧ i = .int .i64 k ∧ Bys wr w.heap.size v (((bytesOf s).map foldc).take k) ∧ Below w.heap.size w wr) (fun _ i _ => s.size - (intOf i).toNat)
  case atStart => exact ⟨0, Nat.zero_le _, rfl, Bys.nil _ _, Below.refl _ _⟩
  case round =>
    obtain ⟨k, hk, rfl, hf, hb⟩ := hrel
    have hn : (((bytesOf s).map foldc).take k).length ≤ 4194304 := by rw [List.length_take]; omega
    by_cases hlt : k < s.size
    · have hx := bt_at s k
      simp only [Int.toNat_natCast] at hx
      have hr := bt_range s k
      have ht := hd (foldS_take s k hlt)
      obtain ⟨xs, hxs⟩ : ∃ xs, ((bytesOf s).map foldc).take k = xs := ⟨_, rfl⟩
      rw [hxs] at ht hf hn
      clear hxs
      by_cases h1 : 65 ≤ bt s k ∧ bt s k ≤ 90
      · have he : foldc (bt s k) = bt s k + 32 := by unfold foldc; rw [if_pos h1]
        rw [he] at ht
        clear he
        obtain ⟨h1, h2⟩ := h1
        generalize bt s k = c at hx hr ht h1 h2
        go_wp2_with (at_builtin; refine print_append_num (w0 := w) w.heap.size rfl _ _ 76 5 .u8 1 rfl Tryd.underlying76 infoU8 (by decide) u3 xs (c + 32) rfl rfl hf hb hb.size (by omega) ?_; intro v1 w1 hf1 hb1 hg1 hat1; clear hf hb hg1 hat1)
        go_roundw
        case rel => exact ⟨k + 1, by omega, by go_num, by rw [ht.out]; exact hf1, hb1⟩
        case measure => simp [intOf]; omega
      · have he : foldc (bt s k) = bt s k := by unfold foldc; rw [if_neg h1]
        rw [he] at ht
        clear he
        generalize bt s k = c at hx hr ht h1
        by_cases t : 65 ≤ c
        · have t2 : ¬ c ≤ 90 := by omega
          clear h1
          go_wp2_with (at_builtin; refine print_append_num (w0 := w) w.heap.size rfl _ _ 76 5 .u8 1 rfl Tryd.underlying76 infoU8 (by decide) u3 xs c rfl rfl hf hb hb.size (by omega) ?_; intro v1 w1 hf1 hb1 hg1 hat1; clear hf hb hg1 hat1)
          go_roundw
          case rel => exact ⟨k + 1, by omega, by go_num, by rw [ht.out]; exact hf1, hb1⟩
          case measure => simp [intOf]; omega
        · clear h1
          go_wp2_with (at_builtin; refine print_append_num (w0 := w) w.heap.size rfl _ _ 76 5 .u8 1 rfl Tryd.underlying76 infoU8 (by decide) u3 xs c rfl rfl hf hb hb.size (by omega) ?_; intro v1 w1 hf1 hb1 hg1 hat1; clear hf hb hg1 hat1)
          go_roundw
          case rel => exact ⟨k + 1, by omega, by go_num, by rw [ht.out]; exact hf1, hb1⟩
          case measure => simp [intOf]; omega
    · have e : ((bytesOf s).map foldc).take k = (bytesOf s).map foldc := List.take_of_length_le (by rw [List.length_map, bytesOf_length]; omega)
      rw [e] at hf
      have hs := hf.str
      clear hf e
      go_wp2
      go_ret
      exact ⟨rfl, Kp.ofBelow hb _⟩
end Go.Proofs.YtieolphpgjpcmaaDoor

namespace Go.Proofs.YtieolphpgjpcmaaDoor
open Go.RowKit Go.Proofs.YtieolphpgjpcmaaDoorW.PrintWords

/-- The reference's table of names: the first, the other, the identifier. -/
def namesL : List (List ByteArray) := [
  [⟨#[111, 98, 106, 101, 99, 116, 99, 108, 97, 115, 115]⟩, ⟨#[]⟩, ⟨#[50, 46, 53, 46, 52, 46, 48]⟩],
  [⟨#[97, 108, 105, 97, 115, 101, 100, 111, 98, 106, 101, 99, 116, 110, 97, 109, 101]⟩, ⟨#[97, 108, 105, 97, 115, 101, 100, 101, 110, 116, 114, 121, 110, 97, 109, 101]⟩, ⟨#[50, 46, 53, 46, 52, 46, 49]⟩],
  [⟨#[110, 97, 109, 101]⟩, ⟨#[]⟩, ⟨#[50, 46, 53, 46, 52, 46, 52, 49]⟩],
  [⟨#[100, 105, 115, 116, 105, 110, 103, 117, 105, 115, 104, 101, 100, 110, 97, 109, 101]⟩, ⟨#[]⟩, ⟨#[50, 46, 53, 46, 52, 46, 52, 57]⟩],
  [⟨#[99, 110]⟩, ⟨#[99, 111, 109, 109, 111, 110, 110, 97, 109, 101]⟩, ⟨#[50, 46, 53, 46, 52, 46, 51]⟩],
  [⟨#[115, 110]⟩, ⟨#[115, 117, 114, 110, 97, 109, 101]⟩, ⟨#[50, 46, 53, 46, 52, 46, 52]⟩],
  [⟨#[115, 101, 114, 105, 97, 108, 110, 117, 109, 98, 101, 114]⟩, ⟨#[]⟩, ⟨#[50, 46, 53, 46, 52, 46, 53]⟩],
  [⟨#[99]⟩, ⟨#[99, 111, 117, 110, 116, 114, 121, 110, 97, 109, 101]⟩, ⟨#[50, 46, 53, 46, 52, 46, 54]⟩],
  [⟨#[108]⟩, ⟨#[108, 111, 99, 97, 108, 105, 116, 121, 110, 97, 109, 101]⟩, ⟨#[50, 46, 53, 46, 52, 46, 55]⟩],
  [⟨#[115, 116]⟩, ⟨#[115, 116, 97, 116, 101, 111, 114, 112, 114, 111, 118, 105, 110, 99, 101, 110, 97, 109, 101]⟩, ⟨#[50, 46, 53, 46, 52, 46, 56]⟩],
  [⟨#[115, 116, 114, 101, 101, 116]⟩, ⟨#[115, 116, 114, 101, 101, 116, 97, 100, 100, 114, 101, 115, 115]⟩, ⟨#[50, 46, 53, 46, 52, 46, 57]⟩],
  [⟨#[111]⟩, ⟨#[111, 114, 103, 97, 110, 105, 122, 97, 116, 105, 111, 110, 110, 97, 109, 101]⟩, ⟨#[50, 46, 53, 46, 52, 46, 49, 48]⟩],
  [⟨#[111, 117]⟩, ⟨#[111, 114, 103, 97, 110, 105, 122, 97, 116, 105, 111, 110, 97, 108, 117, 110, 105, 116, 110, 97, 109, 101]⟩, ⟨#[50, 46, 53, 46, 52, 46, 49, 49]⟩],
  [⟨#[116, 105, 116, 108, 101]⟩, ⟨#[]⟩, ⟨#[50, 46, 53, 46, 52, 46, 49, 50]⟩],
  [⟨#[100, 101, 115, 99, 114, 105, 112, 116, 105, 111, 110]⟩, ⟨#[]⟩, ⟨#[50, 46, 53, 46, 52, 46, 49, 51]⟩],
  [⟨#[98, 117, 115, 105, 110, 101, 115, 115, 99, 97, 116, 101, 103, 111, 114, 121]⟩, ⟨#[]⟩, ⟨#[50, 46, 53, 46, 52, 46, 49, 53]⟩],
  [⟨#[112, 111, 115, 116, 97, 108, 97, 100, 100, 114, 101, 115, 115]⟩, ⟨#[]⟩, ⟨#[50, 46, 53, 46, 52, 46, 49, 54]⟩],
  [⟨#[112, 111, 115, 116, 97, 108, 99, 111, 100, 101]⟩, ⟨#[]⟩, ⟨#[50, 46, 53, 46, 52, 46, 49, 55]⟩],
  [⟨#[112, 111, 115, 116, 111, 102, 102, 105, 99, 101, 98, 111, 120]⟩, ⟨#[]⟩, ⟨#[50, 46, 53, 46, 52, 46, 49, 56]⟩],
  [⟨#[112, 104, 121, 115, 105, 99, 97, 108, 100, 101, 108, 105, 118, 101, 114, 121, 111, 102, 102, 105, 99, 101, 110, 97, 109, 101]⟩, ⟨#[]⟩, ⟨#[50, 46, 53, 46, 52, 46, 49, 57]⟩],
  [⟨#[116, 101, 108, 101, 112, 104, 111, 110, 101, 110, 117, 109, 98, 101, 114]⟩, ⟨#[]⟩, ⟨#[50, 46, 53, 46, 52, 46, 50, 48]⟩],
  [⟨#[102, 97, 99, 115, 105, 109, 105, 108, 101, 116, 101, 108, 101, 112, 104, 111, 110, 101, 110, 117, 109, 98, 101, 114]⟩, ⟨#[102, 97, 120]⟩, ⟨#[50, 46, 53, 46, 52, 46, 50, 51]⟩],
  [⟨#[120, 49, 50, 49, 97, 100, 100, 114, 101, 115, 115]⟩, ⟨#[]⟩, ⟨#[50, 46, 53, 46, 52, 46, 50, 52]⟩],
  [⟨#[105, 110, 116, 101, 114, 110, 97, 116, 105, 111, 110, 97, 108, 105, 115, 100, 110, 110, 117, 109, 98, 101, 114]⟩, ⟨#[]⟩, ⟨#[50, 46, 53, 46, 52, 46, 50, 53]⟩],
  [⟨#[114, 101, 103, 105, 115, 116, 101, 114, 101, 100, 97, 100, 100, 114, 101, 115, 115]⟩, ⟨#[]⟩, ⟨#[50, 46, 53, 46, 52, 46, 50, 54]⟩],
  [⟨#[100, 101, 115, 116, 105, 110, 97, 116, 105, 111, 110, 105, 110, 100, 105, 99, 97, 116, 111, 114]⟩, ⟨#[]⟩, ⟨#[50, 46, 53, 46, 52, 46, 50, 55]⟩],
  [⟨#[109, 101, 109, 98, 101, 114]⟩, ⟨#[]⟩, ⟨#[50, 46, 53, 46, 52, 46, 51, 49]⟩],
  [⟨#[111, 119, 110, 101, 114]⟩, ⟨#[]⟩, ⟨#[50, 46, 53, 46, 52, 46, 51, 50]⟩],
  [⟨#[114, 111, 108, 101, 111, 99, 99, 117, 112, 97, 110, 116]⟩, ⟨#[]⟩, ⟨#[50, 46, 53, 46, 52, 46, 51, 51]⟩],
  [⟨#[115, 101, 101, 97, 108, 115, 111]⟩, ⟨#[]⟩, ⟨#[50, 46, 53, 46, 52, 46, 51, 52]⟩],
  [⟨#[117, 115, 101, 114, 112, 97, 115, 115, 119, 111, 114, 100]⟩, ⟨#[]⟩, ⟨#[50, 46, 53, 46, 52, 46, 51, 53]⟩],
  [⟨#[103, 105, 118, 101, 110, 110, 97, 109, 101]⟩, ⟨#[103, 110]⟩, ⟨#[50, 46, 53, 46, 52, 46, 52, 50]⟩],
  [⟨#[105, 110, 105, 116, 105, 97, 108, 115]⟩, ⟨#[]⟩, ⟨#[50, 46, 53, 46, 52, 46, 52, 51]⟩],
  [⟨#[103, 101, 110, 101, 114, 97, 116, 105, 111, 110, 113, 117, 97, 108, 105, 102, 105, 101, 114]⟩, ⟨#[]⟩, ⟨#[50, 46, 53, 46, 52, 46, 52, 52]⟩],
  [⟨#[100, 110, 113, 117, 97, 108, 105, 102, 105, 101, 114]⟩, ⟨#[]⟩, ⟨#[50, 46, 53, 46, 52, 46, 52, 54]⟩],
  [⟨#[104, 111, 117, 115, 101, 105, 100, 101, 110, 116, 105, 102, 105, 101, 114]⟩, ⟨#[]⟩, ⟨#[50, 46, 53, 46, 52, 46, 53, 49]⟩],
  [⟨#[99, 45, 108]⟩, ⟨#[]⟩, ⟨#[50, 46, 53, 46, 52, 46, 55, 46, 49]⟩],
  [⟨#[99, 45, 115, 116]⟩, ⟨#[]⟩, ⟨#[50, 46, 53, 46, 52, 46, 56, 46, 49]⟩],
  [⟨#[99, 45, 111]⟩, ⟨#[]⟩, ⟨#[50, 46, 53, 46, 52, 46, 49, 48, 46, 49]⟩],
  [⟨#[99, 45, 111, 117]⟩, ⟨#[]⟩, ⟨#[50, 46, 53, 46, 52, 46, 49, 49, 46, 49]⟩],
  [⟨#[117, 105, 100]⟩, ⟨#[117, 115, 101, 114, 105, 100]⟩, ⟨#[48, 46, 57, 46, 50, 51, 52, 50, 46, 49, 57, 50, 48, 48, 51, 48, 48, 46, 49, 48, 48, 46, 49, 46, 49]⟩],
  [⟨#[109, 97, 105, 108]⟩, ⟨#[114, 102, 99, 56, 50, 50, 109, 97, 105, 108, 98, 111, 120]⟩, ⟨#[48, 46, 57, 46, 50, 51, 52, 50, 46, 49, 57, 50, 48, 48, 51, 48, 48, 46, 49, 48, 48, 46, 49, 46, 51]⟩],
  [⟨#[114, 111, 111, 109, 110, 117, 109, 98, 101, 114]⟩, ⟨#[]⟩, ⟨#[48, 46, 57, 46, 50, 51, 52, 50, 46, 49, 57, 50, 48, 48, 51, 48, 48, 46, 49, 48, 48, 46, 49, 46, 54]⟩],
  [⟨#[109, 97, 110, 97, 103, 101, 114]⟩, ⟨#[]⟩, ⟨#[48, 46, 57, 46, 50, 51, 52, 50, 46, 49, 57, 50, 48, 48, 51, 48, 48, 46, 49, 48, 48, 46, 49, 46, 49, 48]⟩],
  [⟨#[104, 111, 109, 101, 112, 104, 111, 110, 101]⟩, ⟨#[104, 111, 109, 101, 116, 101, 108, 101, 112, 104, 111, 110, 101, 110, 117, 109, 98, 101, 114]⟩, ⟨#[48, 46, 57, 46, 50, 51, 52, 50, 46, 49, 57, 50, 48, 48, 51, 48, 48, 46, 49, 48, 48, 46, 49, 46, 50, 48]⟩],
  [⟨#[115, 101, 99, 114, 101, 116, 97, 114, 121]⟩, ⟨#[]⟩, ⟨#[48, 46, 57, 46, 50, 51, 52, 50, 46, 49, 57, 50, 48, 48, 51, 48, 48, 46, 49, 48, 48, 46, 49, 46, 50, 49]⟩],
  [⟨#[100, 99]⟩, ⟨#[100, 111, 109, 97, 105, 110, 99, 111, 109, 112, 111, 110, 101, 110, 116]⟩, ⟨#[48, 46, 57, 46, 50, 51, 52, 50, 46, 49, 57, 50, 48, 48, 51, 48, 48, 46, 49, 48, 48, 46, 49, 46, 50, 53]⟩],
  [⟨#[109, 111, 98, 105, 108, 101]⟩, ⟨#[109, 111, 98, 105, 108, 101, 116, 101, 108, 101, 112, 104, 111, 110, 101, 110, 117, 109, 98, 101, 114]⟩, ⟨#[48, 46, 57, 46, 50, 51, 52, 50, 46, 49, 57, 50, 48, 48, 51, 48, 48, 46, 49, 48, 48, 46, 49, 46, 52, 49]⟩],
  [⟨#[112, 97, 103, 101, 114]⟩, ⟨#[112, 97, 103, 101, 114, 116, 101, 108, 101, 112, 104, 111, 110, 101, 110, 117, 109, 98, 101, 114]⟩, ⟨#[48, 46, 57, 46, 50, 51, 52, 50, 46, 49, 57, 50, 48, 48, 51, 48, 48, 46, 49, 48, 48, 46, 49, 46, 52, 50]⟩],
  [⟨#[101, 109, 112, 108, 111, 121, 101, 101, 110, 117, 109, 98, 101, 114]⟩, ⟨#[]⟩, ⟨#[50, 46, 49, 54, 46, 56, 52, 48, 46, 49, 46, 49, 49, 51, 55, 51, 48, 46, 51, 46, 49, 46, 51]⟩],
  [⟨#[100, 105, 115, 112, 108, 97, 121, 110, 97, 109, 101]⟩, ⟨#[]⟩, ⟨#[50, 46, 49, 54, 46, 56, 52, 48, 46, 49, 46, 49, 49, 51, 55, 51, 48, 46, 51, 46, 49, 46, 50, 52, 49]⟩],
  [⟨#[117, 105, 100, 110, 117, 109, 98, 101, 114]⟩, ⟨#[]⟩, ⟨#[49, 46, 51, 46, 54, 46, 49, 46, 49, 46, 49, 46, 49, 46, 48]⟩],
  [⟨#[103, 105, 100, 110, 117, 109, 98, 101, 114]⟩, ⟨#[]⟩, ⟨#[49, 46, 51, 46, 54, 46, 49, 46, 49, 46, 49, 46, 49, 46, 49]⟩],
  [⟨#[104, 111, 109, 101, 100, 105, 114, 101, 99, 116, 111, 114, 121]⟩, ⟨#[]⟩, ⟨#[49, 46, 51, 46, 54, 46, 49, 46, 49, 46, 49, 46, 49, 46, 51]⟩],
  [⟨#[108, 111, 103, 105, 110, 115, 104, 101, 108, 108]⟩, ⟨#[]⟩, ⟨#[49, 46, 51, 46, 54, 46, 49, 46, 49, 46, 49, 46, 49, 46, 52]⟩],
  [⟨#[108, 97, 98, 101, 108, 101, 100, 117, 114, 105]⟩, ⟨#[]⟩, ⟨#[49, 46, 51, 46, 54, 46, 49, 46, 52, 46, 49, 46, 50, 53, 48, 46, 49, 46, 53, 55]⟩],
  [⟨#[99, 114, 101, 97, 116, 101, 116, 105, 109, 101, 115, 116, 97, 109, 112]⟩, ⟨#[]⟩, ⟨#[50, 46, 53, 46, 49, 56, 46, 49]⟩],
  [⟨#[109, 111, 100, 105, 102, 121, 116, 105, 109, 101, 115, 116, 97, 109, 112]⟩, ⟨#[]⟩, ⟨#[50, 46, 53, 46, 49, 56, 46, 50]⟩],
  [⟨#[99, 114, 101, 97, 116, 111, 114, 115, 110, 97, 109, 101]⟩, ⟨#[]⟩, ⟨#[50, 46, 53, 46, 49, 56, 46, 51]⟩],
  [⟨#[109, 111, 100, 105, 102, 105, 101, 114, 115, 110, 97, 109, 101]⟩, ⟨#[]⟩, ⟨#[50, 46, 53, 46, 49, 56, 46, 52]⟩],
  [⟨#[104, 97, 115, 115, 117, 98, 111, 114, 100, 105, 110, 97, 116, 101, 115]⟩, ⟨#[]⟩, ⟨#[50, 46, 53, 46, 49, 56, 46, 57]⟩],
  [⟨#[120, 53, 48, 48, 117, 110, 105, 113, 117, 101, 105, 100, 101, 110, 116, 105, 102, 105, 101, 114]⟩, ⟨#[]⟩, ⟨#[50, 46, 53, 46, 52, 46, 52, 53]⟩]
  ]
def namesF : List ByteArray := namesL.flatten
def namesC : Array Value := (namesF.map Value.string).toArray

/-- A row of builds, one behind the other. -/
def buildsRun (P : Program) : List Oper → Act → Option Act
  | [], a => some a
  | o :: r, a => match o.guard, o.op with
    | none, .build t parts => match P.built t (parts.map fun (i, x) => (i, a.eval x)).toList with
      | some cells => buildsRun P r (a.put o.dst (.agg cells))
      | none => none
    | _, _ => none
theorem wpList_builds {P : Program} {ops : Array Oper} {Q : Exit → Act → World → Prop} {rest : List Oper} {w : World} : ∀ (l : List Oper) (a a' : Act), buildsRun P l a = some a' → wpList P ops Q rest a' w → wpList P ops Q (l ++ rest) a w := by
  intro l
  induction l with
  | nil => intro a a' h k; cases h; exact k
  | cons o r ih =>
    intro a a' h k
    simp only [buildsRun] at h
    split at h
    · rename_i t parts hg ho
      split at h
      · rename_i cells hc
        refine wpList_build hg t parts ho (by rw [hc]; rfl) ?_
        rw [hc]
        exact ih _ _ h k
      · cases h
    · cases h

theorem wp_region_builds {P : Program} {id : Nat} {ops : Array Oper} {Q : Exit → Act → World → Prop} {a : Act} {w : World} (n : Nat) (h : (buildsRun P (ops.toList.take n) a).isSome = true)
    (k : ∀ a', buildsRun P (ops.toList.take n) a = some a' → wpList P ops Q (ops.toList.drop n) a' w) : (Code.region id ops false).wp P Q a w := by
  refine wp_region_list ?_
  obtain ⟨a', ha⟩ := Option.isSome_iff_exists.1 h
  have := wpList_builds (Q := Q) (ops := ops) (rest := ops.toList.drop n) (w := w) _ a a' ha (k a' ha)
  rwa [List.take_append_drop] at this
theorem Kp.setRow {S : Nat → Prop} {w w1 : World} (h : Kp S w w1) (g : Nat) (cs : Array Value) (hp : g < w.heap.size → S g) : Kp S w (w1.setRow g cs) :=
  h.trans' (S' := One g) ⟨rfl, rfl, rfl, by simp [World.setRow], fun k _ hn => setRow_other _ _ _ _ hn⟩ (fun i hi q => by have e : i = g := q; subst e; exact hp hi)
theorem of_builds {α : Type} {P : Program} {l : List Oper} {a a' : Act} (h : buildsRun P l a = some a') (f : Act → α) (v : α) (hv : (buildsRun P l a).map f = some v) : f a' = v := by
  rw [h] at hv
  exact Option.some.inj hv
theorem eval_builds {P : Program} {l : List Oper} {a a' : Act} (h : buildsRun P l a = some a') (x : Operand) (v : Value) (hv : (buildsRun P l a).map (fun b => b.eval x) = some v) : a'.eval x = v := by
  rw [h] at hv
  exact Option.some.inj hv

set_option maxHeartbeats 4000000 in
set_option maxRecDepth 1000000 in
theorem names_any (w : World) :
    Calls Tryd.prog 52 #[] w fun e w' => e = .returned (.agg namesC) ∧ Kp No w w' := by
  go_enter Tryd.func52, Tryd.ntmps52
  go_upto_region 1 with (fail)
  refine wp_region_builds 63 (by as_aux_lemma => kernel_rfl) (fun a' ha => ?_)
  refine wpList_store_row (rest := []) rfl 83 (.tmp 0) (.tmp 63) rfl w.heap.size namesC (eval_builds ha _ _ (by as_aux_lemma => kernel_rfl)) (eval_builds ha _ _ (by as_aux_lemma => kernel_rfl)) 83 Tryd.zeroCells83 (blk_new w _) (by as_aux_lemma => kernel_rfl) (by as_aux_lemma => kernel_rfl) (by as_aux_lemma => kernel_rfl) ?_
  have hp : (a'.put none undef).tmps.getD 0 undef = .pointer (some ⟨w.heap.size, 0, none⟩) := eval_builds ha (.tmp 0) _ (by as_aux_lemma => kernel_rfl)
  have hdf : (a'.put none undef).defers = [] := of_builds ha (fun b => b.defers) _ (by as_aux_lemma => kernel_rfl)
  clear ha
  generalize a'.put none undef = A at hp hdf
  go_wp2
  exact bodyPost_ret (results_cell_row rfl A.tmps _ w.heap.size 83 namesC (0, 0) _ hp (setRow_heap _ _ _ _ _ _ (blk_new w _)) Tryd.underlying83 rfl (by as_aux_lemma => kernel_rfl)) hdf ⟨rfl, ((Kp.refl No w).alloc _).setRow _ _ (fun q => absurd q (Nat.lt_irrefl _))⟩

theorem namesF_len : namesF.length = 186 := by decide +kernel
/-- A block that holds the table of names. -/
def NamesAt (w : World) (g : Nat) : Prop := w.heap[g]? = some (.cells namesC 83 (0, 0))
theorem NamesAt.cell {w : World} {g : Nat} (h : NamesAt w g) (j : Nat) (hj : j < 186) : ∃ y, w.cell? ⟨g, j, none⟩ = some (.string y) := by
  rw [blk_cell h j]
  have hl : j < namesF.length := by rw [namesF_len]; exact hj
  refine ⟨namesF[j], ?_⟩
  unfold namesC
  simp [List.getElem?_eq_getElem hl]

set_option maxHeartbeats 4000000 in
set_option maxRecDepth 1000000 in
theorem rowx_any (s : ByteArray) (w : World) (hl : s.size ≤ LIM) :
    Calls Tryd.prog 51 #[.string s] w fun e w' => ∃ i : Int, e = .returned (.int .i64 i) ∧ -1 ≤ i ∧ i < 62 ∧ Kp No w w' := by
  go_enter Tryd.func51, Tryd.ntmps51
  go_wp2_with (fail)
  refine (rfold_any s _ hl).mono ?_
  rintro e w1 ⟨rfl, hk1⟩
  go_wp2_with (fail)
  refine (names_any _).mono ?_
  rintro e w2 ⟨rfl, hk2⟩
  go_wp2_with (refine wpList_store_row rfl 83 (.tmp 4) (.tmp 8) rfl w2.heap.size namesC rfl rfl 83 Tryd.zeroCells83 (blk_new w2 _) (by as_aux_lemma => kernel_rfl) (by as_aux_lemma => kernel_rfl) (by as_aux_lemma => kernel_rfl) ?_)
  have hN : NamesAt ((w2.alloc (.cells Tryd.zeroCells83 83)).setRow w2.heap.size namesC) w2.heap.size := setRow_heap _ _ _ _ _ _ (blk_new w2 _)
  have hk3 : Kp No w ((w2.alloc (.cells Tryd.zeroCells83 83)).setRow w2.heap.size namesC) := ((hk1.trans hk2).alloc _).setRow _ _ (fun q => by have := (hk1.trans hk2).size; omega)
  generalize (w2.alloc (.cells Tryd.zeroCells83 83)).setRow w2.heap.size namesC = w3 at hN hk3
  go_loop [5] (fun q => ∃ k : Nat, k ≤ 62 ∧ q = .int .i64 k) (fun q => 62 - (intOf q).toNat)
  case atStart => exact ⟨0, Nat.zero_le _, rfl⟩
  case round =>
    obtain ⟨k, hk, rfl⟩ := hrel
    by_cases hlt : k < 62
    · obtain ⟨y0, c0⟩ := hN.cell (k * 3) (by omega)
      obtain ⟨y1, c1⟩ := hN.cell (k * 3 + 1) (by omega)
      obtain ⟨y2, c2⟩ := hN.cell (k * 3 + 2) (by omega)
      go_wp2
      all_goals
        first
        | (go_ret
           exact ⟨_, rfl, by omega, by omega, hk3⟩)
        | (refine ⟨⟨k + 1, by omega, by go_num⟩, by simp [intOf]; omega⟩)
    · obtain rfl : k = 62 := by omega
      go_wp2
      go_ret
      exact ⟨_, rfl, by omega, by omega, hk3⟩

set_option maxHeartbeats 4000000 in
set_option maxRecDepth 1000000 in
theorem canonx_any (s : ByteArray) (w : World) (hl : s.size ≤ LIM) :
    Calls Tryd.prog 34 #[.string s] w fun e w' => ∃ y, e = .returned (.string y) ∧ Kp No w w' := by
  go_enter Tryd.func34, Tryd.ntmps34
  go_wp2_with (fail)
  refine (rowx_any s _ hl).mono ?_
  rintro e w1 ⟨i, rfl, h1, h2, hk1⟩
  by_cases h0 : i < 0
  · go_wp2_with (fail)
    refine (rfold_any s _ hl).mono ?_
    rintro e w2 ⟨rfl, hk2⟩
    go_wp2
    go_ret
    exact ⟨_, rfl, hk1.trans hk2⟩
  · obtain ⟨k, rfl⟩ := Int.eq_ofNat_of_zero_le (show 0 ≤ i by omega)
    clear h0 h1
    go_wp2_with (fail)
    refine (names_any _).mono ?_
    rintro e w2 ⟨rfl, hk2⟩
    have hN : NamesAt ((w2.alloc (.cells Tryd.zeroCells83 83)).setRow w2.heap.size namesC) w2.heap.size := setRow_heap _ _ _ _ _ _ (blk_new w2 _)
    have hk3 : Kp No w ((w2.alloc (.cells Tryd.zeroCells83 83)).setRow w2.heap.size namesC) := ((hk1.trans hk2).alloc _).setRow _ _ (fun q => by have := (hk1.trans hk2).size; omega)
    obtain ⟨w3, hw3⟩ : ∃ w3, (w2.alloc (.cells Tryd.zeroCells83 83)).setRow w2.heap.size namesC = w3 := ⟨_, rfl⟩
    rw [hw3] at hN hk3
    have HW := hd hw3
    clear hw3
    obtain ⟨y0, c0⟩ := hN.cell (k * 3) (by omega)
    go_wp2_with (refine wpList_store_row rfl 83 (.tmp 4) (.tmp 11) rfl w2.heap.size namesC rfl rfl 83 Tryd.zeroCells83 (blk_new w2 _) (by as_aux_lemma => kernel_rfl) (by as_aux_lemma => kernel_rfl) (by as_aux_lemma => kernel_rfl) ?_; rw [HW.out])
    go_ret
    exact ⟨_, rfl, hk3⟩
end Go.Proofs.YtieolphpgjpcmaaDoor

namespace Go.Proofs.YtieolphpgjpcmaaDoor
open Go.RowKit Go.Proofs.YtieolphpgjpcmaaDoorW.PrintWords

def descE (s : ByteArray) : Int := if isDescB s = true then 0 else 40
def descP (s : ByteArray) : Int := if isDescB s = true then s.size else placeS s false
def typeE (s : ByteArray) : Int := if isTypeB s = true then 0 else 40
def typeP (s : ByteArray) : Int := if isTypeB s = true then s.size else placeS s true

set_option maxHeartbeats 4000000 in
set_option maxRecDepth 100000 in
theorem r4type_any (s : ByteArray) (w : World) (hl : s.size + 2 ≤ LIM) :
    Calls Tryd.prog 38 #[.string s] w fun e w' => ∃ y, e = .returned (.tuple #[.string y, .int .i64 (typeE s), .int .i64 (typeP s)]) ∧ Kp No w w' := by
  have hl1 : s.size ≤ LIM := by omega
  by_cases h : isTypeB s = true
  · have e1 : typeE s = 0 := by unfold typeE; rw [if_pos h]
    have e2 : typeP s = s.size := by unfold typeP; rw [if_pos h]
    rw [e1, e2]
    have H := hd h
    clear e1 e2 h
    go_enter Tryd.func38, Tryd.ntmps38
    go_wp2_with (fail)
    refine (istype_any s _ hl1).mono ?_
    rintro e w1 ⟨rfl, hk1⟩
    rw [H.out]
    go_wp2_with (fail)
    refine (canonx_any s _ hl1).mono ?_
    rintro e w2 ⟨y, rfl, hk2⟩
    go_wp2
    go_ret3
    exact ⟨_, rfl, hk1.trans hk2⟩
  · have e1 : typeE s = 40 := by unfold typeE; rw [if_neg h]
    have e2 : typeP s = placeS s true := by unfold typeP; rw [if_neg h]
    rw [e1, e2]
    have H := hd (Bool.eq_false_iff.2 h)
    clear e1 e2 h
    go_enter Tryd.func38, Tryd.ntmps38
    go_wp2_with (fail)
    refine (istype_any s _ hl1).mono ?_
    rintro e w1 ⟨rfl, hk1⟩
    rw [H.out]
    go_wp2_with (fail)
    refine (place_any s true _ hl).mono ?_
    rintro e w2 ⟨rfl, hk2⟩
    go_wp2
    go_ret3
    exact ⟨_, rfl, hk1.trans hk2⟩

set_option maxHeartbeats 4000000 in
set_option maxRecDepth 100000 in
theorem r4parse_no (s : ByteArray) (w : World) (hl : s.size + 2 ≤ LIM) (h : isDescB s = false) :
    Calls Tryd.prog 20 #[.string s] w fun e w' => ∃ x A m c, e = .returned (.tuple #[.agg #[.string x, .slice A m c], .int .i64 40, .int .i64 (placeS s false)]) ∧ Kp No w w' := by
  have hl1 : s.size ≤ LIM := by omega
  have H := hd h
  clear h
  go_enter Tryd.func20, Tryd.ntmps20
  go_wp2_with (fail)
  refine (isdesc_any s _ hl1).mono ?_
  rintro e w1 ⟨rfl, hk1⟩
  rw [H.out]
  go_wp2_with (fail)
  refine (place_any s false _ hl).mono ?_
  rintro e w2 ⟨rfl, hk2⟩
  have hB := hd (((Blk.new w _ 52).kp hk1 (fun q => q)).kp hk2 (fun q => q))
  have c0 := hB.out.c 0 rfl
  have c1 := hB.out.c 1 rfl
  have f0 := hB.out.f 0
  have f1 := hB.out.f 1
  go_wp2
  exact bodyPost_ret (results_ctt rfl _ _ w.heap.size 52 _ (0, 0) _ rfl ((hB.out.set 0 _).set 1 _) Tryd.underlying52 rfl (by kernel_rfl)) rfl ⟨_, _, _, _, rfl, (((((Kp.refl No w).alloc _).trans hk1).trans hk2).setCell (fun q => absurd q (Nat.lt_irrefl _)) _).setCell (fun q => absurd q (Nat.lt_irrefl _)) _⟩

set_option maxHeartbeats 4000000 in
set_option maxRecDepth 100000 in
theorem r4parse_yes (s : ByteArray) (w : World) (hl : s.size + 2 ≤ LIM) (h : isDescB s = true) :
    Calls Tryd.prog 20 #[.string s] w fun e w' => ∃ x A m c, e = .returned (.tuple #[.agg #[.string x, .slice A m c], .int .i64 0, .int .i64 s.size]) ∧ Kp No w w' := by
  have hl1 : s.size ≤ LIM := by omega
  have H := hd h
  clear h
  obtain ⟨l, hL⟩ : ∃ l, partsS s 59 = l := ⟨_, rfl⟩
  have hp := partsS_pos s 59
  have cP := hd (fun W => parts_any s 59 W hl1)
  have hz := fun k => partsS_size s 59 k
  rw [hL] at cP hp hz
  clear hL
  have HZ := hd hz
  have hz0 : (l.getD 0 ⟨#[]⟩).size ≤ LIM := Nat.le_trans (hz 0) hl1
  clear hz
  go_enter Tryd.func20, Tryd.ntmps20
  go_wp2_with (fail)
  refine (isdesc_any s _ hl1).mono ?_
  rintro e w1 ⟨rfl, hk1⟩
  rw [H.out]
  go_wp2_with (fail)
  refine (cP.out _).mono ?_
  rintro e w2 ⟨v, rfl, hs, hk2⟩
  obtain ⟨b, cap, rfl, hbb, hbl, hc⟩ := hs.form hp.1
  have hB := hd (((Blk.new w _ 52).kp hk1 (fun q => q)).kp hk2 (fun q => q))
  have hK := hd ((((Kp.refl No w).alloc _).trans hk1).trans hk2)
  have HC := hd hc
  have hc0 := hc 0 hp.1
  have z1 : 0 < l.length := hp.1
  have hlp : 1 ≤ l.length := hp.1
  clear hc hs hk1 hk2
  have HL := hd (show l.length ≤ s.size + 2 from hp.2)
  clear hp
  generalize l.getD 0 ⟨#[]⟩ = x0 at hc0 hz0
  go_wp2_with (fail)
  refine (canonx_any x0 _ hz0).mono ?_
  rintro e w3 ⟨y, rfl, hk3⟩
  have hB2 := hd (((hB.out.alloc _).kp hk3 (fun q => q)))
  have hD := hd ((Blk.new w2 _ 52).kp hk3 (fun q => q))
  have c0 := hD.out.c 0 rfl
  have f0 := hD.out.f 0
  have hK2 := hd ((hK.out.alloc _).trans hk3)
  have HC2 := hd (fun j hj => hk3.cell (p := ⟨b, j, none⟩) (((World.cell?_alloc_old _ _ _ (show (⟨b, j, none⟩ : Addr).block ≠ w2.heap.size from Nat.ne_of_lt hbl)).trans (HC.out j hj))) (fun q => q))
  go_wp2
  obtain ⟨w4, hw4⟩ : ∃ w4, w3.setCell ⟨w2.heap.size, 0, none⟩ (.string y) = w4 := ⟨_, rfl⟩
  rw [hw4]
  have hBD : w.heap.size ≠ w2.heap.size := by have := hB.out.lt; omega
  have hbD : b ≠ w2.heap.size := Nat.ne_of_lt hbl
  have hBD' := hd hBD
  have hBDl := hd (show w.heap.size < w2.heap.size from hB.out.lt)
  have hB4 : Hid (Blk w4 w.heap.size _ 52) := hd (by rw [← hw4]; exact hB2.out.far (p := ⟨w2.heap.size, 0, none⟩) hBD _)
  have hD4 : Hid (Blk w4 w2.heap.size #[.string y, .slice none 0 0] 52) := hd (by rw [← hw4]; exact hD.out.set 0 _)
  have hK4 : Hid (Kp No w w4) := hd (by rw [← hw4]; exact hK2.out.setCell (p := ⟨w2.heap.size, 0, none⟩) (fun q => absurd q (by have := hB.out.lt; simp only; omega)) _)
  have hC4 : Hid (∀ j, j < l.length → w4.cell? ⟨b, j, none⟩ = some (.string (l.getD j ⟨#[]⟩))) := hd (fun j hj => by rw [← hw4, World.cell?_setCell_other _ _ _ _ (fun q => hbD (by injection q with q1; exact q1.symm))]; exact HC2.out j hj)
  clear hw4 hB2 hD hK2 HC2 hBD c0 f0 hc0 hz0 cP hB hK HC z1
  go_loopw [8, 9] (fun v q wr => ∃ (k : Nat) (o : List ByteArray), k ≤ l.length ∧ q = .int .i64 k ∧ Hid (o.length ≤ k) ∧ Strs wr w4.heap.size v o ∧ Below w4.heap.size w4 wr) (fun _ q _ => l.length - (intOf q).toNat)
  case atStart => exact ⟨1, [], hlp, rfl, hd (by simp), Strs.nil _ _, Below.refl _ _⟩
  case round =>
    obtain ⟨k, o, hk, rfl, ho, hs, hb⟩ := hrel
    have hlm : l.length ≤ 4194304 := by have := HL.out; unfold LIM at hl; omega
    by_cases hlt : k < l.length
    · have hck := (hb.cell (World.block_lt_of_cell? _ _ (hC4.out k hlt))).trans (hC4.out k hlt)
      have hzk := Nat.le_trans (HZ.out k) hl1
      generalize l.getD k ⟨#[]⟩ = x1 at hck hzk
      go_wp2_with (fail)
      refine (rfold_any x1 _ hzk).mono ?_
      rintro e w5 ⟨rfl, hk5⟩
      have hs5 := hs.kp hk5 (fun _ _ q => q)
      have hb5 : Below w4.heap.size w4 w5 := hb.trans (hk5.below hb.size (fun _ _ q => q))
      clear hs hb
      go_wp2_with (at_builtin; refine print_append_of (w0 := w4) Value.string w4.heap.size rfl _ _ 45 9 (.string ⟨#[]⟩) 16 rfl Tryd.underlying45 infoStr (by rfl) (by decide) u8 o (foldS x1) rfl rfl rfl hs5 hb5 hb5.size (by have := ho.out; omega) ?_; intro v1 w6 ho1 hb1 hg1 hat1; clear hg1 hat1)
      go_roundw
      case rel => exact ⟨k + 1, o ++ [foldS x1], by omega, by go_num, hd (by have := ho.out; simp; omega), ho1, hb1⟩
      case measure => simp [intOf]; omega
    · obtain rfl : k = l.length := by omega
      obtain ⟨A3, c3, rfl, hr3⟩ := RdS.of hs
      go_wp2_with (fail)
      refine (sorted_any o.length o A3 c3 wr (Nat.le_refl _) (by have := ho.out; unfold LIM; omega) hr3).mono ?_
      rintro e w5 ⟨A5, c5, l5, rfl, hr5, hz5, hk5⟩
      have hk45 : Kp No w4 w5 := (Kp.ofBelow hb No).trans hk5
      have hD5 := hd (hD4.out.kp hk45 (fun q => q))
      have hB5 := hd (hB4.out.kp hk45 (fun q => q))
      have c0 := hD5.out.c 0 rfl
      have c1 := hD5.out.c 1 rfl
      have f1 := hD5.out.f 1
      have e0 := hB5.out.c 0 rfl
      have e1 := hB5.out.c 1 rfl
      have g0 := hB5.out.f 0
      have g1 := hB5.out.f 1
      have n1 : (w2.heap.size = w.heap.size) = False := eq_false (by have := hBD'.out; omega)
      have n2 : (w.heap.size = w2.heap.size) = False := eq_false (by have := hBD'.out; omega)
      go_wp2
      exact bodyPost_ret (results_ctt rfl _ _ w.heap.size 52 _ (0, 0) _ rfl (((hB5.out.far (p := ⟨w2.heap.size, 1, none⟩) hBD'.out _).set 0 _).set 1 _) Tryd.underlying52 rfl (by kernel_rfl)) rfl ⟨_, _, _, _, rfl, (((hK4.out.trans hk45).setCell (p := ⟨w2.heap.size, 1, none⟩) (fun q => absurd q (by have := hBDl.out; simp only; omega)) _).setCell (fun q => absurd q (Nat.lt_irrefl _)) _).setCell (fun q => absurd q (Nat.lt_irrefl _)) _⟩

theorem r4parse_any (s : ByteArray) (w : World) (hl : s.size + 2 ≤ LIM) :
    Calls Tryd.prog 20 #[.string s] w fun e w' => ∃ x A m c, e = .returned (.tuple #[.agg #[.string x, .slice A m c], .int .i64 (descE s), .int .i64 (descP s)]) ∧ Kp No w w' := by
  unfold descE descP
  by_cases h : isDescB s = true
  · rw [if_pos h, if_pos h]; exact r4parse_yes s w hl h
  · rw [if_neg h, if_neg h]; exact r4parse_no s w hl (Bool.eq_false_iff.2 h)
end Go.Proofs.YtieolphpgjpcmaaDoor
