/- attr: scan, canonical, ParseType. -/
import Derived.Test.YtieolphpgjpcmaaDoorMFAttrB
import Derived.Test.YtieolphpgjpcmaaDoorM11
import Derived.Test.YtieolphpgjpcmaaDoorMFAttrR
import Derived.Test.YtieolphpgjpcmaaDoorM03
import Derived.Deep.LoopGhost

namespace Go.Proofs.YtieolphpgjpcmaaDoor
open Go.RowKit Go.Proofs.YtieolphpgjpcmaaDoorW.PrintWords

theorem nextA_bare {bare : Bool} {a p : Nat} {c : Int} (h : ¬ (bare = true ∧ c = 59)) : nextA bare a p c = nextA false a p c := by
  cases bare
  · rfl
  · have hc : c ≠ 59 := fun q => h ⟨rfl, q⟩
    simp [nextA, hc]
theorem nextA_p {a p a' p' : Nat} {c : Int} {bare : Bool} (h : nextA bare a p c = some (a', p')) : a' ≤ 6 ∧ p' ≤ p + 1 := by
  refine ⟨(nextA_inv h).1, ?_⟩
  unfold nextA at h
  repeat' split at h
  all_goals first | (simp only [Option.some.injEq, Prod.mk.injEq] at h; omega) | cases h

set_option maxHeartbeats 4000000 in
set_option maxRecDepth 100000 in
theorem ascan_core (s : ByteArray) (bare : Bool) (w : World) (hl : s.size ≤ LIM) (R : Bool × Int) (hR : scanS s bare = R) :
    Calls Tryd.prog 40 #[.string s, .bool bare] w fun e w' => e = .returned (.tuple #[.bool R.1, .int .i64 R.2]) ∧ Kp No w w' := by
  unfold LIM at hl
  have HR := hd hR
  clear hR
  go_enter Tryd.func40, Tryd.ntmps40
  go_wp2
  go_loopg [11] (s.size + 1) (fun kq q wr => ∃ (k a p : Nat), q = .int .i64 k ∧ k ≤ s.size ∧ a ≤ 6 ∧ p ≤ k ∧ Hid (s.size - k < kq) ∧ Hid (scanF s bare kq k a p = R) ∧ Hid (RdA wr w.heap.size a p) ∧ Hid (Kp No w wr))
  case atStart => exact ⟨0, 0, 0, rfl, Nat.zero_le _, Nat.zero_le _, Nat.le_refl _, hd (by omega), HR, hd (Blk.new _ _ _), hd ((Kp.refl _ _).alloc _)⟩
  case round =>
    clear HR
    obtain ⟨k, a, p, rfl, hk, ha, hp, HF, HS, HB, HK⟩ := hrel
    cases gk with
    | zero => exact absurd HF.out (by omega)
    | succ k1 =>
      have hS := HS.out
      simp only [scanF] at hS
      by_cases hlt : k < s.size
      · rw [if_pos (by omega)] at hS
        have hx := bt_at s k
        have hb := bt_range s k
        simp only [Int.toNat_natCast] at hx
        obtain ⟨c, hc⟩ : ∃ c, bt s k = c := ⟨_, rfl⟩
        rw [hc] at hx hb hS
        have HC := hd hc
        clear hc
        by_cases hbc : bare = true ∧ c = 59
        · obtain ⟨rfl, rfl⟩ := hbc
          have hS2 : (false, (k : Int)) = R := by rw [← hS]; simp [nextA]
          subst hS2
          clear hS
          go_wp2
          go_ret2
          exact ⟨rfl, HK.out⟩
        · have hnb := hd (nextA_bare (a := a) (p := p) hbc)
          rw [hnb.out] at hS
          have h59 : (bare && c == 59) = false := by cases bare <;> simp_all
          obtain ⟨N, hN⟩ : ∃ N, nextA false a p c = N := ⟨_, rfl⟩
          rw [hN] at hS
          have cN := hd (anext_any w.heap.size a p c wr N (hd hN) HB.out hb ha (by unfold LIM; omega))
          have HN := hd hN
          clear hN hnb
          cases N with
          | none =>
            have hS2 := hd (show (false, (k : Int)) = R from hS)
            clear hS
            cases bare
            · clear hbc h59
              go_wp2_with (fail)
              refine cN.out.mono ?_
              rintro e w1 ⟨hk1, rfl, hB1⟩
              have HK1 := hd hk1
              clear hk1 hB1
              go_wp2
              go_ret2
              obtain rfl := hS2.out
              exact ⟨rfl, HK.out.trans' HK1.out (fun i hi q => by have q' : i = w.heap.size := q; omega)⟩
            · have n59 : (c == 59) = false := by simpa using h59
              clear hbc h59
              go_wp2_with (fail)
              refine cN.out.mono ?_
              rintro e w1 ⟨hk1, rfl, hB1⟩
              have HK1 := hd hk1
              clear hk1 hB1
              go_wp2
              go_ret2
              obtain rfl := hS2.out
              exact ⟨rfl, HK.out.trans' HK1.out (fun i hi q => by have q' : i = w.heap.size := q; omega)⟩
          | some ap =>
            obtain ⟨a', p'⟩ := ap
            have hS2 := hd (show scanF s bare k1 ((k : Int) + 1) a' p' = R from hS)
            have hi := nextA_p HN.out
            clear hS
            cases bare
            · clear hbc h59
              go_wp2_with (fail)
              refine cN.out.mono ?_
              rintro e w1 ⟨hk1, rfl, hB1⟩
              have HK1 := hd hk1
              have HB1 := hd hB1
              clear hk1 hB1
              go_wp2
              go_roundg k1
              case measure => omega
              case rel => exact ⟨k + 1, a', p', by go_num, by omega, by omega, by omega, hd (by have := HF.out; omega), hd (by have := hS2.out; simpa using this), HB1, hd (HK.out.trans' HK1.out (fun i hi q => by have q' : i = w.heap.size := q; omega))⟩
            · have n59 : (c == 59) = false := by simpa using h59
              clear hbc h59
              go_wp2_with (fail)
              refine cN.out.mono ?_
              rintro e w1 ⟨hk1, rfl, hB1⟩
              have HK1 := hd hk1
              have HB1 := hd hB1
              clear hk1 hB1
              go_wp2
              go_roundg k1
              case measure => omega
              case rel => exact ⟨k + 1, a', p', by go_num, by omega, by omega, by omega, hd (by have := HF.out; omega), hd (by have := hS2.out; simpa using this), HB1, hd (HK.out.trans' HK1.out (fun i hi q => by have q' : i = w.heap.size := q; omega))⟩
      · obtain rfl : k = s.size := by omega
        rw [if_neg (by omega)] at hS
        have hS2 := hd hS
        clear hS
        have c0 : wr.cell? ⟨w.heap.size, 0, none⟩ = some (.int .i64 a) := Blk.c HB.out 0 rfl
        have c1 : wr.cell? ⟨w.heap.size, 1, none⟩ = some (.int .i64 p) := Blk.c HB.out 1 rfl
        go_wp2_with (fail)
        refine (awhole_any a p _ ha).mono ?_
        rintro e w1 ⟨rfl, hk1⟩
        have HK1 := hd hk1
        clear hk1
        go_wp2
        go_ret2
        obtain rfl := hS2.out
        exact ⟨rfl, HK.out.trans HK1.out⟩
theorem ascan_any (s : ByteArray) (bare : Bool) (w : World) (hl : s.size ≤ LIM) :
    Calls Tryd.prog 40 #[.string s, .bool bare] w fun e w' => e = .returned (.tuple #[.bool (isXB s bare), .int .i64 (if isXB s bare = true then (s.size : Int) else placeS s bare)]) ∧ Kp No w w' := by
  have h := ascan_core s bare w hl _ (scanS_eq s bare)
  exact h

set_option maxHeartbeats 4000000 in
set_option maxRecDepth 100000 in
theorem acanon_any (t : ByteArray) (w : World) (hl : t.size ≤ LIM) :
    Calls Tryd.prog 43 #[.string t] w fun e w' => e = .returned (.string (canonS t)) ∧ Kp No w w' := by
  obtain ⟨R, hR⟩ : ∃ R, canonS t = R := ⟨_, rfl⟩
  rw [hR]
  unfold canonS at hR
  have cF := hd (tfold_any t w hl)
  obtain ⟨f, hf⟩ : ∃ f, foldS t = f := ⟨_, rfl⟩
  rw [hf] at cF hR
  have cN := hd (fun W => abyname_any f W)
  clear hf hl
  cases hn : byNameS f with
  | none =>
    rw [hn] at hR cN
    obtain rfl : f = R := hR
    clear hn
    go_enter Tryd.func43, Tryd.ntmps43
    go_wp2_with (fail)
    refine cF.out.mono ?_
    rintro e w1 ⟨rfl, hk1⟩
    have HK1 := hd hk1
    clear hk1
    go_wp2_with (fail)
    refine (cN.out _).mono ?_
    rintro e w2 ⟨rfl, rfl⟩
    simp only [hasRow]
    go_wp2
    go_ret
    exact ⟨rfl, HK1.out⟩
  | some k =>
    have hk := byNameS_lt f k hn
    rw [hn] at hR cN
    have HR := hd (show nameB k = R from hR)
    have cR := hd (fun W => arows_any k W hk)
    clear hn hR hk
    go_enter Tryd.func43, Tryd.ntmps43
    go_wp2_with (fail)
    refine cF.out.mono ?_
    rintro e w1 ⟨rfl, hk1⟩
    have HK1 := hd hk1
    clear hk1
    go_wp2_with (fail)
    refine (cN.out _).mono ?_
    rintro e w2 ⟨rfl, rfl⟩
    simp only [hasRow, Option.getD_some]
    go_wp2_with (fail)
    refine (cR.out _).mono ?_
    rintro e w3 ⟨nm, A, n, c, oid, sup, syn, us, rfl, hnm, hk3⟩
    have HK3 := hd hk3
    have HNM := hd hnm
    clear hk3 hnm
    have hfl : ∀ W, (Instr.field 97 (.agg #[.string nm, .slice A n c, .string oid, .string sup, .int .i64 syn, .int .i64 us]) 0).run Tryd.prog W = .ok (.string nm) W := fun _ => by kernel_rfl
    go_wp2
    go_ret
    exact ⟨by rw [← HR.out, ← HNM.out]; rfl, HK1.out.trans HK3.out⟩

set_option maxHeartbeats 4000000 in
set_option maxRecDepth 100000 in
theorem aptype_any (s : ByteArray) (w : World) (hl : s.size ≤ LIM) :
    Calls Tryd.prog 47 #[.string s] w fun e w' => ∃ y, e = .returned (.tuple #[.string y, .int .i64 (typeE s), .int .i64 (typeP s)]) ∧ (isTypeB s = true → y = canonS s) ∧ (isTypeB s = false → y = ⟨#[]⟩) ∧ Kp No w w' := by
  have cS := hd (ascan_any s true w hl)
  have cC := hd (fun W => acanon_any s W hl)
  cases hx : isTypeB s with
  | true =>
    have e1 : typeE s = 0 := by unfold typeE; rw [if_pos hx]
    have e2 : typeP s = s.size := by unfold typeP; rw [if_pos hx]
    rw [e1, e2]
    have hx' : isXB s true = true := hx
    rw [hx'] at cS
    clear e1 e2 hx hx' hl
    go_enter Tryd.func47, Tryd.ntmps47
    go_wp2_with (fail)
    refine cS.out.mono ?_
    rintro e w1 ⟨rfl, hk1⟩
    have HK1 := hd hk1
    clear hk1
    simp only [if_true]
    go_wp2_with (fail)
    refine (cC.out _).mono ?_
    rintro e w2 ⟨rfl, hk2⟩
    have HK2 := hd hk2
    clear hk2
    go_wp2
    go_ret3
    exact ⟨_, rfl, fun _ => rfl, fun q => by simp at q, HK1.out.trans HK2.out⟩
  | false =>
    have e1 : typeE s = 40 := by unfold typeE; rw [if_neg (by rw [hx]; simp)]
    have e2 : typeP s = placeS s true := by unfold typeP; rw [if_neg (by rw [hx]; simp)]
    rw [e1, e2]
    have hx' : isXB s true = false := hx
    rw [hx'] at cS
    clear e1 e2 hx hx' hl
    go_enter Tryd.func47, Tryd.ntmps47
    go_wp2_with (fail)
    refine cS.out.mono ?_
    rintro e w1 ⟨rfl, hk1⟩
    have HK1 := hd hk1
    clear hk1
    simp only [Bool.false_eq_true, if_false]
    go_wp2
    go_ret3
    exact ⟨_, rfl, fun q => by simp at q, fun _ => rfl, HK1.out⟩
end Go.Proofs.YtieolphpgjpcmaaDoor
