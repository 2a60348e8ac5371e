/- filter.parser: escape. -/
import Derived.Test.YtieolphpgjpcmaaDoorM06
import Derived.Test.YtieolphpgjpcmaaDoorM02
import Derived.Deep.LoopGhost
import Derived.Deep.RegionWith

namespace Go.Proofs.YtieolphpgjpcmaaDoor
open Go.RowKit Go.Proofs.YtieolphpgjpcmaaDoorW.PrintWords

/-- How an escape's reading ends. -/
def EscPost (h1 h2 : Int) (g : Nat) (s : ByteArray) (i : Int) (v : Value) (e : Ending) (w' : World) : Prop :=
  if h1 < 0 then e = faulty 120 (i + 1) else if h2 < 0 then e = faulty 120 (i + 2) else e = .returned (.int .u8 (h1 * 16 + h2)) ∧ PB w' g s (i + 3) v

set_option maxHeartbeats 1000000 in
set_option maxRecDepth 100000 in
theorem pescape_any (g : Nat) (s : ByteArray) (i : Int) (v : Value) (h1 h2 : Int) (w : World) (hp : PB w g s i v) (h0 : 0 ≤ i) (hi : i < (s.size : Int)) (hl : s.size ≤ LIM) (hh1 : hexOf s (i + 1) = h1) (hh2 : hexOf s (i + 2) = h2) :
    Calls Tryd.prog 45 #[.pointer (some ⟨g, 0, none⟩)] w fun e w' => Kp (One g) w w' ∧ EscPost h1 h2 g s i v e w' := by
  have HH := hd (And.intro hh1 hh2)
  clear hh1 hh2
  unfold LIM at hl
  have HP := hd hp
  clear hp
  go_enter Tryd.func45, Tryd.ntmps45
  go_wp2
  go_loopg [3, 4] 4 (fun n q3 q4 wr => ∃ (x k : Int), q3 = .int .i64 x ∧ q4 = .int .i64 k ∧ Hid (Kp No w wr) ∧ Hid (PB wr g s i v) ∧ k + n = 5 ∧ Hid ((k = 1 ∧ x = 0) ∨ (k = 2 ∧ x = h1 ∧ 0 ≤ h1) ∨ (k = 3 ∧ x = h1 * 16 + h2 ∧ 0 ≤ h1 ∧ 0 ≤ h2)))
  case atStart => exact ⟨0, 1, rfl, rfl, hd (Kp.refl _ _), HP, rfl, hd (.inl ⟨rfl, rfl⟩)⟩
  case round =>
    obtain ⟨x, k, rfl, rfl, hK, hP, hk, hS⟩ := hrel
    have r0 := hP.out.c0
    have r1 := hP.out.c1
    have z1 := hP.out.fz 1
    have hk1 : 1 ≤ k ∧ k ≤ 3 := by have := hS.out; omega
    by_cases hk3 : k ≤ 2
    · have d0 : decide (k ≤ 2) = true := decide_eq_true hk3
      have e4 : IntKind.i64.wrap (i + k) = i + k := IntWalk.i64_in _ (by omega)
      have HX : Hid ((k = 1 ∧ x = 0 ∧ hexOf s (i + k) = h1) ∨ (k = 2 ∧ x = h1 ∧ 0 ≤ h1 ∧ hexOf s (i + k) = h2)) := hd (by
        rcases hS.out with ⟨rfl, q⟩ | ⟨rfl, q, q2⟩ | ⟨rfl, q⟩
        · exact .inl ⟨rfl, q, HH.out.1⟩
        · exact .inr ⟨rfl, q, q2, HH.out.2⟩
        · omega)
      by_cases hlt : i + k < (s.size : Int)
      · have d1 : decide (i + k ≥ (s.size : Int)) = false := decide_eq_false (by omega)
        have d2 : decide ((s.size : Int) ≤ i + k) = false := decide_eq_false (by omega)
        have hx := bt_at s (i + k)
        have hb := bt_range s (i + k)
        have e1 := eq_true (show 0 ≤ i + k by omega)
        have e2 := eq_true hlt
        have cD := hd (fun W => pdigit_any (bt s (i + k)) W hb.1 (by omega))
        have hv : hexOf s (i + k) = hexv (bt s (i + k)) := if_pos hlt
        have hvr := hexv_range (bt s (i + k))
        obtain ⟨d, hd9⟩ : ∃ d, hexv (bt s (i + k)) = d := ⟨_, rfl⟩
        rw [hd9] at cD hv hvr
        have HV := hd hv
        clear hv hd9
        have hxr : -1 ≤ x ∧ x ≤ 15 := by have := HX.out; have := hexOf_range s (i + 1); have := HH.out; omega
        go_wp2_with (fail)
        refine region_tail 24 (by kernel_rfl) (by kernel_rfl) ?_
        simp only [List.take_succ_cons, List.take_zero, List.drop_succ_cons, List.drop_zero]
        repeat still_step
        refine wpStill_nil ?_
        go_wp2_with (fail)
        refine (cD.out _).mono ?_
        rintro e w2 ⟨rfl, hk2⟩
        have hK2 := hd (hK.out.trans ((Kp.refl No wr).drew.trans hk2))
        have hP2 := hd (hP.out.kp ((Kp.refl No wr).drew.trans hk2) (fun q => q))
        clear hk2 r0 r1 z1
        have r0 := hP2.out.c0
        have r1 := hP2.out.c1
        by_cases hneg : d < 0
        · have d3 : decide (d < 0) = true := decide_eq_true hneg
          have e5 := eq_true (show i + k ≤ (s.size : Int) by omega)
          have e6 : min (i + k) (s.size : Int) = i + k := by omega
          go_wp2_with (fail)
          refine region_tail 13 (by kernel_rfl) (by kernel_rfl) ?_
          simp only [List.take_succ_cons, List.take_zero, List.drop_succ_cons, List.drop_zero]
          repeat still_step
          refine wpStill_nil ?_
          go_wp2_with (fail)
          refine (fail_any g (i + k) _).mono ?_
          rintro e wf ⟨rfl, rfl⟩
          go_wp2
          refine ⟨rfl, ?_, ?_⟩
          · exact ((hK2.out.drew).mono (fun _ _ q => q.elim))
          · rcases HX.out with ⟨rfl, q, q2⟩ | ⟨rfl, q, q1, q2⟩
            · unfold EscPost; rw [if_pos (by have := HV.out; omega)]
            · unfold EscPost; rw [if_neg (by omega), if_pos (by have := HV.out; omega)]
        · have d3 : decide (d < 0) = false := decide_eq_false hneg
          go_wp2_with (fail)
          go_region_with (go_at_call 62; refine (cD.out _).mono ?_; rintro e w3 ⟨rfl, hk3'⟩)
          all_goals
            have hK3 := hd (hK2.out.trans ((Kp.refl No w2).drew.trans hk3'))
            have hP3 := hd (hP2.out.kp ((Kp.refl No w2).drew.trans hk3') (fun q => q))
            clear hk3'
            go_wp2
            go_roundg (5 - (k + 1)).toNat
            case measure => omega
            case rel =>
              refine ⟨16 * x + d, k + 1, rfl, rfl, hK3, hP3, by omega, hd ?_⟩
              rcases HX.out with ⟨q0, q, q2⟩ | ⟨q0, q, q1, q2⟩
              · exact .inr (.inl ⟨by omega, by have := HV.out; omega, by have := HV.out; omega⟩)
              · exact .inr (.inr ⟨by omega, by have := HV.out; omega, by omega, by have := HV.out; omega⟩)
      · have d1 : decide (i + k ≥ (s.size : Int)) = true := decide_eq_true (by omega)
        have d2 : decide ((s.size : Int) ≤ i + k) = true := decide_eq_true (by omega)
        have hv : hexOf s (i + k) = -1 := if_neg hlt
        have HV := hd hv
        have hkk : i + k = (s.size : Int) := by
          rcases HX.out with ⟨q0, q, q2⟩ | ⟨q0, q, q1, q2⟩
          · omega
          · have h9 := HH.out.1
            unfold hexOf at h9
            split at h9 <;> omega
        clear hv
        have HKK := hd hkk
        have e5 := eq_true (show i + k ≤ (s.size : Int) by omega)
        have e6 : min (i + k) (s.size : Int) = i + k := by omega
        clear hkk
        go_wp2_with (fail)
        go_quiet (fail)
        go_wp2_with (fail)
        refine region_tail 13 (by kernel_rfl) (by kernel_rfl) ?_
        simp only [List.take_succ_cons, List.take_zero, List.drop_succ_cons, List.drop_zero]
        repeat still_step
        refine wpStill_nil ?_
        go_wp2_with (fail)
        refine (fail_any g (i + k) _).mono ?_
        rintro e wf ⟨rfl, rfl⟩
        go_wp2
        refine ⟨rfl, ?_, ?_⟩
        · exact (((hK.out.drewN _)).mono (fun _ _ q => q.elim))
        · rcases HX.out with ⟨rfl, q, q2⟩ | ⟨rfl, q, q1, q2⟩
          · unfold EscPost; rw [if_pos (by have := HV.out; omega)]
          · unfold EscPost; rw [if_neg (by omega), if_pos (by have := HV.out; omega)]
    · have d0 : decide (k ≤ 2) = false := decide_eq_false hk3
      have hS3 : Hid (x = h1 * 16 + h2 ∧ 0 ≤ h1 ∧ 0 ≤ h2) := hd (by rcases hS.out with ⟨q, _⟩ | ⟨q, _⟩ | ⟨_, q⟩ <;> first | omega | exact q)
      have hr1 := hexOf_range s (i + 1)
      have hr2 := hexOf_range s (i + 2)
      have hxr : 0 ≤ x ∧ x ≤ 255 := by have := hS3.out; have := HH.out; omega
      have e9 : IntKind.u8.wrap x = x := IntWalk.u8_in _ hxr
      go_wp2
      go_ret
      refine ⟨(hK.out.mono (fun _ _ q => q.elim)).setOne 1 _, ?_⟩
      have q := hS3.out
      unfold EscPost
      rw [if_neg (by omega), if_neg (by omega)]
      exact ⟨by rw [q.1]; rfl, hP.out.set1 _⟩
end Go.Proofs.YtieolphpgjpcmaaDoor
