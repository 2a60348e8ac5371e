/- rosterref12.Parse (written by genJ.py). -/
import Derived.Test.YtieolphpgjpcmaaDoorMFWalkI
import Derived.Test.YtieolphpgjpcmaaDoorMI0
import Derived.OwnWalk

namespace Go.Proofs.YtieolphpgjpcmaaDoor
open Go.RowKit Go.Proofs.YtieolphpgjpcmaaDoorW.PrintWords

def REnd (w w' : World) (e : Ending) : PRes → Prop
  | .ok ns => ∃ v, e = .returned (.tuple #[v, .int .i64 0, .int .i64 0]) ∧ NS w' w.heap.size v ns ∧ Kp No w w'
  | .bad er p => e = .returned (.tuple #[.slice none 0 0, .int .i64 er, .int .i64 p]) ∧ Kp No w w'
theorem NS.lower {w : World} {base base' : Nat} {v : Value} {ns : List Nd} (h : NS w base v ns) (hb : base' ≤ base) : NS w base' v ns := Kd.R_lower (Kd.R_mono h (fun _ hk => Nat.le_trans hb hk)) hb
theorem RowsAt.lt {w : World} (h : RowsAt w) : 0 < w.heap.size := World.block_lt_of_cell? _ _ (h 0 0 (by decide) (by decide))
theorem opAt_cases (s : ByteArray) (i : Int) : (opAt s i = 0 ∧ isB s i 38 = true ∧ isB s i 124 = false ∧ isB s i 33 = false) ∨ (opAt s i = 1 ∧ isB s i 38 = false ∧ isB s i 124 = true ∧ isB s i 33 = false) ∨ (opAt s i = 2 ∧ isB s i 38 = false ∧ isB s i 124 = false ∧ isB s i 33 = true) ∨ (opAt s i = -1 ∧ isB s i 38 = false ∧ isB s i 124 = false ∧ isB s i 33 = false) := by
  unfold opAt isB
  by_cases h : i < (s.size : Int)
  · by_cases h1 : bt s i = 38
    · exact .inl (by simp [h, h1])
    · by_cases h2 : bt s i = 124
      · exact .inr (.inl (by simp [h, h2]))
      · by_cases h3 : bt s i = 33
        · exact .inr (.inr (.inl (by simp [h, h3])))
        · exact .inr (.inr (.inr (by simp [h, h1, h2, h3])))
  · exact .inr (.inr (.inr (by simp [h])))


set_option maxHeartbeats 16000000 in
set_option maxRecDepth 100000 in
theorem rparse_any (s : ByteArray) (w : World) (hT : RowsAt w) (hl2 : s.size + 2 ≤ LIM) :
    Calls Tryd.prog 5 #[.string s] w fun e w' => REnd w w' e (parseS s) := by
  have hl : s.size ≤ LIM := by omega
  have hLL : LIM ≤ 4194304 := Nat.le_refl _
  have hg : 0 ≠ w.heap.size := by have := hT.lt; omega
  obtain ⟨PR, hPR⟩ : ∃ R, parseS s = R := ⟨_, rfl⟩
  rw [hPR]
  unfold parseS at hPR
  have HPR := hd hPR
  have HT := hd hT
  clear hPR hT
  go_enter Tryd.func5, Tryd.ntmps5
  go_wp2
  go_loopg [6, 7] (s.size + 1) (fun k q6 q7 wr => ∃ (i : Int) (wanted : Bool) (v : Value) (er pl : Int) (ns : List Nd) (o : List Int), q7 = .bool wanted ∧ Hid (PS w wr s i v er pl ns q6 o) ∧ 0 ≤ i ∧ i ≤ (s.size : Int) ∧ o.length ≤ 65 ∧ Hid ((er = 0 ∧ pl = 0 ∧ (s.size : Int) - i < k ∧ o.length ≤ 64 ∧ (ns.length : Int) ≤ i ∧ parseR s k i o wanted ns = PR) ∨ (er ≠ 0 ∧ PR = .bad er pl)))
  case atStart => exact ⟨0, true, .slice none 0 0, 0, 0, [], [], rfl, hd ⟨blk_new w _, NS.nil _ _, Ints.nil _ _, (Kp.refl _ _).alloc _⟩, by omega, by omega, by simp, hd (.inl ⟨rfl, rfl, by omega, by simp, by simp, HPR.out⟩)⟩
  case round =>
    clear HPR
    obtain ⟨i, wanted, v, er, pl, ns, o, rfl, HP0, h0, h1, ho65, hS⟩ := hrel
    obtain ⟨Ao, co, hvo⟩ := own_slice HP0.out.os
    subst hvo
    rcases hS.out with ⟨rfl, rfl, hk, ho, hn, hpr⟩ | ⟨he, hpr⟩
    case inr =>
      have hS' := hS
      clear hS hS'
      have r1 := HP0.out.rb.c1
      have r2 := HP0.out.rb.c2
      have r3 := HP0.out.rb.c3
      have r4 := HP0.out.rb.c4
      have z1 := HP0.out.rb.fz 1
      have z2 := HP0.out.rb.fz 2
      have HF := hd (hpr)
      have q3 : ((er) == 0) = false := beq_eq_false_iff_ne.2 he
      by_cases hlt : i < (s.size : Int)
      · have d1 : decide (i < (s.size : Int)) = true := decide_eq_true hlt
        go_wp2_with (fail)
        refine (stop_err w.heap.size s (i) v (er) (pl) 120 (i) _ HP0.out.rb he).mono ?_
        rintro e w1 ⟨rfl, hr1, hk1⟩
        clear r1 r2 r3 r4 z1 z2
        have HP1 : Hid (PS w w1 s (i) v (er) (pl) ns (.slice Ao o.length co) o) := hd (HP0.out.one hr1 hk1)
        have r1 := HP1.out.rb.c1
        have r2 := HP1.out.rb.c2
        have r3 := HP1.out.rb.c3
        have r4 := HP1.out.rb.c4
        have z1 := HP1.out.rb.fz 1
        have z2 := HP1.out.rb.fz 2
        go_wp2_with (fail)
        go_quiet (fail)
        go_wp2
        go_ret3
        rw [HF.out]
        exact ⟨rfl, HP1.out.kp.drewN _⟩
      · have d1 : decide (i < (s.size : Int)) = false := decide_eq_false hlt
        go_wp2_with (fail)
        go_quiet (fail)
        go_wp2
        go_ret3
        rw [HF.out]
        exact ⟨rfl, HP0.out.kp.drewN _⟩
    case inl =>
      clear hS
      cases gk with
      | zero => exact absurd hk (by omega)
      | succ gk =>
        have hk' : (s.size : Int) - i < gk + 1 := by simpa using hk
        clear hk
        unfold parseR at hpr
        by_cases hact : wanted = false ∧ o = []
        · rw [if_pos hact] at hpr
          obtain ⟨rfl, rfl⟩ := hact
          have HF := hd hpr
          clear hpr
          have r1 := HP0.out.rb.c1
          have r2 := HP0.out.rb.c2
          have r3 := HP0.out.rb.c3
          have r4 := HP0.out.rb.c4
          have z1 := HP0.out.rb.fz 1
          have z2 := HP0.out.rb.fz 2
          by_cases hlt : i < (s.size : Int)
          · have d1 : decide (i < (s.size : Int)) = true := decide_eq_true hlt
            go_wp2_with (fail)
            refine (stop_new w.heap.size s i v 0 120 i _ HP0.out.rb).mono ?_
            rintro e w2 ⟨rfl, hr2, hk2⟩
            clear r1 r2 r3 r4 z1 z2
            have HP2 : Hid (PS w w2 s (i) v (120) (i) ns (.slice Ao ([] : List Int).length co) []) := hd (HP0.out.one hr2 hk2)
            have r1 := HP2.out.rb.c1
            have r2 := HP2.out.rb.c2
            have r3 := HP2.out.rb.c3
            have r4 := HP2.out.rb.c4
            have z1 := HP2.out.rb.fz 1
            have z2 := HP2.out.rb.fz 2
            go_wp2_with (fail)
            go_quiet (fail)
            go_wp2
            go_ret3
            have hf := HF.out
            rw [if_pos hlt] at hf
            rw [← hf]
            exact ⟨rfl, HP2.out.kp.drewN _⟩
          · have d1 : decide (i < (s.size : Int)) = false := decide_eq_false hlt
            go_wp2
            go_ret3
            have hf := HF.out
            rw [if_neg (by omega)] at hf
            rw [← hf]
            exact ⟨_, rfl, HP0.out.ns.lower (by omega), HP0.out.kp⟩
        · rw [if_neg hact] at hpr
          cases wanted with
          | true =>
            have HA := hd (show (match stepA s i o ns with | .bad e p => PRes.bad e p | .next i' o' w' ns' => parseR s gk i' o' w' ns') = PR from by rw [← hpr]; unfold stepR; rw [if_pos (.inl rfl)]; rfl)
            clear hpr hact
            cases q40 : isB s i 40 with
            | false =>
              have HF := hd (show PR = .bad 120 i from by rw [← HA.out]; unfold stepA; rw [if_pos q40])
              have HE := hd (show (120 : Int) ≠ 0 by omega)
              have Q := hd q40
              clear q40
              have r1 := HP0.out.rb.c1
              have r2 := HP0.out.rb.c2
              have r3 := HP0.out.rb.c3
              have r4 := HP0.out.rb.c4
              have z1 := HP0.out.rb.fz 1
              have z2 := HP0.out.rb.fz 2
              go_wp2_with (fail)
              refine (ris_any w.heap.size s (i) v (0) (0) 40 _ HP0.out.rb (by omega)).mono ?_
              rintro e w3 ⟨rfl, hdr3⟩
              clear r1 r2 r3 r4 z1 z2
              have HP3 : Hid (PS w w3 s (i) v (0) (0) ns (.slice Ao o.length co) o) := hd (HP0.out.dr hdr3)
              clear hdr3
              rw [Q.out]
              have r1 := HP3.out.rb.c1
              have r2 := HP3.out.rb.c2
              have r3 := HP3.out.rb.c3
              have r4 := HP3.out.rb.c4
              have z1 := HP3.out.rb.fz 1
              have z2 := HP3.out.rb.fz 2
              go_wp2_with (fail)
              refine (must_new w.heap.size s i v 0 40 _ HP3.out.rb (by omega) Q.out).mono ?_
              rintro e w4 ⟨rfl, hr4, hk4⟩
              clear r1 r2 r3 r4 z1 z2
              have HP4 : Hid (PS w w4 s (i) v (120) (i) ns (.slice Ao o.length co) o) := hd (HP3.out.one hr4 hk4)
              have r1 := HP4.out.rb.c1
              have r2 := HP4.out.rb.c2
              have r3 := HP4.out.rb.c3
              have r4 := HP4.out.rb.c4
              have z1 := HP4.out.rb.fz 1
              have z2 := HP4.out.rb.fz 2
              rcases opAt_cases s (i) with ⟨hop, a1, a2, a3⟩ | ⟨hop, a1, a2, a3⟩ | ⟨hop, a1, a2, a3⟩ | ⟨hop, a1, a2, a3⟩
              · skip
                have hlt := (isB_true a1).1
                have A1 := hd a1
                have A2 := hd a2
                have A3 := hd a3
                clear hop a1 a2 a3
                go_wp2_with (fail)
                refine (ris_any w.heap.size s (i) v (120) (i) 38 _ HP4.out.rb (by omega)).mono ?_
                rintro e w5 ⟨rfl, hdr5⟩
                clear r1 r2 r3 r4 z1 z2
                have HP5 : Hid (PS w w5 s (i) v (120) (i) ns (.slice Ao o.length co) o) := hd (HP4.out.dr hdr5)
                clear hdr5
                rw [A1.out]
                have r1 := HP5.out.rb.c1
                have r2 := HP5.out.rb.c2
                have r3 := HP5.out.rb.c3
                have r4 := HP5.out.rb.c4
                have z1 := HP5.out.rb.fz 1
                have z2 := HP5.out.rb.fz 2
                go_wp2_with (fail)
                refine (ris_any w.heap.size s (i) v (120) (i) 124 _ HP5.out.rb (by omega)).mono ?_
                rintro e w6 ⟨rfl, hdr6⟩
                clear r1 r2 r3 r4 z1 z2
                have HP6 : Hid (PS w w6 s (i) v (120) (i) ns (.slice Ao o.length co) o) := hd (HP5.out.dr hdr6)
                clear hdr6
                rw [A2.out]
                have r1 := HP6.out.rb.c1
                have r2 := HP6.out.rb.c2
                have r3 := HP6.out.rb.c3
                have r4 := HP6.out.rb.c4
                have z1 := HP6.out.rb.fz 1
                have z2 := HP6.out.rb.fz 2
                go_wp2_with (fail)
                refine (ris_any w.heap.size s (i) v (120) (i) 33 _ HP6.out.rb (by omega)).mono ?_
                rintro e w7 ⟨rfl, hdr7⟩
                clear r1 r2 r3 r4 z1 z2
                have HP7 : Hid (PS w w7 s (i) v (120) (i) ns (.slice Ao o.length co) o) := hd (HP6.out.dr hdr7)
                clear hdr7
                rw [A3.out]
                have r1 := HP7.out.rb.c1
                have r2 := HP7.out.rb.c2
                have r3 := HP7.out.rb.c3
                have r4 := HP7.out.rb.c4
                have z1 := HP7.out.rb.fz 1
                have z2 := HP7.out.rb.fz 2
                go_wp2_with (at_builtin; first | (go_loud (refine wp_app_int _ (w.heap.size + 1) rfl (.tmp 79) (.tmp 81) rfl (.slice Ao o.length co) o (0) rfl (show Value.slice (some ⟨w7.heap.size, 0, none⟩) 1 1 = Value.slice (some ⟨(w7.setCell ⟨w.heap.size, 1, none⟩ (.int .i64 (i + 1))).heap.size, 0, none⟩) 1 1 from by simp [World.setCell]) (HP7.out.set1 _).os (HP7.out.set1 _).rb.lt (by omega) ?_; rintro A5 c5 w8 ⟨ho5, hg5⟩; have HP8 := hd ((HP7.out.set1 (i + 1)).app_o hg5 ho5); clear ho5 hg5 r1 r2 r3 r4 z1 z2; have r2 := HP8.out.rb.c2; have z2 := HP8.out.rb.fz 2)) | (go_loud (refine wp_app_node _ (w.heap.size + 1) rfl (.tmp 87) (.tmp 92) rfl v ns (Nd.at ((o.length + 1 : Nat) : Int) (0)) (.slice none 0 0) rfl rfl HP8.out.ns (AnyR.nil _ _ _) HP8.out.rb.lt (by omega) rfl ?_; rintro A6 c6 w9 ⟨hn6, hg6⟩; have HP9 := hd (HP8.out.app_n hg6 hn6); have HB6 := HP8.out.rbn hg6 hn6; clear hn6 hg6; have y2 := HB6.fz 2; have y3 := HB6.c2; clear HB6)))
                go_roundg 0
                case measure => omega
                case rel => exact ⟨i + 1, false, _, 120, i, _, o ++ [0], rfl, hd (by simpa using HP9.out), by omega, by omega, by simp; omega, hd (.inr ⟨HE.out, HF.out⟩)⟩
              · skip
                have hlt := (isB_true a2).1
                have A1 := hd a1
                have A2 := hd a2
                have A3 := hd a3
                clear hop a1 a2 a3
                go_wp2_with (fail)
                refine (ris_any w.heap.size s (i) v (120) (i) 38 _ HP4.out.rb (by omega)).mono ?_
                rintro e w10 ⟨rfl, hdr10⟩
                clear r1 r2 r3 r4 z1 z2
                have HP10 : Hid (PS w w10 s (i) v (120) (i) ns (.slice Ao o.length co) o) := hd (HP4.out.dr hdr10)
                clear hdr10
                rw [A1.out]
                have r1 := HP10.out.rb.c1
                have r2 := HP10.out.rb.c2
                have r3 := HP10.out.rb.c3
                have r4 := HP10.out.rb.c4
                have z1 := HP10.out.rb.fz 1
                have z2 := HP10.out.rb.fz 2
                go_wp2_with (fail)
                refine (ris_any w.heap.size s (i) v (120) (i) 124 _ HP10.out.rb (by omega)).mono ?_
                rintro e w11 ⟨rfl, hdr11⟩
                clear r1 r2 r3 r4 z1 z2
                have HP11 : Hid (PS w w11 s (i) v (120) (i) ns (.slice Ao o.length co) o) := hd (HP10.out.dr hdr11)
                clear hdr11
                rw [A2.out]
                have r1 := HP11.out.rb.c1
                have r2 := HP11.out.rb.c2
                have r3 := HP11.out.rb.c3
                have r4 := HP11.out.rb.c4
                have z1 := HP11.out.rb.fz 1
                have z2 := HP11.out.rb.fz 2
                go_wp2_with (fail)
                refine (ris_any w.heap.size s (i) v (120) (i) 33 _ HP11.out.rb (by omega)).mono ?_
                rintro e w12 ⟨rfl, hdr12⟩
                clear r1 r2 r3 r4 z1 z2
                have HP12 : Hid (PS w w12 s (i) v (120) (i) ns (.slice Ao o.length co) o) := hd (HP11.out.dr hdr12)
                clear hdr12
                rw [A3.out]
                have r1 := HP12.out.rb.c1
                have r2 := HP12.out.rb.c2
                have r3 := HP12.out.rb.c3
                have r4 := HP12.out.rb.c4
                have z1 := HP12.out.rb.fz 1
                have z2 := HP12.out.rb.fz 2
                go_wp2_with (at_builtin; first | (go_loud (refine wp_app_int _ (w.heap.size + 1) rfl (.tmp 79) (.tmp 81) rfl (.slice Ao o.length co) o (1) rfl (show Value.slice (some ⟨w12.heap.size, 0, none⟩) 1 1 = Value.slice (some ⟨(w12.setCell ⟨w.heap.size, 1, none⟩ (.int .i64 (i + 1))).heap.size, 0, none⟩) 1 1 from by simp [World.setCell]) (HP12.out.set1 _).os (HP12.out.set1 _).rb.lt (by omega) ?_; rintro A5 c5 w13 ⟨ho5, hg5⟩; have HP13 := hd ((HP12.out.set1 (i + 1)).app_o hg5 ho5); clear ho5 hg5 r1 r2 r3 r4 z1 z2; have r2 := HP13.out.rb.c2; have z2 := HP13.out.rb.fz 2)) | (go_loud (refine wp_app_node _ (w.heap.size + 1) rfl (.tmp 87) (.tmp 92) rfl v ns (Nd.at ((o.length + 1 : Nat) : Int) (1)) (.slice none 0 0) rfl rfl HP13.out.ns (AnyR.nil _ _ _) HP13.out.rb.lt (by omega) rfl ?_; rintro A6 c6 w14 ⟨hn6, hg6⟩; have HP14 := hd (HP13.out.app_n hg6 hn6); have HB6 := HP13.out.rbn hg6 hn6; clear hn6 hg6; have y2 := HB6.fz 2; have y3 := HB6.c2; clear HB6)))
                go_roundg 0
                case measure => omega
                case rel => exact ⟨i + 1, false, _, 120, i, _, o ++ [1], rfl, hd (by simpa using HP14.out), by omega, by omega, by simp; omega, hd (.inr ⟨HE.out, HF.out⟩)⟩
              · skip
                have hlt := (isB_true a3).1
                have A1 := hd a1
                have A2 := hd a2
                have A3 := hd a3
                clear hop a1 a2 a3
                go_wp2_with (fail)
                refine (ris_any w.heap.size s (i) v (120) (i) 38 _ HP4.out.rb (by omega)).mono ?_
                rintro e w15 ⟨rfl, hdr15⟩
                clear r1 r2 r3 r4 z1 z2
                have HP15 : Hid (PS w w15 s (i) v (120) (i) ns (.slice Ao o.length co) o) := hd (HP4.out.dr hdr15)
                clear hdr15
                rw [A1.out]
                have r1 := HP15.out.rb.c1
                have r2 := HP15.out.rb.c2
                have r3 := HP15.out.rb.c3
                have r4 := HP15.out.rb.c4
                have z1 := HP15.out.rb.fz 1
                have z2 := HP15.out.rb.fz 2
                go_wp2_with (fail)
                refine (ris_any w.heap.size s (i) v (120) (i) 124 _ HP15.out.rb (by omega)).mono ?_
                rintro e w16 ⟨rfl, hdr16⟩
                clear r1 r2 r3 r4 z1 z2
                have HP16 : Hid (PS w w16 s (i) v (120) (i) ns (.slice Ao o.length co) o) := hd (HP15.out.dr hdr16)
                clear hdr16
                rw [A2.out]
                have r1 := HP16.out.rb.c1
                have r2 := HP16.out.rb.c2
                have r3 := HP16.out.rb.c3
                have r4 := HP16.out.rb.c4
                have z1 := HP16.out.rb.fz 1
                have z2 := HP16.out.rb.fz 2
                go_wp2_with (fail)
                refine (ris_any w.heap.size s (i) v (120) (i) 33 _ HP16.out.rb (by omega)).mono ?_
                rintro e w17 ⟨rfl, hdr17⟩
                clear r1 r2 r3 r4 z1 z2
                have HP17 : Hid (PS w w17 s (i) v (120) (i) ns (.slice Ao o.length co) o) := hd (HP16.out.dr hdr17)
                clear hdr17
                rw [A3.out]
                have r1 := HP17.out.rb.c1
                have r2 := HP17.out.rb.c2
                have r3 := HP17.out.rb.c3
                have r4 := HP17.out.rb.c4
                have z1 := HP17.out.rb.fz 1
                have z2 := HP17.out.rb.fz 2
                go_wp2_with (at_builtin; first | (go_loud (refine wp_app_int _ (w.heap.size + 1) rfl (.tmp 79) (.tmp 81) rfl (.slice Ao o.length co) o (2) rfl (show Value.slice (some ⟨w17.heap.size, 0, none⟩) 1 1 = Value.slice (some ⟨(w17.setCell ⟨w.heap.size, 1, none⟩ (.int .i64 (i + 1))).heap.size, 0, none⟩) 1 1 from by simp [World.setCell]) (HP17.out.set1 _).os (HP17.out.set1 _).rb.lt (by omega) ?_; rintro A5 c5 w18 ⟨ho5, hg5⟩; have HP18 := hd ((HP17.out.set1 (i + 1)).app_o hg5 ho5); clear ho5 hg5 r1 r2 r3 r4 z1 z2; have r2 := HP18.out.rb.c2; have z2 := HP18.out.rb.fz 2)) | (go_loud (refine wp_app_node _ (w.heap.size + 1) rfl (.tmp 87) (.tmp 92) rfl v ns (Nd.at ((o.length + 1 : Nat) : Int) (2)) (.slice none 0 0) rfl rfl HP18.out.ns (AnyR.nil _ _ _) HP18.out.rb.lt (by omega) rfl ?_; rintro A6 c6 w19 ⟨hn6, hg6⟩; have HP19 := hd (HP18.out.app_n hg6 hn6); have HB6 := HP18.out.rbn hg6 hn6; clear hn6 hg6; have y2 := HB6.fz 2; have y3 := HB6.c2; clear HB6)))
                go_roundg 0
                case measure => omega
                case rel => exact ⟨i + 1, true, _, 120, i, _, o ++ [2], rfl, hd (by simpa using HP19.out), by omega, by omega, by simp; omega, hd (.inr ⟨HE.out, HF.out⟩)⟩
              · skip
                have A1 := hd a1
                have A2 := hd a2
                have A3 := hd a3
                clear hop a1 a2 a3
                go_wp2_with (fail)
                refine (ris_any w.heap.size s (i) v (120) (i) 38 _ HP4.out.rb (by omega)).mono ?_
                rintro e w20 ⟨rfl, hdr20⟩
                clear r1 r2 r3 r4 z1 z2
                have HP20 : Hid (PS w w20 s (i) v (120) (i) ns (.slice Ao o.length co) o) := hd (HP4.out.dr hdr20)
                clear hdr20
                rw [A1.out]
                have r1 := HP20.out.rb.c1
                have r2 := HP20.out.rb.c2
                have r3 := HP20.out.rb.c3
                have r4 := HP20.out.rb.c4
                have z1 := HP20.out.rb.fz 1
                have z2 := HP20.out.rb.fz 2
                go_wp2_with (fail)
                refine (ris_any w.heap.size s (i) v (120) (i) 124 _ HP20.out.rb (by omega)).mono ?_
                rintro e w21 ⟨rfl, hdr21⟩
                clear r1 r2 r3 r4 z1 z2
                have HP21 : Hid (PS w w21 s (i) v (120) (i) ns (.slice Ao o.length co) o) := hd (HP20.out.dr hdr21)
                clear hdr21
                rw [A2.out]
                have r1 := HP21.out.rb.c1
                have r2 := HP21.out.rb.c2
                have r3 := HP21.out.rb.c3
                have r4 := HP21.out.rb.c4
                have z1 := HP21.out.rb.fz 1
                have z2 := HP21.out.rb.fz 2
                go_wp2_with (fail)
                refine (ris_any w.heap.size s (i) v (120) (i) 33 _ HP21.out.rb (by omega)).mono ?_
                rintro e w22 ⟨rfl, hdr22⟩
                clear r1 r2 r3 r4 z1 z2
                have HP22 : Hid (PS w w22 s (i) v (120) (i) ns (.slice Ao o.length co) o) := hd (HP21.out.dr hdr22)
                clear hdr22
                rw [A3.out]
                have r1 := HP22.out.rb.c1
                have r2 := HP22.out.rb.c2
                have r3 := HP22.out.rb.c3
                have r4 := HP22.out.rb.c4
                have z1 := HP22.out.rb.fz 1
                have z2 := HP22.out.rb.fz 2
                go_wp2
                go_roundg 0
                case measure => omega
                case rel => exact ⟨i, false, _, 120, i, _, o, rfl, HP22, by omega, by omega, by omega, hd (.inr ⟨HE.out, HF.out⟩)⟩
            | true =>
              have hlt0 := (isB_true q40).1
              by_cases h64 : 64 ≤ o.length
              · have HF := hd (show PR = .bad 121 i from by rw [← HA.out]; unfold stepA; rw [if_neg (by rw [q40]; simp), if_pos h64])
                have HE := hd (show (121 : Int) ≠ 0 by omega)
                have Q := hd q40
                clear q40
                have d64 : decide ((o.length : Int) ≥ 64) = true := decide_eq_true (by omega)
                have d65 : decide ((64 : Int) ≤ (o.length : Int)) = true := decide_eq_true (by omega)
                have r1 := HP0.out.rb.c1
                have r2 := HP0.out.rb.c2
                have r3 := HP0.out.rb.c3
                have r4 := HP0.out.rb.c4
                have z1 := HP0.out.rb.fz 1
                have z2 := HP0.out.rb.fz 2
                go_wp2_with (fail)
                refine (ris_any w.heap.size s (i) v (0) (0) 40 _ HP0.out.rb (by omega)).mono ?_
                rintro e w23 ⟨rfl, hdr23⟩
                clear r1 r2 r3 r4 z1 z2
                have HP23 : Hid (PS w w23 s (i) v (0) (0) ns (.slice Ao o.length co) o) := hd (HP0.out.dr hdr23)
                clear hdr23
                rw [Q.out]
                have r1 := HP23.out.rb.c1
                have r2 := HP23.out.rb.c2
                have r3 := HP23.out.rb.c3
                have r4 := HP23.out.rb.c4
                have z1 := HP23.out.rb.fz 1
                have z2 := HP23.out.rb.fz 2
                go_wp2_with (fail)
                refine (stop_new w.heap.size s i v 0 121 i _ HP23.out.rb).mono ?_
                rintro e w24 ⟨rfl, hr24, hk24⟩
                clear r1 r2 r3 r4 z1 z2
                have HP24 : Hid (PS w w24 s (i) v (121) (i) ns (.slice Ao o.length co) o) := hd (HP23.out.one hr24 hk24)
                have r1 := HP24.out.rb.c1
                have r2 := HP24.out.rb.c2
                have r3 := HP24.out.rb.c3
                have r4 := HP24.out.rb.c4
                have z1 := HP24.out.rb.fz 1
                have z2 := HP24.out.rb.fz 2
                go_wp2_with (fail)
                refine (must_yes w.heap.size s i v 121 i 40 _ HP24.out.rb (by omega) hl Q.out).mono ?_
                rintro e w25 ⟨rfl, hr25, hk25⟩
                clear r1 r2 r3 r4 z1 z2
                have HP25 : Hid (PS w w25 s (i + 1) v (121) (i) ns (.slice Ao o.length co) o) := hd (HP24.out.one hr25 hk25)
                have r1 := HP25.out.rb.c1
                have r2 := HP25.out.rb.c2
                have r3 := HP25.out.rb.c3
                have r4 := HP25.out.rb.c4
                have z1 := HP25.out.rb.fz 1
                have z2 := HP25.out.rb.fz 2
                rcases opAt_cases s (i + 1) with ⟨hop, a1, a2, a3⟩ | ⟨hop, a1, a2, a3⟩ | ⟨hop, a1, a2, a3⟩ | ⟨hop, a1, a2, a3⟩
                · skip
                  have hlt := (isB_true a1).1
                  have A1 := hd a1
                  have A2 := hd a2
                  have A3 := hd a3
                  clear hop a1 a2 a3
                  go_wp2_with (fail)
                  refine (ris_any w.heap.size s (i + 1) v (121) (i) 38 _ HP25.out.rb (by omega)).mono ?_
                  rintro e w26 ⟨rfl, hdr26⟩
                  clear r1 r2 r3 r4 z1 z2
                  have HP26 : Hid (PS w w26 s (i + 1) v (121) (i) ns (.slice Ao o.length co) o) := hd (HP25.out.dr hdr26)
                  clear hdr26
                  rw [A1.out]
                  have r1 := HP26.out.rb.c1
                  have r2 := HP26.out.rb.c2
                  have r3 := HP26.out.rb.c3
                  have r4 := HP26.out.rb.c4
                  have z1 := HP26.out.rb.fz 1
                  have z2 := HP26.out.rb.fz 2
                  go_wp2_with (fail)
                  refine (ris_any w.heap.size s (i + 1) v (121) (i) 124 _ HP26.out.rb (by omega)).mono ?_
                  rintro e w27 ⟨rfl, hdr27⟩
                  clear r1 r2 r3 r4 z1 z2
                  have HP27 : Hid (PS w w27 s (i + 1) v (121) (i) ns (.slice Ao o.length co) o) := hd (HP26.out.dr hdr27)
                  clear hdr27
                  rw [A2.out]
                  have r1 := HP27.out.rb.c1
                  have r2 := HP27.out.rb.c2
                  have r3 := HP27.out.rb.c3
                  have r4 := HP27.out.rb.c4
                  have z1 := HP27.out.rb.fz 1
                  have z2 := HP27.out.rb.fz 2
                  go_wp2_with (fail)
                  refine (ris_any w.heap.size s (i + 1) v (121) (i) 33 _ HP27.out.rb (by omega)).mono ?_
                  rintro e w28 ⟨rfl, hdr28⟩
                  clear r1 r2 r3 r4 z1 z2
                  have HP28 : Hid (PS w w28 s (i + 1) v (121) (i) ns (.slice Ao o.length co) o) := hd (HP27.out.dr hdr28)
                  clear hdr28
                  rw [A3.out]
                  have r1 := HP28.out.rb.c1
                  have r2 := HP28.out.rb.c2
                  have r3 := HP28.out.rb.c3
                  have r4 := HP28.out.rb.c4
                  have z1 := HP28.out.rb.fz 1
                  have z2 := HP28.out.rb.fz 2
                  go_wp2_with (at_builtin; first | (go_loud (refine wp_app_int _ (w.heap.size + 1) rfl (.tmp 79) (.tmp 81) rfl (.slice Ao o.length co) o (0) rfl (show Value.slice (some ⟨w28.heap.size, 0, none⟩) 1 1 = Value.slice (some ⟨(w28.setCell ⟨w.heap.size, 1, none⟩ (.int .i64 (i + 1 + 1))).heap.size, 0, none⟩) 1 1 from by simp [World.setCell]) (HP28.out.set1 _).os (HP28.out.set1 _).rb.lt (by omega) ?_; rintro A5 c5 w29 ⟨ho5, hg5⟩; have HP29 := hd ((HP28.out.set1 (i + 1 + 1)).app_o hg5 ho5); clear ho5 hg5 r1 r2 r3 r4 z1 z2; have r2 := HP29.out.rb.c2; have z2 := HP29.out.rb.fz 2)) | (go_loud (refine wp_app_node _ (w.heap.size + 1) rfl (.tmp 87) (.tmp 92) rfl v ns (Nd.at ((o.length + 1 : Nat) : Int) (0)) (.slice none 0 0) rfl rfl HP29.out.ns (AnyR.nil _ _ _) HP29.out.rb.lt (by omega) rfl ?_; rintro A6 c6 w30 ⟨hn6, hg6⟩; have HP30 := hd (HP29.out.app_n hg6 hn6); have HB6 := HP29.out.rbn hg6 hn6; clear hn6 hg6; have y2 := HB6.fz 2; have y3 := HB6.c2; clear HB6)))
                  go_roundg 0
                  case measure => omega
                  case rel => exact ⟨i + 1 + 1, false, _, 121, i, _, o ++ [0], rfl, hd (by simpa using HP30.out), by omega, by omega, by simp; omega, hd (.inr ⟨HE.out, HF.out⟩)⟩
                · skip
                  have hlt := (isB_true a2).1
                  have A1 := hd a1
                  have A2 := hd a2
                  have A3 := hd a3
                  clear hop a1 a2 a3
                  go_wp2_with (fail)
                  refine (ris_any w.heap.size s (i + 1) v (121) (i) 38 _ HP25.out.rb (by omega)).mono ?_
                  rintro e w31 ⟨rfl, hdr31⟩
                  clear r1 r2 r3 r4 z1 z2
                  have HP31 : Hid (PS w w31 s (i + 1) v (121) (i) ns (.slice Ao o.length co) o) := hd (HP25.out.dr hdr31)
                  clear hdr31
                  rw [A1.out]
                  have r1 := HP31.out.rb.c1
                  have r2 := HP31.out.rb.c2
                  have r3 := HP31.out.rb.c3
                  have r4 := HP31.out.rb.c4
                  have z1 := HP31.out.rb.fz 1
                  have z2 := HP31.out.rb.fz 2
                  go_wp2_with (fail)
                  refine (ris_any w.heap.size s (i + 1) v (121) (i) 124 _ HP31.out.rb (by omega)).mono ?_
                  rintro e w32 ⟨rfl, hdr32⟩
                  clear r1 r2 r3 r4 z1 z2
                  have HP32 : Hid (PS w w32 s (i + 1) v (121) (i) ns (.slice Ao o.length co) o) := hd (HP31.out.dr hdr32)
                  clear hdr32
                  rw [A2.out]
                  have r1 := HP32.out.rb.c1
                  have r2 := HP32.out.rb.c2
                  have r3 := HP32.out.rb.c3
                  have r4 := HP32.out.rb.c4
                  have z1 := HP32.out.rb.fz 1
                  have z2 := HP32.out.rb.fz 2
                  go_wp2_with (fail)
                  refine (ris_any w.heap.size s (i + 1) v (121) (i) 33 _ HP32.out.rb (by omega)).mono ?_
                  rintro e w33 ⟨rfl, hdr33⟩
                  clear r1 r2 r3 r4 z1 z2
                  have HP33 : Hid (PS w w33 s (i + 1) v (121) (i) ns (.slice Ao o.length co) o) := hd (HP32.out.dr hdr33)
                  clear hdr33
                  rw [A3.out]
                  have r1 := HP33.out.rb.c1
                  have r2 := HP33.out.rb.c2
                  have r3 := HP33.out.rb.c3
                  have r4 := HP33.out.rb.c4
                  have z1 := HP33.out.rb.fz 1
                  have z2 := HP33.out.rb.fz 2
                  go_wp2_with (at_builtin; first | (go_loud (refine wp_app_int _ (w.heap.size + 1) rfl (.tmp 79) (.tmp 81) rfl (.slice Ao o.length co) o (1) rfl (show Value.slice (some ⟨w33.heap.size, 0, none⟩) 1 1 = Value.slice (some ⟨(w33.setCell ⟨w.heap.size, 1, none⟩ (.int .i64 (i + 1 + 1))).heap.size, 0, none⟩) 1 1 from by simp [World.setCell]) (HP33.out.set1 _).os (HP33.out.set1 _).rb.lt (by omega) ?_; rintro A5 c5 w34 ⟨ho5, hg5⟩; have HP34 := hd ((HP33.out.set1 (i + 1 + 1)).app_o hg5 ho5); clear ho5 hg5 r1 r2 r3 r4 z1 z2; have r2 := HP34.out.rb.c2; have z2 := HP34.out.rb.fz 2)) | (go_loud (refine wp_app_node _ (w.heap.size + 1) rfl (.tmp 87) (.tmp 92) rfl v ns (Nd.at ((o.length + 1 : Nat) : Int) (1)) (.slice none 0 0) rfl rfl HP34.out.ns (AnyR.nil _ _ _) HP34.out.rb.lt (by omega) rfl ?_; rintro A6 c6 w35 ⟨hn6, hg6⟩; have HP35 := hd (HP34.out.app_n hg6 hn6); have HB6 := HP34.out.rbn hg6 hn6; clear hn6 hg6; have y2 := HB6.fz 2; have y3 := HB6.c2; clear HB6)))
                  go_roundg 0
                  case measure => omega
                  case rel => exact ⟨i + 1 + 1, false, _, 121, i, _, o ++ [1], rfl, hd (by simpa using HP35.out), by omega, by omega, by simp; omega, hd (.inr ⟨HE.out, HF.out⟩)⟩
                · skip
                  have hlt := (isB_true a3).1
                  have A1 := hd a1
                  have A2 := hd a2
                  have A3 := hd a3
                  clear hop a1 a2 a3
                  go_wp2_with (fail)
                  refine (ris_any w.heap.size s (i + 1) v (121) (i) 38 _ HP25.out.rb (by omega)).mono ?_
                  rintro e w36 ⟨rfl, hdr36⟩
                  clear r1 r2 r3 r4 z1 z2
                  have HP36 : Hid (PS w w36 s (i + 1) v (121) (i) ns (.slice Ao o.length co) o) := hd (HP25.out.dr hdr36)
                  clear hdr36
                  rw [A1.out]
                  have r1 := HP36.out.rb.c1
                  have r2 := HP36.out.rb.c2
                  have r3 := HP36.out.rb.c3
                  have r4 := HP36.out.rb.c4
                  have z1 := HP36.out.rb.fz 1
                  have z2 := HP36.out.rb.fz 2
                  go_wp2_with (fail)
                  refine (ris_any w.heap.size s (i + 1) v (121) (i) 124 _ HP36.out.rb (by omega)).mono ?_
                  rintro e w37 ⟨rfl, hdr37⟩
                  clear r1 r2 r3 r4 z1 z2
                  have HP37 : Hid (PS w w37 s (i + 1) v (121) (i) ns (.slice Ao o.length co) o) := hd (HP36.out.dr hdr37)
                  clear hdr37
                  rw [A2.out]
                  have r1 := HP37.out.rb.c1
                  have r2 := HP37.out.rb.c2
                  have r3 := HP37.out.rb.c3
                  have r4 := HP37.out.rb.c4
                  have z1 := HP37.out.rb.fz 1
                  have z2 := HP37.out.rb.fz 2
                  go_wp2_with (fail)
                  refine (ris_any w.heap.size s (i + 1) v (121) (i) 33 _ HP37.out.rb (by omega)).mono ?_
                  rintro e w38 ⟨rfl, hdr38⟩
                  clear r1 r2 r3 r4 z1 z2
                  have HP38 : Hid (PS w w38 s (i + 1) v (121) (i) ns (.slice Ao o.length co) o) := hd (HP37.out.dr hdr38)
                  clear hdr38
                  rw [A3.out]
                  have r1 := HP38.out.rb.c1
                  have r2 := HP38.out.rb.c2
                  have r3 := HP38.out.rb.c3
                  have r4 := HP38.out.rb.c4
                  have z1 := HP38.out.rb.fz 1
                  have z2 := HP38.out.rb.fz 2
                  go_wp2_with (at_builtin; first | (go_loud (refine wp_app_int _ (w.heap.size + 1) rfl (.tmp 79) (.tmp 81) rfl (.slice Ao o.length co) o (2) rfl (show Value.slice (some ⟨w38.heap.size, 0, none⟩) 1 1 = Value.slice (some ⟨(w38.setCell ⟨w.heap.size, 1, none⟩ (.int .i64 (i + 1 + 1))).heap.size, 0, none⟩) 1 1 from by simp [World.setCell]) (HP38.out.set1 _).os (HP38.out.set1 _).rb.lt (by omega) ?_; rintro A5 c5 w39 ⟨ho5, hg5⟩; have HP39 := hd ((HP38.out.set1 (i + 1 + 1)).app_o hg5 ho5); clear ho5 hg5 r1 r2 r3 r4 z1 z2; have r2 := HP39.out.rb.c2; have z2 := HP39.out.rb.fz 2)) | (go_loud (refine wp_app_node _ (w.heap.size + 1) rfl (.tmp 87) (.tmp 92) rfl v ns (Nd.at ((o.length + 1 : Nat) : Int) (2)) (.slice none 0 0) rfl rfl HP39.out.ns (AnyR.nil _ _ _) HP39.out.rb.lt (by omega) rfl ?_; rintro A6 c6 w40 ⟨hn6, hg6⟩; have HP40 := hd (HP39.out.app_n hg6 hn6); have HB6 := HP39.out.rbn hg6 hn6; clear hn6 hg6; have y2 := HB6.fz 2; have y3 := HB6.c2; clear HB6)))
                  go_roundg 0
                  case measure => omega
                  case rel => exact ⟨i + 1 + 1, true, _, 121, i, _, o ++ [2], rfl, hd (by simpa using HP40.out), by omega, by omega, by simp; omega, hd (.inr ⟨HE.out, HF.out⟩)⟩
                · skip
                  have A1 := hd a1
                  have A2 := hd a2
                  have A3 := hd a3
                  clear hop a1 a2 a3
                  go_wp2_with (fail)
                  refine (ris_any w.heap.size s (i + 1) v (121) (i) 38 _ HP25.out.rb (by omega)).mono ?_
                  rintro e w41 ⟨rfl, hdr41⟩
                  clear r1 r2 r3 r4 z1 z2
                  have HP41 : Hid (PS w w41 s (i + 1) v (121) (i) ns (.slice Ao o.length co) o) := hd (HP25.out.dr hdr41)
                  clear hdr41
                  rw [A1.out]
                  have r1 := HP41.out.rb.c1
                  have r2 := HP41.out.rb.c2
                  have r3 := HP41.out.rb.c3
                  have r4 := HP41.out.rb.c4
                  have z1 := HP41.out.rb.fz 1
                  have z2 := HP41.out.rb.fz 2
                  go_wp2_with (fail)
                  refine (ris_any w.heap.size s (i + 1) v (121) (i) 124 _ HP41.out.rb (by omega)).mono ?_
                  rintro e w42 ⟨rfl, hdr42⟩
                  clear r1 r2 r3 r4 z1 z2
                  have HP42 : Hid (PS w w42 s (i + 1) v (121) (i) ns (.slice Ao o.length co) o) := hd (HP41.out.dr hdr42)
                  clear hdr42
                  rw [A2.out]
                  have r1 := HP42.out.rb.c1
                  have r2 := HP42.out.rb.c2
                  have r3 := HP42.out.rb.c3
                  have r4 := HP42.out.rb.c4
                  have z1 := HP42.out.rb.fz 1
                  have z2 := HP42.out.rb.fz 2
                  go_wp2_with (fail)
                  refine (ris_any w.heap.size s (i + 1) v (121) (i) 33 _ HP42.out.rb (by omega)).mono ?_
                  rintro e w43 ⟨rfl, hdr43⟩
                  clear r1 r2 r3 r4 z1 z2
                  have HP43 : Hid (PS w w43 s (i + 1) v (121) (i) ns (.slice Ao o.length co) o) := hd (HP42.out.dr hdr43)
                  clear hdr43
                  rw [A3.out]
                  have r1 := HP43.out.rb.c1
                  have r2 := HP43.out.rb.c2
                  have r3 := HP43.out.rb.c3
                  have r4 := HP43.out.rb.c4
                  have z1 := HP43.out.rb.fz 1
                  have z2 := HP43.out.rb.fz 2
                  go_wp2
                  go_roundg 0
                  case measure => omega
                  case rel => exact ⟨i + 1, false, _, 121, i, _, o, rfl, HP43, by omega, by omega, by omega, hd (.inr ⟨HE.out, HF.out⟩)⟩
              · have HS := hd (show (match stepB s (i + 1) o ns with | .bad e p => PRes.bad e p | .next i' o' w' ns' => parseR s gk i' o' w' ns') = PR from by rw [← HA.out]; unfold stepA; rw [if_neg (by rw [q40]; simp), if_neg h64])
                have Q := hd q40
                clear q40
                have d64 : decide ((o.length : Int) ≥ 64) = false := decide_eq_false (by omega)
                have d65 : decide ((64 : Int) ≤ (o.length : Int)) = false := decide_eq_false (by omega)
                have r1 := HP0.out.rb.c1
                have r2 := HP0.out.rb.c2
                have r3 := HP0.out.rb.c3
                have r4 := HP0.out.rb.c4
                have z1 := HP0.out.rb.fz 1
                have z2 := HP0.out.rb.fz 2
                go_wp2_with (fail)
                refine (ris_any w.heap.size s (i) v (0) (0) 40 _ HP0.out.rb (by omega)).mono ?_
                rintro e w44 ⟨rfl, hdr44⟩
                clear r1 r2 r3 r4 z1 z2
                have HP44 : Hid (PS w w44 s (i) v (0) (0) ns (.slice Ao o.length co) o) := hd (HP0.out.dr hdr44)
                clear hdr44
                rw [Q.out]
                have r1 := HP44.out.rb.c1
                have r2 := HP44.out.rb.c2
                have r3 := HP44.out.rb.c3
                have r4 := HP44.out.rb.c4
                have z1 := HP44.out.rb.fz 1
                have z2 := HP44.out.rb.fz 2
                go_wp2_with (fail)
                refine (must_yes w.heap.size s i v 0 0 40 _ HP44.out.rb (by omega) hl Q.out).mono ?_
                rintro e w45 ⟨rfl, hr45, hk45⟩
                clear r1 r2 r3 r4 z1 z2
                have HP45 : Hid (PS w w45 s (i + 1) v (0) (0) ns (.slice Ao o.length co) o) := hd (HP44.out.one hr45 hk45)
                have r1 := HP45.out.rb.c1
                have r2 := HP45.out.rb.c2
                have r3 := HP45.out.rb.c3
                have r4 := HP45.out.rb.c4
                have z1 := HP45.out.rb.fz 1
                have z2 := HP45.out.rb.fz 2
                rcases opAt_cases s (i + 1) with ⟨hop, a1, a2, a3⟩ | ⟨hop, a1, a2, a3⟩ | ⟨hop, a1, a2, a3⟩ | ⟨hop, a1, a2, a3⟩
                · skip
                  have hlt := (isB_true a1).1
                  have HN := hd (show parseR s gk (i + 1 + 1) (o ++ [0]) (false) (ns ++ [Nd.at ((o.length + 1 : Nat) : Int) 0]) = PR from by have hq := HS.out; unfold stepB at hq; rw [hop] at hq; exact hq)
                  have A1 := hd a1
                  have A2 := hd a2
                  have A3 := hd a3
                  clear hop a1 a2 a3
                  go_wp2_with (fail)
                  refine (ris_any w.heap.size s (i + 1) v (0) (0) 38 _ HP45.out.rb (by omega)).mono ?_
                  rintro e w46 ⟨rfl, hdr46⟩
                  clear r1 r2 r3 r4 z1 z2
                  have HP46 : Hid (PS w w46 s (i + 1) v (0) (0) ns (.slice Ao o.length co) o) := hd (HP45.out.dr hdr46)
                  clear hdr46
                  rw [A1.out]
                  have r1 := HP46.out.rb.c1
                  have r2 := HP46.out.rb.c2
                  have r3 := HP46.out.rb.c3
                  have r4 := HP46.out.rb.c4
                  have z1 := HP46.out.rb.fz 1
                  have z2 := HP46.out.rb.fz 2
                  go_wp2_with (fail)
                  refine (ris_any w.heap.size s (i + 1) v (0) (0) 124 _ HP46.out.rb (by omega)).mono ?_
                  rintro e w47 ⟨rfl, hdr47⟩
                  clear r1 r2 r3 r4 z1 z2
                  have HP47 : Hid (PS w w47 s (i + 1) v (0) (0) ns (.slice Ao o.length co) o) := hd (HP46.out.dr hdr47)
                  clear hdr47
                  rw [A2.out]
                  have r1 := HP47.out.rb.c1
                  have r2 := HP47.out.rb.c2
                  have r3 := HP47.out.rb.c3
                  have r4 := HP47.out.rb.c4
                  have z1 := HP47.out.rb.fz 1
                  have z2 := HP47.out.rb.fz 2
                  go_wp2_with (fail)
                  refine (ris_any w.heap.size s (i + 1) v (0) (0) 33 _ HP47.out.rb (by omega)).mono ?_
                  rintro e w48 ⟨rfl, hdr48⟩
                  clear r1 r2 r3 r4 z1 z2
                  have HP48 : Hid (PS w w48 s (i + 1) v (0) (0) ns (.slice Ao o.length co) o) := hd (HP47.out.dr hdr48)
                  clear hdr48
                  rw [A3.out]
                  have r1 := HP48.out.rb.c1
                  have r2 := HP48.out.rb.c2
                  have r3 := HP48.out.rb.c3
                  have r4 := HP48.out.rb.c4
                  have z1 := HP48.out.rb.fz 1
                  have z2 := HP48.out.rb.fz 2
                  go_wp2_with (at_builtin; first | (go_loud (refine wp_app_int _ (w.heap.size + 1) rfl (.tmp 79) (.tmp 81) rfl (.slice Ao o.length co) o (0) rfl (show Value.slice (some ⟨w48.heap.size, 0, none⟩) 1 1 = Value.slice (some ⟨(w48.setCell ⟨w.heap.size, 1, none⟩ (.int .i64 (i + 1 + 1))).heap.size, 0, none⟩) 1 1 from by simp [World.setCell]) (HP48.out.set1 _).os (HP48.out.set1 _).rb.lt (by omega) ?_; rintro A5 c5 w49 ⟨ho5, hg5⟩; have HP49 := hd ((HP48.out.set1 (i + 1 + 1)).app_o hg5 ho5); clear ho5 hg5 r1 r2 r3 r4 z1 z2; have r2 := HP49.out.rb.c2; have z2 := HP49.out.rb.fz 2)) | (go_loud (refine wp_app_node _ (w.heap.size + 1) rfl (.tmp 87) (.tmp 92) rfl v ns (Nd.at ((o.length + 1 : Nat) : Int) (0)) (.slice none 0 0) rfl rfl HP49.out.ns (AnyR.nil _ _ _) HP49.out.rb.lt (by omega) rfl ?_; rintro A6 c6 w50 ⟨hn6, hg6⟩; have HP50 := hd (HP49.out.app_n hg6 hn6); have HB6 := HP49.out.rbn hg6 hn6; clear hn6 hg6; have y2 := HB6.fz 2; have y3 := HB6.c2; clear HB6)))
                  go_roundg gk
                  case measure => omega
                  case rel => exact ⟨i + 1 + 1, false, _, 0, 0, _, o ++ [0], rfl, hd (by simpa using HP50.out), by omega, by omega, by simp; omega, hd (.inl ⟨rfl, rfl, by omega, by simp; omega, by simp; omega, HN.out⟩)⟩
                · skip
                  have hlt := (isB_true a2).1
                  have HN := hd (show parseR s gk (i + 1 + 1) (o ++ [1]) (false) (ns ++ [Nd.at ((o.length + 1 : Nat) : Int) 1]) = PR from by have hq := HS.out; unfold stepB at hq; rw [hop] at hq; exact hq)
                  have A1 := hd a1
                  have A2 := hd a2
                  have A3 := hd a3
                  clear hop a1 a2 a3
                  go_wp2_with (fail)
                  refine (ris_any w.heap.size s (i + 1) v (0) (0) 38 _ HP45.out.rb (by omega)).mono ?_
                  rintro e w51 ⟨rfl, hdr51⟩
                  clear r1 r2 r3 r4 z1 z2
                  have HP51 : Hid (PS w w51 s (i + 1) v (0) (0) ns (.slice Ao o.length co) o) := hd (HP45.out.dr hdr51)
                  clear hdr51
                  rw [A1.out]
                  have r1 := HP51.out.rb.c1
                  have r2 := HP51.out.rb.c2
                  have r3 := HP51.out.rb.c3
                  have r4 := HP51.out.rb.c4
                  have z1 := HP51.out.rb.fz 1
                  have z2 := HP51.out.rb.fz 2
                  go_wp2_with (fail)
                  refine (ris_any w.heap.size s (i + 1) v (0) (0) 124 _ HP51.out.rb (by omega)).mono ?_
                  rintro e w52 ⟨rfl, hdr52⟩
                  clear r1 r2 r3 r4 z1 z2
                  have HP52 : Hid (PS w w52 s (i + 1) v (0) (0) ns (.slice Ao o.length co) o) := hd (HP51.out.dr hdr52)
                  clear hdr52
                  rw [A2.out]
                  have r1 := HP52.out.rb.c1
                  have r2 := HP52.out.rb.c2
                  have r3 := HP52.out.rb.c3
                  have r4 := HP52.out.rb.c4
                  have z1 := HP52.out.rb.fz 1
                  have z2 := HP52.out.rb.fz 2
                  go_wp2_with (fail)
                  refine (ris_any w.heap.size s (i + 1) v (0) (0) 33 _ HP52.out.rb (by omega)).mono ?_
                  rintro e w53 ⟨rfl, hdr53⟩
                  clear r1 r2 r3 r4 z1 z2
                  have HP53 : Hid (PS w w53 s (i + 1) v (0) (0) ns (.slice Ao o.length co) o) := hd (HP52.out.dr hdr53)
                  clear hdr53
                  rw [A3.out]
                  have r1 := HP53.out.rb.c1
                  have r2 := HP53.out.rb.c2
                  have r3 := HP53.out.rb.c3
                  have r4 := HP53.out.rb.c4
                  have z1 := HP53.out.rb.fz 1
                  have z2 := HP53.out.rb.fz 2
                  go_wp2_with (at_builtin; first | (go_loud (refine wp_app_int _ (w.heap.size + 1) rfl (.tmp 79) (.tmp 81) rfl (.slice Ao o.length co) o (1) rfl (show Value.slice (some ⟨w53.heap.size, 0, none⟩) 1 1 = Value.slice (some ⟨(w53.setCell ⟨w.heap.size, 1, none⟩ (.int .i64 (i + 1 + 1))).heap.size, 0, none⟩) 1 1 from by simp [World.setCell]) (HP53.out.set1 _).os (HP53.out.set1 _).rb.lt (by omega) ?_; rintro A5 c5 w54 ⟨ho5, hg5⟩; have HP54 := hd ((HP53.out.set1 (i + 1 + 1)).app_o hg5 ho5); clear ho5 hg5 r1 r2 r3 r4 z1 z2; have r2 := HP54.out.rb.c2; have z2 := HP54.out.rb.fz 2)) | (go_loud (refine wp_app_node _ (w.heap.size + 1) rfl (.tmp 87) (.tmp 92) rfl v ns (Nd.at ((o.length + 1 : Nat) : Int) (1)) (.slice none 0 0) rfl rfl HP54.out.ns (AnyR.nil _ _ _) HP54.out.rb.lt (by omega) rfl ?_; rintro A6 c6 w55 ⟨hn6, hg6⟩; have HP55 := hd (HP54.out.app_n hg6 hn6); have HB6 := HP54.out.rbn hg6 hn6; clear hn6 hg6; have y2 := HB6.fz 2; have y3 := HB6.c2; clear HB6)))
                  go_roundg gk
                  case measure => omega
                  case rel => exact ⟨i + 1 + 1, false, _, 0, 0, _, o ++ [1], rfl, hd (by simpa using HP55.out), by omega, by omega, by simp; omega, hd (.inl ⟨rfl, rfl, by omega, by simp; omega, by simp; omega, HN.out⟩)⟩
                · skip
                  have hlt := (isB_true a3).1
                  have HN := hd (show parseR s gk (i + 1 + 1) (o ++ [2]) (true) (ns ++ [Nd.at ((o.length + 1 : Nat) : Int) 2]) = PR from by have hq := HS.out; unfold stepB at hq; rw [hop] at hq; exact hq)
                  have A1 := hd a1
                  have A2 := hd a2
                  have A3 := hd a3
                  clear hop a1 a2 a3
                  go_wp2_with (fail)
                  refine (ris_any w.heap.size s (i + 1) v (0) (0) 38 _ HP45.out.rb (by omega)).mono ?_
                  rintro e w56 ⟨rfl, hdr56⟩
                  clear r1 r2 r3 r4 z1 z2
                  have HP56 : Hid (PS w w56 s (i + 1) v (0) (0) ns (.slice Ao o.length co) o) := hd (HP45.out.dr hdr56)
                  clear hdr56
                  rw [A1.out]
                  have r1 := HP56.out.rb.c1
                  have r2 := HP56.out.rb.c2
                  have r3 := HP56.out.rb.c3
                  have r4 := HP56.out.rb.c4
                  have z1 := HP56.out.rb.fz 1
                  have z2 := HP56.out.rb.fz 2
                  go_wp2_with (fail)
                  refine (ris_any w.heap.size s (i + 1) v (0) (0) 124 _ HP56.out.rb (by omega)).mono ?_
                  rintro e w57 ⟨rfl, hdr57⟩
                  clear r1 r2 r3 r4 z1 z2
                  have HP57 : Hid (PS w w57 s (i + 1) v (0) (0) ns (.slice Ao o.length co) o) := hd (HP56.out.dr hdr57)
                  clear hdr57
                  rw [A2.out]
                  have r1 := HP57.out.rb.c1
                  have r2 := HP57.out.rb.c2
                  have r3 := HP57.out.rb.c3
                  have r4 := HP57.out.rb.c4
                  have z1 := HP57.out.rb.fz 1
                  have z2 := HP57.out.rb.fz 2
                  go_wp2_with (fail)
                  refine (ris_any w.heap.size s (i + 1) v (0) (0) 33 _ HP57.out.rb (by omega)).mono ?_
                  rintro e w58 ⟨rfl, hdr58⟩
                  clear r1 r2 r3 r4 z1 z2
                  have HP58 : Hid (PS w w58 s (i + 1) v (0) (0) ns (.slice Ao o.length co) o) := hd (HP57.out.dr hdr58)
                  clear hdr58
                  rw [A3.out]
                  have r1 := HP58.out.rb.c1
                  have r2 := HP58.out.rb.c2
                  have r3 := HP58.out.rb.c3
                  have r4 := HP58.out.rb.c4
                  have z1 := HP58.out.rb.fz 1
                  have z2 := HP58.out.rb.fz 2
                  go_wp2_with (at_builtin; first | (go_loud (refine wp_app_int _ (w.heap.size + 1) rfl (.tmp 79) (.tmp 81) rfl (.slice Ao o.length co) o (2) rfl (show Value.slice (some ⟨w58.heap.size, 0, none⟩) 1 1 = Value.slice (some ⟨(w58.setCell ⟨w.heap.size, 1, none⟩ (.int .i64 (i + 1 + 1))).heap.size, 0, none⟩) 1 1 from by simp [World.setCell]) (HP58.out.set1 _).os (HP58.out.set1 _).rb.lt (by omega) ?_; rintro A5 c5 w59 ⟨ho5, hg5⟩; have HP59 := hd ((HP58.out.set1 (i + 1 + 1)).app_o hg5 ho5); clear ho5 hg5 r1 r2 r3 r4 z1 z2; have r2 := HP59.out.rb.c2; have z2 := HP59.out.rb.fz 2)) | (go_loud (refine wp_app_node _ (w.heap.size + 1) rfl (.tmp 87) (.tmp 92) rfl v ns (Nd.at ((o.length + 1 : Nat) : Int) (2)) (.slice none 0 0) rfl rfl HP59.out.ns (AnyR.nil _ _ _) HP59.out.rb.lt (by omega) rfl ?_; rintro A6 c6 w60 ⟨hn6, hg6⟩; have HP60 := hd (HP59.out.app_n hg6 hn6); have HB6 := HP59.out.rbn hg6 hn6; clear hn6 hg6; have y2 := HB6.fz 2; have y3 := HB6.c2; clear HB6)))
                  go_roundg gk
                  case measure => omega
                  case rel => exact ⟨i + 1 + 1, true, _, 0, 0, _, o ++ [2], rfl, hd (by simpa using HP60.out), by omega, by omega, by simp; omega, hd (.inl ⟨rfl, rfl, by omega, by simp; omega, by simp; omega, HN.out⟩)⟩
                · skip
                  have HN := hd (show (match (match itemS s ((o.length : Int) + 1) (i + 1) with | .bad p => SRes.bad 120 p | .ok n j => if isB s j 41 then .next (j + 1) o false (ns ++ [n]) else .bad 120 j) with | .bad e p => PRes.bad e p | .next i' o' w' ns' => parseR s gk i' o' w' ns') = PR from by have hq := HS.out; unfold stepB at hq; rw [hop] at hq; exact hq)
                  have A1 := hd a1
                  have A2 := hd a2
                  have A3 := hd a3
                  clear hop a1 a2 a3
                  go_wp2_with (fail)
                  refine (ris_any w.heap.size s (i + 1) v (0) (0) 38 _ HP45.out.rb (by omega)).mono ?_
                  rintro e w61 ⟨rfl, hdr61⟩
                  clear r1 r2 r3 r4 z1 z2
                  have HP61 : Hid (PS w w61 s (i + 1) v (0) (0) ns (.slice Ao o.length co) o) := hd (HP45.out.dr hdr61)
                  clear hdr61
                  rw [A1.out]
                  have r1 := HP61.out.rb.c1
                  have r2 := HP61.out.rb.c2
                  have r3 := HP61.out.rb.c3
                  have r4 := HP61.out.rb.c4
                  have z1 := HP61.out.rb.fz 1
                  have z2 := HP61.out.rb.fz 2
                  go_wp2_with (fail)
                  refine (ris_any w.heap.size s (i + 1) v (0) (0) 124 _ HP61.out.rb (by omega)).mono ?_
                  rintro e w62 ⟨rfl, hdr62⟩
                  clear r1 r2 r3 r4 z1 z2
                  have HP62 : Hid (PS w w62 s (i + 1) v (0) (0) ns (.slice Ao o.length co) o) := hd (HP61.out.dr hdr62)
                  clear hdr62
                  rw [A2.out]
                  have r1 := HP62.out.rb.c1
                  have r2 := HP62.out.rb.c2
                  have r3 := HP62.out.rb.c3
                  have r4 := HP62.out.rb.c4
                  have z1 := HP62.out.rb.fz 1
                  have z2 := HP62.out.rb.fz 2
                  go_wp2_with (fail)
                  refine (ris_any w.heap.size s (i + 1) v (0) (0) 33 _ HP62.out.rb (by omega)).mono ?_
                  rintro e w63 ⟨rfl, hdr63⟩
                  clear r1 r2 r3 r4 z1 z2
                  have HP63 : Hid (PS w w63 s (i + 1) v (0) (0) ns (.slice Ao o.length co) o) := hd (HP62.out.dr hdr63)
                  clear hdr63
                  rw [A3.out]
                  have r1 := HP63.out.rb.c1
                  have r2 := HP63.out.rb.c2
                  have r3 := HP63.out.rb.c3
                  have r4 := HP63.out.rb.c4
                  have z1 := HP63.out.rb.fz 1
                  have z2 := HP63.out.rb.fz 2
                  go_wp2_with (fail)
                  refine (ritem_any w.heap.size (w.heap.size + 1) s (i + 1) v 0 ((o.length : Int) + 1) ns _ HP63.out.rb HP63.out.ns (by omega) HP63.out.rb.lt (HT.out.kp HP63.out.kp (fun q => q)) hg (by omega) (by omega) hl2 (by omega)).mono ?_
                  rintro e w64 hi
                  obtain ⟨rfl, v7, ns7, j7, er7, pl7, hp7, hj0, hj1, hnl, hO⟩ := HP63.out.item hi
                  clear hi
                  clear r1 r2 r3 r4 z1 z2
                  obtain ⟨R7, hR7⟩ : ∃ R, itemS s ((o.length : Int) + 1) (i + 1) = R := ⟨_, rfl⟩
                  have hN := HN.out
                  rw [hR7] at hN hO
                  clear HN hR7
                  have HP64 := hd hp7
                  rcases hO with ⟨n7, rfl, rfl, rfl, rfl⟩ | ⟨p7, rfl, rfl, rfl⟩
                  · cases q41 : isB s j7 41 with
                    | false =>
                      have HF := hd (show PR = .bad 120 j7 from by rw [← hN]; simp [q41])
                      have Q := hd q41
                      clear q41 hN
                      have r1 := HP64.out.rb.c1
                      have r2 := HP64.out.rb.c2
                      have r3 := HP64.out.rb.c3
                      have r4 := HP64.out.rb.c4
                      have z1 := HP64.out.rb.fz 1
                      have z2 := HP64.out.rb.fz 2
                      go_wp2_with (fail)
                      refine (must_new w.heap.size s j7 v7 0 41 _ HP64.out.rb (by omega) Q.out).mono ?_
                      rintro e w65 ⟨rfl, hr65, hk65⟩
                      clear r1 r2 r3 r4 z1 z2
                      have HP65 : Hid (PS w w65 s (j7) v7 (120) (j7) (ns ++ [n7]) (.slice Ao o.length co) o) := hd (HP64.out.one hr65 hk65)
                      go_wp2
                      go_roundg 0
                      case measure => omega
                      case rel => exact ⟨j7, false, _, 120, j7, _, o, rfl, HP65, by omega, by omega, by omega, hd (.inr ⟨by omega, HF.out⟩)⟩
                    | true =>
                      have hlt := (isB_true q41).1
                      have HN := hd (show parseR s gk (j7 + 1) o false (ns ++ [n7]) = PR from by rw [← hN]; simp [q41])
                      have Q := hd q41
                      clear q41 hN
                      have r1 := HP64.out.rb.c1
                      have r2 := HP64.out.rb.c2
                      have r3 := HP64.out.rb.c3
                      have r4 := HP64.out.rb.c4
                      have z1 := HP64.out.rb.fz 1
                      have z2 := HP64.out.rb.fz 2
                      go_wp2_with (fail)
                      refine (must_yes w.heap.size s j7 v7 0 0 41 _ HP64.out.rb (by omega) hl Q.out).mono ?_
                      rintro e w66 ⟨rfl, hr66, hk66⟩
                      clear r1 r2 r3 r4 z1 z2
                      have HP66 : Hid (PS w w66 s (j7 + 1) v7 (0) (0) (ns ++ [n7]) (.slice Ao o.length co) o) := hd (HP64.out.one hr66 hk66)
                      go_wp2
                      go_roundg gk
                      case measure => omega
                      case rel => exact ⟨j7 + 1, false, _, 0, 0, _, o, rfl, HP66, by omega, by omega, by omega, hd (.inl ⟨rfl, rfl, by omega, by omega, by simp; omega, HN.out⟩)⟩
                  · have HF := hd (show PR = .bad 120 pl7 from hN.symm)
                    clear hN
                    have r1 := HP64.out.rb.c1
                    have r2 := HP64.out.rb.c2
                    have r3 := HP64.out.rb.c3
                    have r4 := HP64.out.rb.c4
                    have z1 := HP64.out.rb.fz 1
                    have z2 := HP64.out.rb.fz 2
                    go_wp2
                    go_roundg 0
                    case measure => omega
                    case rel => exact ⟨j7, false, _, 120, pl7, _, o, rfl, HP64, by omega, by omega, by omega, hd (.inr ⟨by omega, HF.out⟩)⟩
          | false =>
            have hpos : 0 < o.length := by
              cases o with
              | nil => exact absurd ⟨rfl, rfl⟩ hact
              | cons a l => simp
            clear hact
            obtain ⟨b, rfl, hco, hcells⟩ := Ints.form HP0.out.os hpos
            have hcl := hcells (o.length - 1) (by omega)
            obtain ⟨last, hlast⟩ : ∃ x, o.getD (o.length - 1) 0 = x := ⟨_, rfl⟩
            rw [hlast] at hcl
            clear hcells
            have dgt : decide ((o.length : Int) > 0) = true := decide_eq_true (by omega)
            have dgt2 : decide ((0 : Int) < (o.length : Int)) = true := decide_eq_true (by omega)
            have e1 := eq_true (show (0 : Int) ≤ (o.length : Int) - 1 by omega)
            have e2 := eq_true (show (o.length : Int) - 1 < (o.length : Int) by omega)
            have e3 : ((o.length : Int) - 1).toNat = o.length - 1 := by omega
            have hco' : (o.length : Int) ≤ co := by omega
            by_cases h2 : last = 2
            · have t2 : (last != 2) = false := by rw [h2]; rfl
              have HC := hd (show (match (if isB s i 41 then SRes.next (i + 1) (o.take (o.length - 1)) false ns else .bad 120 i) with | .bad e p => PRes.bad e p | .next i' o' w' ns' => parseR s gk i' o' w' ns') = PR from by rw [← hpr]; unfold stepR; rw [if_neg (show ¬ (false = true ∨ (o.getD (o.length - 1) 0 ≠ 2 ∧ isB s i 40 = true)) from by rw [hlast]; exact fun q => q.elim (fun q => absurd q (by simp)) (fun q => q.1 h2))]; rfl)
              clear hpr
              clear hlast
              subst h2
              clear t2
              cases q41 : isB s i 41 with
              | false =>
                have HF := hd (show PR = .bad 120 i from by rw [← HC.out, q41]; rfl)
                have Q := hd q41
                clear q41
                have r1 := HP0.out.rb.c1
                have r2 := HP0.out.rb.c2
                have r3 := HP0.out.rb.c3
                have r4 := HP0.out.rb.c4
                have z1 := HP0.out.rb.fz 1
                have z2 := HP0.out.rb.fz 2
                go_wp2_with (fail)
                refine (must_new w.heap.size s i v 0 41 _ HP0.out.rb (by omega) Q.out).mono ?_
                rintro e w67 ⟨rfl, hr67, hk67⟩
                clear r1 r2 r3 r4 z1 z2
                have HP67 : Hid (PS w w67 s (i) v (120) (i) ns (.slice (some ⟨b, 0, none⟩) o.length co) o) := hd (HP0.out.one hr67 hk67)
                go_wp2
                go_roundg 0
                case measure => omega
                case rel => exact ⟨i, false, _, 120, i, _, o.take (o.length - 1), rfl, hd (HP67.out.took rfl (by omega)), by omega, by omega, by simp; omega, hd (.inr ⟨by omega, HF.out⟩)⟩
              | true =>
                have hlt := (isB_true q41).1
                have HN := hd (show parseR s gk (i + 1) (o.take (o.length - 1)) false ns = PR from by rw [← HC.out, q41]; rfl)
                have Q := hd q41
                clear q41
                have r1 := HP0.out.rb.c1
                have r2 := HP0.out.rb.c2
                have r3 := HP0.out.rb.c3
                have r4 := HP0.out.rb.c4
                have z1 := HP0.out.rb.fz 1
                have z2 := HP0.out.rb.fz 2
                go_wp2_with (fail)
                refine (must_yes w.heap.size s i v 0 0 41 _ HP0.out.rb (by omega) hl Q.out).mono ?_
                rintro e w68 ⟨rfl, hr68, hk68⟩
                clear r1 r2 r3 r4 z1 z2
                have HP68 : Hid (PS w w68 s (i + 1) v (0) (0) ns (.slice (some ⟨b, 0, none⟩) o.length co) o) := hd (HP0.out.one hr68 hk68)
                go_wp2
                go_roundg gk
                case measure => omega
                case rel => exact ⟨i + 1, false, _, 0, 0, _, o.take (o.length - 1), rfl, hd (HP68.out.took rfl (by omega)), by omega, by omega, by simp; omega, hd (.inl ⟨rfl, rfl, by omega, by simp; omega, by omega, HN.out⟩)⟩
            · have t2 : (last == 2) = false := beq_eq_false_iff_ne.2 h2
              have t3 : (last != 2) = true := by simp [h2]
              cases q40 : isB s i 40 with
              | true =>
                have HA := hd (show (match stepA s i o ns with | .bad e p => PRes.bad e p | .next i' o' w' ns' => parseR s gk i' o' w' ns') = PR from by rw [← hpr]; unfold stepR; rw [if_pos (.inr ⟨by rw [hlast]; exact h2, q40⟩)]; rfl)
                clear hpr hlast h2
                have Q0 := hd q40
                clear q40
                have r1 := HP0.out.rb.c1
                have r2 := HP0.out.rb.c2
                have r3 := HP0.out.rb.c3
                have r4 := HP0.out.rb.c4
                have z1 := HP0.out.rb.fz 1
                have z2 := HP0.out.rb.fz 2
                go_wp2_with (fail)
                refine (ris_any w.heap.size s (i) v (0) (0) 40 _ HP0.out.rb (by omega)).mono ?_
                rintro e w69 ⟨rfl, hdr69⟩
                clear r1 r2 r3 r4 z1 z2
                have HP69 : Hid (PS w w69 s (i) v (0) (0) ns (.slice (some ⟨b, 0, none⟩) o.length co) o) := hd (HP0.out.dr hdr69)
                clear hdr69
                rw [Q0.out]
                have r1 := HP69.out.rb.c1
                have r2 := HP69.out.rb.c2
                have r3 := HP69.out.rb.c3
                have r4 := HP69.out.rb.c4
                have z1 := HP69.out.rb.fz 1
                have z2 := HP69.out.rb.fz 2
                clear r1 r2 r3 r4 z1 z2
                cases q40 : isB s i 40 with
                | false =>
                  have HF := hd (show PR = .bad 120 i from by rw [← HA.out]; unfold stepA; rw [if_pos q40])
                  have HE := hd (show (120 : Int) ≠ 0 by omega)
                  have Q := hd q40
                  clear q40
                  have r1 := HP69.out.rb.c1
                  have r2 := HP69.out.rb.c2
                  have r3 := HP69.out.rb.c3
                  have r4 := HP69.out.rb.c4
                  have z1 := HP69.out.rb.fz 1
                  have z2 := HP69.out.rb.fz 2
                  go_wp2_with (fail)
                  refine (ris_any w.heap.size s (i) v (0) (0) 40 _ HP69.out.rb (by omega)).mono ?_
                  rintro e w70 ⟨rfl, hdr70⟩
                  clear r1 r2 r3 r4 z1 z2
                  have HP70 : Hid (PS w w70 s (i) v (0) (0) ns (.slice (some ⟨b, 0, none⟩) o.length co) o) := hd (HP69.out.dr hdr70)
                  clear hdr70
                  rw [Q.out]
                  have r1 := HP70.out.rb.c1
                  have r2 := HP70.out.rb.c2
                  have r3 := HP70.out.rb.c3
                  have r4 := HP70.out.rb.c4
                  have z1 := HP70.out.rb.fz 1
                  have z2 := HP70.out.rb.fz 2
                  go_wp2_with (fail)
                  refine (must_new w.heap.size s i v 0 40 _ HP70.out.rb (by omega) Q.out).mono ?_
                  rintro e w71 ⟨rfl, hr71, hk71⟩
                  clear r1 r2 r3 r4 z1 z2
                  have HP71 : Hid (PS w w71 s (i) v (120) (i) ns (.slice (some ⟨b, 0, none⟩) o.length co) o) := hd (HP70.out.one hr71 hk71)
                  have r1 := HP71.out.rb.c1
                  have r2 := HP71.out.rb.c2
                  have r3 := HP71.out.rb.c3
                  have r4 := HP71.out.rb.c4
                  have z1 := HP71.out.rb.fz 1
                  have z2 := HP71.out.rb.fz 2
                  rcases opAt_cases s (i) with ⟨hop, a1, a2, a3⟩ | ⟨hop, a1, a2, a3⟩ | ⟨hop, a1, a2, a3⟩ | ⟨hop, a1, a2, a3⟩
                  · skip
                    have hlt := (isB_true a1).1
                    have A1 := hd a1
                    have A2 := hd a2
                    have A3 := hd a3
                    clear hop a1 a2 a3
                    go_wp2_with (fail)
                    refine (ris_any w.heap.size s (i) v (120) (i) 38 _ HP71.out.rb (by omega)).mono ?_
                    rintro e w72 ⟨rfl, hdr72⟩
                    clear r1 r2 r3 r4 z1 z2
                    have HP72 : Hid (PS w w72 s (i) v (120) (i) ns (.slice (some ⟨b, 0, none⟩) o.length co) o) := hd (HP71.out.dr hdr72)
                    clear hdr72
                    rw [A1.out]
                    have r1 := HP72.out.rb.c1
                    have r2 := HP72.out.rb.c2
                    have r3 := HP72.out.rb.c3
                    have r4 := HP72.out.rb.c4
                    have z1 := HP72.out.rb.fz 1
                    have z2 := HP72.out.rb.fz 2
                    go_wp2_with (fail)
                    refine (ris_any w.heap.size s (i) v (120) (i) 124 _ HP72.out.rb (by omega)).mono ?_
                    rintro e w73 ⟨rfl, hdr73⟩
                    clear r1 r2 r3 r4 z1 z2
                    have HP73 : Hid (PS w w73 s (i) v (120) (i) ns (.slice (some ⟨b, 0, none⟩) o.length co) o) := hd (HP72.out.dr hdr73)
                    clear hdr73
                    rw [A2.out]
                    have r1 := HP73.out.rb.c1
                    have r2 := HP73.out.rb.c2
                    have r3 := HP73.out.rb.c3
                    have r4 := HP73.out.rb.c4
                    have z1 := HP73.out.rb.fz 1
                    have z2 := HP73.out.rb.fz 2
                    go_wp2_with (fail)
                    refine (ris_any w.heap.size s (i) v (120) (i) 33 _ HP73.out.rb (by omega)).mono ?_
                    rintro e w74 ⟨rfl, hdr74⟩
                    clear r1 r2 r3 r4 z1 z2
                    have HP74 : Hid (PS w w74 s (i) v (120) (i) ns (.slice (some ⟨b, 0, none⟩) o.length co) o) := hd (HP73.out.dr hdr74)
                    clear hdr74
                    rw [A3.out]
                    have r1 := HP74.out.rb.c1
                    have r2 := HP74.out.rb.c2
                    have r3 := HP74.out.rb.c3
                    have r4 := HP74.out.rb.c4
                    have z1 := HP74.out.rb.fz 1
                    have z2 := HP74.out.rb.fz 2
                    go_wp2_with (at_builtin; first | (go_loud (refine wp_app_int _ (w.heap.size + 1) rfl (.tmp 79) (.tmp 81) rfl (.slice (some ⟨b, 0, none⟩) o.length co) o (0) rfl (show Value.slice (some ⟨w74.heap.size, 0, none⟩) 1 1 = Value.slice (some ⟨(w74.setCell ⟨w.heap.size, 1, none⟩ (.int .i64 (i + 1))).heap.size, 0, none⟩) 1 1 from by simp [World.setCell]) (HP74.out.set1 _).os (HP74.out.set1 _).rb.lt (by omega) ?_; rintro A5 c5 w75 ⟨ho5, hg5⟩; have HP75 := hd ((HP74.out.set1 (i + 1)).app_o hg5 ho5); clear ho5 hg5 r1 r2 r3 r4 z1 z2; have r2 := HP75.out.rb.c2; have z2 := HP75.out.rb.fz 2)) | (go_loud (refine wp_app_node _ (w.heap.size + 1) rfl (.tmp 87) (.tmp 92) rfl v ns (Nd.at ((o.length + 1 : Nat) : Int) (0)) (.slice none 0 0) rfl rfl HP75.out.ns (AnyR.nil _ _ _) HP75.out.rb.lt (by omega) rfl ?_; rintro A6 c6 w76 ⟨hn6, hg6⟩; have HP76 := hd (HP75.out.app_n hg6 hn6); have HB6 := HP75.out.rbn hg6 hn6; clear hn6 hg6; have y2 := HB6.fz 2; have y3 := HB6.c2; clear HB6)))
                    go_roundg 0
                    case measure => omega
                    case rel => exact ⟨i + 1, false, _, 120, i, _, o ++ [0], rfl, hd (by simpa using HP76.out), by omega, by omega, by simp; omega, hd (.inr ⟨HE.out, HF.out⟩)⟩
                  · skip
                    have hlt := (isB_true a2).1
                    have A1 := hd a1
                    have A2 := hd a2
                    have A3 := hd a3
                    clear hop a1 a2 a3
                    go_wp2_with (fail)
                    refine (ris_any w.heap.size s (i) v (120) (i) 38 _ HP71.out.rb (by omega)).mono ?_
                    rintro e w77 ⟨rfl, hdr77⟩
                    clear r1 r2 r3 r4 z1 z2
                    have HP77 : Hid (PS w w77 s (i) v (120) (i) ns (.slice (some ⟨b, 0, none⟩) o.length co) o) := hd (HP71.out.dr hdr77)
                    clear hdr77
                    rw [A1.out]
                    have r1 := HP77.out.rb.c1
                    have r2 := HP77.out.rb.c2
                    have r3 := HP77.out.rb.c3
                    have r4 := HP77.out.rb.c4
                    have z1 := HP77.out.rb.fz 1
                    have z2 := HP77.out.rb.fz 2
                    go_wp2_with (fail)
                    refine (ris_any w.heap.size s (i) v (120) (i) 124 _ HP77.out.rb (by omega)).mono ?_
                    rintro e w78 ⟨rfl, hdr78⟩
                    clear r1 r2 r3 r4 z1 z2
                    have HP78 : Hid (PS w w78 s (i) v (120) (i) ns (.slice (some ⟨b, 0, none⟩) o.length co) o) := hd (HP77.out.dr hdr78)
                    clear hdr78
                    rw [A2.out]
                    have r1 := HP78.out.rb.c1
                    have r2 := HP78.out.rb.c2
                    have r3 := HP78.out.rb.c3
                    have r4 := HP78.out.rb.c4
                    have z1 := HP78.out.rb.fz 1
                    have z2 := HP78.out.rb.fz 2
                    go_wp2_with (fail)
                    refine (ris_any w.heap.size s (i) v (120) (i) 33 _ HP78.out.rb (by omega)).mono ?_
                    rintro e w79 ⟨rfl, hdr79⟩
                    clear r1 r2 r3 r4 z1 z2
                    have HP79 : Hid (PS w w79 s (i) v (120) (i) ns (.slice (some ⟨b, 0, none⟩) o.length co) o) := hd (HP78.out.dr hdr79)
                    clear hdr79
                    rw [A3.out]
                    have r1 := HP79.out.rb.c1
                    have r2 := HP79.out.rb.c2
                    have r3 := HP79.out.rb.c3
                    have r4 := HP79.out.rb.c4
                    have z1 := HP79.out.rb.fz 1
                    have z2 := HP79.out.rb.fz 2
                    go_wp2_with (at_builtin; first | (go_loud (refine wp_app_int _ (w.heap.size + 1) rfl (.tmp 79) (.tmp 81) rfl (.slice (some ⟨b, 0, none⟩) o.length co) o (1) rfl (show Value.slice (some ⟨w79.heap.size, 0, none⟩) 1 1 = Value.slice (some ⟨(w79.setCell ⟨w.heap.size, 1, none⟩ (.int .i64 (i + 1))).heap.size, 0, none⟩) 1 1 from by simp [World.setCell]) (HP79.out.set1 _).os (HP79.out.set1 _).rb.lt (by omega) ?_; rintro A5 c5 w80 ⟨ho5, hg5⟩; have HP80 := hd ((HP79.out.set1 (i + 1)).app_o hg5 ho5); clear ho5 hg5 r1 r2 r3 r4 z1 z2; have r2 := HP80.out.rb.c2; have z2 := HP80.out.rb.fz 2)) | (go_loud (refine wp_app_node _ (w.heap.size + 1) rfl (.tmp 87) (.tmp 92) rfl v ns (Nd.at ((o.length + 1 : Nat) : Int) (1)) (.slice none 0 0) rfl rfl HP80.out.ns (AnyR.nil _ _ _) HP80.out.rb.lt (by omega) rfl ?_; rintro A6 c6 w81 ⟨hn6, hg6⟩; have HP81 := hd (HP80.out.app_n hg6 hn6); have HB6 := HP80.out.rbn hg6 hn6; clear hn6 hg6; have y2 := HB6.fz 2; have y3 := HB6.c2; clear HB6)))
                    go_roundg 0
                    case measure => omega
                    case rel => exact ⟨i + 1, false, _, 120, i, _, o ++ [1], rfl, hd (by simpa using HP81.out), by omega, by omega, by simp; omega, hd (.inr ⟨HE.out, HF.out⟩)⟩
                  · skip
                    have hlt := (isB_true a3).1
                    have A1 := hd a1
                    have A2 := hd a2
                    have A3 := hd a3
                    clear hop a1 a2 a3
                    go_wp2_with (fail)
                    refine (ris_any w.heap.size s (i) v (120) (i) 38 _ HP71.out.rb (by omega)).mono ?_
                    rintro e w82 ⟨rfl, hdr82⟩
                    clear r1 r2 r3 r4 z1 z2
                    have HP82 : Hid (PS w w82 s (i) v (120) (i) ns (.slice (some ⟨b, 0, none⟩) o.length co) o) := hd (HP71.out.dr hdr82)
                    clear hdr82
                    rw [A1.out]
                    have r1 := HP82.out.rb.c1
                    have r2 := HP82.out.rb.c2
                    have r3 := HP82.out.rb.c3
                    have r4 := HP82.out.rb.c4
                    have z1 := HP82.out.rb.fz 1
                    have z2 := HP82.out.rb.fz 2
                    go_wp2_with (fail)
                    refine (ris_any w.heap.size s (i) v (120) (i) 124 _ HP82.out.rb (by omega)).mono ?_
                    rintro e w83 ⟨rfl, hdr83⟩
                    clear r1 r2 r3 r4 z1 z2
                    have HP83 : Hid (PS w w83 s (i) v (120) (i) ns (.slice (some ⟨b, 0, none⟩) o.length co) o) := hd (HP82.out.dr hdr83)
                    clear hdr83
                    rw [A2.out]
                    have r1 := HP83.out.rb.c1
                    have r2 := HP83.out.rb.c2
                    have r3 := HP83.out.rb.c3
                    have r4 := HP83.out.rb.c4
                    have z1 := HP83.out.rb.fz 1
                    have z2 := HP83.out.rb.fz 2
                    go_wp2_with (fail)
                    refine (ris_any w.heap.size s (i) v (120) (i) 33 _ HP83.out.rb (by omega)).mono ?_
                    rintro e w84 ⟨rfl, hdr84⟩
                    clear r1 r2 r3 r4 z1 z2
                    have HP84 : Hid (PS w w84 s (i) v (120) (i) ns (.slice (some ⟨b, 0, none⟩) o.length co) o) := hd (HP83.out.dr hdr84)
                    clear hdr84
                    rw [A3.out]
                    have r1 := HP84.out.rb.c1
                    have r2 := HP84.out.rb.c2
                    have r3 := HP84.out.rb.c3
                    have r4 := HP84.out.rb.c4
                    have z1 := HP84.out.rb.fz 1
                    have z2 := HP84.out.rb.fz 2
                    go_wp2_with (at_builtin; first | (go_loud (refine wp_app_int _ (w.heap.size + 1) rfl (.tmp 79) (.tmp 81) rfl (.slice (some ⟨b, 0, none⟩) o.length co) o (2) rfl (show Value.slice (some ⟨w84.heap.size, 0, none⟩) 1 1 = Value.slice (some ⟨(w84.setCell ⟨w.heap.size, 1, none⟩ (.int .i64 (i + 1))).heap.size, 0, none⟩) 1 1 from by simp [World.setCell]) (HP84.out.set1 _).os (HP84.out.set1 _).rb.lt (by omega) ?_; rintro A5 c5 w85 ⟨ho5, hg5⟩; have HP85 := hd ((HP84.out.set1 (i + 1)).app_o hg5 ho5); clear ho5 hg5 r1 r2 r3 r4 z1 z2; have r2 := HP85.out.rb.c2; have z2 := HP85.out.rb.fz 2)) | (go_loud (refine wp_app_node _ (w.heap.size + 1) rfl (.tmp 87) (.tmp 92) rfl v ns (Nd.at ((o.length + 1 : Nat) : Int) (2)) (.slice none 0 0) rfl rfl HP85.out.ns (AnyR.nil _ _ _) HP85.out.rb.lt (by omega) rfl ?_; rintro A6 c6 w86 ⟨hn6, hg6⟩; have HP86 := hd (HP85.out.app_n hg6 hn6); have HB6 := HP85.out.rbn hg6 hn6; clear hn6 hg6; have y2 := HB6.fz 2; have y3 := HB6.c2; clear HB6)))
                    go_roundg 0
                    case measure => omega
                    case rel => exact ⟨i + 1, true, _, 120, i, _, o ++ [2], rfl, hd (by simpa using HP86.out), by omega, by omega, by simp; omega, hd (.inr ⟨HE.out, HF.out⟩)⟩
                  · skip
                    have A1 := hd a1
                    have A2 := hd a2
                    have A3 := hd a3
                    clear hop a1 a2 a3
                    go_wp2_with (fail)
                    refine (ris_any w.heap.size s (i) v (120) (i) 38 _ HP71.out.rb (by omega)).mono ?_
                    rintro e w87 ⟨rfl, hdr87⟩
                    clear r1 r2 r3 r4 z1 z2
                    have HP87 : Hid (PS w w87 s (i) v (120) (i) ns (.slice (some ⟨b, 0, none⟩) o.length co) o) := hd (HP71.out.dr hdr87)
                    clear hdr87
                    rw [A1.out]
                    have r1 := HP87.out.rb.c1
                    have r2 := HP87.out.rb.c2
                    have r3 := HP87.out.rb.c3
                    have r4 := HP87.out.rb.c4
                    have z1 := HP87.out.rb.fz 1
                    have z2 := HP87.out.rb.fz 2
                    go_wp2_with (fail)
                    refine (ris_any w.heap.size s (i) v (120) (i) 124 _ HP87.out.rb (by omega)).mono ?_
                    rintro e w88 ⟨rfl, hdr88⟩
                    clear r1 r2 r3 r4 z1 z2
                    have HP88 : Hid (PS w w88 s (i) v (120) (i) ns (.slice (some ⟨b, 0, none⟩) o.length co) o) := hd (HP87.out.dr hdr88)
                    clear hdr88
                    rw [A2.out]
                    have r1 := HP88.out.rb.c1
                    have r2 := HP88.out.rb.c2
                    have r3 := HP88.out.rb.c3
                    have r4 := HP88.out.rb.c4
                    have z1 := HP88.out.rb.fz 1
                    have z2 := HP88.out.rb.fz 2
                    go_wp2_with (fail)
                    refine (ris_any w.heap.size s (i) v (120) (i) 33 _ HP88.out.rb (by omega)).mono ?_
                    rintro e w89 ⟨rfl, hdr89⟩
                    clear r1 r2 r3 r4 z1 z2
                    have HP89 : Hid (PS w w89 s (i) v (120) (i) ns (.slice (some ⟨b, 0, none⟩) o.length co) o) := hd (HP88.out.dr hdr89)
                    clear hdr89
                    rw [A3.out]
                    have r1 := HP89.out.rb.c1
                    have r2 := HP89.out.rb.c2
                    have r3 := HP89.out.rb.c3
                    have r4 := HP89.out.rb.c4
                    have z1 := HP89.out.rb.fz 1
                    have z2 := HP89.out.rb.fz 2
                    go_wp2
                    go_roundg 0
                    case measure => omega
                    case rel => exact ⟨i, false, _, 120, i, _, o, rfl, HP89, by omega, by omega, by omega, hd (.inr ⟨HE.out, HF.out⟩)⟩
                | true =>
                  have hlt0 := (isB_true q40).1
                  by_cases h64 : 64 ≤ o.length
                  · have HF := hd (show PR = .bad 121 i from by rw [← HA.out]; unfold stepA; rw [if_neg (by rw [q40]; simp), if_pos h64])
                    have HE := hd (show (121 : Int) ≠ 0 by omega)
                    have Q := hd q40
                    clear q40
                    have d64 : decide ((o.length : Int) ≥ 64) = true := decide_eq_true (by omega)
                    have d65 : decide ((64 : Int) ≤ (o.length : Int)) = true := decide_eq_true (by omega)
                    have r1 := HP69.out.rb.c1
                    have r2 := HP69.out.rb.c2
                    have r3 := HP69.out.rb.c3
                    have r4 := HP69.out.rb.c4
                    have z1 := HP69.out.rb.fz 1
                    have z2 := HP69.out.rb.fz 2
                    go_wp2_with (fail)
                    refine (ris_any w.heap.size s (i) v (0) (0) 40 _ HP69.out.rb (by omega)).mono ?_
                    rintro e w90 ⟨rfl, hdr90⟩
                    clear r1 r2 r3 r4 z1 z2
                    have HP90 : Hid (PS w w90 s (i) v (0) (0) ns (.slice (some ⟨b, 0, none⟩) o.length co) o) := hd (HP69.out.dr hdr90)
                    clear hdr90
                    rw [Q.out]
                    have r1 := HP90.out.rb.c1
                    have r2 := HP90.out.rb.c2
                    have r3 := HP90.out.rb.c3
                    have r4 := HP90.out.rb.c4
                    have z1 := HP90.out.rb.fz 1
                    have z2 := HP90.out.rb.fz 2
                    go_wp2_with (fail)
                    refine (stop_new w.heap.size s i v 0 121 i _ HP90.out.rb).mono ?_
                    rintro e w91 ⟨rfl, hr91, hk91⟩
                    clear r1 r2 r3 r4 z1 z2
                    have HP91 : Hid (PS w w91 s (i) v (121) (i) ns (.slice (some ⟨b, 0, none⟩) o.length co) o) := hd (HP90.out.one hr91 hk91)
                    have r1 := HP91.out.rb.c1
                    have r2 := HP91.out.rb.c2
                    have r3 := HP91.out.rb.c3
                    have r4 := HP91.out.rb.c4
                    have z1 := HP91.out.rb.fz 1
                    have z2 := HP91.out.rb.fz 2
                    go_wp2_with (fail)
                    refine (must_yes w.heap.size s i v 121 i 40 _ HP91.out.rb (by omega) hl Q.out).mono ?_
                    rintro e w92 ⟨rfl, hr92, hk92⟩
                    clear r1 r2 r3 r4 z1 z2
                    have HP92 : Hid (PS w w92 s (i + 1) v (121) (i) ns (.slice (some ⟨b, 0, none⟩) o.length co) o) := hd (HP91.out.one hr92 hk92)
                    have r1 := HP92.out.rb.c1
                    have r2 := HP92.out.rb.c2
                    have r3 := HP92.out.rb.c3
                    have r4 := HP92.out.rb.c4
                    have z1 := HP92.out.rb.fz 1
                    have z2 := HP92.out.rb.fz 2
                    rcases opAt_cases s (i + 1) with ⟨hop, a1, a2, a3⟩ | ⟨hop, a1, a2, a3⟩ | ⟨hop, a1, a2, a3⟩ | ⟨hop, a1, a2, a3⟩
                    · skip
                      have hlt := (isB_true a1).1
                      have A1 := hd a1
                      have A2 := hd a2
                      have A3 := hd a3
                      clear hop a1 a2 a3
                      go_wp2_with (fail)
                      refine (ris_any w.heap.size s (i + 1) v (121) (i) 38 _ HP92.out.rb (by omega)).mono ?_
                      rintro e w93 ⟨rfl, hdr93⟩
                      clear r1 r2 r3 r4 z1 z2
                      have HP93 : Hid (PS w w93 s (i + 1) v (121) (i) ns (.slice (some ⟨b, 0, none⟩) o.length co) o) := hd (HP92.out.dr hdr93)
                      clear hdr93
                      rw [A1.out]
                      have r1 := HP93.out.rb.c1
                      have r2 := HP93.out.rb.c2
                      have r3 := HP93.out.rb.c3
                      have r4 := HP93.out.rb.c4
                      have z1 := HP93.out.rb.fz 1
                      have z2 := HP93.out.rb.fz 2
                      go_wp2_with (fail)
                      refine (ris_any w.heap.size s (i + 1) v (121) (i) 124 _ HP93.out.rb (by omega)).mono ?_
                      rintro e w94 ⟨rfl, hdr94⟩
                      clear r1 r2 r3 r4 z1 z2
                      have HP94 : Hid (PS w w94 s (i + 1) v (121) (i) ns (.slice (some ⟨b, 0, none⟩) o.length co) o) := hd (HP93.out.dr hdr94)
                      clear hdr94
                      rw [A2.out]
                      have r1 := HP94.out.rb.c1
                      have r2 := HP94.out.rb.c2
                      have r3 := HP94.out.rb.c3
                      have r4 := HP94.out.rb.c4
                      have z1 := HP94.out.rb.fz 1
                      have z2 := HP94.out.rb.fz 2
                      go_wp2_with (fail)
                      refine (ris_any w.heap.size s (i + 1) v (121) (i) 33 _ HP94.out.rb (by omega)).mono ?_
                      rintro e w95 ⟨rfl, hdr95⟩
                      clear r1 r2 r3 r4 z1 z2
                      have HP95 : Hid (PS w w95 s (i + 1) v (121) (i) ns (.slice (some ⟨b, 0, none⟩) o.length co) o) := hd (HP94.out.dr hdr95)
                      clear hdr95
                      rw [A3.out]
                      have r1 := HP95.out.rb.c1
                      have r2 := HP95.out.rb.c2
                      have r3 := HP95.out.rb.c3
                      have r4 := HP95.out.rb.c4
                      have z1 := HP95.out.rb.fz 1
                      have z2 := HP95.out.rb.fz 2
                      go_wp2_with (at_builtin; first | (go_loud (refine wp_app_int _ (w.heap.size + 1) rfl (.tmp 79) (.tmp 81) rfl (.slice (some ⟨b, 0, none⟩) o.length co) o (0) rfl (show Value.slice (some ⟨w95.heap.size, 0, none⟩) 1 1 = Value.slice (some ⟨(w95.setCell ⟨w.heap.size, 1, none⟩ (.int .i64 (i + 1 + 1))).heap.size, 0, none⟩) 1 1 from by simp [World.setCell]) (HP95.out.set1 _).os (HP95.out.set1 _).rb.lt (by omega) ?_; rintro A5 c5 w96 ⟨ho5, hg5⟩; have HP96 := hd ((HP95.out.set1 (i + 1 + 1)).app_o hg5 ho5); clear ho5 hg5 r1 r2 r3 r4 z1 z2; have r2 := HP96.out.rb.c2; have z2 := HP96.out.rb.fz 2)) | (go_loud (refine wp_app_node _ (w.heap.size + 1) rfl (.tmp 87) (.tmp 92) rfl v ns (Nd.at ((o.length + 1 : Nat) : Int) (0)) (.slice none 0 0) rfl rfl HP96.out.ns (AnyR.nil _ _ _) HP96.out.rb.lt (by omega) rfl ?_; rintro A6 c6 w97 ⟨hn6, hg6⟩; have HP97 := hd (HP96.out.app_n hg6 hn6); have HB6 := HP96.out.rbn hg6 hn6; clear hn6 hg6; have y2 := HB6.fz 2; have y3 := HB6.c2; clear HB6)))
                      go_roundg 0
                      case measure => omega
                      case rel => exact ⟨i + 1 + 1, false, _, 121, i, _, o ++ [0], rfl, hd (by simpa using HP97.out), by omega, by omega, by simp; omega, hd (.inr ⟨HE.out, HF.out⟩)⟩
                    · skip
                      have hlt := (isB_true a2).1
                      have A1 := hd a1
                      have A2 := hd a2
                      have A3 := hd a3
                      clear hop a1 a2 a3
                      go_wp2_with (fail)
                      refine (ris_any w.heap.size s (i + 1) v (121) (i) 38 _ HP92.out.rb (by omega)).mono ?_
                      rintro e w98 ⟨rfl, hdr98⟩
                      clear r1 r2 r3 r4 z1 z2
                      have HP98 : Hid (PS w w98 s (i + 1) v (121) (i) ns (.slice (some ⟨b, 0, none⟩) o.length co) o) := hd (HP92.out.dr hdr98)
                      clear hdr98
                      rw [A1.out]
                      have r1 := HP98.out.rb.c1
                      have r2 := HP98.out.rb.c2
                      have r3 := HP98.out.rb.c3
                      have r4 := HP98.out.rb.c4
                      have z1 := HP98.out.rb.fz 1
                      have z2 := HP98.out.rb.fz 2
                      go_wp2_with (fail)
                      refine (ris_any w.heap.size s (i + 1) v (121) (i) 124 _ HP98.out.rb (by omega)).mono ?_
                      rintro e w99 ⟨rfl, hdr99⟩
                      clear r1 r2 r3 r4 z1 z2
                      have HP99 : Hid (PS w w99 s (i + 1) v (121) (i) ns (.slice (some ⟨b, 0, none⟩) o.length co) o) := hd (HP98.out.dr hdr99)
                      clear hdr99
                      rw [A2.out]
                      have r1 := HP99.out.rb.c1
                      have r2 := HP99.out.rb.c2
                      have r3 := HP99.out.rb.c3
                      have r4 := HP99.out.rb.c4
                      have z1 := HP99.out.rb.fz 1
                      have z2 := HP99.out.rb.fz 2
                      go_wp2_with (fail)
                      refine (ris_any w.heap.size s (i + 1) v (121) (i) 33 _ HP99.out.rb (by omega)).mono ?_
                      rintro e w100 ⟨rfl, hdr100⟩
                      clear r1 r2 r3 r4 z1 z2
                      have HP100 : Hid (PS w w100 s (i + 1) v (121) (i) ns (.slice (some ⟨b, 0, none⟩) o.length co) o) := hd (HP99.out.dr hdr100)
                      clear hdr100
                      rw [A3.out]
                      have r1 := HP100.out.rb.c1
                      have r2 := HP100.out.rb.c2
                      have r3 := HP100.out.rb.c3
                      have r4 := HP100.out.rb.c4
                      have z1 := HP100.out.rb.fz 1
                      have z2 := HP100.out.rb.fz 2
                      go_wp2_with (at_builtin; first | (go_loud (refine wp_app_int _ (w.heap.size + 1) rfl (.tmp 79) (.tmp 81) rfl (.slice (some ⟨b, 0, none⟩) o.length co) o (1) rfl (show Value.slice (some ⟨w100.heap.size, 0, none⟩) 1 1 = Value.slice (some ⟨(w100.setCell ⟨w.heap.size, 1, none⟩ (.int .i64 (i + 1 + 1))).heap.size, 0, none⟩) 1 1 from by simp [World.setCell]) (HP100.out.set1 _).os (HP100.out.set1 _).rb.lt (by omega) ?_; rintro A5 c5 w101 ⟨ho5, hg5⟩; have HP101 := hd ((HP100.out.set1 (i + 1 + 1)).app_o hg5 ho5); clear ho5 hg5 r1 r2 r3 r4 z1 z2; have r2 := HP101.out.rb.c2; have z2 := HP101.out.rb.fz 2)) | (go_loud (refine wp_app_node _ (w.heap.size + 1) rfl (.tmp 87) (.tmp 92) rfl v ns (Nd.at ((o.length + 1 : Nat) : Int) (1)) (.slice none 0 0) rfl rfl HP101.out.ns (AnyR.nil _ _ _) HP101.out.rb.lt (by omega) rfl ?_; rintro A6 c6 w102 ⟨hn6, hg6⟩; have HP102 := hd (HP101.out.app_n hg6 hn6); have HB6 := HP101.out.rbn hg6 hn6; clear hn6 hg6; have y2 := HB6.fz 2; have y3 := HB6.c2; clear HB6)))
                      go_roundg 0
                      case measure => omega
                      case rel => exact ⟨i + 1 + 1, false, _, 121, i, _, o ++ [1], rfl, hd (by simpa using HP102.out), by omega, by omega, by simp; omega, hd (.inr ⟨HE.out, HF.out⟩)⟩
                    · skip
                      have hlt := (isB_true a3).1
                      have A1 := hd a1
                      have A2 := hd a2
                      have A3 := hd a3
                      clear hop a1 a2 a3
                      go_wp2_with (fail)
                      refine (ris_any w.heap.size s (i + 1) v (121) (i) 38 _ HP92.out.rb (by omega)).mono ?_
                      rintro e w103 ⟨rfl, hdr103⟩
                      clear r1 r2 r3 r4 z1 z2
                      have HP103 : Hid (PS w w103 s (i + 1) v (121) (i) ns (.slice (some ⟨b, 0, none⟩) o.length co) o) := hd (HP92.out.dr hdr103)
                      clear hdr103
                      rw [A1.out]
                      have r1 := HP103.out.rb.c1
                      have r2 := HP103.out.rb.c2
                      have r3 := HP103.out.rb.c3
                      have r4 := HP103.out.rb.c4
                      have z1 := HP103.out.rb.fz 1
                      have z2 := HP103.out.rb.fz 2
                      go_wp2_with (fail)
                      refine (ris_any w.heap.size s (i + 1) v (121) (i) 124 _ HP103.out.rb (by omega)).mono ?_
                      rintro e w104 ⟨rfl, hdr104⟩
                      clear r1 r2 r3 r4 z1 z2
                      have HP104 : Hid (PS w w104 s (i + 1) v (121) (i) ns (.slice (some ⟨b, 0, none⟩) o.length co) o) := hd (HP103.out.dr hdr104)
                      clear hdr104
                      rw [A2.out]
                      have r1 := HP104.out.rb.c1
                      have r2 := HP104.out.rb.c2
                      have r3 := HP104.out.rb.c3
                      have r4 := HP104.out.rb.c4
                      have z1 := HP104.out.rb.fz 1
                      have z2 := HP104.out.rb.fz 2
                      go_wp2_with (fail)
                      refine (ris_any w.heap.size s (i + 1) v (121) (i) 33 _ HP104.out.rb (by omega)).mono ?_
                      rintro e w105 ⟨rfl, hdr105⟩
                      clear r1 r2 r3 r4 z1 z2
                      have HP105 : Hid (PS w w105 s (i + 1) v (121) (i) ns (.slice (some ⟨b, 0, none⟩) o.length co) o) := hd (HP104.out.dr hdr105)
                      clear hdr105
                      rw [A3.out]
                      have r1 := HP105.out.rb.c1
                      have r2 := HP105.out.rb.c2
                      have r3 := HP105.out.rb.c3
                      have r4 := HP105.out.rb.c4
                      have z1 := HP105.out.rb.fz 1
                      have z2 := HP105.out.rb.fz 2
                      go_wp2_with (at_builtin; first | (go_loud (refine wp_app_int _ (w.heap.size + 1) rfl (.tmp 79) (.tmp 81) rfl (.slice (some ⟨b, 0, none⟩) o.length co) o (2) rfl (show Value.slice (some ⟨w105.heap.size, 0, none⟩) 1 1 = Value.slice (some ⟨(w105.setCell ⟨w.heap.size, 1, none⟩ (.int .i64 (i + 1 + 1))).heap.size, 0, none⟩) 1 1 from by simp [World.setCell]) (HP105.out.set1 _).os (HP105.out.set1 _).rb.lt (by omega) ?_; rintro A5 c5 w106 ⟨ho5, hg5⟩; have HP106 := hd ((HP105.out.set1 (i + 1 + 1)).app_o hg5 ho5); clear ho5 hg5 r1 r2 r3 r4 z1 z2; have r2 := HP106.out.rb.c2; have z2 := HP106.out.rb.fz 2)) | (go_loud (refine wp_app_node _ (w.heap.size + 1) rfl (.tmp 87) (.tmp 92) rfl v ns (Nd.at ((o.length + 1 : Nat) : Int) (2)) (.slice none 0 0) rfl rfl HP106.out.ns (AnyR.nil _ _ _) HP106.out.rb.lt (by omega) rfl ?_; rintro A6 c6 w107 ⟨hn6, hg6⟩; have HP107 := hd (HP106.out.app_n hg6 hn6); have HB6 := HP106.out.rbn hg6 hn6; clear hn6 hg6; have y2 := HB6.fz 2; have y3 := HB6.c2; clear HB6)))
                      go_roundg 0
                      case measure => omega
                      case rel => exact ⟨i + 1 + 1, true, _, 121, i, _, o ++ [2], rfl, hd (by simpa using HP107.out), by omega, by omega, by simp; omega, hd (.inr ⟨HE.out, HF.out⟩)⟩
                    · skip
                      have A1 := hd a1
                      have A2 := hd a2
                      have A3 := hd a3
                      clear hop a1 a2 a3
                      go_wp2_with (fail)
                      refine (ris_any w.heap.size s (i + 1) v (121) (i) 38 _ HP92.out.rb (by omega)).mono ?_
                      rintro e w108 ⟨rfl, hdr108⟩
                      clear r1 r2 r3 r4 z1 z2
                      have HP108 : Hid (PS w w108 s (i + 1) v (121) (i) ns (.slice (some ⟨b, 0, none⟩) o.length co) o) := hd (HP92.out.dr hdr108)
                      clear hdr108
                      rw [A1.out]
                      have r1 := HP108.out.rb.c1
                      have r2 := HP108.out.rb.c2
                      have r3 := HP108.out.rb.c3
                      have r4 := HP108.out.rb.c4
                      have z1 := HP108.out.rb.fz 1
                      have z2 := HP108.out.rb.fz 2
                      go_wp2_with (fail)
                      refine (ris_any w.heap.size s (i + 1) v (121) (i) 124 _ HP108.out.rb (by omega)).mono ?_
                      rintro e w109 ⟨rfl, hdr109⟩
                      clear r1 r2 r3 r4 z1 z2
                      have HP109 : Hid (PS w w109 s (i + 1) v (121) (i) ns (.slice (some ⟨b, 0, none⟩) o.length co) o) := hd (HP108.out.dr hdr109)
                      clear hdr109
                      rw [A2.out]
                      have r1 := HP109.out.rb.c1
                      have r2 := HP109.out.rb.c2
                      have r3 := HP109.out.rb.c3
                      have r4 := HP109.out.rb.c4
                      have z1 := HP109.out.rb.fz 1
                      have z2 := HP109.out.rb.fz 2
                      go_wp2_with (fail)
                      refine (ris_any w.heap.size s (i + 1) v (121) (i) 33 _ HP109.out.rb (by omega)).mono ?_
                      rintro e w110 ⟨rfl, hdr110⟩
                      clear r1 r2 r3 r4 z1 z2
                      have HP110 : Hid (PS w w110 s (i + 1) v (121) (i) ns (.slice (some ⟨b, 0, none⟩) o.length co) o) := hd (HP109.out.dr hdr110)
                      clear hdr110
                      rw [A3.out]
                      have r1 := HP110.out.rb.c1
                      have r2 := HP110.out.rb.c2
                      have r3 := HP110.out.rb.c3
                      have r4 := HP110.out.rb.c4
                      have z1 := HP110.out.rb.fz 1
                      have z2 := HP110.out.rb.fz 2
                      go_wp2
                      go_roundg 0
                      case measure => omega
                      case rel => exact ⟨i + 1, false, _, 121, i, _, o, rfl, HP110, by omega, by omega, by omega, hd (.inr ⟨HE.out, HF.out⟩)⟩
                  · have HS := hd (show (match stepB s (i + 1) o ns with | .bad e p => PRes.bad e p | .next i' o' w' ns' => parseR s gk i' o' w' ns') = PR from by rw [← HA.out]; unfold stepA; rw [if_neg (by rw [q40]; simp), if_neg h64])
                    have Q := hd q40
                    clear q40
                    have d64 : decide ((o.length : Int) ≥ 64) = false := decide_eq_false (by omega)
                    have d65 : decide ((64 : Int) ≤ (o.length : Int)) = false := decide_eq_false (by omega)
                    have r1 := HP69.out.rb.c1
                    have r2 := HP69.out.rb.c2
                    have r3 := HP69.out.rb.c3
                    have r4 := HP69.out.rb.c4
                    have z1 := HP69.out.rb.fz 1
                    have z2 := HP69.out.rb.fz 2
                    go_wp2_with (fail)
                    refine (ris_any w.heap.size s (i) v (0) (0) 40 _ HP69.out.rb (by omega)).mono ?_
                    rintro e w111 ⟨rfl, hdr111⟩
                    clear r1 r2 r3 r4 z1 z2
                    have HP111 : Hid (PS w w111 s (i) v (0) (0) ns (.slice (some ⟨b, 0, none⟩) o.length co) o) := hd (HP69.out.dr hdr111)
                    clear hdr111
                    rw [Q.out]
                    have r1 := HP111.out.rb.c1
                    have r2 := HP111.out.rb.c2
                    have r3 := HP111.out.rb.c3
                    have r4 := HP111.out.rb.c4
                    have z1 := HP111.out.rb.fz 1
                    have z2 := HP111.out.rb.fz 2
                    go_wp2_with (fail)
                    refine (must_yes w.heap.size s i v 0 0 40 _ HP111.out.rb (by omega) hl Q.out).mono ?_
                    rintro e w112 ⟨rfl, hr112, hk112⟩
                    clear r1 r2 r3 r4 z1 z2
                    have HP112 : Hid (PS w w112 s (i + 1) v (0) (0) ns (.slice (some ⟨b, 0, none⟩) o.length co) o) := hd (HP111.out.one hr112 hk112)
                    have r1 := HP112.out.rb.c1
                    have r2 := HP112.out.rb.c2
                    have r3 := HP112.out.rb.c3
                    have r4 := HP112.out.rb.c4
                    have z1 := HP112.out.rb.fz 1
                    have z2 := HP112.out.rb.fz 2
                    rcases opAt_cases s (i + 1) with ⟨hop, a1, a2, a3⟩ | ⟨hop, a1, a2, a3⟩ | ⟨hop, a1, a2, a3⟩ | ⟨hop, a1, a2, a3⟩
                    · skip
                      have hlt := (isB_true a1).1
                      have HN := hd (show parseR s gk (i + 1 + 1) (o ++ [0]) (false) (ns ++ [Nd.at ((o.length + 1 : Nat) : Int) 0]) = PR from by have hq := HS.out; unfold stepB at hq; rw [hop] at hq; exact hq)
                      have A1 := hd a1
                      have A2 := hd a2
                      have A3 := hd a3
                      clear hop a1 a2 a3
                      go_wp2_with (fail)
                      refine (ris_any w.heap.size s (i + 1) v (0) (0) 38 _ HP112.out.rb (by omega)).mono ?_
                      rintro e w113 ⟨rfl, hdr113⟩
                      clear r1 r2 r3 r4 z1 z2
                      have HP113 : Hid (PS w w113 s (i + 1) v (0) (0) ns (.slice (some ⟨b, 0, none⟩) o.length co) o) := hd (HP112.out.dr hdr113)
                      clear hdr113
                      rw [A1.out]
                      have r1 := HP113.out.rb.c1
                      have r2 := HP113.out.rb.c2
                      have r3 := HP113.out.rb.c3
                      have r4 := HP113.out.rb.c4
                      have z1 := HP113.out.rb.fz 1
                      have z2 := HP113.out.rb.fz 2
                      go_wp2_with (fail)
                      refine (ris_any w.heap.size s (i + 1) v (0) (0) 124 _ HP113.out.rb (by omega)).mono ?_
                      rintro e w114 ⟨rfl, hdr114⟩
                      clear r1 r2 r3 r4 z1 z2
                      have HP114 : Hid (PS w w114 s (i + 1) v (0) (0) ns (.slice (some ⟨b, 0, none⟩) o.length co) o) := hd (HP113.out.dr hdr114)
                      clear hdr114
                      rw [A2.out]
                      have r1 := HP114.out.rb.c1
                      have r2 := HP114.out.rb.c2
                      have r3 := HP114.out.rb.c3
                      have r4 := HP114.out.rb.c4
                      have z1 := HP114.out.rb.fz 1
                      have z2 := HP114.out.rb.fz 2
                      go_wp2_with (fail)
                      refine (ris_any w.heap.size s (i + 1) v (0) (0) 33 _ HP114.out.rb (by omega)).mono ?_
                      rintro e w115 ⟨rfl, hdr115⟩
                      clear r1 r2 r3 r4 z1 z2
                      have HP115 : Hid (PS w w115 s (i + 1) v (0) (0) ns (.slice (some ⟨b, 0, none⟩) o.length co) o) := hd (HP114.out.dr hdr115)
                      clear hdr115
                      rw [A3.out]
                      have r1 := HP115.out.rb.c1
                      have r2 := HP115.out.rb.c2
                      have r3 := HP115.out.rb.c3
                      have r4 := HP115.out.rb.c4
                      have z1 := HP115.out.rb.fz 1
                      have z2 := HP115.out.rb.fz 2
                      go_wp2_with (at_builtin; first | (go_loud (refine wp_app_int _ (w.heap.size + 1) rfl (.tmp 79) (.tmp 81) rfl (.slice (some ⟨b, 0, none⟩) o.length co) o (0) rfl (show Value.slice (some ⟨w115.heap.size, 0, none⟩) 1 1 = Value.slice (some ⟨(w115.setCell ⟨w.heap.size, 1, none⟩ (.int .i64 (i + 1 + 1))).heap.size, 0, none⟩) 1 1 from by simp [World.setCell]) (HP115.out.set1 _).os (HP115.out.set1 _).rb.lt (by omega) ?_; rintro A5 c5 w116 ⟨ho5, hg5⟩; have HP116 := hd ((HP115.out.set1 (i + 1 + 1)).app_o hg5 ho5); clear ho5 hg5 r1 r2 r3 r4 z1 z2; have r2 := HP116.out.rb.c2; have z2 := HP116.out.rb.fz 2)) | (go_loud (refine wp_app_node _ (w.heap.size + 1) rfl (.tmp 87) (.tmp 92) rfl v ns (Nd.at ((o.length + 1 : Nat) : Int) (0)) (.slice none 0 0) rfl rfl HP116.out.ns (AnyR.nil _ _ _) HP116.out.rb.lt (by omega) rfl ?_; rintro A6 c6 w117 ⟨hn6, hg6⟩; have HP117 := hd (HP116.out.app_n hg6 hn6); have HB6 := HP116.out.rbn hg6 hn6; clear hn6 hg6; have y2 := HB6.fz 2; have y3 := HB6.c2; clear HB6)))
                      go_roundg gk
                      case measure => omega
                      case rel => exact ⟨i + 1 + 1, false, _, 0, 0, _, o ++ [0], rfl, hd (by simpa using HP117.out), by omega, by omega, by simp; omega, hd (.inl ⟨rfl, rfl, by omega, by simp; omega, by simp; omega, HN.out⟩)⟩
                    · skip
                      have hlt := (isB_true a2).1
                      have HN := hd (show parseR s gk (i + 1 + 1) (o ++ [1]) (false) (ns ++ [Nd.at ((o.length + 1 : Nat) : Int) 1]) = PR from by have hq := HS.out; unfold stepB at hq; rw [hop] at hq; exact hq)
                      have A1 := hd a1
                      have A2 := hd a2
                      have A3 := hd a3
                      clear hop a1 a2 a3
                      go_wp2_with (fail)
                      refine (ris_any w.heap.size s (i + 1) v (0) (0) 38 _ HP112.out.rb (by omega)).mono ?_
                      rintro e w118 ⟨rfl, hdr118⟩
                      clear r1 r2 r3 r4 z1 z2
                      have HP118 : Hid (PS w w118 s (i + 1) v (0) (0) ns (.slice (some ⟨b, 0, none⟩) o.length co) o) := hd (HP112.out.dr hdr118)
                      clear hdr118
                      rw [A1.out]
                      have r1 := HP118.out.rb.c1
                      have r2 := HP118.out.rb.c2
                      have r3 := HP118.out.rb.c3
                      have r4 := HP118.out.rb.c4
                      have z1 := HP118.out.rb.fz 1
                      have z2 := HP118.out.rb.fz 2
                      go_wp2_with (fail)
                      refine (ris_any w.heap.size s (i + 1) v (0) (0) 124 _ HP118.out.rb (by omega)).mono ?_
                      rintro e w119 ⟨rfl, hdr119⟩
                      clear r1 r2 r3 r4 z1 z2
                      have HP119 : Hid (PS w w119 s (i + 1) v (0) (0) ns (.slice (some ⟨b, 0, none⟩) o.length co) o) := hd (HP118.out.dr hdr119)
                      clear hdr119
                      rw [A2.out]
                      have r1 := HP119.out.rb.c1
                      have r2 := HP119.out.rb.c2
                      have r3 := HP119.out.rb.c3
                      have r4 := HP119.out.rb.c4
                      have z1 := HP119.out.rb.fz 1
                      have z2 := HP119.out.rb.fz 2
                      go_wp2_with (fail)
                      refine (ris_any w.heap.size s (i + 1) v (0) (0) 33 _ HP119.out.rb (by omega)).mono ?_
                      rintro e w120 ⟨rfl, hdr120⟩
                      clear r1 r2 r3 r4 z1 z2
                      have HP120 : Hid (PS w w120 s (i + 1) v (0) (0) ns (.slice (some ⟨b, 0, none⟩) o.length co) o) := hd (HP119.out.dr hdr120)
                      clear hdr120
                      rw [A3.out]
                      have r1 := HP120.out.rb.c1
                      have r2 := HP120.out.rb.c2
                      have r3 := HP120.out.rb.c3
                      have r4 := HP120.out.rb.c4
                      have z1 := HP120.out.rb.fz 1
                      have z2 := HP120.out.rb.fz 2
                      go_wp2_with (at_builtin; first | (go_loud (refine wp_app_int _ (w.heap.size + 1) rfl (.tmp 79) (.tmp 81) rfl (.slice (some ⟨b, 0, none⟩) o.length co) o (1) rfl (show Value.slice (some ⟨w120.heap.size, 0, none⟩) 1 1 = Value.slice (some ⟨(w120.setCell ⟨w.heap.size, 1, none⟩ (.int .i64 (i + 1 + 1))).heap.size, 0, none⟩) 1 1 from by simp [World.setCell]) (HP120.out.set1 _).os (HP120.out.set1 _).rb.lt (by omega) ?_; rintro A5 c5 w121 ⟨ho5, hg5⟩; have HP121 := hd ((HP120.out.set1 (i + 1 + 1)).app_o hg5 ho5); clear ho5 hg5 r1 r2 r3 r4 z1 z2; have r2 := HP121.out.rb.c2; have z2 := HP121.out.rb.fz 2)) | (go_loud (refine wp_app_node _ (w.heap.size + 1) rfl (.tmp 87) (.tmp 92) rfl v ns (Nd.at ((o.length + 1 : Nat) : Int) (1)) (.slice none 0 0) rfl rfl HP121.out.ns (AnyR.nil _ _ _) HP121.out.rb.lt (by omega) rfl ?_; rintro A6 c6 w122 ⟨hn6, hg6⟩; have HP122 := hd (HP121.out.app_n hg6 hn6); have HB6 := HP121.out.rbn hg6 hn6; clear hn6 hg6; have y2 := HB6.fz 2; have y3 := HB6.c2; clear HB6)))
                      go_roundg gk
                      case measure => omega
                      case rel => exact ⟨i + 1 + 1, false, _, 0, 0, _, o ++ [1], rfl, hd (by simpa using HP122.out), by omega, by omega, by simp; omega, hd (.inl ⟨rfl, rfl, by omega, by simp; omega, by simp; omega, HN.out⟩)⟩
                    · skip
                      have hlt := (isB_true a3).1
                      have HN := hd (show parseR s gk (i + 1 + 1) (o ++ [2]) (true) (ns ++ [Nd.at ((o.length + 1 : Nat) : Int) 2]) = PR from by have hq := HS.out; unfold stepB at hq; rw [hop] at hq; exact hq)
                      have A1 := hd a1
                      have A2 := hd a2
                      have A3 := hd a3
                      clear hop a1 a2 a3
                      go_wp2_with (fail)
                      refine (ris_any w.heap.size s (i + 1) v (0) (0) 38 _ HP112.out.rb (by omega)).mono ?_
                      rintro e w123 ⟨rfl, hdr123⟩
                      clear r1 r2 r3 r4 z1 z2
                      have HP123 : Hid (PS w w123 s (i + 1) v (0) (0) ns (.slice (some ⟨b, 0, none⟩) o.length co) o) := hd (HP112.out.dr hdr123)
                      clear hdr123
                      rw [A1.out]
                      have r1 := HP123.out.rb.c1
                      have r2 := HP123.out.rb.c2
                      have r3 := HP123.out.rb.c3
                      have r4 := HP123.out.rb.c4
                      have z1 := HP123.out.rb.fz 1
                      have z2 := HP123.out.rb.fz 2
                      go_wp2_with (fail)
                      refine (ris_any w.heap.size s (i + 1) v (0) (0) 124 _ HP123.out.rb (by omega)).mono ?_
                      rintro e w124 ⟨rfl, hdr124⟩
                      clear r1 r2 r3 r4 z1 z2
                      have HP124 : Hid (PS w w124 s (i + 1) v (0) (0) ns (.slice (some ⟨b, 0, none⟩) o.length co) o) := hd (HP123.out.dr hdr124)
                      clear hdr124
                      rw [A2.out]
                      have r1 := HP124.out.rb.c1
                      have r2 := HP124.out.rb.c2
                      have r3 := HP124.out.rb.c3
                      have r4 := HP124.out.rb.c4
                      have z1 := HP124.out.rb.fz 1
                      have z2 := HP124.out.rb.fz 2
                      go_wp2_with (fail)
                      refine (ris_any w.heap.size s (i + 1) v (0) (0) 33 _ HP124.out.rb (by omega)).mono ?_
                      rintro e w125 ⟨rfl, hdr125⟩
                      clear r1 r2 r3 r4 z1 z2
                      have HP125 : Hid (PS w w125 s (i + 1) v (0) (0) ns (.slice (some ⟨b, 0, none⟩) o.length co) o) := hd (HP124.out.dr hdr125)
                      clear hdr125
                      rw [A3.out]
                      have r1 := HP125.out.rb.c1
                      have r2 := HP125.out.rb.c2
                      have r3 := HP125.out.rb.c3
                      have r4 := HP125.out.rb.c4
                      have z1 := HP125.out.rb.fz 1
                      have z2 := HP125.out.rb.fz 2
                      go_wp2_with (at_builtin; first | (go_loud (refine wp_app_int _ (w.heap.size + 1) rfl (.tmp 79) (.tmp 81) rfl (.slice (some ⟨b, 0, none⟩) o.length co) o (2) rfl (show Value.slice (some ⟨w125.heap.size, 0, none⟩) 1 1 = Value.slice (some ⟨(w125.setCell ⟨w.heap.size, 1, none⟩ (.int .i64 (i + 1 + 1))).heap.size, 0, none⟩) 1 1 from by simp [World.setCell]) (HP125.out.set1 _).os (HP125.out.set1 _).rb.lt (by omega) ?_; rintro A5 c5 w126 ⟨ho5, hg5⟩; have HP126 := hd ((HP125.out.set1 (i + 1 + 1)).app_o hg5 ho5); clear ho5 hg5 r1 r2 r3 r4 z1 z2; have r2 := HP126.out.rb.c2; have z2 := HP126.out.rb.fz 2)) | (go_loud (refine wp_app_node _ (w.heap.size + 1) rfl (.tmp 87) (.tmp 92) rfl v ns (Nd.at ((o.length + 1 : Nat) : Int) (2)) (.slice none 0 0) rfl rfl HP126.out.ns (AnyR.nil _ _ _) HP126.out.rb.lt (by omega) rfl ?_; rintro A6 c6 w127 ⟨hn6, hg6⟩; have HP127 := hd (HP126.out.app_n hg6 hn6); have HB6 := HP126.out.rbn hg6 hn6; clear hn6 hg6; have y2 := HB6.fz 2; have y3 := HB6.c2; clear HB6)))
                      go_roundg gk
                      case measure => omega
                      case rel => exact ⟨i + 1 + 1, true, _, 0, 0, _, o ++ [2], rfl, hd (by simpa using HP127.out), by omega, by omega, by simp; omega, hd (.inl ⟨rfl, rfl, by omega, by simp; omega, by simp; omega, HN.out⟩)⟩
                    · skip
                      have HN := hd (show (match (match itemS s ((o.length : Int) + 1) (i + 1) with | .bad p => SRes.bad 120 p | .ok n j => if isB s j 41 then .next (j + 1) o false (ns ++ [n]) else .bad 120 j) with | .bad e p => PRes.bad e p | .next i' o' w' ns' => parseR s gk i' o' w' ns') = PR from by have hq := HS.out; unfold stepB at hq; rw [hop] at hq; exact hq)
                      have A1 := hd a1
                      have A2 := hd a2
                      have A3 := hd a3
                      clear hop a1 a2 a3
                      go_wp2_with (fail)
                      refine (ris_any w.heap.size s (i + 1) v (0) (0) 38 _ HP112.out.rb (by omega)).mono ?_
                      rintro e w128 ⟨rfl, hdr128⟩
                      clear r1 r2 r3 r4 z1 z2
                      have HP128 : Hid (PS w w128 s (i + 1) v (0) (0) ns (.slice (some ⟨b, 0, none⟩) o.length co) o) := hd (HP112.out.dr hdr128)
                      clear hdr128
                      rw [A1.out]
                      have r1 := HP128.out.rb.c1
                      have r2 := HP128.out.rb.c2
                      have r3 := HP128.out.rb.c3
                      have r4 := HP128.out.rb.c4
                      have z1 := HP128.out.rb.fz 1
                      have z2 := HP128.out.rb.fz 2
                      go_wp2_with (fail)
                      refine (ris_any w.heap.size s (i + 1) v (0) (0) 124 _ HP128.out.rb (by omega)).mono ?_
                      rintro e w129 ⟨rfl, hdr129⟩
                      clear r1 r2 r3 r4 z1 z2
                      have HP129 : Hid (PS w w129 s (i + 1) v (0) (0) ns (.slice (some ⟨b, 0, none⟩) o.length co) o) := hd (HP128.out.dr hdr129)
                      clear hdr129
                      rw [A2.out]
                      have r1 := HP129.out.rb.c1
                      have r2 := HP129.out.rb.c2
                      have r3 := HP129.out.rb.c3
                      have r4 := HP129.out.rb.c4
                      have z1 := HP129.out.rb.fz 1
                      have z2 := HP129.out.rb.fz 2
                      go_wp2_with (fail)
                      refine (ris_any w.heap.size s (i + 1) v (0) (0) 33 _ HP129.out.rb (by omega)).mono ?_
                      rintro e w130 ⟨rfl, hdr130⟩
                      clear r1 r2 r3 r4 z1 z2
                      have HP130 : Hid (PS w w130 s (i + 1) v (0) (0) ns (.slice (some ⟨b, 0, none⟩) o.length co) o) := hd (HP129.out.dr hdr130)
                      clear hdr130
                      rw [A3.out]
                      have r1 := HP130.out.rb.c1
                      have r2 := HP130.out.rb.c2
                      have r3 := HP130.out.rb.c3
                      have r4 := HP130.out.rb.c4
                      have z1 := HP130.out.rb.fz 1
                      have z2 := HP130.out.rb.fz 2
                      go_wp2_with (fail)
                      refine (ritem_any w.heap.size (w.heap.size + 1) s (i + 1) v 0 ((o.length : Int) + 1) ns _ HP130.out.rb HP130.out.ns (by omega) HP130.out.rb.lt (HT.out.kp HP130.out.kp (fun q => q)) hg (by omega) (by omega) hl2 (by omega)).mono ?_
                      rintro e w131 hi
                      obtain ⟨rfl, v7, ns7, j7, er7, pl7, hp7, hj0, hj1, hnl, hO⟩ := HP130.out.item hi
                      clear hi
                      clear r1 r2 r3 r4 z1 z2
                      obtain ⟨R7, hR7⟩ : ∃ R, itemS s ((o.length : Int) + 1) (i + 1) = R := ⟨_, rfl⟩
                      have hN := HN.out
                      rw [hR7] at hN hO
                      clear HN hR7
                      have HP131 := hd hp7
                      rcases hO with ⟨n7, rfl, rfl, rfl, rfl⟩ | ⟨p7, rfl, rfl, rfl⟩
                      · cases q41 : isB s j7 41 with
                        | false =>
                          have HF := hd (show PR = .bad 120 j7 from by rw [← hN]; simp [q41])
                          have Q := hd q41
                          clear q41 hN
                          have r1 := HP131.out.rb.c1
                          have r2 := HP131.out.rb.c2
                          have r3 := HP131.out.rb.c3
                          have r4 := HP131.out.rb.c4
                          have z1 := HP131.out.rb.fz 1
                          have z2 := HP131.out.rb.fz 2
                          go_wp2_with (fail)
                          refine (must_new w.heap.size s j7 v7 0 41 _ HP131.out.rb (by omega) Q.out).mono ?_
                          rintro e w132 ⟨rfl, hr132, hk132⟩
                          clear r1 r2 r3 r4 z1 z2
                          have HP132 : Hid (PS w w132 s (j7) v7 (120) (j7) (ns ++ [n7]) (.slice (some ⟨b, 0, none⟩) o.length co) o) := hd (HP131.out.one hr132 hk132)
                          go_wp2
                          go_roundg 0
                          case measure => omega
                          case rel => exact ⟨j7, false, _, 120, j7, _, o, rfl, HP132, by omega, by omega, by omega, hd (.inr ⟨by omega, HF.out⟩)⟩
                        | true =>
                          have hlt := (isB_true q41).1
                          have HN := hd (show parseR s gk (j7 + 1) o false (ns ++ [n7]) = PR from by rw [← hN]; simp [q41])
                          have Q := hd q41
                          clear q41 hN
                          have r1 := HP131.out.rb.c1
                          have r2 := HP131.out.rb.c2
                          have r3 := HP131.out.rb.c3
                          have r4 := HP131.out.rb.c4
                          have z1 := HP131.out.rb.fz 1
                          have z2 := HP131.out.rb.fz 2
                          go_wp2_with (fail)
                          refine (must_yes w.heap.size s j7 v7 0 0 41 _ HP131.out.rb (by omega) hl Q.out).mono ?_
                          rintro e w133 ⟨rfl, hr133, hk133⟩
                          clear r1 r2 r3 r4 z1 z2
                          have HP133 : Hid (PS w w133 s (j7 + 1) v7 (0) (0) (ns ++ [n7]) (.slice (some ⟨b, 0, none⟩) o.length co) o) := hd (HP131.out.one hr133 hk133)
                          go_wp2
                          go_roundg gk
                          case measure => omega
                          case rel => exact ⟨j7 + 1, false, _, 0, 0, _, o, rfl, HP133, by omega, by omega, by omega, hd (.inl ⟨rfl, rfl, by omega, by omega, by simp; omega, HN.out⟩)⟩
                      · have HF := hd (show PR = .bad 120 pl7 from hN.symm)
                        clear hN
                        have r1 := HP131.out.rb.c1
                        have r2 := HP131.out.rb.c2
                        have r3 := HP131.out.rb.c3
                        have r4 := HP131.out.rb.c4
                        have z1 := HP131.out.rb.fz 1
                        have z2 := HP131.out.rb.fz 2
                        go_wp2
                        go_roundg 0
                        case measure => omega
                        case rel => exact ⟨j7, false, _, 120, pl7, _, o, rfl, HP131, by omega, by omega, by omega, hd (.inr ⟨by omega, HF.out⟩)⟩
              | false =>
                have HC := hd (show (match (if isB s i 41 then SRes.next (i + 1) (o.take (o.length - 1)) false ns else .bad 120 i) with | .bad e p => PRes.bad e p | .next i' o' w' ns' => parseR s gk i' o' w' ns') = PR from by rw [← hpr]; unfold stepR; rw [if_neg (show ¬ (false = true ∨ (o.getD (o.length - 1) 0 ≠ 2 ∧ isB s i 40 = true)) from by rw [q40]; exact fun q => q.elim (fun q => absurd q (by simp)) (fun q => absurd q.2 (by simp)))]; rfl)
                clear hpr
                clear hlast h2
                have Q0 := hd q40
                clear q40
                cases q41 : isB s i 41 with
                | false =>
                  have HF := hd (show PR = .bad 120 i from by rw [← HC.out, q41]; rfl)
                  have Q := hd q41
                  clear q41
                  have r1 := HP0.out.rb.c1
                  have r2 := HP0.out.rb.c2
                  have r3 := HP0.out.rb.c3
                  have r4 := HP0.out.rb.c4
                  have z1 := HP0.out.rb.fz 1
                  have z2 := HP0.out.rb.fz 2
                  go_wp2_with (fail)
                  refine (ris_any w.heap.size s (i) v (0) (0) 40 _ HP0.out.rb (by omega)).mono ?_
                  rintro e w134 ⟨rfl, hdr134⟩
                  clear r1 r2 r3 r4 z1 z2
                  have HP134 : Hid (PS w w134 s (i) v (0) (0) ns (.slice (some ⟨b, 0, none⟩) o.length co) o) := hd (HP0.out.dr hdr134)
                  clear hdr134
                  rw [Q0.out]
                  have r1 := HP134.out.rb.c1
                  have r2 := HP134.out.rb.c2
                  have r3 := HP134.out.rb.c3
                  have r4 := HP134.out.rb.c4
                  have z1 := HP134.out.rb.fz 1
                  have z2 := HP134.out.rb.fz 2
                  go_wp2_with (fail)
                  refine (must_new w.heap.size s i v 0 41 _ HP134.out.rb (by omega) Q.out).mono ?_
                  rintro e w135 ⟨rfl, hr135, hk135⟩
                  clear r1 r2 r3 r4 z1 z2
                  have HP135 : Hid (PS w w135 s (i) v (120) (i) ns (.slice (some ⟨b, 0, none⟩) o.length co) o) := hd (HP134.out.one hr135 hk135)
                  go_wp2
                  go_roundg 0
                  case measure => omega
                  case rel => exact ⟨i, false, _, 120, i, _, o.take (o.length - 1), rfl, hd (HP135.out.took rfl (by omega)), by omega, by omega, by simp; omega, hd (.inr ⟨by omega, HF.out⟩)⟩
                | true =>
                  have hlt := (isB_true q41).1
                  have HN := hd (show parseR s gk (i + 1) (o.take (o.length - 1)) false ns = PR from by rw [← HC.out, q41]; rfl)
                  have Q := hd q41
                  clear q41
                  have r1 := HP0.out.rb.c1
                  have r2 := HP0.out.rb.c2
                  have r3 := HP0.out.rb.c3
                  have r4 := HP0.out.rb.c4
                  have z1 := HP0.out.rb.fz 1
                  have z2 := HP0.out.rb.fz 2
                  go_wp2_with (fail)
                  refine (ris_any w.heap.size s (i) v (0) (0) 40 _ HP0.out.rb (by omega)).mono ?_
                  rintro e w136 ⟨rfl, hdr136⟩
                  clear r1 r2 r3 r4 z1 z2
                  have HP136 : Hid (PS w w136 s (i) v (0) (0) ns (.slice (some ⟨b, 0, none⟩) o.length co) o) := hd (HP0.out.dr hdr136)
                  clear hdr136
                  rw [Q0.out]
                  have r1 := HP136.out.rb.c1
                  have r2 := HP136.out.rb.c2
                  have r3 := HP136.out.rb.c3
                  have r4 := HP136.out.rb.c4
                  have z1 := HP136.out.rb.fz 1
                  have z2 := HP136.out.rb.fz 2
                  go_wp2_with (fail)
                  refine (must_yes w.heap.size s i v 0 0 41 _ HP136.out.rb (by omega) hl Q.out).mono ?_
                  rintro e w137 ⟨rfl, hr137, hk137⟩
                  clear r1 r2 r3 r4 z1 z2
                  have HP137 : Hid (PS w w137 s (i + 1) v (0) (0) ns (.slice (some ⟨b, 0, none⟩) o.length co) o) := hd (HP136.out.one hr137 hk137)
                  go_wp2
                  go_roundg gk
                  case measure => omega
                  case rel => exact ⟨i + 1, false, _, 0, 0, _, o.take (o.length - 1), rfl, hd (HP137.out.took rfl (by omega)), by omega, by omega, by simp; omega, hd (.inl ⟨rfl, rfl, by omega, by simp; omega, by omega, HN.out⟩)⟩
end Go.Proofs.YtieolphpgjpcmaaDoor
