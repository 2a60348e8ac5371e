/- attr: whole, next. -/
import Derived.Test.YtieolphpgjpcmaaDoorMAuto

namespace Go.Proofs.YtieolphpgjpcmaaDoor
open Go.RowKit Go.Proofs.YtieolphpgjpcmaaDoorW.PrintWords

set_option maxHeartbeats 1000000 in
set_option maxRecDepth 100000 in
theorem awhole_any (a p : Nat) (w : World) (ha : a ≤ 6) :
    Calls Tryd.prog 57 #[.agg #[.int .i64 a, .int .i64 p]] w fun e w' => e = .returned (.bool (wholeB a p)) ∧ Kp No w w' := by
  obtain ⟨R, hR⟩ : ∃ R, wholeB a p = R := ⟨_, rfl⟩
  rw [hR]
  have HR := hd hR
  clear hR
  rcases (by omega : a = 0 ∨ a = 1 ∨ a = 2 ∨ a = 3 ∨ a = 4 ∨ a = 5 ∨ a = 6) with rfl | rfl | rfl | rfl | rfl | rfl | rfl
  all_goals
    clear ha
    go_enter Tryd.func57, Tryd.ntmps57
    go_wp2
    go_ret
    exact ⟨by rw [← HR.out]; simp [wholeB], (Kp.refl _ _).alloc _⟩

def RdA (w : World) (g : Nat) (a p : Nat) : Prop := Blk w g #[.int .i64 a, .int .i64 p] 89
def NextPost (R : Option (Nat × Nat)) (w : World) (g a p : Nat) (e : Ending) (w' : World) : Prop :=
  Kp (One g) w w' ∧ match R with
    | none => e = .returned (.bool false) ∧ RdA w' g a p
    | some (a', p') => e = .returned (.bool true) ∧ RdA w' g a' p'
theorem RdA.set0 {w : World} {g a p : Nat} (h : RdA w g a p) (x : Nat) : RdA (w.setCell ⟨g, 0, none⟩ (.int .i64 x)) g x p := Blk.set (cs := #[.int .i64 a, .int .i64 p]) h 0 _
theorem RdA.set1 {w : World} {g a p : Nat} (h : RdA w g a p) (x : Nat) : RdA (w.setCell ⟨g, 1, none⟩ (.int .i64 x)) g a x := Blk.set (cs := #[.int .i64 a, .int .i64 p]) h 1 _
theorem RdA.kp {S : Nat → Prop} {w w' : World} {g a p : Nat} (h : RdA w g a p) (hk : Kp S w w') (hn : ¬ S g) : RdA w' g a p := Blk.kp h hk hn
theorem RdA.drewN {w : World} {g a p : Nat} (h : RdA w g a p) (n : Nat) : RdA (w.drewN n) g a p := h

def nextK (z : Bool) (a p : Nat) (l k d m59 m46 m48 : Bool) : Option (Nat × Nat) :=
  if m59 = true then (if z = true then some (5, p) else none)
  else if (a = 0 ∧ l = true) ∨ (a = 1 ∧ k = true) then some (1, p)
  else if (a = 5 ∨ a = 6) ∧ k = true then some (6, p)
  else if (a = 0 ∨ a = 4) ∧ d = true then some (if m48 = true then 2 else 3, p)
  else if a = 3 ∧ d = true then some (3, p)
  else if (a = 2 ∨ a = 3) ∧ m46 = true then some (4, p + 1) else none
theorem nextK_eq (a p : Nat) (c : Int) : nextA false a p c = nextK (wholeB a p) a p (letB c) (keyB c) (digB c) (c == 59) (c == 46) (c == 48) := by simp [nextA, nextK]
theorem RdA.put0 {w : World} {g a p : Nat} (h : RdA w g a p) (x : Nat) {y : Int} (e : y = (x : Int)) : RdA (w.setCell ⟨g, 0, none⟩ (.int .i64 y)) g x p := by subst e; exact h.set0 x
theorem RdA.put1 {w : World} {g a p : Nat} (h : RdA w g a p) (x : Nat) {y : Int} (e : y = (x : Int)) : RdA (w.setCell ⟨g, 1, none⟩ (.int .i64 y)) g a x := by subst e; exact h.set1 x

set_option maxHeartbeats 4000000 in
set_option maxRecDepth 100000 in
theorem anext_any (g a p : Nat) (c : Int) (w : World) (R : Option (Nat × Nat)) (HR : Hid (nextA false a p c = R)) (hB : RdA w g a p) (hb : 0 ≤ c ∧ c ≤ 255) (ha : a ≤ 6) (hp : p ≤ LIM) :
    Calls Tryd.prog 56 #[.pointer (some ⟨g, 0, none⟩), .int .u8 c] w fun e w' => NextPost R w g a p e w' := by
  have c0 : w.cell? ⟨g, 0, none⟩ = some (.int .i64 a) := Blk.c hB 0 rfl
  have c1 : w.cell? ⟨g, 1, none⟩ = some (.int .i64 p) := Blk.c hB 1 rfl
  have f0 : w.frozen? ⟨g, 0, none⟩ = false := Blk.f hB 0
  have f1 : w.frozen? ⟨g, 1, none⟩ = false := Blk.f hB 1
  have HB := hd hB
  have cL := fun W => aletter_any c W hb
  have cK := fun W => akey_any c W hb
  have cD := fun W => adigit_any c W hb
  have cW := fun W => awhole_any a p W ha
  have hn := (nextK_eq a p c).symm.trans HR.out
  obtain ⟨l, hl⟩ : ∃ x, letB c = x := ⟨_, rfl⟩
  obtain ⟨k, hk⟩ : ∃ x, keyB c = x := ⟨_, rfl⟩
  obtain ⟨d, hdg⟩ : ∃ x, digB c = x := ⟨_, rfl⟩
  obtain ⟨z, hw⟩ : ∃ x, wholeB a p = x := ⟨_, rfl⟩
  obtain ⟨m59, h59⟩ : ∃ x, (c == 59) = x := ⟨_, rfl⟩
  obtain ⟨m46, h46⟩ : ∃ x, (c == 46) = x := ⟨_, rfl⟩
  obtain ⟨m48, h48⟩ : ∃ x, (c == 48) = x := ⟨_, rfl⟩
  rw [hl, hk, hdg, h59, h46, h48, hw] at hn
  rw [hl] at cL
  rw [hk] at cK
  rw [hdg] at cD
  rw [hw] at cW
  have HR2 := hd hn
  clear hl hk hdg hn HR hB
  have CL := hd cL
  have CK := hd cK
  have CD := hd cD
  have CW := hd cW
  clear cL cK cD cW
  have hp1 : p ≤ 4194304 := hp
  clear hp
  rcases (by omega : a = 0 ∨ a = 1 ∨ a = 2 ∨ a = 3 ∨ a = 4 ∨ a = 5 ∨ a = 6) with rfl | rfl | rfl | rfl | rfl | rfl | rfl
  · obtain rfl : z = false := by rw [← hw]; simp [wholeB]
    clear hw ha
    rcases m59 with _ | _
    · rcases l with _ | _
      · rcases d with _ | _
        · have h2 := HR2.out
          simp [nextK] at h2
          subst h2
          clear HR2
          go_enter Tryd.func56, Tryd.ntmps56
          go_wp2_with (first | (go_at_call 68; refine (CL.out _).mono ?_; rintro e w' ⟨rfl, n, rfl⟩) | (go_at_call 69; refine (CK.out _).mono ?_; rintro e w' ⟨rfl, n, rfl⟩) | (go_at_call 70; refine (CD.out _).mono ?_; rintro e w' ⟨rfl, n, rfl⟩) | (go_at_call 57; refine (CW.out _).mono ?_; rintro e w1 ⟨rfl, hk1⟩; have HB1 := hd (HB.out.kp hk1 (fun q => q)); have HK1 := hd hk1; clear hk1; have c0' : w1.cell? ⟨g, 0, none⟩ = _ := Blk.c HB1.out 0 rfl; have f0' : w1.frozen? ⟨g, 0, none⟩ = false := Blk.f HB1.out 0))
          go_ret
          exact ⟨by repeat (first | (with_reducible exact Kp.refl _ _) | apply Kp.drewN | (with_reducible refine Kp.setOne ?_ _ _) | (with_reducible exact (Kp.refl _ _).no HK1.out) | (with_reducible exact ((Kp.refl _ _).drewN _).no HK1.out)), rfl, by repeat (first | (with_reducible exact HB.out) | (with_reducible exact HB1.out) | (with_reducible apply RdA.drewN) | ((with_reducible refine RdA.put0 (a := ?_) ?_ _ rfl); rotate_left) | ((with_reducible refine RdA.put1 (p := ?_) ?_ _ rfl); rotate_left))⟩
        · rcases m48 with _ | _
          · have h2 := HR2.out
            simp [nextK] at h2
            subst h2
            clear HR2
            go_enter Tryd.func56, Tryd.ntmps56
            go_wp2_with (first | (go_at_call 68; refine (CL.out _).mono ?_; rintro e w' ⟨rfl, n, rfl⟩) | (go_at_call 69; refine (CK.out _).mono ?_; rintro e w' ⟨rfl, n, rfl⟩) | (go_at_call 70; refine (CD.out _).mono ?_; rintro e w' ⟨rfl, n, rfl⟩) | (go_at_call 57; refine (CW.out _).mono ?_; rintro e w1 ⟨rfl, hk1⟩; have HB1 := hd (HB.out.kp hk1 (fun q => q)); have HK1 := hd hk1; clear hk1; have c0' : w1.cell? ⟨g, 0, none⟩ = _ := Blk.c HB1.out 0 rfl; have f0' : w1.frozen? ⟨g, 0, none⟩ = false := Blk.f HB1.out 0))
            go_ret
            exact ⟨by repeat (first | (with_reducible exact Kp.refl _ _) | apply Kp.drewN | (with_reducible refine Kp.setOne ?_ _ _) | (with_reducible exact (Kp.refl _ _).no HK1.out) | (with_reducible exact ((Kp.refl _ _).drewN _).no HK1.out)), rfl, by repeat (first | (with_reducible exact HB.out) | (with_reducible exact HB1.out) | (with_reducible apply RdA.drewN) | ((with_reducible refine RdA.put0 (a := ?_) ?_ _ rfl); rotate_left) | ((with_reducible refine RdA.put1 (p := ?_) ?_ _ rfl); rotate_left))⟩
          · have h2 := HR2.out
            simp [nextK] at h2
            subst h2
            clear HR2
            go_enter Tryd.func56, Tryd.ntmps56
            go_wp2_with (first | (go_at_call 68; refine (CL.out _).mono ?_; rintro e w' ⟨rfl, n, rfl⟩) | (go_at_call 69; refine (CK.out _).mono ?_; rintro e w' ⟨rfl, n, rfl⟩) | (go_at_call 70; refine (CD.out _).mono ?_; rintro e w' ⟨rfl, n, rfl⟩) | (go_at_call 57; refine (CW.out _).mono ?_; rintro e w1 ⟨rfl, hk1⟩; have HB1 := hd (HB.out.kp hk1 (fun q => q)); have HK1 := hd hk1; clear hk1; have c0' : w1.cell? ⟨g, 0, none⟩ = _ := Blk.c HB1.out 0 rfl; have f0' : w1.frozen? ⟨g, 0, none⟩ = false := Blk.f HB1.out 0))
            go_ret
            exact ⟨by repeat (first | (with_reducible exact Kp.refl _ _) | apply Kp.drewN | (with_reducible refine Kp.setOne ?_ _ _) | (with_reducible exact (Kp.refl _ _).no HK1.out) | (with_reducible exact ((Kp.refl _ _).drewN _).no HK1.out)), rfl, ((HB.out.drewN _).set0 3).set0 2⟩
      · have h2 := HR2.out
        simp [nextK] at h2
        subst h2
        clear HR2
        go_enter Tryd.func56, Tryd.ntmps56
        go_wp2_with (first | (go_at_call 68; refine (CL.out _).mono ?_; rintro e w' ⟨rfl, n, rfl⟩) | (go_at_call 69; refine (CK.out _).mono ?_; rintro e w' ⟨rfl, n, rfl⟩) | (go_at_call 70; refine (CD.out _).mono ?_; rintro e w' ⟨rfl, n, rfl⟩) | (go_at_call 57; refine (CW.out _).mono ?_; rintro e w1 ⟨rfl, hk1⟩; have HB1 := hd (HB.out.kp hk1 (fun q => q)); have HK1 := hd hk1; clear hk1; have c0' : w1.cell? ⟨g, 0, none⟩ = _ := Blk.c HB1.out 0 rfl; have f0' : w1.frozen? ⟨g, 0, none⟩ = false := Blk.f HB1.out 0))
        go_ret
        exact ⟨by repeat (first | (with_reducible exact Kp.refl _ _) | apply Kp.drewN | (with_reducible refine Kp.setOne ?_ _ _) | (with_reducible exact (Kp.refl _ _).no HK1.out) | (with_reducible exact ((Kp.refl _ _).drewN _).no HK1.out)), rfl, by repeat (first | (with_reducible exact HB.out) | (with_reducible exact HB1.out) | (with_reducible apply RdA.drewN) | ((with_reducible refine RdA.put0 (a := ?_) ?_ _ rfl); rotate_left) | ((with_reducible refine RdA.put1 (p := ?_) ?_ _ rfl); rotate_left))⟩
    · have h2 := HR2.out
      simp [nextK] at h2
      subst h2
      clear HR2
      go_enter Tryd.func56, Tryd.ntmps56
      go_wp2_with (first | (go_at_call 68; refine (CL.out _).mono ?_; rintro e w' ⟨rfl, n, rfl⟩) | (go_at_call 69; refine (CK.out _).mono ?_; rintro e w' ⟨rfl, n, rfl⟩) | (go_at_call 70; refine (CD.out _).mono ?_; rintro e w' ⟨rfl, n, rfl⟩) | (go_at_call 57; refine (CW.out _).mono ?_; rintro e w1 ⟨rfl, hk1⟩; have HB1 := hd (HB.out.kp hk1 (fun q => q)); have HK1 := hd hk1; clear hk1; have c0' : w1.cell? ⟨g, 0, none⟩ = _ := Blk.c HB1.out 0 rfl; have f0' : w1.frozen? ⟨g, 0, none⟩ = false := Blk.f HB1.out 0))
      go_ret
      exact ⟨by repeat (first | (with_reducible exact Kp.refl _ _) | apply Kp.drewN | (with_reducible refine Kp.setOne ?_ _ _) | (with_reducible exact (Kp.refl _ _).no HK1.out) | (with_reducible exact ((Kp.refl _ _).drewN _).no HK1.out)), rfl, by repeat (first | (with_reducible exact HB.out) | (with_reducible exact HB1.out) | (with_reducible apply RdA.drewN) | ((with_reducible refine RdA.put0 (a := ?_) ?_ _ rfl); rotate_left) | ((with_reducible refine RdA.put1 (p := ?_) ?_ _ rfl); rotate_left))⟩
  · obtain rfl : z = true := by rw [← hw]; simp [wholeB]
    clear hw ha
    rcases m59 with _ | _
    · rcases k with _ | _
      · have h2 := HR2.out
        simp [nextK] at h2
        subst h2
        clear HR2
        go_enter Tryd.func56, Tryd.ntmps56
        go_wp2_with (first | (go_at_call 68; refine (CL.out _).mono ?_; rintro e w' ⟨rfl, n, rfl⟩) | (go_at_call 69; refine (CK.out _).mono ?_; rintro e w' ⟨rfl, n, rfl⟩) | (go_at_call 70; refine (CD.out _).mono ?_; rintro e w' ⟨rfl, n, rfl⟩) | (go_at_call 57; refine (CW.out _).mono ?_; rintro e w1 ⟨rfl, hk1⟩; have HB1 := hd (HB.out.kp hk1 (fun q => q)); have HK1 := hd hk1; clear hk1; have c0' : w1.cell? ⟨g, 0, none⟩ = _ := Blk.c HB1.out 0 rfl; have f0' : w1.frozen? ⟨g, 0, none⟩ = false := Blk.f HB1.out 0))
        go_ret
        exact ⟨by repeat (first | (with_reducible exact Kp.refl _ _) | apply Kp.drewN | (with_reducible refine Kp.setOne ?_ _ _) | (with_reducible exact (Kp.refl _ _).no HK1.out) | (with_reducible exact ((Kp.refl _ _).drewN _).no HK1.out)), rfl, by repeat (first | (with_reducible exact HB.out) | (with_reducible exact HB1.out) | (with_reducible apply RdA.drewN) | ((with_reducible refine RdA.put0 (a := ?_) ?_ _ rfl); rotate_left) | ((with_reducible refine RdA.put1 (p := ?_) ?_ _ rfl); rotate_left))⟩
      · have h2 := HR2.out
        simp [nextK] at h2
        subst h2
        clear HR2
        go_enter Tryd.func56, Tryd.ntmps56
        go_wp2_with (first | (go_at_call 68; refine (CL.out _).mono ?_; rintro e w' ⟨rfl, n, rfl⟩) | (go_at_call 69; refine (CK.out _).mono ?_; rintro e w' ⟨rfl, n, rfl⟩) | (go_at_call 70; refine (CD.out _).mono ?_; rintro e w' ⟨rfl, n, rfl⟩) | (go_at_call 57; refine (CW.out _).mono ?_; rintro e w1 ⟨rfl, hk1⟩; have HB1 := hd (HB.out.kp hk1 (fun q => q)); have HK1 := hd hk1; clear hk1; have c0' : w1.cell? ⟨g, 0, none⟩ = _ := Blk.c HB1.out 0 rfl; have f0' : w1.frozen? ⟨g, 0, none⟩ = false := Blk.f HB1.out 0))
        go_ret
        exact ⟨by repeat (first | (with_reducible exact Kp.refl _ _) | apply Kp.drewN | (with_reducible refine Kp.setOne ?_ _ _) | (with_reducible exact (Kp.refl _ _).no HK1.out) | (with_reducible exact ((Kp.refl _ _).drewN _).no HK1.out)), rfl, by repeat (first | (with_reducible exact HB.out) | (with_reducible exact HB1.out) | (with_reducible apply RdA.drewN) | ((with_reducible refine RdA.put0 (a := ?_) ?_ _ rfl); rotate_left) | ((with_reducible refine RdA.put1 (p := ?_) ?_ _ rfl); rotate_left))⟩
    · have h2 := HR2.out
      simp [nextK] at h2
      subst h2
      clear HR2
      go_enter Tryd.func56, Tryd.ntmps56
      go_wp2_with (first | (go_at_call 68; refine (CL.out _).mono ?_; rintro e w' ⟨rfl, n, rfl⟩) | (go_at_call 69; refine (CK.out _).mono ?_; rintro e w' ⟨rfl, n, rfl⟩) | (go_at_call 70; refine (CD.out _).mono ?_; rintro e w' ⟨rfl, n, rfl⟩) | (go_at_call 57; refine (CW.out _).mono ?_; rintro e w1 ⟨rfl, hk1⟩; have HB1 := hd (HB.out.kp hk1 (fun q => q)); have HK1 := hd hk1; clear hk1; have c0' : w1.cell? ⟨g, 0, none⟩ = _ := Blk.c HB1.out 0 rfl; have f0' : w1.frozen? ⟨g, 0, none⟩ = false := Blk.f HB1.out 0))
      go_ret
      exact ⟨by repeat (first | (with_reducible exact Kp.refl _ _) | apply Kp.drewN | (with_reducible refine Kp.setOne ?_ _ _) | (with_reducible exact (Kp.refl _ _).no HK1.out) | (with_reducible exact ((Kp.refl _ _).drewN _).no HK1.out)), rfl, by repeat (first | (with_reducible exact HB.out) | (with_reducible exact HB1.out) | (with_reducible apply RdA.drewN) | ((with_reducible refine RdA.put0 (a := ?_) ?_ _ rfl); rotate_left) | ((with_reducible refine RdA.put1 (p := ?_) ?_ _ rfl); rotate_left))⟩
  · clear hw ha
    rcases m59 with _ | _
    · rcases m46 with _ | _
      · have h2 := HR2.out
        simp [nextK] at h2
        subst h2
        clear HR2
        go_enter Tryd.func56, Tryd.ntmps56
        go_wp2_with (first | (go_at_call 68; refine (CL.out _).mono ?_; rintro e w' ⟨rfl, n, rfl⟩) | (go_at_call 69; refine (CK.out _).mono ?_; rintro e w' ⟨rfl, n, rfl⟩) | (go_at_call 70; refine (CD.out _).mono ?_; rintro e w' ⟨rfl, n, rfl⟩) | (go_at_call 57; refine (CW.out _).mono ?_; rintro e w1 ⟨rfl, hk1⟩; have HB1 := hd (HB.out.kp hk1 (fun q => q)); have HK1 := hd hk1; clear hk1; have c0' : w1.cell? ⟨g, 0, none⟩ = _ := Blk.c HB1.out 0 rfl; have f0' : w1.frozen? ⟨g, 0, none⟩ = false := Blk.f HB1.out 0))
        go_ret
        exact ⟨by repeat (first | (with_reducible exact Kp.refl _ _) | apply Kp.drewN | (with_reducible refine Kp.setOne ?_ _ _) | (with_reducible exact (Kp.refl _ _).no HK1.out) | (with_reducible exact ((Kp.refl _ _).drewN _).no HK1.out)), rfl, by repeat (first | (with_reducible exact HB.out) | (with_reducible exact HB1.out) | (with_reducible apply RdA.drewN) | ((with_reducible refine RdA.put0 (a := ?_) ?_ _ rfl); rotate_left) | ((with_reducible refine RdA.put1 (p := ?_) ?_ _ rfl); rotate_left))⟩
      · have h2 := HR2.out
        simp [nextK] at h2
        subst h2
        clear HR2
        go_enter Tryd.func56, Tryd.ntmps56
        go_wp2_with (first | (go_at_call 68; refine (CL.out _).mono ?_; rintro e w' ⟨rfl, n, rfl⟩) | (go_at_call 69; refine (CK.out _).mono ?_; rintro e w' ⟨rfl, n, rfl⟩) | (go_at_call 70; refine (CD.out _).mono ?_; rintro e w' ⟨rfl, n, rfl⟩) | (go_at_call 57; refine (CW.out _).mono ?_; rintro e w1 ⟨rfl, hk1⟩; have HB1 := hd (HB.out.kp hk1 (fun q => q)); have HK1 := hd hk1; clear hk1; have c0' : w1.cell? ⟨g, 0, none⟩ = _ := Blk.c HB1.out 0 rfl; have f0' : w1.frozen? ⟨g, 0, none⟩ = false := Blk.f HB1.out 0))
        go_ret
        exact ⟨by repeat (first | (with_reducible exact Kp.refl _ _) | apply Kp.drewN | (with_reducible refine Kp.setOne ?_ _ _) | (with_reducible exact (Kp.refl _ _).no HK1.out) | (with_reducible exact ((Kp.refl _ _).drewN _).no HK1.out)), rfl, by repeat (first | (with_reducible exact HB.out) | (with_reducible exact HB1.out) | (with_reducible apply RdA.drewN) | ((with_reducible refine RdA.put0 (a := ?_) ?_ _ rfl); rotate_left) | ((with_reducible refine RdA.put1 (p := ?_) ?_ _ rfl); rotate_left))⟩
    · rcases z with _ | _
      · have h2 := HR2.out
        simp [nextK] at h2
        subst h2
        clear HR2
        go_enter Tryd.func56, Tryd.ntmps56
        go_wp2_with (first | (go_at_call 68; refine (CL.out _).mono ?_; rintro e w' ⟨rfl, n, rfl⟩) | (go_at_call 69; refine (CK.out _).mono ?_; rintro e w' ⟨rfl, n, rfl⟩) | (go_at_call 70; refine (CD.out _).mono ?_; rintro e w' ⟨rfl, n, rfl⟩) | (go_at_call 57; refine (CW.out _).mono ?_; rintro e w1 ⟨rfl, hk1⟩; have HB1 := hd (HB.out.kp hk1 (fun q => q)); have HK1 := hd hk1; clear hk1; have c0' : w1.cell? ⟨g, 0, none⟩ = _ := Blk.c HB1.out 0 rfl; have f0' : w1.frozen? ⟨g, 0, none⟩ = false := Blk.f HB1.out 0))
        go_ret
        exact ⟨by repeat (first | (with_reducible exact Kp.refl _ _) | apply Kp.drewN | (with_reducible refine Kp.setOne ?_ _ _) | (with_reducible exact (Kp.refl _ _).no HK1.out) | (with_reducible exact ((Kp.refl _ _).drewN _).no HK1.out)), rfl, by repeat (first | (with_reducible exact HB.out) | (with_reducible exact HB1.out) | (with_reducible apply RdA.drewN) | ((with_reducible refine RdA.put0 (a := ?_) ?_ _ rfl); rotate_left) | ((with_reducible refine RdA.put1 (p := ?_) ?_ _ rfl); rotate_left))⟩
      · have h2 := HR2.out
        simp [nextK] at h2
        subst h2
        clear HR2
        go_enter Tryd.func56, Tryd.ntmps56
        go_wp2_with (first | (go_at_call 68; refine (CL.out _).mono ?_; rintro e w' ⟨rfl, n, rfl⟩) | (go_at_call 69; refine (CK.out _).mono ?_; rintro e w' ⟨rfl, n, rfl⟩) | (go_at_call 70; refine (CD.out _).mono ?_; rintro e w' ⟨rfl, n, rfl⟩) | (go_at_call 57; refine (CW.out _).mono ?_; rintro e w1 ⟨rfl, hk1⟩; have HB1 := hd (HB.out.kp hk1 (fun q => q)); have HK1 := hd hk1; clear hk1; have c0' : w1.cell? ⟨g, 0, none⟩ = _ := Blk.c HB1.out 0 rfl; have f0' : w1.frozen? ⟨g, 0, none⟩ = false := Blk.f HB1.out 0))
        go_ret
        exact ⟨by repeat (first | (with_reducible exact Kp.refl _ _) | apply Kp.drewN | (with_reducible refine Kp.setOne ?_ _ _) | (with_reducible exact (Kp.refl _ _).no HK1.out) | (with_reducible exact ((Kp.refl _ _).drewN _).no HK1.out)), rfl, by repeat (first | (with_reducible exact HB.out) | (with_reducible exact HB1.out) | (with_reducible apply RdA.drewN) | ((with_reducible refine RdA.put0 (a := ?_) ?_ _ rfl); rotate_left) | ((with_reducible refine RdA.put1 (p := ?_) ?_ _ rfl); rotate_left))⟩
  · clear hw ha
    rcases m59 with _ | _
    · rcases d with _ | _
      · rcases m46 with _ | _
        · have h2 := HR2.out
          simp [nextK] at h2
          subst h2
          clear HR2
          go_enter Tryd.func56, Tryd.ntmps56
          go_wp2_with (first | (go_at_call 68; refine (CL.out _).mono ?_; rintro e w' ⟨rfl, n, rfl⟩) | (go_at_call 69; refine (CK.out _).mono ?_; rintro e w' ⟨rfl, n, rfl⟩) | (go_at_call 70; refine (CD.out _).mono ?_; rintro e w' ⟨rfl, n, rfl⟩) | (go_at_call 57; refine (CW.out _).mono ?_; rintro e w1 ⟨rfl, hk1⟩; have HB1 := hd (HB.out.kp hk1 (fun q => q)); have HK1 := hd hk1; clear hk1; have c0' : w1.cell? ⟨g, 0, none⟩ = _ := Blk.c HB1.out 0 rfl; have f0' : w1.frozen? ⟨g, 0, none⟩ = false := Blk.f HB1.out 0))
          go_ret
          exact ⟨by repeat (first | (with_reducible exact Kp.refl _ _) | apply Kp.drewN | (with_reducible refine Kp.setOne ?_ _ _) | (with_reducible exact (Kp.refl _ _).no HK1.out) | (with_reducible exact ((Kp.refl _ _).drewN _).no HK1.out)), rfl, by repeat (first | (with_reducible exact HB.out) | (with_reducible exact HB1.out) | (with_reducible apply RdA.drewN) | ((with_reducible refine RdA.put0 (a := ?_) ?_ _ rfl); rotate_left) | ((with_reducible refine RdA.put1 (p := ?_) ?_ _ rfl); rotate_left))⟩
        · have h2 := HR2.out
          simp [nextK] at h2
          subst h2
          clear HR2
          go_enter Tryd.func56, Tryd.ntmps56
          go_wp2_with (first | (go_at_call 68; refine (CL.out _).mono ?_; rintro e w' ⟨rfl, n, rfl⟩) | (go_at_call 69; refine (CK.out _).mono ?_; rintro e w' ⟨rfl, n, rfl⟩) | (go_at_call 70; refine (CD.out _).mono ?_; rintro e w' ⟨rfl, n, rfl⟩) | (go_at_call 57; refine (CW.out _).mono ?_; rintro e w1 ⟨rfl, hk1⟩; have HB1 := hd (HB.out.kp hk1 (fun q => q)); have HK1 := hd hk1; clear hk1; have c0' : w1.cell? ⟨g, 0, none⟩ = _ := Blk.c HB1.out 0 rfl; have f0' : w1.frozen? ⟨g, 0, none⟩ = false := Blk.f HB1.out 0))
          go_ret
          exact ⟨by repeat (first | (with_reducible exact Kp.refl _ _) | apply Kp.drewN | (with_reducible refine Kp.setOne ?_ _ _) | (with_reducible exact (Kp.refl _ _).no HK1.out) | (with_reducible exact ((Kp.refl _ _).drewN _).no HK1.out)), rfl, by repeat (first | (with_reducible exact HB.out) | (with_reducible exact HB1.out) | (with_reducible apply RdA.drewN) | ((with_reducible refine RdA.put0 (a := ?_) ?_ _ rfl); rotate_left) | ((with_reducible refine RdA.put1 (p := ?_) ?_ _ rfl); rotate_left))⟩
      · have h2 := HR2.out
        simp [nextK] at h2
        subst h2
        clear HR2
        go_enter Tryd.func56, Tryd.ntmps56
        go_wp2_with (first | (go_at_call 68; refine (CL.out _).mono ?_; rintro e w' ⟨rfl, n, rfl⟩) | (go_at_call 69; refine (CK.out _).mono ?_; rintro e w' ⟨rfl, n, rfl⟩) | (go_at_call 70; refine (CD.out _).mono ?_; rintro e w' ⟨rfl, n, rfl⟩) | (go_at_call 57; refine (CW.out _).mono ?_; rintro e w1 ⟨rfl, hk1⟩; have HB1 := hd (HB.out.kp hk1 (fun q => q)); have HK1 := hd hk1; clear hk1; have c0' : w1.cell? ⟨g, 0, none⟩ = _ := Blk.c HB1.out 0 rfl; have f0' : w1.frozen? ⟨g, 0, none⟩ = false := Blk.f HB1.out 0))
        go_ret
        exact ⟨by repeat (first | (with_reducible exact Kp.refl _ _) | apply Kp.drewN | (with_reducible refine Kp.setOne ?_ _ _) | (with_reducible exact (Kp.refl _ _).no HK1.out) | (with_reducible exact ((Kp.refl _ _).drewN _).no HK1.out)), rfl, by repeat (first | (with_reducible exact HB.out) | (with_reducible exact HB1.out) | (with_reducible apply RdA.drewN) | ((with_reducible refine RdA.put0 (a := ?_) ?_ _ rfl); rotate_left) | ((with_reducible refine RdA.put1 (p := ?_) ?_ _ rfl); rotate_left))⟩
    · rcases z with _ | _
      · have h2 := HR2.out
        simp [nextK] at h2
        subst h2
        clear HR2
        go_enter Tryd.func56, Tryd.ntmps56
        go_wp2_with (first | (go_at_call 68; refine (CL.out _).mono ?_; rintro e w' ⟨rfl, n, rfl⟩) | (go_at_call 69; refine (CK.out _).mono ?_; rintro e w' ⟨rfl, n, rfl⟩) | (go_at_call 70; refine (CD.out _).mono ?_; rintro e w' ⟨rfl, n, rfl⟩) | (go_at_call 57; refine (CW.out _).mono ?_; rintro e w1 ⟨rfl, hk1⟩; have HB1 := hd (HB.out.kp hk1 (fun q => q)); have HK1 := hd hk1; clear hk1; have c0' : w1.cell? ⟨g, 0, none⟩ = _ := Blk.c HB1.out 0 rfl; have f0' : w1.frozen? ⟨g, 0, none⟩ = false := Blk.f HB1.out 0))
        go_ret
        exact ⟨by repeat (first | (with_reducible exact Kp.refl _ _) | apply Kp.drewN | (with_reducible refine Kp.setOne ?_ _ _) | (with_reducible exact (Kp.refl _ _).no HK1.out) | (with_reducible exact ((Kp.refl _ _).drewN _).no HK1.out)), rfl, by repeat (first | (with_reducible exact HB.out) | (with_reducible exact HB1.out) | (with_reducible apply RdA.drewN) | ((with_reducible refine RdA.put0 (a := ?_) ?_ _ rfl); rotate_left) | ((with_reducible refine RdA.put1 (p := ?_) ?_ _ rfl); rotate_left))⟩
      · have h2 := HR2.out
        simp [nextK] at h2
        subst h2
        clear HR2
        go_enter Tryd.func56, Tryd.ntmps56
        go_wp2_with (first | (go_at_call 68; refine (CL.out _).mono ?_; rintro e w' ⟨rfl, n, rfl⟩) | (go_at_call 69; refine (CK.out _).mono ?_; rintro e w' ⟨rfl, n, rfl⟩) | (go_at_call 70; refine (CD.out _).mono ?_; rintro e w' ⟨rfl, n, rfl⟩) | (go_at_call 57; refine (CW.out _).mono ?_; rintro e w1 ⟨rfl, hk1⟩; have HB1 := hd (HB.out.kp hk1 (fun q => q)); have HK1 := hd hk1; clear hk1; have c0' : w1.cell? ⟨g, 0, none⟩ = _ := Blk.c HB1.out 0 rfl; have f0' : w1.frozen? ⟨g, 0, none⟩ = false := Blk.f HB1.out 0))
        go_ret
        exact ⟨by repeat (first | (with_reducible exact Kp.refl _ _) | apply Kp.drewN | (with_reducible refine Kp.setOne ?_ _ _) | (with_reducible exact (Kp.refl _ _).no HK1.out) | (with_reducible exact ((Kp.refl _ _).drewN _).no HK1.out)), rfl, by repeat (first | (with_reducible exact HB.out) | (with_reducible exact HB1.out) | (with_reducible apply RdA.drewN) | ((with_reducible refine RdA.put0 (a := ?_) ?_ _ rfl); rotate_left) | ((with_reducible refine RdA.put1 (p := ?_) ?_ _ rfl); rotate_left))⟩
  · obtain rfl : z = false := by rw [← hw]; simp [wholeB]
    clear hw ha
    rcases m59 with _ | _
    · rcases d with _ | _
      · have h2 := HR2.out
        simp [nextK] at h2
        subst h2
        clear HR2
        go_enter Tryd.func56, Tryd.ntmps56
        go_wp2_with (first | (go_at_call 68; refine (CL.out _).mono ?_; rintro e w' ⟨rfl, n, rfl⟩) | (go_at_call 69; refine (CK.out _).mono ?_; rintro e w' ⟨rfl, n, rfl⟩) | (go_at_call 70; refine (CD.out _).mono ?_; rintro e w' ⟨rfl, n, rfl⟩) | (go_at_call 57; refine (CW.out _).mono ?_; rintro e w1 ⟨rfl, hk1⟩; have HB1 := hd (HB.out.kp hk1 (fun q => q)); have HK1 := hd hk1; clear hk1; have c0' : w1.cell? ⟨g, 0, none⟩ = _ := Blk.c HB1.out 0 rfl; have f0' : w1.frozen? ⟨g, 0, none⟩ = false := Blk.f HB1.out 0))
        go_ret
        exact ⟨by repeat (first | (with_reducible exact Kp.refl _ _) | apply Kp.drewN | (with_reducible refine Kp.setOne ?_ _ _) | (with_reducible exact (Kp.refl _ _).no HK1.out) | (with_reducible exact ((Kp.refl _ _).drewN _).no HK1.out)), rfl, by repeat (first | (with_reducible exact HB.out) | (with_reducible exact HB1.out) | (with_reducible apply RdA.drewN) | ((with_reducible refine RdA.put0 (a := ?_) ?_ _ rfl); rotate_left) | ((with_reducible refine RdA.put1 (p := ?_) ?_ _ rfl); rotate_left))⟩
      · rcases m48 with _ | _
        · have h2 := HR2.out
          simp [nextK] at h2
          subst h2
          clear HR2
          go_enter Tryd.func56, Tryd.ntmps56
          go_wp2_with (first | (go_at_call 68; refine (CL.out _).mono ?_; rintro e w' ⟨rfl, n, rfl⟩) | (go_at_call 69; refine (CK.out _).mono ?_; rintro e w' ⟨rfl, n, rfl⟩) | (go_at_call 70; refine (CD.out _).mono ?_; rintro e w' ⟨rfl, n, rfl⟩) | (go_at_call 57; refine (CW.out _).mono ?_; rintro e w1 ⟨rfl, hk1⟩; have HB1 := hd (HB.out.kp hk1 (fun q => q)); have HK1 := hd hk1; clear hk1; have c0' : w1.cell? ⟨g, 0, none⟩ = _ := Blk.c HB1.out 0 rfl; have f0' : w1.frozen? ⟨g, 0, none⟩ = false := Blk.f HB1.out 0))
          go_ret
          exact ⟨by repeat (first | (with_reducible exact Kp.refl _ _) | apply Kp.drewN | (with_reducible refine Kp.setOne ?_ _ _) | (with_reducible exact (Kp.refl _ _).no HK1.out) | (with_reducible exact ((Kp.refl _ _).drewN _).no HK1.out)), rfl, by repeat (first | (with_reducible exact HB.out) | (with_reducible exact HB1.out) | (with_reducible apply RdA.drewN) | ((with_reducible refine RdA.put0 (a := ?_) ?_ _ rfl); rotate_left) | ((with_reducible refine RdA.put1 (p := ?_) ?_ _ rfl); rotate_left))⟩
        · have h2 := HR2.out
          simp [nextK] at h2
          subst h2
          clear HR2
          go_enter Tryd.func56, Tryd.ntmps56
          go_wp2_with (first | (go_at_call 68; refine (CL.out _).mono ?_; rintro e w' ⟨rfl, n, rfl⟩) | (go_at_call 69; refine (CK.out _).mono ?_; rintro e w' ⟨rfl, n, rfl⟩) | (go_at_call 70; refine (CD.out _).mono ?_; rintro e w' ⟨rfl, n, rfl⟩) | (go_at_call 57; refine (CW.out _).mono ?_; rintro e w1 ⟨rfl, hk1⟩; have HB1 := hd (HB.out.kp hk1 (fun q => q)); have HK1 := hd hk1; clear hk1; have c0' : w1.cell? ⟨g, 0, none⟩ = _ := Blk.c HB1.out 0 rfl; have f0' : w1.frozen? ⟨g, 0, none⟩ = false := Blk.f HB1.out 0))
          go_ret
          exact ⟨by repeat (first | (with_reducible exact Kp.refl _ _) | apply Kp.drewN | (with_reducible refine Kp.setOne ?_ _ _) | (with_reducible exact (Kp.refl _ _).no HK1.out) | (with_reducible exact ((Kp.refl _ _).drewN _).no HK1.out)), rfl, ((HB.out.drewN _).set0 3).set0 2⟩
    · have h2 := HR2.out
      simp [nextK] at h2
      subst h2
      clear HR2
      go_enter Tryd.func56, Tryd.ntmps56
      go_wp2_with (first | (go_at_call 68; refine (CL.out _).mono ?_; rintro e w' ⟨rfl, n, rfl⟩) | (go_at_call 69; refine (CK.out _).mono ?_; rintro e w' ⟨rfl, n, rfl⟩) | (go_at_call 70; refine (CD.out _).mono ?_; rintro e w' ⟨rfl, n, rfl⟩) | (go_at_call 57; refine (CW.out _).mono ?_; rintro e w1 ⟨rfl, hk1⟩; have HB1 := hd (HB.out.kp hk1 (fun q => q)); have HK1 := hd hk1; clear hk1; have c0' : w1.cell? ⟨g, 0, none⟩ = _ := Blk.c HB1.out 0 rfl; have f0' : w1.frozen? ⟨g, 0, none⟩ = false := Blk.f HB1.out 0))
      go_ret
      exact ⟨by repeat (first | (with_reducible exact Kp.refl _ _) | apply Kp.drewN | (with_reducible refine Kp.setOne ?_ _ _) | (with_reducible exact (Kp.refl _ _).no HK1.out) | (with_reducible exact ((Kp.refl _ _).drewN _).no HK1.out)), rfl, by repeat (first | (with_reducible exact HB.out) | (with_reducible exact HB1.out) | (with_reducible apply RdA.drewN) | ((with_reducible refine RdA.put0 (a := ?_) ?_ _ rfl); rotate_left) | ((with_reducible refine RdA.put1 (p := ?_) ?_ _ rfl); rotate_left))⟩
  · obtain rfl : z = false := by rw [← hw]; simp [wholeB]
    clear hw ha
    rcases m59 with _ | _
    · rcases k with _ | _
      · have h2 := HR2.out
        simp [nextK] at h2
        subst h2
        clear HR2
        go_enter Tryd.func56, Tryd.ntmps56
        go_wp2_with (first | (go_at_call 68; refine (CL.out _).mono ?_; rintro e w' ⟨rfl, n, rfl⟩) | (go_at_call 69; refine (CK.out _).mono ?_; rintro e w' ⟨rfl, n, rfl⟩) | (go_at_call 70; refine (CD.out _).mono ?_; rintro e w' ⟨rfl, n, rfl⟩) | (go_at_call 57; refine (CW.out _).mono ?_; rintro e w1 ⟨rfl, hk1⟩; have HB1 := hd (HB.out.kp hk1 (fun q => q)); have HK1 := hd hk1; clear hk1; have c0' : w1.cell? ⟨g, 0, none⟩ = _ := Blk.c HB1.out 0 rfl; have f0' : w1.frozen? ⟨g, 0, none⟩ = false := Blk.f HB1.out 0))
        go_ret
        exact ⟨by repeat (first | (with_reducible exact Kp.refl _ _) | apply Kp.drewN | (with_reducible refine Kp.setOne ?_ _ _) | (with_reducible exact (Kp.refl _ _).no HK1.out) | (with_reducible exact ((Kp.refl _ _).drewN _).no HK1.out)), rfl, by repeat (first | (with_reducible exact HB.out) | (with_reducible exact HB1.out) | (with_reducible apply RdA.drewN) | ((with_reducible refine RdA.put0 (a := ?_) ?_ _ rfl); rotate_left) | ((with_reducible refine RdA.put1 (p := ?_) ?_ _ rfl); rotate_left))⟩
      · have h2 := HR2.out
        simp [nextK] at h2
        subst h2
        clear HR2
        go_enter Tryd.func56, Tryd.ntmps56
        go_wp2_with (first | (go_at_call 68; refine (CL.out _).mono ?_; rintro e w' ⟨rfl, n, rfl⟩) | (go_at_call 69; refine (CK.out _).mono ?_; rintro e w' ⟨rfl, n, rfl⟩) | (go_at_call 70; refine (CD.out _).mono ?_; rintro e w' ⟨rfl, n, rfl⟩) | (go_at_call 57; refine (CW.out _).mono ?_; rintro e w1 ⟨rfl, hk1⟩; have HB1 := hd (HB.out.kp hk1 (fun q => q)); have HK1 := hd hk1; clear hk1; have c0' : w1.cell? ⟨g, 0, none⟩ = _ := Blk.c HB1.out 0 rfl; have f0' : w1.frozen? ⟨g, 0, none⟩ = false := Blk.f HB1.out 0))
        go_ret
        exact ⟨by repeat (first | (with_reducible exact Kp.refl _ _) | apply Kp.drewN | (with_reducible refine Kp.setOne ?_ _ _) | (with_reducible exact (Kp.refl _ _).no HK1.out) | (with_reducible exact ((Kp.refl _ _).drewN _).no HK1.out)), rfl, by repeat (first | (with_reducible exact HB.out) | (with_reducible exact HB1.out) | (with_reducible apply RdA.drewN) | ((with_reducible refine RdA.put0 (a := ?_) ?_ _ rfl); rotate_left) | ((with_reducible refine RdA.put1 (p := ?_) ?_ _ rfl); rotate_left))⟩
    · have h2 := HR2.out
      simp [nextK] at h2
      subst h2
      clear HR2
      go_enter Tryd.func56, Tryd.ntmps56
      go_wp2_with (first | (go_at_call 68; refine (CL.out _).mono ?_; rintro e w' ⟨rfl, n, rfl⟩) | (go_at_call 69; refine (CK.out _).mono ?_; rintro e w' ⟨rfl, n, rfl⟩) | (go_at_call 70; refine (CD.out _).mono ?_; rintro e w' ⟨rfl, n, rfl⟩) | (go_at_call 57; refine (CW.out _).mono ?_; rintro e w1 ⟨rfl, hk1⟩; have HB1 := hd (HB.out.kp hk1 (fun q => q)); have HK1 := hd hk1; clear hk1; have c0' : w1.cell? ⟨g, 0, none⟩ = _ := Blk.c HB1.out 0 rfl; have f0' : w1.frozen? ⟨g, 0, none⟩ = false := Blk.f HB1.out 0))
      go_ret
      exact ⟨by repeat (first | (with_reducible exact Kp.refl _ _) | apply Kp.drewN | (with_reducible refine Kp.setOne ?_ _ _) | (with_reducible exact (Kp.refl _ _).no HK1.out) | (with_reducible exact ((Kp.refl _ _).drewN _).no HK1.out)), rfl, by repeat (first | (with_reducible exact HB.out) | (with_reducible exact HB1.out) | (with_reducible apply RdA.drewN) | ((with_reducible refine RdA.put0 (a := ?_) ?_ _ rfl); rotate_left) | ((with_reducible refine RdA.put1 (p := ?_) ?_ _ rfl); rotate_left))⟩
  · obtain rfl : z = true := by rw [← hw]; simp [wholeB]
    clear hw ha
    rcases m59 with _ | _
    · rcases k with _ | _
      · have h2 := HR2.out
        simp [nextK] at h2
        subst h2
        clear HR2
        go_enter Tryd.func56, Tryd.ntmps56
        go_wp2_with (first | (go_at_call 68; refine (CL.out _).mono ?_; rintro e w' ⟨rfl, n, rfl⟩) | (go_at_call 69; refine (CK.out _).mono ?_; rintro e w' ⟨rfl, n, rfl⟩) | (go_at_call 70; refine (CD.out _).mono ?_; rintro e w' ⟨rfl, n, rfl⟩) | (go_at_call 57; refine (CW.out _).mono ?_; rintro e w1 ⟨rfl, hk1⟩; have HB1 := hd (HB.out.kp hk1 (fun q => q)); have HK1 := hd hk1; clear hk1; have c0' : w1.cell? ⟨g, 0, none⟩ = _ := Blk.c HB1.out 0 rfl; have f0' : w1.frozen? ⟨g, 0, none⟩ = false := Blk.f HB1.out 0))
        go_ret
        exact ⟨by repeat (first | (with_reducible exact Kp.refl _ _) | apply Kp.drewN | (with_reducible refine Kp.setOne ?_ _ _) | (with_reducible exact (Kp.refl _ _).no HK1.out) | (with_reducible exact ((Kp.refl _ _).drewN _).no HK1.out)), rfl, by repeat (first | (with_reducible exact HB.out) | (with_reducible exact HB1.out) | (with_reducible apply RdA.drewN) | ((with_reducible refine RdA.put0 (a := ?_) ?_ _ rfl); rotate_left) | ((with_reducible refine RdA.put1 (p := ?_) ?_ _ rfl); rotate_left))⟩
      · have h2 := HR2.out
        simp [nextK] at h2
        subst h2
        clear HR2
        go_enter Tryd.func56, Tryd.ntmps56
        go_wp2_with (first | (go_at_call 68; refine (CL.out _).mono ?_; rintro e w' ⟨rfl, n, rfl⟩) | (go_at_call 69; refine (CK.out _).mono ?_; rintro e w' ⟨rfl, n, rfl⟩) | (go_at_call 70; refine (CD.out _).mono ?_; rintro e w' ⟨rfl, n, rfl⟩) | (go_at_call 57; refine (CW.out _).mono ?_; rintro e w1 ⟨rfl, hk1⟩; have HB1 := hd (HB.out.kp hk1 (fun q => q)); have HK1 := hd hk1; clear hk1; have c0' : w1.cell? ⟨g, 0, none⟩ = _ := Blk.c HB1.out 0 rfl; have f0' : w1.frozen? ⟨g, 0, none⟩ = false := Blk.f HB1.out 0))
        go_ret
        exact ⟨by repeat (first | (with_reducible exact Kp.refl _ _) | apply Kp.drewN | (with_reducible refine Kp.setOne ?_ _ _) | (with_reducible exact (Kp.refl _ _).no HK1.out) | (with_reducible exact ((Kp.refl _ _).drewN _).no HK1.out)), rfl, by repeat (first | (with_reducible exact HB.out) | (with_reducible exact HB1.out) | (with_reducible apply RdA.drewN) | ((with_reducible refine RdA.put0 (a := ?_) ?_ _ rfl); rotate_left) | ((with_reducible refine RdA.put1 (p := ?_) ?_ _ rfl); rotate_left))⟩
    · have h2 := HR2.out
      simp [nextK] at h2
      subst h2
      clear HR2
      go_enter Tryd.func56, Tryd.ntmps56
      go_wp2_with (first | (go_at_call 68; refine (CL.out _).mono ?_; rintro e w' ⟨rfl, n, rfl⟩) | (go_at_call 69; refine (CK.out _).mono ?_; rintro e w' ⟨rfl, n, rfl⟩) | (go_at_call 70; refine (CD.out _).mono ?_; rintro e w' ⟨rfl, n, rfl⟩) | (go_at_call 57; refine (CW.out _).mono ?_; rintro e w1 ⟨rfl, hk1⟩; have HB1 := hd (HB.out.kp hk1 (fun q => q)); have HK1 := hd hk1; clear hk1; have c0' : w1.cell? ⟨g, 0, none⟩ = _ := Blk.c HB1.out 0 rfl; have f0' : w1.frozen? ⟨g, 0, none⟩ = false := Blk.f HB1.out 0))
      go_ret
      exact ⟨by repeat (first | (with_reducible exact Kp.refl _ _) | apply Kp.drewN | (with_reducible refine Kp.setOne ?_ _ _) | (with_reducible exact (Kp.refl _ _).no HK1.out) | (with_reducible exact ((Kp.refl _ _).drewN _).no HK1.out)), rfl, by repeat (first | (with_reducible exact HB.out) | (with_reducible exact HB1.out) | (with_reducible apply RdA.drewN) | ((with_reducible refine RdA.put0 (a := ?_) ?_ _ rfl); rotate_left) | ((with_reducible refine RdA.put1 (p := ?_) ?_ _ rfl); rotate_left))⟩
end Go.Proofs.YtieolphpgjpcmaaDoor
