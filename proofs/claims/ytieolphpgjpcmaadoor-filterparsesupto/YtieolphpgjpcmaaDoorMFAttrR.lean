/- attr: rows, later: the first name of a row; canonical. -/
import Derived.Test.YtieolphpgjpcmaaDoorM10
import Derived.Test.YtieolphpgjpcmaaDoorM03
import Derived.Laws.Rows

namespace Go.Proofs.YtieolphpgjpcmaaDoor
open Go.RowKit Go.Proofs.YtieolphpgjpcmaaDoorW.PrintWords

def nameA (k : Nat) : List UInt8 := (((tabA ++ tabB).find? fun p => p.2 == k).map (·.1)).getD []
def nameB (k : Nat) : ByteArray := ⟨(nameA k).toArray⟩
def RowEnd (k : Nat) (w w' : World) (e : Ending) : Prop := ∃ nm A n c oid sup syn us, e = .returned (.agg #[.string nm, .slice A n c, .string oid, .string sup, .int .i64 syn, .int .i64 us]) ∧ nm = nameB k ∧ Kp No w w'

set_option maxHeartbeats 8000000 in
set_option maxRecDepth 100000 in
theorem alaterrow_31 (k : Nat) (w : World) (h0 : 31 ≤ k) (h1 : k < 42) :
    Calls Tryd.prog 75 #[.int .i64 k] w fun e w' => RowEnd k w w' e := by
  rcases (by omega : k = 31 ∨ k = 32 ∨ k = 33 ∨ k = 34 ∨ k = 35 ∨ k = 36 ∨ k = 37 ∨ k = 38 ∨ k = 39 ∨ k = 40 ∨ k = 41) with rfl | rfl | rfl | rfl | rfl | rfl | rfl | rfl | rfl | rfl | rfl
  all_goals
    clear h0 h1
    go_enter Tryd.func75, Tryd.ntmps75
    go_wp2
    refine bodyPost_ret (results_cell_row rfl _ _ w.heap.size 97 _ (0, 0) _ rfl (by first | exact Blk.new _ _ _ | exact (Blk.new _ _ _).alloc _) Tryd.underlying97 rfl (by kernel_rfl)) rfl ⟨_, _, _, _, _, _, _, _, rfl, by kernel_rfl, ?_⟩
    first | exact ((Kp.refl _ _).alloc _).alloc _ | exact (Kp.refl _ _).alloc _

set_option maxHeartbeats 8000000 in
set_option maxRecDepth 100000 in
theorem alaterrow_42 (k : Nat) (w : World) (h0 : 42 ≤ k) (h1 : k < 52) :
    Calls Tryd.prog 75 #[.int .i64 k] w fun e w' => RowEnd k w w' e := by
  rcases (by omega : k = 42 ∨ k = 43 ∨ k = 44 ∨ k = 45 ∨ k = 46 ∨ k = 47 ∨ k = 48 ∨ k = 49 ∨ k = 50 ∨ k = 51) with rfl | rfl | rfl | rfl | rfl | rfl | rfl | rfl | rfl | rfl
  all_goals
    clear h0 h1
    go_enter Tryd.func75, Tryd.ntmps75
    go_wp2
    refine bodyPost_ret (results_cell_row rfl _ _ w.heap.size 97 _ (0, 0) _ rfl (by first | exact Blk.new _ _ _ | exact (Blk.new _ _ _).alloc _) Tryd.underlying97 rfl (by kernel_rfl)) rfl ⟨_, _, _, _, _, _, _, _, rfl, by kernel_rfl, ?_⟩
    first | exact ((Kp.refl _ _).alloc _).alloc _ | exact (Kp.refl _ _).alloc _

set_option maxHeartbeats 8000000 in
set_option maxRecDepth 100000 in
theorem alaterrow_52 (k : Nat) (w : World) (h0 : 52 ≤ k) (h1 : k < 62) :
    Calls Tryd.prog 75 #[.int .i64 k] w fun e w' => RowEnd k w w' e := by
  rcases (by omega : k = 52 ∨ k = 53 ∨ k = 54 ∨ k = 55 ∨ k = 56 ∨ k = 57 ∨ k = 58 ∨ k = 59 ∨ k = 60 ∨ k = 61) with rfl | rfl | rfl | rfl | rfl | rfl | rfl | rfl | rfl | rfl
  all_goals
    clear h0 h1
    go_enter Tryd.func75, Tryd.ntmps75
    go_wp2
    refine bodyPost_ret (results_cell_row rfl _ _ w.heap.size 97 _ (0, 0) _ rfl (by first | exact Blk.new _ _ _ | exact (Blk.new _ _ _).alloc _) Tryd.underlying97 rfl (by kernel_rfl)) rfl ⟨_, _, _, _, _, _, _, _, rfl, by kernel_rfl, ?_⟩
    first | exact ((Kp.refl _ _).alloc _).alloc _ | exact (Kp.refl _ _).alloc _

set_option maxHeartbeats 8000000 in
set_option maxRecDepth 100000 in
theorem arows_0 (k : Nat) (w : World) (h0 : 0 ≤ k) (h1 : k < 11) :
    Calls Tryd.prog 60 #[.int .i64 k] w fun e w' => RowEnd k w w' e := by
  rcases (by omega : k = 0 ∨ k = 1 ∨ k = 2 ∨ k = 3 ∨ k = 4 ∨ k = 5 ∨ k = 6 ∨ k = 7 ∨ k = 8 ∨ k = 9 ∨ k = 10) with rfl | rfl | rfl | rfl | rfl | rfl | rfl | rfl | rfl | rfl | rfl
  all_goals
    clear h0 h1
    go_enter Tryd.func60, Tryd.ntmps60
    go_wp2
    refine bodyPost_ret (results_cell_row rfl _ _ w.heap.size 97 _ (0, 0) _ rfl (by first | exact Blk.new _ _ _ | exact (Blk.new _ _ _).alloc _) Tryd.underlying97 rfl (by kernel_rfl)) rfl ⟨_, _, _, _, _, _, _, _, rfl, by kernel_rfl, ?_⟩
    first | exact ((Kp.refl _ _).alloc _).alloc _ | exact (Kp.refl _ _).alloc _

set_option maxHeartbeats 8000000 in
set_option maxRecDepth 100000 in
theorem arows_11 (k : Nat) (w : World) (h0 : 11 ≤ k) (h1 : k < 21) :
    Calls Tryd.prog 60 #[.int .i64 k] w fun e w' => RowEnd k w w' e := by
  rcases (by omega : k = 11 ∨ k = 12 ∨ k = 13 ∨ k = 14 ∨ k = 15 ∨ k = 16 ∨ k = 17 ∨ k = 18 ∨ k = 19 ∨ k = 20) with rfl | rfl | rfl | rfl | rfl | rfl | rfl | rfl | rfl | rfl
  all_goals
    clear h0 h1
    go_enter Tryd.func60, Tryd.ntmps60
    go_wp2
    refine bodyPost_ret (results_cell_row rfl _ _ w.heap.size 97 _ (0, 0) _ rfl (by first | exact Blk.new _ _ _ | exact (Blk.new _ _ _).alloc _) Tryd.underlying97 rfl (by kernel_rfl)) rfl ⟨_, _, _, _, _, _, _, _, rfl, by kernel_rfl, ?_⟩
    first | exact ((Kp.refl _ _).alloc _).alloc _ | exact (Kp.refl _ _).alloc _

set_option maxHeartbeats 8000000 in
set_option maxRecDepth 100000 in
theorem arows_21 (k : Nat) (w : World) (h0 : 21 ≤ k) (h1 : k < 31) :
    Calls Tryd.prog 60 #[.int .i64 k] w fun e w' => RowEnd k w w' e := by
  rcases (by omega : k = 21 ∨ k = 22 ∨ k = 23 ∨ k = 24 ∨ k = 25 ∨ k = 26 ∨ k = 27 ∨ k = 28 ∨ k = 29 ∨ k = 30) with rfl | rfl | rfl | rfl | rfl | rfl | rfl | rfl | rfl | rfl
  all_goals
    clear h0 h1
    go_enter Tryd.func60, Tryd.ntmps60
    go_wp2
    refine bodyPost_ret (results_cell_row rfl _ _ w.heap.size 97 _ (0, 0) _ rfl (by first | exact Blk.new _ _ _ | exact (Blk.new _ _ _).alloc _) Tryd.underlying97 rfl (by kernel_rfl)) rfl ⟨_, _, _, _, _, _, _, _, rfl, by kernel_rfl, ?_⟩
    first | exact ((Kp.refl _ _).alloc _).alloc _ | exact (Kp.refl _ _).alloc _

theorem alaterrow_any (k : Nat) (w : World) (h0 : 31 ≤ k) (h1 : k < 62) :
    Calls Tryd.prog 75 #[.int .i64 k] w fun e w' => RowEnd k w w' e := by
  by_cases h2 : k < 42
  · exact alaterrow_31 k w h0 h2
  · by_cases h3 : k < 52
    · exact alaterrow_42 k w (by omega) h3
    · exact alaterrow_52 k w (by omega) h1

set_option maxHeartbeats 8000000 in
set_option maxRecDepth 100000 in
theorem arows_hi (k : Nat) (w : World) (h0 : 31 ≤ k) (h1 : k < 62) :
    Calls Tryd.prog 60 #[.int .i64 k] w fun e w' => RowEnd k w w' e := by
  have d0 : ((k : Int) == 0) = false := beq_eq_false_iff_ne.2 (by omega)
  have d1 : ((k : Int) == 1) = false := beq_eq_false_iff_ne.2 (by omega)
  have d2 : ((k : Int) == 2) = false := beq_eq_false_iff_ne.2 (by omega)
  have d3 : ((k : Int) == 3) = false := beq_eq_false_iff_ne.2 (by omega)
  have d4 : ((k : Int) == 4) = false := beq_eq_false_iff_ne.2 (by omega)
  have d5 : ((k : Int) == 5) = false := beq_eq_false_iff_ne.2 (by omega)
  have d6 : ((k : Int) == 6) = false := beq_eq_false_iff_ne.2 (by omega)
  have d7 : ((k : Int) == 7) = false := beq_eq_false_iff_ne.2 (by omega)
  have d8 : ((k : Int) == 8) = false := beq_eq_false_iff_ne.2 (by omega)
  have d9 : ((k : Int) == 9) = false := beq_eq_false_iff_ne.2 (by omega)
  have d10 : ((k : Int) == 10) = false := beq_eq_false_iff_ne.2 (by omega)
  have d11 : ((k : Int) == 11) = false := beq_eq_false_iff_ne.2 (by omega)
  have d12 : ((k : Int) == 12) = false := beq_eq_false_iff_ne.2 (by omega)
  have d13 : ((k : Int) == 13) = false := beq_eq_false_iff_ne.2 (by omega)
  have d14 : ((k : Int) == 14) = false := beq_eq_false_iff_ne.2 (by omega)
  have d15 : ((k : Int) == 15) = false := beq_eq_false_iff_ne.2 (by omega)
  have d16 : ((k : Int) == 16) = false := beq_eq_false_iff_ne.2 (by omega)
  have d17 : ((k : Int) == 17) = false := beq_eq_false_iff_ne.2 (by omega)
  have d18 : ((k : Int) == 18) = false := beq_eq_false_iff_ne.2 (by omega)
  have d19 : ((k : Int) == 19) = false := beq_eq_false_iff_ne.2 (by omega)
  have d20 : ((k : Int) == 20) = false := beq_eq_false_iff_ne.2 (by omega)
  have d21 : ((k : Int) == 21) = false := beq_eq_false_iff_ne.2 (by omega)
  have d22 : ((k : Int) == 22) = false := beq_eq_false_iff_ne.2 (by omega)
  have d23 : ((k : Int) == 23) = false := beq_eq_false_iff_ne.2 (by omega)
  have d24 : ((k : Int) == 24) = false := beq_eq_false_iff_ne.2 (by omega)
  have d25 : ((k : Int) == 25) = false := beq_eq_false_iff_ne.2 (by omega)
  have d26 : ((k : Int) == 26) = false := beq_eq_false_iff_ne.2 (by omega)
  have d27 : ((k : Int) == 27) = false := beq_eq_false_iff_ne.2 (by omega)
  have d28 : ((k : Int) == 28) = false := beq_eq_false_iff_ne.2 (by omega)
  have d29 : ((k : Int) == 29) = false := beq_eq_false_iff_ne.2 (by omega)
  have d30 : ((k : Int) == 30) = false := beq_eq_false_iff_ne.2 (by omega)
  have cL := hd (fun W => alaterrow_any k W h0 h1)
  clear h0 h1
  go_enter Tryd.func60, Tryd.ntmps60
  go_wp2_with (fail)
  refine (cL.out _).mono ?_
  rintro e w1 ⟨nm, A, n, c, oid, sup, syn, us, rfl, hnm, hk⟩
  have HN := hd hnm
  have HK := hd hk
  have HB : Blk w1 w.heap.size #[.string ⟨#[]⟩, .slice none 0 0, .string ⟨#[]⟩, .string ⟨#[]⟩, .int .i64 0, .int .i64 0] 97 := (Blk.new _ _ _).kp hk (fun q => q)
  have HB' := hd HB
  have c0 : w1.cell? ⟨w.heap.size, 0, none⟩ = _ := HB.c 0 rfl
  have c1 : w1.cell? ⟨w.heap.size, 1, none⟩ = _ := HB.c 1 rfl
  have c2 : w1.cell? ⟨w.heap.size, 2, none⟩ = _ := HB.c 2 rfl
  have c3 : w1.cell? ⟨w.heap.size, 3, none⟩ = _ := HB.c 3 rfl
  have c4 : w1.cell? ⟨w.heap.size, 4, none⟩ = _ := HB.c 4 rfl
  have c5 : w1.cell? ⟨w.heap.size, 5, none⟩ = _ := HB.c 5 rfl
  have f0 : w1.frozen? ⟨w.heap.size, 0, none⟩ = false := HB.f 0
  have f1 : w1.frozen? ⟨w.heap.size, 1, none⟩ = false := HB.f 1
  have f2 : w1.frozen? ⟨w.heap.size, 2, none⟩ = false := HB.f 2
  have f3 : w1.frozen? ⟨w.heap.size, 3, none⟩ = false := HB.f 3
  have f4 : w1.frozen? ⟨w.heap.size, 4, none⟩ = false := HB.f 4
  have f5 : w1.frozen? ⟨w.heap.size, 5, none⟩ = false := HB.f 5
  clear hnm hk HB
  go_wp2
  refine bodyPost_ret (results_cell_row rfl _ _ w.heap.size 97 #[.string nm, .slice A n c, .string oid, .string sup, .int .i64 syn, .int .i64 us] (0, 0) _ rfl (Blk.cast ((((((HB'.out.set 0 _).set 1 _).set 2 _).set 3 _).set 4 _).set 5 _) (by kernel_rfl)) Tryd.underlying97 rfl (by kernel_rfl)) rfl ⟨_, _, _, _, _, _, _, _, rfl, HN.out, ?_⟩
  have K1 : Kp No w w1 := ((Kp.refl No w).alloc _).trans HK.out
  repeat (with_reducible refine Kp.setCell ?_ (fun q => absurd q (by simp)) _)
  exact K1
theorem arows_any (k : Nat) (w : World) (h1 : k < 62) :
    Calls Tryd.prog 60 #[.int .i64 k] w fun e w' => RowEnd k w w' e := by
  by_cases h0 : k < 11
  · exact arows_0 k w (by omega) h0
  · by_cases h2 : k < 21
    · exact arows_11 k w (by omega) h2
    · by_cases h3 : k < 31
      · exact arows_21 k w (by omega) h3
      · exact arows_hi k w (by omega) h1
/-- The canonical type of a type's text. -/
def canonS (t : ByteArray) : ByteArray := match byNameS (foldS t) with
  | some k => nameB k
  | none => foldS t
end Go.Proofs.YtieolphpgjpcmaaDoor
