/- filter.parser: item. -/
import Derived.Test.YtieolphpgjpcmaaDoorMFProgX
import Derived.Test.YtieolphpgjpcmaaDoorMI0
import Derived.Deep.RegionLaw
import Derived.Maps.OwnOps

namespace Go.Proofs.YtieolphpgjpcmaaDoor
open Go.RowKit Go.WideMaps Go.Maps Go.Proofs.YtieolphpgjpcmaaDoorW.PrintWords

theorem OwnV.own {w : World} {g base : Nat} {v : Value} {ns : List Nd} (h : NS w base v ns) : ∀ k : Nat, OwnV g v k → Own g base k := fun k q => by
  rcases q with q | q
  · exact .inl q
  · exact .inr (h.own k q)
def PItEnd (w w' : World) (g base : Nat) (s : ByteArray) (i : Int) (ns : List Nd) (e : Ending) : IRes → Prop
  | .bad p => e = faulty 120 p ∧ Kp (Own g base) w w'
  | .ok n j => e = .returned (.tuple #[]) ∧ ∃ v', PB w' g s j v' ∧ NS w' base v' (ns ++ [n]) ∧ Kp (Own g base) w w' ∧ i ≤ j ∧ j ≤ (s.size : Int)
theorem PItEnd.bad_ {w w' : World} {g base : Nat} {s : ByteArray} {i p : Int} {ns : List Nd} {R : IRes} (hR : .bad p = R) (hk : Kp (Own g base) w w') : PItEnd w w' g base s i ns (faulty 120 p) R := by subst hR; exact ⟨rfl, hk⟩
theorem PItEnd.app_ {w W w3 : World} {g base : Nat} {s : ByteArray} {v : Value} {i j : Int} {ns : List Nd} {R : IRes} {n : Nd} {A : Option Addr} {c : Nat} (hg : g < base) (hn : NS w base v ns) (hP : PB W g s j v) (hK : Kp (Own g base) w W)
    (h3 : NS w3 base (.slice A (ns.length + 1) c) (ns ++ [n])) (hG : W.grownBy w3 v.ownBlock) (h0 : i ≤ j) (h1 : j ≤ (s.size : Int)) (hR : .ok n j = R) :
    PItEnd w (w3.setCell ⟨g, 2, none⟩ (.slice A (ns.length + 1) c)) g base s i ns (.returned (.tuple #[])) R := by
  subst hR
  have hP3 : PB w3 g s j v := blk_grown hP hG (fun e => absurd (hn.own g e.symm) (by omega))
  exact ⟨rfl, _, hP3.set2 _, h3.one ((Kp.refl (One g) w3).setOne 2 _) hg, (hK.grown hG (fun k e _ => .inr (hn.own k e))).setCell (fun _ => .inl rfl) _, h0, h1⟩
theorem lawU8 : Keyed Tryd.prog 5 := int_keyed Tryd.underlying5
theorem zeroOp (w : World) : (zeroValue 44).run Tryd.prog w = .ok (.int .i64 0) w := by kernel_rfl
/-- The map of the signs: made, asked. -/
theorem signs3 (W : World) (c : Int) (hc : c = 126 ∨ c = 62 ∨ c = 60) : ∃ W1 W2 W3, (Instr.mapUpdate 63 (.map (some W.heap.size)) (.int .u8 126) (.int .i64 8)).run Tryd.prog (W.alloc (.map #[] 0)) = .ok () W1 ∧
    (Instr.mapUpdate 63 (.map (some W.heap.size)) (.int .u8 62) (.int .i64 5)).run Tryd.prog W1 = .ok () W2 ∧ (Instr.mapUpdate 63 (.map (some W.heap.size)) (.int .u8 60) (.int .i64 6)).run Tryd.prog W2 = .ok () W3 ∧
    (Instr.lookup 63 (.map (some W.heap.size)) (.int .u8 c) false).run Tryd.prog W3 = .ok (.int .i64 (signOp c)) W3 ∧ Kp No W W3 := by
  have o0 : (W.alloc (.map #[] 0)).ownsMap Tryd.prog 5 (plainElem (H := Unit) Tryd.prog 44) W.heap.size 0 (.map []) := World.ownsMap_made _ _ _ _
  have k1 : keyOf Tryd.prog 5 (.int .u8 126) = some (.int .u8 126) := keyOf_int_mk Tryd.underlying5 (by decide)
  have k2 : keyOf Tryd.prog 5 (.int .u8 62) = some (.int .u8 62) := keyOf_int_mk Tryd.underlying5 (by decide)
  have k3 : keyOf Tryd.prog 5 (.int .u8 60) = some (.int .u8 60) := keyOf_int_mk Tryd.underlying5 (by decide)
  obtain ⟨W1, r1, o1, g1⟩ := o0.update lawU8 Tryd.underlying63 (by decide) k1 (plainElem_int Tryd.underlying44 (a := 8) (by decide))
  obtain ⟨W2, r2, o2, g2⟩ := o1.update lawU8 Tryd.underlying63 (by decide) k2 (plainElem_int Tryd.underlying44 (a := 5) (by decide))
  obtain ⟨W3, r3, o3, g3⟩ := o2.update lawU8 Tryd.underlying63 (by decide) k3 (plainElem_int Tryd.underlying44 (a := 6) (by decide))
  refine ⟨W1, W2, W3, r1, r2, r3, ?_, ?_⟩
  · rcases hc with rfl | rfl | rfl
    · obtain ⟨x, hr, hat, _⟩ := o3.lookup_int lawU8 Tryd.underlying63 Tryd.underlying44 (zeroOp _) k1
      have e : (.lit (.int .i64 8) : DataW Unit) = .lit (.int .i64 x) := hat
      simp only [DataW.lit.injEq, Lit.int.injEq, true_and] at e
      rw [hr, ← e]; rfl
    · obtain ⟨x, hr, hat, _⟩ := o3.lookup_int lawU8 Tryd.underlying63 Tryd.underlying44 (zeroOp _) k2
      have e : (.lit (.int .i64 5) : DataW Unit) = .lit (.int .i64 x) := hat
      simp only [DataW.lit.injEq, Lit.int.injEq, true_and] at e
      rw [hr, ← e]; rfl
    · obtain ⟨x, hr, hat, _⟩ := o3.lookup_int lawU8 Tryd.underlying63 Tryd.underlying44 (zeroOp _) k3
      have e : (.lit (.int .i64 6) : DataW Unit) = .lit (.int .i64 x) := hat
      simp only [DataW.lit.injEq, Lit.int.injEq, true_and] at e
      rw [hr, ← e]; rfl
  · exact ((((Kp.refl No W).alloc _).grown g1 (fun k e hk => by injection e with e; omega)).grown g2 (fun k e hk => by injection e with e; omega)).grown g3 (fun k e hk => by injection e with e; omega)
end Go.Proofs.YtieolphpgjpcmaaDoor
