/- attr: the names of the table, in the program's order. | A switch over texts, reckoned by a plain function: what the code of a chain of tests against constants comes to. -/
import Derived.Test.YtieolphpgjpcmaaDoorM01
import Derived.BigFrame

namespace Go.Proofs.YtieolphpgjpcmaaDoor
open Go.RowKit Go.Proofs.YtieolphpgjpcmaaDoorW.PrintWords

def tabA : List (List UInt8 × Nat) := [
  ([111, 98, 106, 101, 99, 116, 99, 108, 97, 115, 115], 0),
  ([50, 46, 53, 46, 52, 46, 48], 0),
  ([97, 108, 105, 97, 115, 101, 100, 111, 98, 106, 101, 99, 116, 110, 97, 109, 101], 1),
  ([97, 108, 105, 97, 115, 101, 100, 101, 110, 116, 114, 121, 110, 97, 109, 101], 1),
  ([50, 46, 53, 46, 52, 46, 49], 1),
  ([110, 97, 109, 101], 2),
  ([50, 46, 53, 46, 52, 46, 52, 49], 2),
  ([100, 105, 115, 116, 105, 110, 103, 117, 105, 115, 104, 101, 100, 110, 97, 109, 101], 3),
  ([50, 46, 53, 46, 52, 46, 52, 57], 3),
  ([99, 110], 4),
  ([99, 111, 109, 109, 111, 110, 110, 97, 109, 101], 4),
  ([50, 46, 53, 46, 52, 46, 51], 4),
  ([115, 110], 5),
  ([115, 117, 114, 110, 97, 109, 101], 5),
  ([50, 46, 53, 46, 52, 46, 52], 5),
  ([115, 101, 114, 105, 97, 108, 110, 117, 109, 98, 101, 114], 6),
  ([50, 46, 53, 46, 52, 46, 53], 6),
  ([99], 7),
  ([99, 111, 117, 110, 116, 114, 121, 110, 97, 109, 101], 7),
  ([50, 46, 53, 46, 52, 46, 54], 7),
  ([108], 8),
  ([108, 111, 99, 97, 108, 105, 116, 121, 110, 97, 109, 101], 8),
  ([50, 46, 53, 46, 52, 46, 55], 8),
  ([115, 116], 9),
  ([115, 116, 97, 116, 101, 111, 114, 112, 114, 111, 118, 105, 110, 99, 101, 110, 97, 109, 101], 9),
  ([50, 46, 53, 46, 52, 46, 56], 9),
  ([115, 116, 114, 101, 101, 116], 10),
  ([115, 116, 114, 101, 101, 116, 97, 100, 100, 114, 101, 115, 115], 10),
  ([50, 46, 53, 46, 52, 46, 57], 10),
  ([111], 11),
  ([111, 114, 103, 97, 110, 105, 122, 97, 116, 105, 111, 110, 110, 97, 109, 101], 11),
  ([50, 46, 53, 46, 52, 46, 49, 48], 11),
  ([111, 117], 12),
  ([111, 114, 103, 97, 110, 105, 122, 97, 116, 105, 111, 110, 97, 108, 117, 110, 105, 116, 110, 97, 109, 101], 12),
  ([50, 46, 53, 46, 52, 46, 49, 49], 12),
  ([116, 105, 116, 108, 101], 13),
  ([50, 46, 53, 46, 52, 46, 49, 50], 13),
  ([100, 101, 115, 99, 114, 105, 112, 116, 105, 111, 110], 14),
  ([50, 46, 53, 46, 52, 46, 49, 51], 14),
  ([98, 117, 115, 105, 110, 101, 115, 115, 99, 97, 116, 101, 103, 111, 114, 121], 15),
  ([50, 46, 53, 46, 52, 46, 49, 53], 15),
  ([112, 111, 115, 116, 97, 108, 97, 100, 100, 114, 101, 115, 115], 16),
  ([50, 46, 53, 46, 52, 46, 49, 54], 16),
  ([112, 111, 115, 116, 97, 108, 99, 111, 100, 101], 17),
  ([50, 46, 53, 46, 52, 46, 49, 55], 17),
  ([112, 111, 115, 116, 111, 102, 102, 105, 99, 101, 98, 111, 120], 18),
  ([50, 46, 53, 46, 52, 46, 49, 56], 18),
  ([112, 104, 121, 115, 105, 99, 97, 108, 100, 101, 108, 105, 118, 101, 114, 121, 111, 102, 102, 105, 99, 101, 110, 97, 109, 101], 19),
  ([50, 46, 53, 46, 52, 46, 49, 57], 19),
  ([116, 101, 108, 101, 112, 104, 111, 110, 101, 110, 117, 109, 98, 101, 114], 20),
  ([50, 46, 53, 46, 52, 46, 50, 48], 20),
  ([102, 97, 99, 115, 105, 109, 105, 108, 101, 116, 101, 108, 101, 112, 104, 111, 110, 101, 110, 117, 109, 98, 101, 114], 21),
  ([102, 97, 120], 21),
  ([50, 46, 53, 46, 52, 46, 50, 51], 21),
  ([120, 49, 50, 49, 97, 100, 100, 114, 101, 115, 115], 22),
  ([50, 46, 53, 46, 52, 46, 50, 52], 22),
  ([105, 110, 116, 101, 114, 110, 97, 116, 105, 111, 110, 97, 108, 105, 115, 100, 110, 110, 117, 109, 98, 101, 114], 23),
  ([50, 46, 53, 46, 52, 46, 50, 53], 23),
  ([114, 101, 103, 105, 115, 116, 101, 114, 101, 100, 97, 100, 100, 114, 101, 115, 115], 24),
  ([50, 46, 53, 46, 52, 46, 50, 54], 24),
  ([100, 101, 115, 116, 105, 110, 97, 116, 105, 111, 110, 105, 110, 100, 105, 99, 97, 116, 111, 114], 25),
  ([50, 46, 53, 46, 52, 46, 50, 55], 25),
  ([109, 101, 109, 98, 101, 114], 26),
  ([50, 46, 53, 46, 52, 46, 51, 49], 26),
  ([111, 119, 110, 101, 114], 27),
  ([50, 46, 53, 46, 52, 46, 51, 50], 27),
  ([114, 111, 108, 101, 111, 99, 99, 117, 112, 97, 110, 116], 28),
  ([50, 46, 53, 46, 52, 46, 51, 51], 28),
  ([115, 101, 101, 97, 108, 115, 111], 29),
  ([50, 46, 53, 46, 52, 46, 51, 52], 29),
  ([117, 115, 101, 114, 112, 97, 115, 115, 119, 111, 114, 100], 30),
  ([50, 46, 53, 46, 52, 46, 51, 53], 30)]
def tabB : List (List UInt8 × Nat) := [
  ([103, 105, 118, 101, 110, 110, 97, 109, 101], 31),
  ([103, 110], 31),
  ([50, 46, 53, 46, 52, 46, 52, 50], 31),
  ([105, 110, 105, 116, 105, 97, 108, 115], 32),
  ([50, 46, 53, 46, 52, 46, 52, 51], 32),
  ([103, 101, 110, 101, 114, 97, 116, 105, 111, 110, 113, 117, 97, 108, 105, 102, 105, 101, 114], 33),
  ([50, 46, 53, 46, 52, 46, 52, 52], 33),
  ([100, 110, 113, 117, 97, 108, 105, 102, 105, 101, 114], 34),
  ([50, 46, 53, 46, 52, 46, 52, 54], 34),
  ([104, 111, 117, 115, 101, 105, 100, 101, 110, 116, 105, 102, 105, 101, 114], 35),
  ([50, 46, 53, 46, 52, 46, 53, 49], 35),
  ([99, 45, 108], 36),
  ([50, 46, 53, 46, 52, 46, 55, 46, 49], 36),
  ([99, 45, 115, 116], 37),
  ([50, 46, 53, 46, 52, 46, 56, 46, 49], 37),
  ([99, 45, 111], 38),
  ([50, 46, 53, 46, 52, 46, 49, 48, 46, 49], 38),
  ([99, 45, 111, 117], 39),
  ([50, 46, 53, 46, 52, 46, 49, 49, 46, 49], 39),
  ([117, 105, 100], 40),
  ([117, 115, 101, 114, 105, 100], 40),
  ([48, 46, 57, 46, 50, 51, 52, 50, 46, 49, 57, 50, 48, 48, 51, 48, 48, 46, 49, 48, 48, 46, 49, 46, 49], 40),
  ([109, 97, 105, 108], 41),
  ([114, 102, 99, 56, 50, 50, 109, 97, 105, 108, 98, 111, 120], 41),
  ([48, 46, 57, 46, 50, 51, 52, 50, 46, 49, 57, 50, 48, 48, 51, 48, 48, 46, 49, 48, 48, 46, 49, 46, 51], 41),
  ([114, 111, 111, 109, 110, 117, 109, 98, 101, 114], 42),
  ([48, 46, 57, 46, 50, 51, 52, 50, 46, 49, 57, 50, 48, 48, 51, 48, 48, 46, 49, 48, 48, 46, 49, 46, 54], 42),
  ([109, 97, 110, 97, 103, 101, 114], 43),
  ([48, 46, 57, 46, 50, 51, 52, 50, 46, 49, 57, 50, 48, 48, 51, 48, 48, 46, 49, 48, 48, 46, 49, 46, 49, 48], 43),
  ([104, 111, 109, 101, 112, 104, 111, 110, 101], 44),
  ([104, 111, 109, 101, 116, 101, 108, 101, 112, 104, 111, 110, 101, 110, 117, 109, 98, 101, 114], 44),
  ([48, 46, 57, 46, 50, 51, 52, 50, 46, 49, 57, 50, 48, 48, 51, 48, 48, 46, 49, 48, 48, 46, 49, 46, 50, 48], 44),
  ([115, 101, 99, 114, 101, 116, 97, 114, 121], 45),
  ([48, 46, 57, 46, 50, 51, 52, 50, 46, 49, 57, 50, 48, 48, 51, 48, 48, 46, 49, 48, 48, 46, 49, 46, 50, 49], 45),
  ([100, 99], 46),
  ([100, 111, 109, 97, 105, 110, 99, 111, 109, 112, 111, 110, 101, 110, 116], 46),
  ([48, 46, 57, 46, 50, 51, 52, 50, 46, 49, 57, 50, 48, 48, 51, 48, 48, 46, 49, 48, 48, 46, 49, 46, 50, 53], 46),
  ([109, 111, 98, 105, 108, 101], 47),
  ([109, 111, 98, 105, 108, 101, 116, 101, 108, 101, 112, 104, 111, 110, 101, 110, 117, 109, 98, 101, 114], 47),
  ([48, 46, 57, 46, 50, 51, 52, 50, 46, 49, 57, 50, 48, 48, 51, 48, 48, 46, 49, 48, 48, 46, 49, 46, 52, 49], 47),
  ([112, 97, 103, 101, 114], 48),
  ([112, 97, 103, 101, 114, 116, 101, 108, 101, 112, 104, 111, 110, 101, 110, 117, 109, 98, 101, 114], 48),
  ([48, 46, 57, 46, 50, 51, 52, 50, 46, 49, 57, 50, 48, 48, 51, 48, 48, 46, 49, 48, 48, 46, 49, 46, 52, 50], 48),
  ([101, 109, 112, 108, 111, 121, 101, 101, 110, 117, 109, 98, 101, 114], 49),
  ([50, 46, 49, 54, 46, 56, 52, 48, 46, 49, 46, 49, 49, 51, 55, 51, 48, 46, 51, 46, 49, 46, 51], 49),
  ([100, 105, 115, 112, 108, 97, 121, 110, 97, 109, 101], 50),
  ([50, 46, 49, 54, 46, 56, 52, 48, 46, 49, 46, 49, 49, 51, 55, 51, 48, 46, 51, 46, 49, 46, 50, 52, 49], 50),
  ([117, 105, 100, 110, 117, 109, 98, 101, 114], 51),
  ([49, 46, 51, 46, 54, 46, 49, 46, 49, 46, 49, 46, 49, 46, 48], 51),
  ([103, 105, 100, 110, 117, 109, 98, 101, 114], 52),
  ([49, 46, 51, 46, 54, 46, 49, 46, 49, 46, 49, 46, 49, 46, 49], 52),
  ([104, 111, 109, 101, 100, 105, 114, 101, 99, 116, 111, 114, 121], 53),
  ([49, 46, 51, 46, 54, 46, 49, 46, 49, 46, 49, 46, 49, 46, 51], 53),
  ([108, 111, 103, 105, 110, 115, 104, 101, 108, 108], 54),
  ([49, 46, 51, 46, 54, 46, 49, 46, 49, 46, 49, 46, 49, 46, 52], 54),
  ([108, 97, 98, 101, 108, 101, 100, 117, 114, 105], 55),
  ([49, 46, 51, 46, 54, 46, 49, 46, 52, 46, 49, 46, 50, 53, 48, 46, 49, 46, 53, 55], 55),
  ([99, 114, 101, 97, 116, 101, 116, 105, 109, 101, 115, 116, 97, 109, 112], 56),
  ([50, 46, 53, 46, 49, 56, 46, 49], 56),
  ([109, 111, 100, 105, 102, 121, 116, 105, 109, 101, 115, 116, 97, 109, 112], 57),
  ([50, 46, 53, 46, 49, 56, 46, 50], 57),
  ([99, 114, 101, 97, 116, 111, 114, 115, 110, 97, 109, 101], 58),
  ([50, 46, 53, 46, 49, 56, 46, 51], 58),
  ([109, 111, 100, 105, 102, 105, 101, 114, 115, 110, 97, 109, 101], 59),
  ([50, 46, 53, 46, 49, 56, 46, 52], 59),
  ([104, 97, 115, 115, 117, 98, 111, 114, 100, 105, 110, 97, 116, 101, 115], 60),
  ([50, 46, 53, 46, 49, 56, 46, 57], 60),
  ([120, 53, 48, 48, 117, 110, 105, 113, 117, 101, 105, 100, 101, 110, 116, 105, 102, 105, 101, 114], 61),
  ([50, 46, 53, 46, 52, 46, 52, 53], 61)]
/-- The row that a folded name has. -/
def findA (t : List (List UInt8 × Nat)) (s : List UInt8) : Option Nat := (t.find? fun p => s == p.1).map (·.2)
def byNameS (s : ByteArray) : Option Nat := (findA tabA s.toList).or (findA tabB s.toList)
def hasRow : Option Nat → Bool
  | some _ => true
  | none => false
theorem findA_lt : ∀ (t : List (List UInt8 × Nat)) (n : Nat), (∀ p ∈ t, p.2 < n) → ∀ s k, findA t s = some k → k < n := by
  intro t n h s k hk
  unfold findA at hk
  obtain ⟨p, hp, rfl⟩ := Option.map_eq_some_iff.1 hk
  exact h p (List.mem_of_find?_eq_some hp)
theorem byNameS_lt (s : ByteArray) (k : Nat) (h : byNameS s = some k) : k < 62 := by
  unfold byNameS at h
  cases ha : findA tabA s.toList with
  | some x =>
    rw [ha] at h
    simp only [Option.or, Option.some.injEq] at h
    subst h
    exact findA_lt tabA 62 (by decide) _ _ ha
  | none =>
    rw [ha] at h
    simp only [Option.or] at h
    exact findA_lt tabB 62 (by decide) _ _ h
end Go.Proofs.YtieolphpgjpcmaaDoor

namespace Go.Proofs.YtieolphpgjpcmaaDoor
open Go.RowKit Go.Proofs.YtieolphpgjpcmaaDoorW.PrintWords

/-- A slot's value: the text that is asked for, or a known one. -/
inductive SV | s | v (x : Value)
def SV.val (t : ByteArray) : SV → Value
  | .s => .string t
  | .v x => x
def svAct (t : ByteArray) (d : List Deferred) (σ : List SV) : Act := { tmps := (σ.map (SV.val t)).toArray, defers := d }
def svEval (σ : List SV) : Operand → Option SV
  | .tmp i => σ[i]?
  | .const x => some (.v x)
  | _ => none
theorem svEval_eq {t : ByteArray} {d : List Deferred} {σ : List SV} {x : Operand} {y : SV} (h : svEval σ x = some y) : (svAct t d σ).eval x = y.val t := by
  cases x with
  | tmp i =>
    simp only [svEval] at h
    simp only [svAct, Act.eval]
    rw [Array.getD_eq_getD_getElem?, List.getElem?_toArray, List.getElem?_map, h]
    rfl
  | const x => simp only [svEval, Option.some.injEq] at h; subst h; rfl
  | global g => cases h
  | func f => cases h
def svPut (σ : List SV) : Option Tmp → SV → List SV
  | some i, y => σ.set i y
  | none, _ => σ
theorem svPut_eq (t : ByteArray) (d : List Deferred) (σ : List SV) (dst : Option Tmp) (y : SV) : (svAct t d σ).put dst (y.val t) = svAct t d (svPut σ dst y) := by
  cases dst with
  | none => rfl
  | some i =>
    simp only [svAct, svPut, Act.put]
    congr 1
    rw [List.setIfInBounds_toArray, List.map_set]
/-- What the tests say: 'q c': is the text c? -/
def svOp (cl : FuncId → Option Value) (q : List UInt8 → Bool) (σ : List SV) : Op → Option SV
  | .move x => svEval σ x
  | .assign x => svEval σ x
  | .binOp .eql _ x (.const (.string c)) _ => match svEval σ x with
    | some .s => some (.v (.bool (q c.toList)))
    | _ => none
  | .call c => match c.callee, c.args.toList with
    | .value (.func f), [x] => match svEval σ x with
      | some .s => (cl f).map SV.v
      | _ => none
    | _, _ => none
  | .extract x i => match svEval σ x with
    | some (.v (.tuple vs)) => vs[i]?.map SV.v
    | _ => none
  | _ => none
def svOps (cl : FuncId → Option Value) (q : List UInt8 → Bool) : List Oper → List SV → Option (List SV)
  | [], σ => some σ
  | o :: r, σ => match o.guard, svOp cl q σ o.op with
    | none, some y => svOps cl q r (svPut σ o.dst y)
    | _, _ => none
inductive SX | normal | ret
def svCode (cl : FuncId → Option Value) (q : List UInt8 → Bool) : Code → List SV → Option (SX × List SV)
  | .skip, σ => some (.normal, σ)
  | .ret, σ => some (.ret, σ)
  | .region _ ops false, σ => (svOps cl q ops.toList σ).map fun σ' => (.normal, σ')
  | .seq a b, σ => match svCode cl q a σ with
    | some (.normal, σ') => svCode cl q b σ'
    | some (.ret, σ') => some (.ret, σ')
    | none => none
  | .cond c a b, σ => match svEval σ c with
    | some (.v (.bool true)) => svCode cl q a σ
    | some (.v (.bool false)) => svCode cl q b σ
    | _ => none
  | .block _ a, σ => svCode cl q a σ
  | _, _ => none
/-- The constants that a code asks for. -/
def svConsts : Code → List (List UInt8)
  | .region _ ops _ => ops.toList.filterMap fun o => match o.op with
    | .binOp .eql _ _ (.const (.string c)) _ => some c.toList
    | _ => none
  | .seq a b => svConsts a ++ svConsts b
  | .cond _ a b => svConsts a ++ svConsts b
  | .block _ a => svConsts a
  | _ => []
theorem wp_eql_str {P : Program} {o : Oper} {a : Act} {w : World} {K : Act → World → Prop} {Q : Exit → Act → World → Prop} (ty ty' : TypeId) (x y : Operand) (h : o.op = .binOp .eql ty x y ty') (s c : ByteArray) (hx : a.eval x = .string s) (hy : a.eval y = .string c)
    (hk : K (a.put o.dst (.bool (s.toList == c.toList))) w) : o.wp P a w K Q := by
  unfold Oper.wp execOp; rw [h]; simp only [hx, hy]; simp [go_sem]; exact hk
/-- What is said of calls with the text alone. -/
def ClOk (P : Program) (t : ByteArray) (cl : FuncId → Option Value) (w : World) : Prop := ∀ f v, cl f = some v → (callFunc f #[.string t]).run P w = .ok (.enter f #[.string t]) w ∧ Calls P f #[.string t] w fun e w' => e = .returned v ∧ w = w'
theorem wp_call_one {P : Program} {o : Oper} {a : Act} {w : World} {K : Act → World → Prop} {Q : Exit → Act → World → Prop} (c : Call) (h : o.op = .call c) (f : FuncId) (x : Operand) (hc : c.callee = .value (.func f)) (ha : c.args.toList = [x]) (y v : Value) (hx : a.eval x = y)
    (hcf : (callFunc f #[y]).run P w = .ok (.enter f #[y]) w) (hcall : Calls P f #[y] w fun e w' => e = .returned v ∧ w = w') (hk : K (a.put o.dst v) w) : o.wp P a w K Q := by
  obtain ⟨cc, ag, tys⟩ := c
  simp only at hc ha
  subst hc
  obtain rfl : ag = #[x] := by rw [← Array.toArray_toList (xs := ag), ha]
  unfold Oper.wp execOp; rw [h]
  have e : ∀ ρ : Operand → Value, ρ x = y → ρ (.func f) = .func (.func f) #[] #[] → (do let d ← resolve ρ ⟨.value (.func f), #[x], tys⟩ o.type; invoke d.target d.args : Sem Next).run P w = .ok (.enter f #[y]) w := by
    intro ρ hx hf
    simp [go_sem, hx, hf, hcf]
  rw [e a.eval hx rfl, Oper.upon_enter]
  refine hcall.mono ?_
  rintro e w' ⟨rfl, rfl⟩
  exact hk
theorem wp_extract_tuple {P : Program} {o : Oper} {a : Act} {w : World} {K : Act → World → Prop} {Q : Exit → Act → World → Prop} (x : Operand) (i : Nat) (h : o.op = .extract x i) (vs : Array Value) (v : Value) (hx : a.eval x = .tuple vs) (hv : vs[i]? = some v)
    (hk : K (a.put o.dst v) w) : o.wp P a w K Q := by
  unfold Oper.wp execOp; rw [h]; simp only [hx]; simp [go_sem, Instr.extract, hv]; exact hk
theorem svOp_wp {P : Program} {t : ByteArray} {cl : FuncId → Option Value} {q : List UInt8 → Bool} {o : Oper} {σ : List SV} {y : SV} {d : List Deferred} {w : World} {K : Act → World → Prop} {Q : Exit → Act → World → Prop} (hcl : ClOk P t cl w) (hq : ∀ c, q c = (t.toList == c)) (h : svOp cl q σ o.op = some y)
    (hk : K (svAct t d (svPut σ o.dst y)) w) : o.wp P (svAct t d σ) w K Q := by
  rw [← svPut_eq] at hk
  unfold svOp at h
  split at h
  · rename_i x hx
    exact BigFrame.wp_move x hx (by rw [svEval_eq h]; exact hk)
  · rename_i x hx
    exact BigFrame.wp_assign x hx (by rw [svEval_eq h]; exact hk)
  · rename_i ty x c ty' hx
    split at h
    · rename_i e1
      injection h with h
      subst h
      exact wp_eql_str ty ty' x _ hx t c (svEval_eq e1) rfl (by rw [← hq]; exact hk)
    · cases h
  · rename_i c hx
    split at h
    · rename_i f x hc ha
      split at h
      · rename_i e1
        obtain ⟨v, hv, rfl⟩ := Option.map_eq_some_iff.1 h
        exact wp_call_one c hx f x hc ha _ v (svEval_eq e1) (hcl f v hv).1 (hcl f v hv).2 hk
      · cases h
    · cases h
  · rename_i x i hx
    split at h
    · rename_i vs e1
      obtain ⟨v, hv, rfl⟩ := Option.map_eq_some_iff.1 h
      exact wp_extract_tuple x i hx vs v (svEval_eq e1) hv hk
    · cases h
  · cases h
theorem svOps_wp {P : Program} {t : ByteArray} {cl : FuncId → Option Value} {q : List UInt8 → Bool} {w : World} (hcl : ClOk P t cl w) (hq : ∀ c, q c = (t.toList == c)) {ops : Array Oper} {d : List Deferred} {Q : Exit → Act → World → Prop} : ∀ (l : List Oper) (σ σ' : List SV), svOps cl q l σ = some σ' → Q .normal (svAct t d σ') w → wpList P ops Q l (svAct t d σ) w := by
  intro l
  induction l with
  | nil => intro σ σ' h k; simp only [svOps, Option.some.injEq] at h; subst h; exact k
  | cons o r ih =>
    intro σ σ' h k
    simp only [svOps] at h
    split at h
    · rename_i y hg ho
      exact wpList_plain hg fun _ hK => svOp_wp hcl hq ho (hK _ _ (ih _ _ h k))
    · cases h
def SX.ex : SX → Exit
  | .normal => .normal
  | .ret => .ret
theorem svCode_wp {P : Program} {t : ByteArray} {cl : FuncId → Option Value} {q : List UInt8 → Bool} {w : World} (hcl : ClOk P t cl w) (hq : ∀ c, q c = (t.toList == c)) {d : List Deferred} : ∀ (c : Code) (Q : Exit → Act → World → Prop) (σ : List SV) (x : SX) (σ' : List SV), svCode cl q c σ = some (x, σ') → Q x.ex (svAct t d σ') w → c.wp P Q (svAct t d σ) w := by
  intro c
  induction c with
  | skip => intro Q σ x σ' h k; simp only [svCode, Option.some.injEq, Prod.mk.injEq] at h; obtain ⟨rfl, rfl⟩ := h; exact wp_skip k
  | ret => intro Q σ x σ' h k; simp only [svCode, Option.some.injEq, Prod.mk.injEq] at h; obtain ⟨rfl, rfl⟩ := h; exact wp_ret k
  | region id ops dr =>
    intro Q σ x σ' h k
    cases dr with
    | true => simp [svCode] at h
    | false =>
      simp only [svCode, Option.map_eq_some_iff, Prod.mk.injEq] at h
      obtain ⟨σ2, h2, rfl, rfl⟩ := h
      exact wp_region_list (svOps_wp hcl hq _ _ _ h2 k)
  | seq a b iha ihb =>
    intro Q σ x σ' h k
    simp only [svCode] at h
    split at h
    · rename_i σ2 h2
      exact wp_seq (iha _ _ _ _ h2 (ihb _ _ _ _ h k))
    · rename_i σ2 h2
      simp only [Option.some.injEq, Prod.mk.injEq] at h
      obtain ⟨rfl, rfl⟩ := h
      exact wp_seq (iha _ _ _ _ h2 k)
    · cases h
  | cond c a b iha ihb =>
    intro Q σ x σ' h k
    simp only [svCode] at h
    split at h
    · rename_i h2
      exact wp_cond_true (svEval_eq h2) (iha _ _ _ _ h k)
    · rename_i h2
      exact wp_cond_false (svEval_eq h2) (ihb _ _ _ _ h k)
    · cases h
  | block id a iha =>
    intro Q σ x σ' h k
    simp only [svCode] at h
    refine wp_block (iha _ _ _ _ h ?_)
    cases x <;> exact k
  | _ => intro Q σ x σ' h k; simp [svCode] at h
theorem svOps_congr {cl : FuncId → Option Value} {q q' : List UInt8 → Bool} : ∀ (l : List Oper) (σ : List SV), (∀ c ∈ l.filterMap (fun o => match o.op with
    | .binOp .eql _ _ (.const (.string c)) _ => some c.toList
    | _ => none), q c = q' c) → svOps cl q l σ = svOps cl q' l σ := by
  intro l
  induction l with
  | nil => intro σ _; rfl
  | cons o r ih =>
    intro σ h
    have e : svOp cl q σ o.op = svOp cl q' σ o.op := by
      unfold svOp
      split
      · rfl
      · rfl
      · rename_i ty x c ty' hx
        have := h c.toList (by rw [List.filterMap_cons, hx]; simp)
        rw [this]
      · rfl
      · rfl
      · rfl
    simp only [svOps, e]
    split
    · refine ih _ (fun c hc => h c ?_)
      rw [List.filterMap_cons]
      split
      · exact hc
      · exact List.mem_cons_of_mem _ hc
    · rfl
theorem svCode_congr {cl : FuncId → Option Value} {q q' : List UInt8 → Bool} : ∀ (c : Code) (σ : List SV), (∀ x ∈ svConsts c, q x = q' x) → svCode cl q c σ = svCode cl q' c σ := by
  intro c
  induction c with
  | region id ops dr =>
    intro σ h
    cases dr with
    | true => simp [svCode]
    | false => simp only [svCode]; rw [svOps_congr _ _ h]
  | seq a b iha ihb =>
    intro σ h
    simp only [svConsts, List.mem_append] at h
    simp only [svCode, iha σ (fun x hx => h x (.inl hx))]
    split
    · exact ihb _ (fun x hx => h x (.inr hx))
    · rfl
    · rfl
  | cond c a b iha ihb =>
    intro σ h
    simp only [svConsts, List.mem_append] at h
    simp only [svCode]
    split
    · exact iha _ (fun x hx => h x (.inl hx))
    · exact ihb _ (fun x hx => h x (.inr hx))
    · rfl
  | block id a iha => intro σ h; simp only [svCode]; exact iha _ h
  | _ => intro σ h; simp [svCode]
end Go.Proofs.YtieolphpgjpcmaaDoor
