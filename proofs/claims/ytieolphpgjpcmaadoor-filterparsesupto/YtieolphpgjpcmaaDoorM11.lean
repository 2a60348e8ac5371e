/- attr: byName, laterName. -/
import Derived.Test.YtieolphpgjpcmaaDoorM10

namespace Go.Proofs.YtieolphpgjpcmaaDoor
open Go.RowKit Go.Proofs.YtieolphpgjpcmaaDoorW.PrintWords

def NmEnd (R : Option Nat) (w w' : World) (e : Ending) : Prop := e = .returned (.tuple #[.int .i64 (R.getD 0 : Nat), .bool (hasRow R)]) ∧ w = w'
def noCl : FuncId → Option Value := fun _ => none
def oneCl (f : FuncId) (v : Value) : FuncId → Option Value := fun g => if g = f then some v else none
/-- What slots 2 and 3 hold where the code has returned. -/
def out23 (r : Option (SX × List SV)) : Option (Value × Value) := match r with
  | some (.ret, σ) => match σ[2]?, σ[3]? with
    | some (SV.v x), some (SV.v y) => some (x, y)
    | _, _ => none
  | _ => none
theorem out23_some {r : Option (SX × List SV)} {x y : Value} (h : out23 r = some (x, y)) : ∃ σ, r = some (.ret, σ) ∧ σ[2]? = some (.v x) ∧ σ[3]? = some (.v y) := by
  unfold out23 at h
  split at h
  · rename_i σ
    split at h
    · rename_i e1 e2
      simp only [Option.some.injEq, Prod.mk.injEq] at h
      obtain ⟨rfl, rfl⟩ := h
      exact ⟨_, rfl, e1, e2⟩
    · cases h
  · cases h
def hits (code : Code) (n : Nat) (p : List UInt8 × Nat) : Bool := match out23 (svCode noCl (fun c => p.1 == c) code (.s :: List.replicate n (.v undef))) with
  | some (.int .i64 i, .bool b) => decide (i = p.2) && b
  | _ => false
theorem hits_out {code : Code} {n : Nat} {p : List UInt8 × Nat} (h : hits code n p = true) : out23 (svCode noCl (fun c => p.1 == c) code (.s :: List.replicate n (.v undef))) = some (.int .i64 (p.2 : Int), .bool true) := by
  unfold hits at h
  split at h
  · rename_i i b e
    simp only [Bool.and_eq_true, decide_eq_true_eq] at h
    rw [e, h.1, h.2]
  · cases h
def codeOf (f : Func) : Code := f.body.getD .skip
theorem findA_none {t : List (List UInt8 × Nat)} {s : List UInt8} (h : findA t s = none) (c : List UInt8) (hc : c ∈ t.map (·.1)) : (s == c) = false := by
  unfold findA at h
  simp only [Option.map_eq_none_iff, List.find?_eq_none] at h
  obtain ⟨p, hp, rfl⟩ := List.mem_map.1 hc
  simpa using h p hp
theorem findA_some {t : List (List UInt8 × Nat)} {s : List UInt8} {k : Nat} (h : findA t s = some k) : ∃ p ∈ t, s = p.1 ∧ k = p.2 := by
  unfold findA at h
  obtain ⟨p, hp, rfl⟩ := Option.map_eq_some_iff.1 h
  have := List.find?_some hp
  exact ⟨p, List.mem_of_find?_eq_some hp, by simpa using this, rfl⟩
/-- What a chain of tests against the names of t comes to. -/
theorem chain_out {code : Code} {n : Nat} {t : List (List UInt8 × Nat)} {cl : FuncId → Option Value} {s : ByteArray} {x y : Value} (h1 : t.all (hits code n) = true) (h2 : (svConsts code).all (fun c => (t.map (·.1)).contains c) = true)
    (h3 : findA t s.toList = none → out23 (svCode cl (fun _ => false) code (.s :: List.replicate n (.v undef))) = some (x, y)) :
    (∃ k, findA t s.toList = some k ∧ out23 (svCode noCl (fun c => s.toList == c) code (.s :: List.replicate n (.v undef))) = some (.int .i64 (k : Int), .bool true)) ∨
    (findA t s.toList = none ∧ out23 (svCode cl (fun c => s.toList == c) code (.s :: List.replicate n (.v undef))) = some (x, y)) := by
  cases hf : findA t s.toList with
  | some k =>
    obtain ⟨p, hp, e1, e2⟩ := findA_some hf
    refine .inl ⟨k, rfl, ?_⟩
    rw [e1, e2]
    exact hits_out (List.all_eq_true.1 h1 p hp)
  | none =>
    refine .inr ⟨rfl, ?_⟩
    rw [svCode_congr (q' := fun _ => false)]
    · exact h3 hf
    · intro c hc
      have := List.all_eq_true.1 h2 c hc
      exact findA_none hf c (by simpa using this)
theorem hitsB : tabB.all (hits (codeOf Tryd.f74) 104) = true := by kernel_rfl
theorem constsB : (svConsts (codeOf Tryd.f74)).all (fun c => (tabB.map (·.1)).contains c) = true := by kernel_rfl
theorem missB : out23 (svCode noCl (fun _ => false) (codeOf Tryd.f74) (.s :: List.replicate 104 (.v undef))) = some (.int .i64 0, .bool false) := by kernel_rfl
theorem hitsA : tabA.all (hits (codeOf Tryd.f59) 111) = true := by kernel_rfl
theorem constsA : (svConsts (codeOf Tryd.f59)).all (fun c => (tabA.map (·.1)).contains c) = true := by kernel_rfl
theorem missA (i : Int) (b : Bool) : out23 (svCode (oneCl 74 (.tuple #[.int .i64 i, .bool b])) (fun _ => false) (codeOf Tryd.f59) (.s :: List.replicate 111 (.v undef))) = some (.int .i64 i, .bool b) := by kernel_rfl

theorem sv_get {t : ByteArray} {d : List Deferred} {σ : List SV} {i : Nat} {x : Value} (h : σ[i]? = some (.v x)) : (svAct t d σ).tmps.getD i undef = x := svEval_eq (t := t) (d := d) (x := .tmp i) h
theorem noCl_ok (P : Program) (t : ByteArray) (w : World) : ClOk P t noCl w := fun _ _ h => by cases h
theorem oneCl_ok {P : Program} {t : ByteArray} {f : FuncId} {v : Value} {w : World} (hcf : (callFunc f #[.string t]).run P w = .ok (.enter f #[.string t]) w) (h : Calls P f #[.string t] w fun e w' => e = .returned v ∧ w = w') : ClOk P t (oneCl f v) w := by
  intro g x hx
  unfold oneCl at hx
  split at hx
  · rename_i e
    subst e
    injection hx with hx
    subst hx
    exact ⟨hcf, h⟩
  · cases hx

set_option maxHeartbeats 8000000 in
set_option maxRecDepth 100000 in
theorem alater_any (s : ByteArray) (w : World) :
    Calls Tryd.prog 74 #[.string s] w fun e w' => NmEnd (findA tabB s.toList) w w' e := by
  have H := hd (chain_out (s := s) (cl := noCl) hitsB constsB (fun _ => missB))
  go_enter Tryd.func74, Tryd.ntmps74
  rcases H.out with ⟨k, hk, ho⟩ | ⟨hk, ho⟩
  all_goals
    rw [hk]
    obtain ⟨σ, h1, h2, h3⟩ := out23_some ho
    refine svCode_wp (t := s) (d := []) (cl := noCl) (noCl_ok _ _ _) (fun _ => rfl) (codeOf Tryd.f74) _ (.s :: List.replicate 104 (.v undef)) .ret σ h1 ?_
    show bodyPost _ _ _ Exit.ret (svAct s [] σ) w
    go_ret2
    exact ⟨by rw [sv_get h2, sv_get h3]; rfl, rfl⟩
set_option maxHeartbeats 8000000 in
set_option maxRecDepth 100000 in
theorem abyname_any (s : ByteArray) (w : World) :
    Calls Tryd.prog 59 #[.string s] w fun e w' => NmEnd (byNameS s) w w' e := by
  have hcl : ClOk Tryd.prog s (oneCl 74 (.tuple #[.int .i64 ((findA tabB s.toList).getD 0 : Nat), .bool (hasRow (findA tabB s.toList))])) w := oneCl_ok (by simp [go_sem]) (alater_any s w)
  have H := hd (chain_out (s := s) hitsA constsA (fun _ => missA ((findA tabB s.toList).getD 0 : Nat) (hasRow (findA tabB s.toList))))
  unfold byNameS
  go_enter Tryd.func59, Tryd.ntmps59
  rcases H.out with ⟨k, hk, ho⟩ | ⟨hk, ho⟩
  · rw [hk]
    obtain ⟨σ, h1, h2, h3⟩ := out23_some ho
    refine svCode_wp (t := s) (d := []) (cl := noCl) (noCl_ok _ _ _) (fun _ => rfl) (codeOf Tryd.f59) _ (.s :: List.replicate 111 (.v undef)) .ret σ h1 ?_
    show bodyPost _ _ _ Exit.ret (svAct s [] σ) w
    go_ret2
    exact ⟨by rw [sv_get h2, sv_get h3]; rfl, rfl⟩
  · rw [hk]
    obtain ⟨σ, h1, h2, h3⟩ := out23_some ho
    refine svCode_wp (t := s) (d := []) hcl (fun _ => rfl) (codeOf Tryd.f59) _ (.s :: List.replicate 111 (.v undef)) .ret σ h1 ?_
    show bodyPost _ _ _ Exit.ret (svAct s [] σ) w
    go_ret2
    exact ⟨by rw [sv_get h2, sv_get h3]; rfl, rfl⟩
end Go.Proofs.YtieolphpgjpcmaaDoor
