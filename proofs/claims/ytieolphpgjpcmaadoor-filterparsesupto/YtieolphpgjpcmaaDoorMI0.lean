/- rosterref12.Reader: the plain function of an item; a node appended inside a region that draws. | rosterref12.Reader.item: how it ends; a call in a world that is known by what it keeps. | rosterref12.Parse: the plain function; the parts that the loop holds. | How long a filter's list and its nodes' lists of inner pieces are. -/
import Derived.Test.YtieolphpgjpcmaaDoorMFWalkD
import Derived.Deep.LoopGhost
import Derived.Deep.DeepCutAuto

namespace Go.Proofs.YtieolphpgjpcmaaDoor
open Go.RowKit Go.Proofs.YtieolphpgjpcmaaDoorW.PrintWords

def eqI (n : Nd) : VRes → IRes
  | .bad p => .bad p
  | .ok l j => .ok (eqRes n l) j
def chAt (s : ByteArray) (j : Int) : Int := if j < (s.size : Int) then bt s j else 0
def signOp (c : Int) : Int := if c = 62 then 5 else if c = 60 then 6 else 8
def signS (s : ByteArray) (n : Nd) (c j : Int) : IRes :=
  if isB s (j + 1) 61 = false then .bad (j + 1) else withVal { n with op := signOp c } (vals s false (s.size + 1) (j + 2) false [] [])
def itemN (s : ByteArray) (n : Nd) (j : Int) : IRes :=
  if chAt s j = 61 then eqI n (vals s true (s.size + 1) (j + 1) false [] [])
  else if chAt s j = 58 then extA s n (j + 1)
  else if chAt s j = 126 ∨ chAt s j = 62 ∨ chAt s j = 60 then signS s n (chAt s j) j
  else .bad j
def itemD (s : ByteArray) (depth i j : Int) (d : ByteArray) : IRes :=
  if d.size = 0 ∧ isB s j 58 = false then .bad j
  else if d.size ≠ 0 ∧ descE d ≠ 0 then .bad (i + descP d)
  else itemN s { Nd.zero with depth := depth, desc := d } j
/-- An item of that depth, behind its "(". -/
def itemS (s : ByteArray) (depth i : Int) : IRes := itemD s depth i (rowEnd s true (s.size + 1) i) (s.extract i.toNat (rowEnd s true (s.size + 1) i).toNat)

/-- The nodes of a list lie in blocks from base on, ahead of hi. -/
def NSb (w : World) (base hi : Nat) (v : Value) (ns : List Nd) : Prop := kN.R 49 w base (fun k => base ≤ k ∧ k < hi) v ns
theorem NS.bd {w : World} {base : Nat} {v : Value} {ns : List Nd} (h : NS w base v ns) : NSb w base w.heap.size v ns := Kd.R_mono (Kd.R_bound h) (fun _ hk => ⟨hk.1, hk.2.2.1⟩)
theorem NSb.up {w : World} {base hi : Nat} {v : Value} {ns : List Nd} (h : NSb w base hi v ns) : NS w base v ns := Kd.R_mono h (fun _ hk => hk.1)
theorem NSb.kp {S : Nat → Prop} {w w1 : World} {base hi : Nat} {v : Value} {ns : List Nd} (h : NSb w base hi v ns) (hk : Kp S w w1) (hn : ∀ k, base ≤ k → k < hi → ¬ S k) : NSb w1 base hi v ns :=
  Kd.R_step h (fun k ho hlt => hk.block k hlt (hn k ho.1 ho.2))

section
variable {ops : Array Oper} {o : Oper} {a : Act} {Q : Exit → Act → World → Prop} {Kc : Act → World → Prop} {E : Prop}
theorem step_app_node (W : World) {Wd : World} (base : Nat) (hgd : o.guard = none) (s x : Operand) (ho : o.op = .call { callee := .builtin .append, args := #[s, x], argTypes := #[23, 23] })
    (v : Value) (ns : List Nd) (n : Nd) (av : Value) (hs : a.eval s = v) (hx : a.eval x = .slice (some ⟨W.heap.size, 0, none⟩) 1 1) (HO : NS W base v ns) (hav : AnyR W base (fun k => base ≤ k) av n.any) (hbase : base ≤ W.heap.size) (hl : ns.length ≤ 4194400) (hW : Wd = W.alloc (.cells (n.cells av) 49))
    (h : ∀ A c w1, NS w1 base (.slice A (ns.length + 1) c) (ns ++ [n]) ∧ W.grownBy w1 v.ownBlock → Kc (a.put o.dst (.slice A (ns.length + 1) c)) w1) :
    if Region.wanted o (yielded ops a.tmps) = true then Oper.wp Tryd.prog o a Wd Kc Q else E := by
  subst hW
  have hw : Region.wanted o (yielded ops a.tmps) = true := by simp [Region.wanted, hgd]
  obtain ⟨inner, hown⟩ := Kd.R_own HO
  have hp : kN.M W base (fun k => base ≤ k ∧ some k ≠ v.ownBlock) n (n.cells av).toList := ⟨av, rfl, hav.bound.mono (fun k hk => ⟨hk.1, fun e => by
    obtain ⟨_, _, _, q, hq, cells, hc⟩ := hk
    obtain ⟨cells2, hc2⟩ := own_typed hown k e.symm
    rw [hc] at hc2
    injection hc2 with hc2
    injection hc2 with _ hc2
    rw [List.mem_singleton] at hq
    rw [hq] at hc2
    exact absurd hc2 (by decide)⟩)⟩
  have key := Kd.R_append_step (P := Tryd.prog) (ops := ops) (o := o) (a := a) (Q := Q) (Kc := Kc) kN (w0 := W) base hw s x 23 49 (.agg (Nd.zero.cells (.slice none 0 0))) 128 ho Tryd.underlying23 infoNode rfl (by decide) (by decide) v ns n (n.cells av).toList (fun k => base ≤ k) (fun k => base ≤ k ∧ some k ≠ v.ownBlock) hs hx hp (fun k hk => hk) (fun k hk => by omega) HO (Below.refl _ _) hbase (by omega)
    (fun v1 w1 hr _ hg _ => by
      have hr1 : NS w1 base v1 (ns ++ [n]) := hr
      obtain ⟨A, c, hv⟩ := Kd.R_slice hr1
      rw [List.length_append, List.length_singleton] at hv
      subst hv
      exact h A c w1 ⟨hr1, hg⟩)
  rw [if_pos hw] at key ⊢
  exact key
end
end Go.Proofs.YtieolphpgjpcmaaDoor

namespace Go.Proofs.YtieolphpgjpcmaaDoor
open Go.RowKit Go.Proofs.YtieolphpgjpcmaaDoorW.PrintWords

theorem at_world {P : Program} {f : FuncId} {args : Array Value} {Post : Ending → World → Prop} (I : World → Prop) {W : World} (hI : I W) (h : ∀ W, I W → Calls P f args W Post) : Calls P f args W Post := h W hI

def ItOut (R : IRes) (pl : Int) (ns ns' : List Nd) (j er' pl' : Int) : Prop :=
  (∃ n, R = .ok n j ∧ er' = 0 ∧ pl' = pl ∧ ns' = ns ++ [n]) ∨ (∃ p, R = .bad p ∧ er' = 120 ∧ pl' = p)
/-- What hanging a node on a list may turn: the reader's block, the list's. -/
def OwnV (g : Nat) (v : Value) : Nat → Prop := fun k => k = g ∨ v.ownBlock = some k
def ItEnd (w w' : World) (g base : Nat) (s : ByteArray) (v : Value) (pl i : Int) (ns : List Nd) (R : IRes) (e : Ending) : Prop :=
  e = .returned (.tuple #[]) ∧ ∃ v' ns' j er' pl', RB w' g s j v' er' pl' ∧ NS w' base v' ns' ∧ Kp (OwnV g v) w w' ∧ i ≤ j ∧ j ≤ (s.size : Int) ∧ ns'.length ≤ ns.length + 1 ∧ ItOut R pl ns ns' j er' pl'
theorem NS.own {w : World} {base : Nat} {v : Value} {ns : List Nd} (h : NS w base v ns) (k : Nat) (e : v.ownBlock = some k) : base ≤ k := by
  obtain ⟨inner, hown⟩ := Kd.R_own h
  exact own_base hown k e
theorem NS.one {g : Nat} {w w1 : World} {base : Nat} {v : Value} {ns : List Nd} (h : NS w base v ns) (hk : Kp (One g) w w1) (hg : g < base) : NS w1 base v ns :=
  h.kp hk (fun k hb q => by have q' : k = g := q; omega)
/-- It ends with no node. -/
theorem ItEnd.stop_ {w w1 : World} {g base : Nat} {s : ByteArray} {v : Value} {pl i j p : Int} {ns : List Nd} {R : IRes} (hg : g < base) (hn : NS w base v ns) (hR : RB w1 g s j v 120 p) (hK : Kp (One g) w w1) (h0 : i ≤ j) (h1 : j ≤ (s.size : Int)) (hO : R = .bad p) : ItEnd w w1 g base s v pl i ns R (.returned (.tuple #[])) :=
  ⟨rfl, v, ns, j, 120, p, hR, hn.one hK hg, hK.mono (fun k _ h => .inl h), h0, h1, by omega, .inr ⟨p, hO, rfl, rfl⟩⟩
/-- It ends with a node that it hangs on. -/
theorem ItEnd.app_ {w W w3 : World} {g base : Nat} {s : ByteArray} {v : Value} {pl i j er' pl' : Int} {ns : List Nd} {R : IRes} {n : Nd} {A : Option Addr} {c : Nat} (hg : g < base) (hn : NS w base v ns) (hR : RB W g s j v er' pl') (hK : Kp (One g) w W)
    (h3 : NS w3 base (.slice A (ns.length + 1) c) (ns ++ [n])) (hG : W.grownBy w3 v.ownBlock) (h0 : i ≤ j) (h1 : j ≤ (s.size : Int)) (hO : IOut R pl n j er' pl') :
    ItEnd w (w3.setCell ⟨g, 2, none⟩ (.slice A (ns.length + 1) c)) g base s v pl i ns R (.returned (.tuple #[])) := by
  have hR3 : RB w3 g s j v er' pl' := blk_grown hR hG (fun e => absurd (hn.own g e.symm) (by omega))
  refine ⟨rfl, _, _, j, er', pl', hR3.set2 _, h3.one ((Kp.refl (One g) w3).setOne 2 _) hg, ?_, h0, h1, by simp, ?_⟩
  · exact ((hK.mono (fun k _ h => .inl h)).grown hG (fun k e hlt => .inr e)).setCell (fun _ => .inl rfl) _
  · rcases hO with ⟨a, b, c⟩ | ⟨p, a, b, c⟩
    · exact .inl ⟨n, a, b, c, rfl⟩
    · exact .inr ⟨p, a, b, c⟩
theorem EqEnd.out {w w' : World} {g : Nat} {s : ByteArray} {v : Value} {pl i0 : Int} {n : Nd} {R : VRes} {e : Ending} (h : EqEnd w w' g s v pl i0 n R e) : IEnd w w' g s v pl i0 (eqI n R) e := by
  obtain ⟨l, j, er', pl', av, he, ha, hr, hk, h0, h1, hO⟩ := h
  refine ⟨_, j, er', pl', av, he, ha, hr, hk, h0, h1, ?_⟩
  rcases hO with ⟨a, b, c, _⟩ | ⟨p, a, b, c⟩
  · exact .inl ⟨by rw [a]; rfl, b, c⟩
  · exact .inr ⟨p, by rw [a]; rfl, b, c⟩
end Go.Proofs.YtieolphpgjpcmaaDoor

namespace Go.Proofs.YtieolphpgjpcmaaDoor
open Go.RowKit Go.Proofs.YtieolphpgjpcmaaDoorW.PrintWords

inductive SRes | bad (e p : Int) | next (i : Int) (o : List Int) (wanted : Bool) (ns : List Nd)
inductive PRes | bad (e p : Int) | ok (ns : List Nd)
/-- The operator that stands there: and, or, not; or none. -/
def opAt (s : ByteArray) (i : Int) : Int := if isB s i 38 then 0 else if isB s i 124 then 1 else if isB s i 33 then 2 else -1
def stepB (s : ByteArray) (i : Int) (o : List Int) (ns : List Nd) : SRes :=
  if 0 ≤ opAt s i then .next (i + 1) (o ++ [opAt s i]) (opAt s i == 2) (ns ++ [Nd.at ((o.length + 1 : Nat) : Int) (opAt s i)])
  else match itemS s ((o.length : Int) + 1) i with
    | .bad p => .bad 120 p
    | .ok n j => if isB s j 41 then .next (j + 1) o false (ns ++ [n]) else .bad 120 j
def stepA (s : ByteArray) (i : Int) (o : List Int) (ns : List Nd) : SRes :=
  if isB s i 40 = false then .bad 120 i
  else if 64 ≤ o.length then .bad 121 i
  else stepB s (i + 1) o ns
def stepR (s : ByteArray) (i : Int) (o : List Int) (wanted : Bool) (ns : List Nd) : SRes :=
  if wanted = true ∨ (o.getD (o.length - 1) 0 ≠ 2 ∧ isB s i 40 = true) then stepA s i o ns
  else if isB s i 41 then .next (i + 1) (o.take (o.length - 1)) false ns else .bad 120 i
/-- The filter of a text, as the reference reads it from i on, with the operators that are open. -/
def parseR (s : ByteArray) : Nat → Int → List Int → Bool → List Nd → PRes
  | 0, i, _, _, _ => .bad 120 i
  | n + 1, i, o, wanted, ns =>
    if wanted = false ∧ o = [] then (if i < (s.size : Int) then .bad 120 i else .ok ns)
    else match stepR s i o wanted ns with
      | .bad e p => .bad e p
      | .next i' o' w' ns' => parseR s n i' o' w' ns'
def parseS (s : ByteArray) : PRes := parseR s (s.size + 1) 0 [] true []

/-- Numbers that the call owns. -/
def Ints (w : World) (base : Nat) (v : Value) (xs : List Int) : Prop := w.ownsRow base 3 1 v xs.length (nums .i64 xs)
theorem Ints.nil (w : World) (base : Nat) : Ints w base (.slice none 0 0) [] := own_nil _ _ _ _
theorem Ints.kp {S : Nat → Prop} {w w1 : World} {base : Nat} {v : Value} {xs : List Int} (h : Ints w base v xs) (hk : Kp S w w1) (hn : ∀ k, v.ownBlock = some k → ¬ S k) : Ints w1 base v xs :=
  own_move h (fun k e => hk.block k (own_lt h k e) (hn k e))

/-- The reader's block, its list and the open operators. -/
structure PS (w W : World) (s : ByteArray) (i : Int) (v : Value) (er pl : Int) (ns : List Nd) (vo : Value) (o : List Int) : Prop where
  rb : RB W w.heap.size s i v er pl
  ns : NS W (w.heap.size + 1) v ns
  os : Ints W (w.heap.size + 1) vo o
  kp : Kp No w W
namespace PS
variable {w W w1 : World} {s : ByteArray} {i : Int} {v : Value} {er pl : Int} {ns : List Nd} {vo : Value} {o : List Int}
theorem one (h : PS w W s i v er pl ns vo o) {i' er' pl' : Int} (hr : RB w1 w.heap.size s i' v er' pl') (hk : Kp (One w.heap.size) W w1) : PS w w1 s i' v er' pl' ns vo o :=
  ⟨hr, h.ns.one hk (by omega), h.os.kp hk (fun k e q => by have q' : k = w.heap.size := q; have := own_base h.os k e; omega), h.kp.trans' hk (fun k hk q => by have q' : k = w.heap.size := q; omega)⟩
theorem drewN (h : PS w W s i v er pl ns vo o) (n : Nat) : PS w (W.drewN n) s i v er pl ns vo o := h.one h.rb ((Kp.refl _ _).drewN n)
theorem drew (h : PS w W s i v er pl ns vo o) : PS w W.drew s i v er pl ns vo o := h.one h.rb ((Kp.refl _ _).drew)
theorem dr (h : PS w W s i v er pl ns vo o) (hd : Dr W w1) : PS w w1 s i v er pl ns vo o := by
  obtain ⟨n, rfl⟩ := hd
  exact h.drewN n
theorem set1 (h : PS w W s i v er pl ns vo o) (x : Int) : PS w (W.setCell ⟨w.heap.size, 1, none⟩ (.int .i64 x)) s x v er pl ns vo o := h.one (h.rb.set1 x) ((Kp.refl _ _).setOne _ _)
theorem apart (h : PS w W s i v er pl ns vo o) : vo.ownBlock = none ∨ vo.ownBlock ≠ v.ownBlock := by
  obtain ⟨inner, hown⟩ := Kd.R_own h.ns
  exact own_type_ne h.os hown (by decide)
theorem app_o (h : PS w W s i v er pl ns vo o) {v1 : Value} {xs : List Int} (hg : W.grownBy w1 vo.ownBlock) (ho : Ints w1 (w.heap.size + 1) v1 xs) : PS w w1 s i v er pl ns v1 xs := by
  have hb : ∀ k, vo.ownBlock = some k → w.heap.size + 1 ≤ k := fun k e => own_base h.os k e
  refine ⟨blk_grown h.rb hg (fun e => by have := hb _ e.symm; omega), ?_, ho, h.kp.grown hg (fun k e hk => by have := hb k e; omega)⟩
  have hv : (Kd.scalar (Value.int .i64) (fun _ => rfl)).R 3 W (w.heap.size + 1) (fun _ => True) vo o := Kd.R_of_own (enc := Value.int .i64) (h1 := fun _ => rfl) (ok := fun _ => True) h.os (fun _ _ => trivial)
  exact Kd.R_over h.ns hv (by decide) hg
theorem took (h : PS w W s i v er pl ns vo o) {m : Nat} {A : Option Addr} {c : Nat} (e : vo = .slice A o.length c) (hm : m ≤ o.length) : PS w W s i v er pl ns (.slice A m c) (o.take m) := by
  subst e
  refine ⟨h.rb, h.ns, ?_, h.kp⟩
  have := own_take h.os hm
  simpa [Ints, nums, List.map_take, Nat.min_eq_left hm] using this
theorem item (h : PS w W s i v er pl ns vo o) {R : IRes} {e : Ending} (hi : ItEnd W w1 w.heap.size (w.heap.size + 1) s v pl i ns R e) :
    e = .returned (.tuple #[]) ∧ ∃ v' ns' j er' pl', PS w w1 s j v' er' pl' ns' vo o ∧ i ≤ j ∧ j ≤ (s.size : Int) ∧ ns'.length ≤ ns.length + 1 ∧ ItOut R pl ns ns' j er' pl' := by
  obtain ⟨he, v', ns', j, er', pl', hr, hn, hk, h0, h1, hl, hO⟩ := hi
  refine ⟨he, v', ns', j, er', pl', ⟨hr, hn, h.os.kp hk ?_, h.kp.trans' hk ?_⟩, h0, h1, hl, hO⟩
  · intro k e q
    have hb := own_base h.os k e
    rcases q with q | q
    · have q' : k = w.heap.size := q
      omega
    · rcases h.apart with a | a
      · rw [a] at e; exact absurd e (by simp)
      · exact a (e.trans q.symm)
  · intro k hk q
    rcases q with q | q
    · have q' : k = w.heap.size := q
      omega
    · have := h.ns.own k q
      omega
theorem app_n (h : PS w W s i v er pl ns vo o) {v1 : Value} {ms : List Nd} (hg : W.grownBy w1 v.ownBlock) (hn : NS w1 (w.heap.size + 1) v1 ms) : PS w (w1.setCell ⟨w.heap.size, 2, none⟩ v1) s i v1 er pl ms vo o := by
  have hb : ∀ k, v.ownBlock = some k → w.heap.size + 1 ≤ k := fun k e => h.ns.own k e
  have hr : RB w1 w.heap.size s i v er pl := blk_grown h.rb hg (fun e => by have := hb _ e.symm; omega)
  have ho : Ints w1 (w.heap.size + 1) vo o := own_other h.os hg h.apart
  exact ⟨hr.set2 _, hn.one ((Kp.refl _ _).setOne 2 _) (by omega), ho.kp ((Kp.refl (One w.heap.size) _).setOne 2 _) (fun k e q => by have q' : k = w.heap.size := q; have := own_base ho k e; omega), (h.kp.grown hg (fun k e hk => by have := hb k e; omega)).setCell (fun q => absurd q (Nat.lt_irrefl _)) _⟩
theorem rbn (h : PS w W s i v er pl ns vo o) {v1 : Value} {ms : List Nd} (hg : W.grownBy w1 v.ownBlock) (_ : NS w1 (w.heap.size + 1) v1 ms) : RB w1 w.heap.size s i v er pl :=
  blk_grown h.rb hg (fun e => by have := h.ns.own _ e.symm; omega)
end PS
theorem Ints.form {w : World} {base : Nat} {A : Option Addr} {c : Nat} {xs : List Int} (h : Ints w base (.slice A xs.length c) xs) (h0 : 0 < xs.length) : ∃ g, A = some ⟨g, 0, none⟩ ∧ xs.length ≤ c ∧ ∀ j : Nat, j < xs.length → w.cell? ⟨g, j, none⟩ = some (.int .i64 (xs.getD j 0)) := by
  rcases h.2 with ⟨hv, hz⟩ | ⟨g, cap, cur, hv, hb, hh, hc, _⟩
  · omega
  · injection hv with a1 a2 a3
    subst a1 a3
    refine ⟨g, rfl, hc, fun j hj => ?_⟩
    have := (own_at_of (enc := Value.int .i64) (d := (0 : Int)) h j (by omega) (by omega)).1
    simpa [rdOf] using this
section
variable {ops : Array Oper} {o : Oper} {rest : List Oper} {a : Act} {Q : Exit → Act → World → Prop}
theorem wp_app_node (W : World) (base : Nat) (hgd : o.guard = none) (s x : Operand) (ho : o.op = .call { callee := .builtin .append, args := #[s, x], argTypes := #[23, 23] })
    (v : Value) (ns : List Nd) (n : Nd) (av : Value) {cs : Array Value} (hs : a.eval s = v) (hx : a.eval x = .slice (some ⟨W.heap.size, 0, none⟩) 1 1) (HO : NS W base v ns) (hav : AnyR W base (fun k => base ≤ k) av n.any) (hbase : base ≤ W.heap.size) (hl : ns.length ≤ 4194400) (hcs : cs = n.cells av)
    (h : ∀ A c w1, NS w1 base (.slice A (ns.length + 1) c) (ns ++ [n]) ∧ W.grownBy w1 v.ownBlock → wpList Tryd.prog ops Q rest (a.put o.dst (.slice A (ns.length + 1) c)) w1) :
    wpList Tryd.prog ops Q (o :: rest) a (W.alloc (.cells cs 49)) := by
  subst hcs
  obtain ⟨inner, hown⟩ := Kd.R_own HO
  have hp : kN.M W base (fun k => base ≤ k ∧ some k ≠ v.ownBlock) n (n.cells av).toList := ⟨av, rfl, hav.bound.mono (fun k hk => ⟨hk.1, fun e => by
    obtain ⟨_, _, _, q, hq, cells, hc⟩ := hk
    obtain ⟨cells2, hc2⟩ := own_typed hown k e.symm
    rw [hc] at hc2
    injection hc2 with hc2
    injection hc2 with _ hc2
    rw [List.mem_singleton] at hq
    rw [hq] at hc2
    exact absurd hc2 (by decide)⟩)⟩
  exact Kd.R_append (P := Tryd.prog) (ops := ops) (o := o) (a := a) (Q := Q) kN (w0 := W) base hgd s x 23 49 (.agg (Nd.zero.cells (.slice none 0 0))) 128 ho Tryd.underlying23 infoNode rfl (by decide) (by decide) v ns n (n.cells av).toList (fun k => base ≤ k) (fun k => base ≤ k ∧ some k ≠ v.ownBlock) hs hx hp (fun k hk => hk) (fun k hk => by omega) HO (Below.refl _ _) hbase (by omega)
    (fun v1 w1 hr _ hg _ => by
      have hr1 : NS w1 base v1 (ns ++ [n]) := hr
      obtain ⟨A, c, hv⟩ := Kd.R_slice hr1
      rw [List.length_append, List.length_singleton] at hv
      subst hv
      exact h A c w1 ⟨hr1, hg⟩)
theorem wp_app_int (W : World) (base : Nat) (hgd : o.guard = none) (s x : Operand) (ho : o.op = .call { callee := .builtin .append, args := #[s, x], argTypes := #[40, 40] })
    (v : Value) (xs : List Int) (y : Int) (hs : a.eval s = v) (hx : a.eval x = .slice (some ⟨W.heap.size, 0, none⟩) 1 1) (HO : Ints W base v xs) (hbase : base ≤ W.heap.size) (hl : xs.length ≤ 4194400)
    (h : ∀ A c w1, Ints w1 base (.slice A (xs.length + 1) c) (xs ++ [y]) ∧ W.grownBy w1 v.ownBlock → wpList Tryd.prog ops Q rest (a.put o.dst (.slice A (xs.length + 1) c)) w1) :
    wpList Tryd.prog ops Q (o :: rest) a (W.alloc (.cells #[.int .i64 y] 3)) :=
  print_append_num (w0 := W) base hgd s x 40 3 .i64 8 ho Tryd.underlying40 infoInt (by decide) v xs y hs hx HO (Below.refl _ _) hbase (by omega) (fun v1 w1 ho1 _ hg1 _ => by
    obtain ⟨A, c, hv⟩ := own_slice ho1
    rw [List.length_append, List.length_singleton] at hv
    subst hv
    exact h A c w1 ⟨ho1, hg1⟩)
end
end Go.Proofs.YtieolphpgjpcmaaDoor

namespace Go.Proofs.YtieolphpgjpcmaaDoor
open Go.RowKit Go.Proofs.YtieolphpgjpcmaaDoorW.PrintWords

theorem vals_len (s : ByteArray) (stars : Bool) : ∀ (n : Nat) (i : Int) (star : Bool) (l : List ByteArray) (now : List Int) (l' : List ByteArray) (j : Int), vals s stars n i star l now = .ok l' j → l'.length ≤ l.length + n := by
  intro n
  induction n with
  | zero => intro i star l now l' j h; exact absurd h (by simp [vals])
  | succ n ih =>
    intro i star l now l' j h
    unfold vals at h
    repeat' split at h
    all_goals first
      | (cases h; done)
      | (injection h with h1 h2; subst h1; simp; done)
      | (have := ih _ _ _ _ _ _ h; omega)
      | (have := ih _ _ _ _ _ _ h; simp only [List.length_append, List.length_singleton] at this; omega)
theorem eqRes_any (n : Nd) (l : List ByteArray) (m : Nat) (hn : n.any.length ≤ m) (hl : l.length ≤ m) : (eqRes n l).any.length ≤ m := by
  unfold eqRes
  repeat' split
  · exact hn
  · exact hn
  · simp only [List.length_drop, List.length_take]; omega
theorem withVal_any {n n' : Nd} {R : VRes} {j : Int} (h : withVal n R = .ok n' j) : n'.any = n.any := by
  cases R with
  | bad p => exact absurd h (by simp [withVal])
  | ok l i => simp only [withVal] at h; injection h with h1 h2; rw [← h1]
theorem extB_any {s : ByteArray} {n n' : Nd} {a b j : Int} {w : ByteArray} (h : extB s n a b w = .ok n' j) : n'.any = n.any := by
  unfold extB at h
  repeat' split at h
  all_goals first
    | (cases h; done)
    | (have h' := withVal_any h; exact h')
theorem extA_any {s : ByteArray} {n n' : Nd} {i j : Int} (h : extA s n i = .ok n' j) : n'.any = n.any := by
  unfold extA at h
  simp only at h
  repeat' split at h
  all_goals first
    | (cases h; done)
    | (have h' := extB_any h; exact h')
theorem itemN_any {s : ByteArray} {n n' : Nd} {i j : Int} (h : itemN s n i = .ok n' j) (hn : n.any.length ≤ s.size + 1) : n'.any.length ≤ s.size + 1 := by
  unfold itemN at h
  repeat' split at h
  · cases hv : vals s true (s.size + 1) (i + 1) false [] [] with
    | bad p => rw [hv] at h; exact absurd h (by simp [eqI])
    | ok l k =>
      rw [hv] at h
      have := vals_len _ _ _ _ _ _ _ _ _ hv
      simp only [eqI] at h
      injection h with h1 h2
      subst h1
      exact eqRes_any _ _ _ hn (by simpa using this)
  · rw [extA_any h]; exact hn
  · unfold signS at h
    split at h
    · exact absurd h (by simp)
    · rw [withVal_any h]; exact hn
  · exact absurd h (by simp)
theorem itemS_any {s : ByteArray} {depth i j : Int} {n : Nd} (h : itemS s depth i = .ok n j) : n.any.length ≤ s.size + 1 := by
  unfold itemS itemD at h
  repeat' split at h
  all_goals first
    | (cases h; done)
    | (exact itemN_any h (by simp [Nd.zero]))
def Short (m : Nat) (ns : List Nd) : Prop := ∀ n ∈ ns, n.any.length ≤ m
theorem Short.snoc {m : Nat} {ns : List Nd} {n : Nd} (h : Short m ns) (hn : n.any.length ≤ m) : Short m (ns ++ [n]) := by
  intro x hx
  rcases List.mem_append.1 hx with hx | hx
  · exact h x hx
  · rw [List.mem_singleton.1 hx]; exact hn
theorem stepB_len {s : ByteArray} {i i' : Int} {o o' : List Int} {w' : Bool} {ns ns' : List Nd} (h : stepB s i o ns = .next i' o' w' ns') (hs : Short (s.size + 1) ns) : ns'.length ≤ ns.length + 1 ∧ Short (s.size + 1) ns' := by
  unfold stepB at h
  split at h
  · injection h with _ _ _ h
    subst h
    exact ⟨by simp, hs.snoc (by simp [Nd.at, Nd.zero])⟩
  · cases hi : itemS s ((o.length : Int) + 1) i with
    | bad p => rw [hi] at h; exact absurd h (by simp)
    | ok n j =>
      rw [hi] at h
      simp only at h
      split at h
      · injection h with _ _ _ h
        subst h
        exact ⟨by simp, hs.snoc (itemS_any hi)⟩
      · exact absurd h (by simp)
theorem stepR_len {s : ByteArray} {i i' : Int} {o o' : List Int} {w w' : Bool} {ns ns' : List Nd} (h : stepR s i o w ns = .next i' o' w' ns') (hs : Short (s.size + 1) ns) : ns'.length ≤ ns.length + 1 ∧ Short (s.size + 1) ns' := by
  unfold stepR stepA at h
  repeat' split at h
  all_goals first
    | (cases h; done)
    | exact stepB_len h hs
    | (injection h with _ _ _ h; subst h; exact ⟨by omega, hs⟩)
theorem parseR_len (s : ByteArray) : ∀ (n : Nat) (i : Int) (o : List Int) (w : Bool) (ns ns' : List Nd), parseR s n i o w ns = .ok ns' → Short (s.size + 1) ns → ns'.length ≤ ns.length + n ∧ Short (s.size + 1) ns' := by
  intro n
  induction n with
  | zero => intro i o w ns ns' h; exact absurd h (by simp [parseR])
  | succ n ih =>
    intro i o w ns ns' h hs
    unfold parseR at h
    split at h
    · split at h
      · exact absurd h (by simp)
      · injection h with h; subst h; exact ⟨by omega, hs⟩
    · cases hst : stepR s i o w ns with
      | bad e p => rw [hst] at h; exact absurd h (by simp)
      | next i2 o2 w2 ns2 =>
        rw [hst] at h
        have h2 := stepR_len hst hs
        have h3 := ih _ _ _ _ _ h h2.2
        exact ⟨by have := h2.1; omega, h3.2⟩
/-- A text's filter has no more nodes than the text has bytes and one; nor a node more inner pieces. -/
theorem parseS_len {s : ByteArray} {ns : List Nd} (h : parseS s = .ok ns) : ns.length ≤ s.size + 1 ∧ Short (s.size + 1) ns := by
  have := parseR_len s (s.size + 1) 0 [] true [] ns h (fun n hn => absurd hn (by simp))
  simpa using this
/-- "(cn=a)". -/
theorem parseS_one : ∃ n, parseS ⟨#[40, 99, 110, 61, 97, 41]⟩ = .ok [n] := ⟨_, rfl⟩
end Go.Proofs.YtieolphpgjpcmaaDoor
