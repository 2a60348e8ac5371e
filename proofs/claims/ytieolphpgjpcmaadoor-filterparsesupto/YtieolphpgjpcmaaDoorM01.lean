/- The words of these proofs: which blocks a call may have turned (Kp), what a parser's and a reader's block hold; no statement of the seat is proved here. | The small steps of the two readers: peek, is, want, fail of filter.parser; is, stop, must of rosterref12.Reader. | The plain side: what the two readers of a filter's text compute, on numbers, bytes and lists; no program here. | rosterref04: sorted: it hands back some texts, no more than came in; nothing elder has turned. | A filter's nodes: the plain structure, its cells in memory, lists of them. | rosterref01: fits, Sequence. -/
import Derived.Test.YtieolphpgjpcmaaDoorProg
import Derived.Below
import Derived.Deep.Draws
import Derived.OwnWalk
import Derived.Tactics
import Derived.Laws.Slices
import Derived.WalkKit
import Derived.WalkSpells
import Derived.WalkLawsBesides
import Derived.KernelRfl
import Derived.RowKit3
import Derived.Deep.LoopGhost
import Derived.Deep.QuietTactic
import Derived.BigQuiet
import Derived.Deep.DeepCutAuto
import Derived.Deep.CutBlock
import Derived.Deep.RegionHeld3
import Derived.Lib.AppendStr
import Derived.Outline
import Derived.Test.YtieolphpgjpcmaaDoorWWords
import Derived.Lib.Strings

namespace Go.Proofs.YtieolphpgjpcmaaDoor
open Go.RowKit Go.Proofs.YtieolphpgjpcmaaDoorW.PrintWords

/-- What a call may have turned: of the elder blocks those of S alone. -/
structure Kp (S : Nat → Prop) (w w' : World) : Prop where
  os : w'.os = w.os
  tape : w'.tape = w.tape
  output : w'.output = w.output
  size : w.heap.size ≤ w'.heap.size
  block : ∀ k, k < w.heap.size → ¬ S k → w'.heap[k]? = w.heap[k]?

def No : Nat → Prop := fun _ => False
def One (g : Nat) : Nat → Prop := fun k => k = g

namespace Kp
variable {S S' : Nat → Prop} {w w1 w2 : World}
theorem refl (S : Nat → Prop) (w : World) : Kp S w w := ⟨rfl, rfl, rfl, Nat.le_refl _, fun _ _ _ => rfl⟩
theorem mono (h : Kp S w w1) (hs : ∀ k, k < w.heap.size → S k → S' k) : Kp S' w w1 := ⟨h.os, h.tape, h.output, h.size, fun k hk hn => h.block k hk (fun q => hn (hs k hk q))⟩
theorem trans' (h : Kp S w w1) (k : Kp S' w1 w2) (hs : ∀ i, i < w.heap.size → S' i → S i) : Kp S w w2 :=
  ⟨k.os.trans h.os, k.tape.trans h.tape, k.output.trans h.output, Nat.le_trans h.size k.size, fun i hi hn => (k.block i (Nat.lt_of_lt_of_le hi h.size) (fun q => hn (hs i hi q))).trans (h.block i hi hn)⟩
theorem trans (h : Kp S w w1) (k : Kp S w1 w2) : Kp S w w2 := h.trans' k (fun _ _ q => q)
theorem no (h : Kp S w w1) (k : Kp No w1 w2) : Kp S w w2 := h.trans' k (fun _ _ q => q.elim)
theorem drew (h : Kp S w w1) : Kp S w w1.drew := ⟨h.os, h.tape, h.output, h.size, h.block⟩
theorem drewN (h : Kp S w w1) (n : Nat) : Kp S w (w1.drewN n) := ⟨h.os, h.tape, h.output, h.size, h.block⟩
theorem alloc (h : Kp S w w1) (o : Obj) : Kp S w (w1.alloc o) :=
  h.trans' (S' := No) ⟨rfl, rfl, rfl, by simp, fun k hk _ => Below.heap_alloc _ _ _ hk⟩ (fun _ _ q => q.elim)
theorem setCell (h : Kp S w w1) {p : Addr} (hp : p.block < w.heap.size → S p.block) (u : Value) : Kp S w (w1.setCell p u) :=
  h.trans' (S' := One p.block) ⟨rfl, rfl, rfl, by simp [World.setCell], fun k _ hn => Below.heap_setCell _ _ _ _ hn⟩ (fun i hi q => by have e : i = p.block := q; subst e; exact hp hi)
theorem below (h : Kp S w w1) {B : Nat} (hB : B ≤ w.heap.size) (hs : ∀ k, k < B → ¬ S k) : Below B w w1 :=
  ⟨h.os, h.tape, h.output, h.size, fun k hk => h.block k (by omega) (hs k hk)⟩
theorem ofBelow (h : Below w.heap.size w w1) (S : Nat → Prop) : Kp S w w1 := ⟨h.os, h.tape, h.output, h.size, fun k hk _ => h.block k hk⟩
theorem toBelow (h : Kp No w w1) : Below w.heap.size w w1 := ⟨h.os, h.tape, h.output, h.size, fun k hk => h.block k hk (fun q => q)⟩
theorem grown {row : Option Nat} (h : Kp S w w1) (hg : w1.grownBy w2 row) (hr : ∀ k, row = some k → k < w.heap.size → S k) : Kp S w w2 :=
  ⟨hg.os.trans h.os, hg.tape.trans h.tape, hg.output.trans h.output, Nat.le_trans h.size hg.size, fun k hk hn => (hg.block k (Nat.lt_of_lt_of_le hk h.size) (fun e => hn (hr k e.symm hk))).trans (h.block k hk hn)⟩
theorem setOne {g : Nat} (h : Kp (One g) w w1) (j : Nat) (u : Value) : Kp (One g) w (w1.setCell ⟨g, j, none⟩ u) := Kp.setCell (S := One g) (p := ⟨g, j, none⟩) h (fun _ => (rfl : g = g)) u
theorem blk (h : Kp S w w1) {g : Nat} {o : Obj} (hb : w.heap[g]? = some o) (hn : ¬ S g) : w1.heap[g]? = some o := (h.block g (blk_lt hb) hn).trans hb
end Kp

theorem hd {p : Prop} (h : p) : Hid p := h
/-- Draws alone. -/
def Dr (w w' : World) : Prop := ∃ n, w' = w.drewN n
theorem Dr.refl (w : World) : Dr w w := ⟨0, rfl⟩
theorem Dr.drewN {w w' : World} (h : Dr w w') (n : Nat) : Dr w (w'.drewN n) := by
  obtain ⟨m, rfl⟩ := h
  exact ⟨m + n, by simp [World.drewN, Nat.add_assoc]⟩
theorem Kp.dr {S : Nat → Prop} {w w1 w2 : World} (h : Kp S w w1) (k : Dr w1 w2) : Kp S w w2 := by
  obtain ⟨n, rfl⟩ := k
  exact h.drewN n

theorem quiet_add {P : Program} {f : FuncId} {args : Array Value} {w : World} {a n : Nat} {v : Value} (h : Calls P f args (w.drewN (a + n)) fun e w' => e = .returned v ∧ Dr (w.drewN (a + n)) w') :
    Calls P f args (w.drewN (a + n)) fun e w'' => e = .returned v ∧ ∃ m, w'' = w.drewN (a + m) :=
  h.mono fun _ _ ⟨he, m, hm⟩ => ⟨he, n + m, by rw [hm, World.drewN_drewN, Nat.add_assoc]⟩
theorem quiet_add_left {P : Program} {f : FuncId} {args : Array Value} {w : World} {a n : Nat} {v : Value} (h : Calls P f args (w.drewN (a + n)) fun e w' => e = .returned v ∧ w.drewN (a + n) = w') :
    Calls P f args (w.drewN (a + n)) fun e w'' => e = .returned v ∧ ∃ m, w'' = w.drewN (a + m) :=
  h.mono fun _ _ ⟨he, hm⟩ => ⟨he, n, hm.symm⟩
theorem quiet_one {P : Program} {f : FuncId} {args : Array Value} {w : World} {n : Nat} {v : Value} (h : Calls P f args (w.drewN n) fun e w' => e = .returned v ∧ Dr (w.drewN n) w') :
    Calls P f args (w.drewN n) fun e w'' => e = .returned v ∧ ∃ m, w'' = w.drewN m :=
  h.mono fun _ _ ⟨he, m, hm⟩ => ⟨he, n + m, by rw [hm, World.drewN_drewN]⟩
theorem quiet_left {P : Program} {f : FuncId} {args : Array Value} {w : World} {n : Nat} {v : Value} (h : Calls P f args (w.drewN n) fun e w' => e = .returned v ∧ w.drewN n = w') :
    Calls P f args (w.drewN n) fun e w'' => e = .returned v ∧ ∃ m, w'' = w.drewN m :=
  h.mono fun _ _ ⟨he, hm⟩ => ⟨he, n, hm.symm⟩

theorem Kp.cell {S : Nat → Prop} {w w1 : World} (h : Kp S w w1) {p : Addr} {u : Value} (hc : w.cell? p = some u) (hn : ¬ S p.block) : w1.cell? p = some u := by
  rw [World.cell?_of_block (w := w) (h.block _ (World.block_lt_of_cell? _ _ hc) hn)]
  exact hc

/-- What a block of cells holds. -/
def Blk (w : World) (g : Nat) (cs : Array Value) (t : TypeId) : Prop := w.heap[g]? = some (.cells cs t (0, 0))
namespace Blk
variable {S : Nat → Prop} {w w1 : World} {g : Nat} {cs : Array Value} {t : TypeId}
theorem new (w : World) (cs : Array Value) (t : TypeId) : Blk (w.alloc (.cells cs t)) w.heap.size cs t := blk_new w _
theorem cast {cs' : Array Value} (h : Blk w g cs t) (e : cs = cs') : Blk w g cs' t := e ▸ h
theorem c (h : Blk w g cs t) (i : Nat) {u : Value} (hu : cs[i]? = some u) : w.cell? ⟨g, i, none⟩ = some u := by rw [blk_cell h]; exact hu
theorem f (h : Blk w g cs t) (i : Nat) : w.frozen? ⟨g, i, none⟩ = false := blk_frozen h i
theorem lt (h : Blk w g cs t) : g < w.heap.size := blk_lt h
theorem set (h : Blk w g cs t) (i : Nat) (u : Value) : Blk (w.setCell ⟨g, i, none⟩ u) g (cs.setIfInBounds i u) t := blk_set h i u
theorem far (h : Blk w g cs t) {p : Addr} (hp : g ≠ p.block) (u : Value) : Blk (w.setCell p u) g cs t := blk_far h hp u
theorem alloc (h : Blk w g cs t) (o : Obj) : Blk (w.alloc o) g cs t := blk_alloc h o
theorem drew (h : Blk w g cs t) : Blk w.drew g cs t := h
theorem drewN (h : Blk w g cs t) (n : Nat) : Blk (w.drewN n) g cs t := h
theorem kp (h : Blk w g cs t) (hk : Kp S w w1) (hn : ¬ S g) : Blk w1 g cs t := hk.blk h hn
end Blk

/-- The block of a filter.parser. -/
def PB (w : World) (g : Nat) (s : ByteArray) (i : Int) (v : Value) : Prop := w.heap[g]? = some (.cells #[.string s, .int .i64 i, v] 35 (0, 0))
/-- The block of a rosterref12.Reader. -/
def RB (w : World) (g : Nat) (s : ByteArray) (i : Int) (v : Value) (e p : Int) : Prop := w.heap[g]? = some (.cells #[.string s, .int .i64 i, v, .int .i64 e, .int .i64 p] 39 (0, 0))

namespace PB
variable {S : Nat → Prop} {w w1 : World} {g : Nat} {s : ByteArray} {i : Int} {v : Value}
theorem lt (h : PB w g s i v) : g < w.heap.size := blk_lt h
theorem c0 (h : PB w g s i v) : w.cell? ⟨g, 0, none⟩ = some (.string s) := by rw [blk_cell h]; rfl
theorem c1 (h : PB w g s i v) : w.cell? ⟨g, 1, none⟩ = some (.int .i64 i) := by rw [blk_cell h]; rfl
theorem c2 (h : PB w g s i v) : w.cell? ⟨g, 2, none⟩ = some v := by rw [blk_cell h]; rfl
theorem fz (h : PB w g s i v) (j : Nat) : w.frozen? ⟨g, j, none⟩ = false := blk_frozen h j
theorem alloc (h : PB w g s i v) (o : Obj) : PB (w.alloc o) g s i v := blk_alloc h o
theorem drew (h : PB w g s i v) : PB w.drew g s i v := h
theorem drewN (h : PB w g s i v) (n : Nat) : PB (w.drewN n) g s i v := h
theorem set1 (h : PB w g s i v) (x : Int) : PB (w.setCell ⟨g, 1, none⟩ (.int .i64 x)) g s x v := by have := blk_set h 1 (.int .i64 x); simpa [PB] using this
theorem set2 (h : PB w g s i v) (x : Value) : PB (w.setCell ⟨g, 2, none⟩ x) g s i x := by have := blk_set h 2 x; simpa [PB] using this
theorem kp (h : PB w g s i v) (hk : Kp S w w1) (hn : ¬ S g) : PB w1 g s i v := hk.blk h hn
end PB
namespace RB
variable {S : Nat → Prop} {w w1 : World} {g : Nat} {s : ByteArray} {i : Int} {v : Value} {e p : Int}
theorem lt (h : RB w g s i v e p) : g < w.heap.size := blk_lt h
theorem c0 (h : RB w g s i v e p) : w.cell? ⟨g, 0, none⟩ = some (.string s) := by rw [blk_cell h]; rfl
theorem c1 (h : RB w g s i v e p) : w.cell? ⟨g, 1, none⟩ = some (.int .i64 i) := by rw [blk_cell h]; rfl
theorem c2 (h : RB w g s i v e p) : w.cell? ⟨g, 2, none⟩ = some v := by rw [blk_cell h]; rfl
theorem c3 (h : RB w g s i v e p) : w.cell? ⟨g, 3, none⟩ = some (.int .i64 e) := by rw [blk_cell h]; rfl
theorem c4 (h : RB w g s i v e p) : w.cell? ⟨g, 4, none⟩ = some (.int .i64 p) := by rw [blk_cell h]; rfl
theorem fz (h : RB w g s i v e p) (j : Nat) : w.frozen? ⟨g, j, none⟩ = false := blk_frozen h j
theorem alloc (h : RB w g s i v e p) (o : Obj) : RB (w.alloc o) g s i v e p := blk_alloc h o
theorem drew (h : RB w g s i v e p) : RB w.drew g s i v e p := h
theorem drewN (h : RB w g s i v e p) (n : Nat) : RB (w.drewN n) g s i v e p := h
theorem set1 (h : RB w g s i v e p) (x : Int) : RB (w.setCell ⟨g, 1, none⟩ (.int .i64 x)) g s x v e p := by have := blk_set h 1 (.int .i64 x); simpa [RB] using this
theorem set2 (h : RB w g s i v e p) (x : Value) : RB (w.setCell ⟨g, 2, none⟩ x) g s i x e p := by have := blk_set h 2 x; simpa [RB] using this
theorem set3 (h : RB w g s i v e p) (x : Int) : RB (w.setCell ⟨g, 3, none⟩ (.int .i64 x)) g s i v x p := by have := blk_set h 3 (.int .i64 x); simpa [RB] using this
theorem set4 (h : RB w g s i v e p) (x : Int) : RB (w.setCell ⟨g, 4, none⟩ (.int .i64 x)) g s i v e x := by have := blk_set h 4 (.int .i64 x); simpa [RB] using this
theorem kp (h : RB w g s i v e p) (hk : Kp S w w1) (hn : ¬ S g) : RB w1 g s i v e p := hk.blk h hn
end RB

/-- Go's error value of a fault. -/
def faultV (e i : Int) : Value := .iface 30 (.agg #[.int .i64 e, .int .i64 i])
abbrev faulty (e i : Int) : Ending := .panicked [{ v := faultV e i, recovered := false }]
/-- No text here is longer. -/
def LIM : Nat := 4194304
theorem ret_int {k : IntKind} {a b : Int} (h : a = b) : Ending.returned (.int k a) = .returned (.int k b) := by rw [h]
/-- Does the byte stand at the place? -/
def isB (s : ByteArray) (i : Int) (c : Int) : Bool := decide (i < (s.size : Int)) && (bt s i == c)
theorem isB_true {s : ByteArray} {i c : Int} (h : isB s i c = true) : i < (s.size : Int) ∧ bt s i = c := by simpa [isB] using h
theorem infoU8 : (Tryd.prog.info? 5).map (fun i => (i.zero, i.size, i.bytes)) = some (some (.int .u8 0), 1, 1) := by kernel_rfl
theorem infoStr : (Tryd.prog.info? 9).map (fun i => (i.zero, i.size, i.bytes)) = some (some (.string ⟨#[]⟩), 1, 16) := by kernel_rfl
theorem infoInt : (Tryd.prog.info? 3).map (fun i => (i.zero, i.size, i.bytes)) = some (some (.int .i64 0), 1, 8) := by kernel_rfl
/-- Bytes that the call owns: a slice value over them. -/
def Bys (w : World) (base : Nat) (v : Value) (xs : List Int) : Prop := w.ownsRow base 5 1 v xs.length (nums .u8 xs)
theorem Bys.nil (w : World) (base : Nat) : Bys w base (.slice none 0 0) [] := own_nil _ _ _ _
theorem Bys.kp {S : Nat → Prop} {w w1 : World} {base : Nat} {v : Value} {xs : List Int} (h : Bys w base v xs) (hk : Kp S w w1) (hn : ∀ k, v.ownBlock = some k → ¬ S k) : Bys w1 base v xs :=
  own_move h (fun k e => hk.block k (own_lt h k e) (hn k e))
theorem Bys.str {w : World} {base : Nat} {v : Value} {xs : List Int} (h : Bys w base v xs) : (convert 76 9 v).run Tryd.prog w = .ok (.string (strOfNums xs)) w :=
  own_string Tryd.underlying76 Tryd.underlying5 Tryd.underlying9 h
/-- Texts that the call owns: a slice value over them. -/
def Strs (w : World) (base : Nat) (v : Value) (l : List ByteArray) : Prop := w.ownsRow base 9 1 v l.length (encs Value.string l)
theorem Strs.nil (w : World) (base : Nat) : Strs w base (.slice none 0 0) [] := own_nil _ _ _ _
theorem Strs.kp {S : Nat → Prop} {w w1 : World} {base : Nat} {v : Value} {xs : List ByteArray} (h : Strs w base v xs) (hk : Kp S w w1) (hn : ∀ k, v.ownBlock = some k → ¬ S k) : Strs w1 base v xs :=
  own_move h (fun k e => hk.block k (own_lt h k e) (hn k e))
theorem Strs.form {w : World} {base : Nat} {v : Value} {xs : List ByteArray} (h : Strs w base v xs) (h0 : 0 < xs.length) : ∃ g cap, v = .slice (some ⟨g, 0, none⟩) xs.length cap ∧ base ≤ g ∧ g < w.heap.size ∧ ∀ j : Nat, j < xs.length → w.cell? ⟨g, j, none⟩ = some (.string (xs.getD j ⟨#[]⟩)) := by
  rcases h.2 with ⟨rfl, hz⟩ | ⟨g, cap, cur, rfl, hb, hh, _⟩
  · omega
  · refine ⟨g, cap, rfl, hb, blk_lt hh, fun j hj => ?_⟩
    have := (own_at_of (d := (⟨#[]⟩ : ByteArray)) h j (by omega) (by omega)).1
    simpa [rdOf] using this
end Go.Proofs.YtieolphpgjpcmaaDoor

namespace Go.Proofs.YtieolphpgjpcmaaDoor
open Go.RowKit Go.Proofs.YtieolphpgjpcmaaDoorW.PrintWords

set_option maxHeartbeats 400000 in
theorem fail_any (g : Nat) (i : Int) (w : World) :
    Calls Tryd.prog 10 #[.pointer (some ⟨g, 0, none⟩), .int .i64 i] w fun e w' => e = faulty 120 i ∧ w = w' := by
  go_enter Tryd.func10, Tryd.ntmps10
  go_wp2
  exact ⟨rfl, rfl, rfl⟩

set_option maxHeartbeats 400000 in
theorem peek_in (g : Nat) (s : ByteArray) (i : Int) (v : Value) (w : World) (hp : PB w g s i v) (h0 : 0 ≤ i) (h1 : i < (s.size : Int)) :
    Calls Tryd.prog 25 #[.pointer (some ⟨g, 0, none⟩)] w fun e w' => e = .returned (.tuple #[.int .u8 (bt s i), .bool true]) ∧ Dr w w' := by
  have c0 := hp.c0
  have c1 := hp.c1
  have hx := bt_at s i
  clear hp
  have d1 : decide (i < (s.size : Int)) = true := decide_eq_true h1
  replace h0 := eq_true h0
  replace h1 := eq_true h1
  go_enter Tryd.func25, Tryd.ntmps25
  go_wp2
  repeat (go_quiet (fail); try go_wp2)
  go_ret2
  exact ⟨rfl, by repeat (first | exact Dr.refl _ | apply Dr.drewN)⟩

set_option maxHeartbeats 400000 in
theorem peek_out (g : Nat) (s : ByteArray) (i : Int) (v : Value) (w : World) (hp : PB w g s i v) (h1 : (s.size : Int) ≤ i) :
    Calls Tryd.prog 25 #[.pointer (some ⟨g, 0, none⟩)] w fun e w' => e = .returned (.tuple #[.int .u8 0, .bool false]) ∧ Dr w w' := by
  have c0 := hp.c0
  have c1 := hp.c1
  clear hp
  have d1 : decide (i < (s.size : Int)) = false := decide_eq_false (by omega)
  clear h1
  go_enter Tryd.func25, Tryd.ntmps25
  go_wp2
  repeat (go_quiet (fail); try go_wp2)
  go_ret2
  exact ⟨rfl, by repeat (first | exact Dr.refl _ | apply Dr.drewN)⟩

set_option maxHeartbeats 400000 in
theorem is_any (g : Nat) (s : ByteArray) (i : Int) (v : Value) (c : Int) (w : World) (hp : PB w g s i v) (h0 : 0 ≤ i) :
    Calls Tryd.prog 16 #[.pointer (some ⟨g, 0, none⟩), .int .u8 c] w fun e w' => e = .returned (.bool (isB s i c)) ∧ Dr w w' := by
  by_cases h1 : i < (s.size : Int)
  · have e1 : isB s i c = (bt s i == c) := by simp [isB, h1]
    rw [e1]
    have H1 := hd h1
    clear e1 h1
    go_enter Tryd.func16, Tryd.ntmps16
    go_wp2_with (go_at_call 25; refine (peek_in g s i v _ hp h0 H1.out).mono ?_; rintro e w' ⟨rfl, n, rfl⟩)
    go_ret
    exact ⟨rfl, by repeat (first | exact Dr.refl _ | apply Dr.drewN)⟩
  · have e1 : isB s i c = false := by simp [isB, h1]
    rw [e1]
    have H1 := hd h1
    clear e1 h1
    go_enter Tryd.func16, Tryd.ntmps16
    go_wp2_with (go_at_call 25; refine (peek_out g s i v _ hp (by have := H1.out; omega)).mono ?_; rintro e w' ⟨rfl, n, rfl⟩)
    go_ret
    exact ⟨rfl, by repeat (first | exact Dr.refl _ | apply Dr.drewN)⟩

set_option maxHeartbeats 400000 in
theorem want_yes (g : Nat) (s : ByteArray) (i : Int) (v : Value) (c : Int) (w : World) (hp : PB w g s i v) (h0 : 0 ≤ i) (hl : s.size ≤ LIM) (h : isB s i c = true) :
    Calls Tryd.prog 17 #[.pointer (some ⟨g, 0, none⟩), .int .u8 c] w fun e w' => e = .returned (.tuple #[]) ∧ PB w' g s (i + 1) v ∧ Kp (One g) w w' := by
  have hi : i ≤ 4194304 := by have := (isB_true h).1; unfold LIM at hl; omega
  have H := hd h
  clear h hl
  have c1 := hp.c1
  have f1 := hp.fz 1
  go_enter Tryd.func17, Tryd.ntmps17
  go_wp2_with (go_at_call 16; refine (is_any g s i v c _ hp h0).mono ?_; rintro e w' ⟨rfl, n, rfl⟩; rw [H.out])
  go_end0
  exact ⟨rfl, (hp.drewN _).set1 _, ((Kp.refl _ _).drewN _).setOne _ _⟩

set_option maxHeartbeats 400000 in
theorem want_no (g : Nat) (s : ByteArray) (i : Int) (v : Value) (c : Int) (w : World) (hp : PB w g s i v) (h0 : 0 ≤ i) (h : isB s i c = false) :
    Calls Tryd.prog 17 #[.pointer (some ⟨g, 0, none⟩), .int .u8 c] w fun e w' => e = faulty 120 i ∧ Dr w w' := by
  have H := hd h
  clear h
  have c1 := hp.c1
  have f1 := hp.fz 1
  go_enter Tryd.func17, Tryd.ntmps17
  go_wp2_with (first | (go_at_call 16; refine (is_any g s i v c _ hp h0).mono ?_; rintro e w' ⟨rfl, n, rfl⟩; rw [H.out]) | (go_at_call 10; refine (fail_any g i _).mono ?_; rintro e w' ⟨rfl, rfl⟩))
  exact ⟨rfl, rfl, by repeat (first | exact Dr.refl _ | apply Dr.drewN)⟩

/-! the reference's reader -/
set_option maxHeartbeats 400000 in
theorem ris_any (g : Nat) (s : ByteArray) (i : Int) (v : Value) (er pl c : Int) (w : World) (hp : RB w g s i v er pl) (h0 : 0 ≤ i) :
    Calls Tryd.prog 11 #[.pointer (some ⟨g, 0, none⟩), .int .u8 c] w fun e w' => e = .returned (.bool (isB s i c)) ∧ Dr w w' := by
  have c0 := hp.c0
  have c1 := hp.c1
  clear hp
  by_cases h1 : i < (s.size : Int)
  · have e1 : isB s i c = (bt s i == c) := by simp [isB, h1]
    rw [e1]
    clear e1
    have d1 : decide (i < (s.size : Int)) = true := decide_eq_true h1
    have hx := bt_at s i
    replace h0 := eq_true h0
    replace h1 := eq_true h1
    go_enter Tryd.func11, Tryd.ntmps11
    go_wp2
    repeat (go_quiet (fail); try go_wp2)
    go_ret
    exact ⟨rfl, by repeat (first | exact Dr.refl _ | apply Dr.drewN)⟩
  · have e1 : isB s i c = false := by simp [isB, h1]
    rw [e1]
    clear e1
    have d1 : decide (i < (s.size : Int)) = false := decide_eq_false h1
    clear h1
    go_enter Tryd.func11, Tryd.ntmps11
    go_wp2
    repeat (go_quiet (fail); try go_wp2)
    go_ret
    exact ⟨rfl, by repeat (first | exact Dr.refl _ | apply Dr.drewN)⟩

/-- The first fault stays. -/
def stopE (e0 e : Int) : Int := if e0 = 0 then e else e0
def stopP (e0 p0 p : Int) : Int := if e0 = 0 then p else p0

set_option maxHeartbeats 400000 in
theorem stop_any (g : Nat) (s : ByteArray) (i : Int) (v : Value) (er pl e1 p1 : Int) (w : World) (hp : RB w g s i v er pl) :
    Calls Tryd.prog 13 #[.pointer (some ⟨g, 0, none⟩), .int .i64 e1, .int .i64 p1] w fun e w' => e = .returned (.tuple #[]) ∧ RB w' g s i v (stopE er e1) (stopP er pl p1) ∧ Kp (One g) w w' := by
  have c3 := hp.c3
  have c4 := hp.c4
  have f3 := hp.fz 3
  have f4 := hp.fz 4
  by_cases h : er = 0
  · have q1 : stopE er e1 = e1 := by simp [stopE, h]
    have q2 : stopP er pl p1 = p1 := by simp [stopP, h]
    rw [q1, q2]
    subst h
    clear q1 q2
    go_enter Tryd.func13, Tryd.ntmps13
    go_wp2
    go_end0
    exact ⟨rfl, (hp.set3 _).set4 _, ((Kp.refl _ _).setOne _ _).setOne _ _⟩
  · have q1 : stopE er e1 = er := by simp [stopE, h]
    have q2 : stopP er pl p1 = pl := by simp [stopP, h]
    rw [q1, q2]
    clear q1 q2
    have hb : (er == 0) = false := by simpa using h
    clear h
    go_enter Tryd.func13, Tryd.ntmps13
    go_wp2
    go_end0
    exact ⟨rfl, hp, Kp.refl _ _⟩

set_option maxHeartbeats 400000 in
theorem must_yes (g : Nat) (s : ByteArray) (i : Int) (v : Value) (er pl c : Int) (w : World) (hp : RB w g s i v er pl) (h0 : 0 ≤ i) (hl : s.size ≤ LIM) (h : isB s i c = true) :
    Calls Tryd.prog 12 #[.pointer (some ⟨g, 0, none⟩), .int .u8 c] w fun e w' => e = .returned (.tuple #[]) ∧ RB w' g s (i + 1) v er pl ∧ Kp (One g) w w' := by
  have hi : i ≤ 4194304 := by have := (isB_true h).1; unfold LIM at hl; omega
  have H := hd h
  clear h hl
  have c1 := hp.c1
  have f1 := hp.fz 1
  go_enter Tryd.func12, Tryd.ntmps12
  go_wp2_with (go_at_call 11; refine (ris_any g s i v er pl c _ hp h0).mono ?_; rintro e w' ⟨rfl, n, rfl⟩; rw [H.out])
  go_end0
  exact ⟨rfl, (hp.drewN _).set1 _, ((Kp.refl _ _).drewN _).setOne _ _⟩

set_option maxHeartbeats 400000 in
theorem must_no (g : Nat) (s : ByteArray) (i : Int) (v : Value) (er pl c : Int) (w : World) (hp : RB w g s i v er pl) (h0 : 0 ≤ i) (h : isB s i c = false) :
    Calls Tryd.prog 12 #[.pointer (some ⟨g, 0, none⟩), .int .u8 c] w fun e w' => e = .returned (.tuple #[]) ∧ RB w' g s i v (stopE er 120) (stopP er pl i) ∧ Kp (One g) w w' := by
  have H := hd h
  clear h
  have c1 := hp.c1
  go_enter Tryd.func12, Tryd.ntmps12
  go_wp2_with (first | (go_at_call 11; refine (ris_any g s i v er pl c _ hp h0).mono ?_; rintro e w' ⟨rfl, n, rfl⟩; rw [H.out]) | (go_at_call 13; refine (stop_any g s i v er pl 120 i _ (hp.drewN _)).mono ?_; rintro e w' ⟨rfl, hq, hk⟩))
  first | go_end0 | ((try simp only [Exit.inBlock, Exit.then]); refine bodyPost_ret (results_none rfl _ _ _) rfl ?_)
  exact ⟨rfl, hq, ((Kp.refl _ _).drewN _).trans hk⟩
end Go.Proofs.YtieolphpgjpcmaaDoor

namespace Go.Proofs.YtieolphpgjpcmaaDoor
open Go.RowKit Go.Proofs.YtieolphpgjpcmaaDoorW.PrintWords

def alnum (c : Int) : Bool := (decide (97 ≤ c) && decide (c ≤ 122)) || (decide (65 ≤ c) && decide (c ≤ 90)) || (decide (48 ≤ c) && decide (c ≤ 57))
def inRow (semi : Bool) (c : Int) : Bool := alnum c || c == 46 || c == 45 || (semi && c == 59)
/-- The end of the longest row that begins at i. -/
def rowEnd (s : ByteArray) (semi : Bool) : Nat → Int → Int
  | 0, i => i
  | n + 1, i => if i < (s.size : Int) ∧ inRow semi (bt s i) = true then rowEnd s semi n (i + 1) else i
theorem rowEnd_ge (s : ByteArray) (semi : Bool) : ∀ n i, i ≤ rowEnd s semi n i := by
  intro n
  induction n with
  | zero => intro i; exact Int.le_refl _
  | succ n ih =>
    intro i
    simp only [rowEnd]
    split
    · have := ih (i + 1); omega
    · omega
theorem rowEnd_le (s : ByteArray) (semi : Bool) : ∀ n i, i ≤ (s.size : Int) → rowEnd s semi n i ≤ (s.size : Int) := by
  intro n
  induction n with
  | zero => intro i h; exact h
  | succ n ih =>
    intro i h
    simp only [rowEnd]
    split
    · exact ih _ (by omega)
    · exact h
theorem rowEnd_go {s : ByteArray} {semi : Bool} {n : Nat} {i R c : Int} (h : rowEnd s semi (n + 1) i = R) (hi : i < (s.size : Int)) (hc : bt s i = c) (hr : inRow semi c = true) : rowEnd s semi n (i + 1) = R := by
  rw [← h]; simp only [rowEnd]; rw [if_pos ⟨hi, by rw [hc]; exact hr⟩]
theorem rowEnd_stop {s : ByteArray} {semi : Bool} {n : Nat} {i R c : Int} (h : rowEnd s semi (n + 1) i = R) (hc : bt s i = c) (hr : inRow semi c = false) : i = R := by
  rw [← h]; simp only [rowEnd]; rw [if_neg (by rw [hc, hr]; simp)]
theorem rowEnd_out {s : ByteArray} {semi : Bool} {n : Nat} {i R : Int} (h : rowEnd s semi (n + 1) i = R) (hi : ¬ i < (s.size : Int)) : i = R := by
  rw [← h]; simp only [rowEnd]; rw [if_neg (fun q => hi q.1)]
theorem inRow_yes {semi : Bool} {c : Int} (h : (97 ≤ c ∧ c ≤ 122) ∨ (65 ≤ c ∧ c ≤ 90) ∨ (48 ≤ c ∧ c ≤ 57) ∨ c = 46 ∨ c = 45 ∨ (semi = true ∧ c = 59)) : inRow semi c = true := by
  simp only [inRow, alnum, Bool.or_eq_true, Bool.and_eq_true, decide_eq_true_eq, beq_iff_eq]
  rcases h with h | h | h | h | h | h <;> simp_all
theorem inRow_no {semi : Bool} {c : Int} (h : ¬ ((97 ≤ c ∧ c ≤ 122) ∨ (65 ≤ c ∧ c ≤ 90) ∨ (48 ≤ c ∧ c ≤ 57) ∨ c = 46 ∨ c = 45 ∨ (semi = true ∧ c = 59))) : inRow semi c = false := by
  rw [Bool.eq_false_iff]
  intro h'
  apply h
  simp only [inRow, alnum, Bool.or_eq_true, Bool.and_eq_true, decide_eq_true_eq, beq_iff_eq] at h'
  rcases h' with ((h' | h') | h') | h'
  · rcases h' with (h' | h') | h'
    · exact .inl h'
    · exact .inr (.inl h')
    · exact .inr (.inr (.inl h'))
  · exact .inr (.inr (.inr (.inl h')))
  · exact .inr (.inr (.inr (.inr (.inl h'))))
  · exact .inr (.inr (.inr (.inr (.inr h'))))
/-- Where a byte stands among those that the readers tell apart. -/
theorem class_cases (c : Int) (h : 0 ≤ c ∧ c ≤ 255) : (c < 45) ∨ c = 45 ∨ c = 46 ∨ c = 47 ∨ (48 ≤ c ∧ c ≤ 57) ∨ c = 58 ∨ c = 59 ∨ (60 ≤ c ∧ c ≤ 64) ∨ (65 ≤ c ∧ c ≤ 90) ∨ (91 ≤ c ∧ c ≤ 96) ∨ (97 ≤ c ∧ c ≤ 122) ∨ 123 ≤ c := by omega
/-- A hexadecimal digit's worth; -1: none. -/
def hexv (c : Int) : Int := if 48 ≤ c ∧ c ≤ 57 then c - 48 else if 97 ≤ c ∧ c ≤ 102 then c - 97 + 10 else if 65 ≤ c ∧ c ≤ 70 then c - 65 + 10 else -1
theorem hexv_range (c : Int) : -1 ≤ hexv c ∧ hexv c ≤ 15 := by unfold hexv; split <;> (try split) <;> (try split) <;> omega
def hexOf (s : ByteArray) (j : Int) : Int := if j < (s.size : Int) then hexv (bt s j) else -1
theorem hexOf_range (s : ByteArray) (j : Int) : -1 ≤ hexOf s j ∧ hexOf s j ≤ 15 := by
  unfold hexOf; split
  · exact hexv_range _
  · omega
theorem hex_cases (c : Int) : c < 48 ∨ (48 ≤ c ∧ c ≤ 57) ∨ (58 ≤ c ∧ c ≤ 64) ∨ (65 ≤ c ∧ c ≤ 70) ∨ (71 ≤ c ∧ c ≤ 96) ∨ (97 ≤ c ∧ c ≤ 102) ∨ 103 ≤ c := by omega
def foldc (c : Int) : Int := if 65 ≤ c ∧ c ≤ 90 then c + 32 else c
/-- A text, its letters A to Z turned into a to z. -/
def foldS (s : ByteArray) : ByteArray := strOfNums ((bytesOf s).map foldc)
/-- What the reading of a value comes to: its pieces and the place behind them; or the place of the fault. -/
inductive VRes where
  | bad (p : Int)
  | ok (l : List ByteArray) (i : Int)
def keyB (c : Int) : Bool := alnum c || c == 45
def digB (c : Int) : Bool := decide (48 ≤ c) && decide (c ≤ 57)
def letB (c : Int) : Bool := (decide (97 ≤ c) && decide (c ≤ 122)) || (decide (65 ≤ c) && decide (c ≤ 90))
/-- Do all bytes from i on answer P? -/
def allF (P : Int → Bool) (s : ByteArray) : Nat → Int → Bool
  | 0, _ => true
  | n + 1, i => if i < (s.size : Int) then (if P (bt s i) = true then allF P s n (i + 1) else false) else true
def keysB (s : ByteArray) : Bool := allF keyB s (s.size + 1) 0 && !(s.size == 0)
def numberB (s : ByteArray) : Bool := allF digB s (s.size + 1) 0 && ((s.size == 1 && bt s 0 == 48) || (!(s.size == 0) && bt s 0 != 48))
/-- A text taken apart at each byte c: from i on, the part that is open begins at lo. -/
def partsF (s : ByteArray) (c : Int) : Nat → Int → Int → List ByteArray → List ByteArray
  | 0, _, lo, acc => acc ++ [s.extract lo.toNat s.size]
  | n + 1, i, lo, acc => if i < (s.size : Int) then (if bt s i = c then partsF s c n (i + 1) (i + 1) (acc ++ [s.extract lo.toNat i.toNat]) else partsF s c n (i + 1) lo acc) else acc ++ [s.extract lo.toNat s.size]
def partsS (s : ByteArray) (c : Int) : List ByteArray := partsF s c (s.size + 1) 0 0 []
theorem allF_go {P : Int → Bool} {s : ByteArray} {n : Nat} {i : Int} (h : i < (s.size : Int)) (hp : P (bt s i) = true) : allF P s (n + 1) i = allF P s n (i + 1) := by simp only [allF]; rw [if_pos h, if_pos hp]
theorem allF_no {P : Int → Bool} {s : ByteArray} {n : Nat} {i : Int} (h : i < (s.size : Int)) (hp : P (bt s i) = false) : allF P s (n + 1) i = false := by simp only [allF]; rw [if_pos h, if_neg (by rw [hp]; simp)]
theorem allF_end {P : Int → Bool} {s : ByteArray} {n : Nat} {i : Int} (h : ¬ i < (s.size : Int)) : allF P s (n + 1) i = true := by simp only [allF]; rw [if_neg h]
theorem empty_iff (s : ByteArray) : s.toList.isEmpty = (s.size == 0) := by
  rw [Lib.toList_data, ← data_length]
  cases s.data.toList <;> simp
theorem keyB_yes {c : Int} (h : (97 ≤ c ∧ c ≤ 122) ∨ (65 ≤ c ∧ c ≤ 90) ∨ (48 ≤ c ∧ c ≤ 57) ∨ c = 45) : keyB c = true := by
  simp only [keyB, alnum, Bool.or_eq_true, Bool.and_eq_true, decide_eq_true_eq, beq_iff_eq]
  omega
theorem keyB_no {c : Int} (h : ¬ ((97 ≤ c ∧ c ≤ 122) ∨ (65 ≤ c ∧ c ≤ 90) ∨ (48 ≤ c ∧ c ≤ 57) ∨ c = 45)) : keyB c = false := by
  rw [Bool.eq_false_iff]
  simp only [ne_eq, keyB, alnum, Bool.or_eq_true, Bool.and_eq_true, decide_eq_true_eq, beq_iff_eq]
  omega
theorem one_iff (s : ByteArray) (b : UInt8) : (s.toList == [b]) = (s.size == 1 && bt s 0 == (b.toNat : Int)) := by
  rw [Lib.toList_data, ← rd_bytesOf, ← data_length]
  unfold bytesOf rd
  rcases s.data.toList with _ | ⟨x, _ | ⟨y, l⟩⟩
  · rfl
  · have e : (x == b) = ((x.toNat : Int) == (b.toNat : Int)) := by
      rw [Bool.eq_iff_iff, beq_iff_eq, beq_iff_eq]
      exact ⟨fun h => by rw [h], fun h => UInt8.toNat_inj.1 (by omega)⟩
    simp [e]
  · simp
def isTypeB (s : ByteArray) : Bool := if s.size = 0 then false else if letB (bt s 0) = true then keysB s else (partsS s 46).all numberB && decide (1 < (partsS s 46).length)
def isDescB (s : ByteArray) : Bool := ((partsS s 59).drop 1).all keysB && isTypeB ((partsS s 59).getD 0 ⟨#[]⟩)
theorem partsF_pos (s : ByteArray) (c : Int) : ∀ n i lo acc, acc.length + 1 ≤ (partsF s c n i lo acc).length ∧ (partsF s c n i lo acc).length ≤ acc.length + n + 1 := by
  intro n
  induction n with
  | zero => intro i lo acc; simp [partsF]
  | succ n ih =>
    intro i lo acc
    simp only [partsF]
    split
    · split
      · have := ih (i + 1) (i + 1) (acc ++ [s.extract lo.toNat i.toNat])
        simp at this
        omega
      · have := ih (i + 1) lo acc
        omega
    · simp
theorem partsS_pos (s : ByteArray) (c : Int) : 0 < (partsS s c).length ∧ (partsS s c).length ≤ s.size + 2 := by
  have := partsF_pos s c (s.size + 1) 0 0 []
  unfold partsS
  simp at this
  omega
theorem all_go {α : Type} {P : α → Bool} {l : List α} {k : Nat} (z : α) (h : k < l.length) (hp : P (l.getD k z) = true) : (l.drop k).all P = (l.drop (k + 1)).all P := by
  rw [List.drop_eq_getElem_cons h, List.all_cons]
  rw [List.getD_eq_getElem?_getD, List.getElem?_eq_getElem h] at hp
  simp at hp
  rw [hp, Bool.true_and]
theorem all_no {α : Type} {P : α → Bool} {l : List α} {k : Nat} (z : α) (h : k < l.length) (hp : P (l.getD k z) = false) : (l.drop k).all P = false := by
  rw [List.drop_eq_getElem_cons h, List.all_cons]
  rw [List.getD_eq_getElem?_getD, List.getElem?_eq_getElem h] at hp
  simp at hp
  rw [hp, Bool.false_and]
theorem mem_partsF (s : ByteArray) (c : Int) : ∀ n i lo acc, (∀ x ∈ acc, x.size ≤ s.size) → ∀ x ∈ partsF s c n i lo acc, x.size ≤ s.size := by
  intro n
  induction n with
  | zero =>
    intro i lo acc h x hx
    simp only [partsF, List.mem_append, List.mem_singleton] at hx
    rcases hx with hx | rfl
    · exact h x hx
    · rw [ByteArray.size_extract]; omega
  | succ n ih =>
    intro i lo acc h x hx
    simp only [partsF] at hx
    split at hx
    · split at hx
      · refine ih _ _ _ (fun y hy => ?_) x hx
        simp only [List.mem_append, List.mem_singleton] at hy
        rcases hy with hy | rfl
        · exact h y hy
        · rw [ByteArray.size_extract]; omega
      · exact ih _ _ _ h x hx
    · simp only [List.mem_append, List.mem_singleton] at hx
      rcases hx with hx | rfl
      · exact h x hx
      · rw [ByteArray.size_extract]; omega
theorem partsS_size (s : ByteArray) (c : Int) (k : Nat) : ((partsS s c).getD k ⟨#[]⟩).size ≤ s.size := by
  rw [List.getD_eq_getElem?_getD]
  rcases Nat.lt_or_ge k (partsS s c).length with h | h
  · rw [List.getElem?_eq_getElem h]
    exact mem_partsF s c _ _ _ _ (fun y hy => by simp at hy) _ (List.getElem_mem h)
  · rw [List.getElem?_eq_none h]
    exact Nat.zero_le _
def endsL : List ByteArray := [⟨#[]⟩, ⟨#[97]⟩, ⟨#[49]⟩, ⟨#[46, 49]⟩]
def isXB (s : ByteArray) (alone : Bool) : Bool := if alone = true then isTypeB s else isDescB s
def goesB (s : ByteArray) (alone : Bool) : Bool := endsL.any fun e => isXB (s ++ e) alone
def placeF (s : ByteArray) (alone : Bool) : Nat → Int → Int → Int
  | 0, lo, _ => lo
  | n + 1, lo, hi => if lo < hi then (if goesB (s.extract 0 ((lo + hi + 1) / 2).toNat) alone = true then placeF s alone n ((lo + hi + 1) / 2) hi else placeF s alone n lo ((lo + hi + 1) / 2 - 1)) else lo
def placeS (s : ByteArray) (alone : Bool) : Int := placeF s alone (s.size + 1) 0 s.size
theorem any_go {α : Type} {P : α → Bool} {l : List α} {k : Nat} (z : α) (h : k < l.length) (hp : P (l.getD k z) = false) : (l.drop k).any P = (l.drop (k + 1)).any P := by
  rw [List.drop_eq_getElem_cons h, List.any_cons]
  rw [List.getD_eq_getElem?_getD, List.getElem?_eq_getElem h] at hp
  simp at hp
  rw [hp, Bool.false_or]
theorem any_yes {α : Type} {P : α → Bool} {l : List α} {k : Nat} (z : α) (h : k < l.length) (hp : P (l.getD k z) = true) : (l.drop k).any P = true := by
  rw [List.drop_eq_getElem_cons h, List.any_cons]
  rw [List.getD_eq_getElem?_getD, List.getElem?_eq_getElem h] at hp
  simp at hp
  rw [hp, Bool.true_or]
theorem endsL_size (k : Nat) : (endsL.getD k ⟨#[]⟩).size ≤ 2 := by
  rcases k with _ | _ | _ | _ | k <;> first | decide | exact Nat.zero_le _
theorem mid_snoc (l : List ByteArray) (k : Nat) (h1 : 1 ≤ k) (h2 : k < l.length) : (l.take (k + 1)).drop 1 = (l.take k).drop 1 ++ [l.getD k ⟨#[]⟩] := by
  rw [List.take_succ_eq_append_getElem h2, List.drop_append_of_le_length (by rw [List.length_take]; omega), List.getD_eq_getElem?_getD, List.getElem?_eq_getElem h2]
  rfl
end Go.Proofs.YtieolphpgjpcmaaDoor

namespace Go.Proofs.YtieolphpgjpcmaaDoor
open Go.RowKit Go.Proofs.YtieolphpgjpcmaaDoorW.PrintWords

/-- A slice of texts that is read. -/
def RdS (w : World) (A : Option Addr) (c : Nat) (l : List ByteArray) : Prop := ReadsOf Value.string (⟨#[]⟩ : ByteArray) w A l.length l ∧ l.length ≤ c
theorem RdS.below {w w1 : World} {A : Option Addr} {c : Nat} {l : List ByteArray} (h : RdS w A c l) (hb : Below w.heap.size w w1) : RdS w1 A c l := ⟨h.1.below hb, h.2⟩
theorem RdS.get {w : World} {A : Option Addr} {c : Nat} {l : List ByteArray} (h : RdS w A c l) (k : Nat) (hk : k < l.length) : ∃ ad, A = some ad ∧ w.cell? (ad.add k) = some (.string (l.getD k ⟨#[]⟩)) := by
  have := h.1.at_ k (by omega) (by omega)
  simpa [rdOf] using this
theorem RdS.of {w : World} {base : Nat} {v : Value} {l : List ByteArray} (h : Strs w base v l) : ∃ A c, v = .slice A l.length c ∧ RdS w A c l := by
  obtain ⟨A, c, e, hc, hr⟩ := own_reads_of_le (d := (⟨#[]⟩ : ByteArray)) h
  exact ⟨A, c, e, hr, hc⟩
theorem infoTStr : ∃ i, Tryd.prog.info? 9 = some i ∧ i.size = 1 := by
  obtain ⟨i0, hi, hz⟩ := Option.map_eq_some_iff.1 infoStr
  simp only [Prod.mk.injEq] at hz
  exact ⟨i0, hi, hz.2.1⟩

def SEnd (w w' : World) (m : Nat) (e : Ending) : Prop := ∃ A c l, e = .returned (.slice A l.length c) ∧ RdS w' A c l ∧ l.length ≤ m ∧ Kp No w w'

set_option maxHeartbeats 4000000 in
set_option maxRecDepth 100000 in
theorem sorted_any (n : Nat) : ∀ (l : List ByteArray) (A : Option Addr) (c : Nat) (w : World), l.length ≤ n → l.length ≤ LIM → RdS w A c l →
    Calls Tryd.prog 36 #[.slice A l.length c] w fun e w' => SEnd w w' l.length e := by
  induction n with
  | zero =>
    intro l A c w hn hl hr
    have h2 : l.length < 2 := by omega
    go_enter Tryd.func36, Tryd.ntmps36
    go_wp2
    go_ret
    exact ⟨A, c, l, rfl, hr, Nat.le_refl _, Kp.refl _ _⟩
  | succ n ih =>
    intro l A c w hn hl hr
    have hl' := hl
    unfold LIM at hl
    by_cases h2 : l.length < 2
    · clear ih
      go_enter Tryd.func36, Tryd.ntmps36
      go_wp2
      go_ret
      exact ⟨A, c, l, rfl, hr, Nat.le_refl _, Kp.refl _ _⟩
    · have IH := hd ih
      clear ih
      obtain ⟨i0, hi, hsz⟩ := infoTStr
      obtain ⟨t1, t2, t3⟩ := print_take_of (P := Tryd.prog) Value.string (⟨#[]⟩ : ByteArray) 45 9 .i64 Tryd.underlying45 hi hsz A c l ((l.length : Int) / 2) (by omega) (by omega) hr.2
      obtain ⟨A', d1, d2, d3⟩ := print_drop_of (P := Tryd.prog) Value.string (⟨#[]⟩ : ByteArray) 45 9 .i64 Tryd.underlying45 hi hsz A c l ((l.length : Int) / 2) (by omega) (by omega) hr.2
      have q1 : (l.take ((l.length : Int) / 2).toNat).length ≤ n := by rw [List.length_take]; omega
      have q2 : (l.drop ((l.length : Int) / 2).toNat).length ≤ n := by rw [List.length_drop]; omega
      have q3 : (l.take ((l.length : Int) / 2).toNat).length + (l.drop ((l.length : Int) / 2).toNat).length = l.length := by rw [List.length_take, List.length_drop]; omega
      generalize l.take ((l.length : Int) / 2).toNat = la at t1 t2 t3 q1 q3
      generalize l.drop ((l.length : Int) / 2).toNat = lb at d1 d2 d3 q2 q3
      have T2 := hd t2
      have D2 := hd d2
      have Q := hd (And.intro q1 (And.intro q2 q3))
      clear t2 d2 hi hsz q1 q2 q3
      go_enter Tryd.func36, Tryd.ntmps36
      go_wp2_with (fail)
      refine (IH.out la A c w Q.out.1 (by have := Q.out; omega) ⟨T2.out w hr.1, t3⟩).mono ?_
      rintro e w1 ⟨A1, c1, l1, rfl, r1, z1, k1⟩
      go_wp2_with (fail)
      refine (IH.out lb A' _ w1 Q.out.2.1 (by have := Q.out; omega) ⟨D2.out w1 (hr.1.below k1.toBelow), d3⟩).mono ?_
      rintro e w2 ⟨A2, c2, l2, rfl, r2, z2, k2⟩
      have r1' := hd (r1.below k2.toBelow)
      have r2' := hd r2
      have K2 := hd (k1.trans k2)
      have Z := hd (show l1.length + l2.length ≤ l.length by have := Q.out; omega)
      have zb1 : l1.length ≤ 4194304 := by have := Z.out; omega
      have zb2 : l2.length ≤ 4194304 := by have := Z.out; omega
      clear r1 r2 z1 z2 k1 k2 t1 d1 t3 d3 T2 D2 IH hn
      go_wp2
      go_loopw [5, 6, 7] (fun v a b wr => ∃ (i j : Nat) (out : List ByteArray), i ≤ l1.length ∧ j ≤ l2.length ∧ a = .int .i64 i ∧ b = .int .i64 j ∧ out.length ≤ i + j ∧ Strs wr w2.heap.size v out ∧ Below w2.heap.size w2 wr) (fun _ a b _ => l1.length + l2.length - (intOf a).toNat - (intOf b).toNat)
      case atStart => exact ⟨0, 0, [], Nat.zero_le _, Nat.zero_le _, rfl, rfl, Nat.le_refl _, Strs.nil _ _, Below.refl _ _⟩
      case round =>
        obtain ⟨i, j, out, hi, hj, rfl, rfl, ho, hs, hb⟩ := hrel
        by_cases e1 : i < l1.length
        · obtain ⟨ad, rfl, g1⟩ := (r1'.out.below hb).get i e1
          have b1 : ((i : Int) == (l1.length : Int)) = false := by rw [beq_eq_false_iff_ne]; omega
          have b2 : decide ((i : Int) < (l1.length : Int)) = true := decide_eq_true (by omega)
          by_cases e2 : j < l2.length
          · obtain ⟨ad2, rfl, g2⟩ := (r2'.out.below hb).get j e2
            have b3 : ((j : Int) == (l2.length : Int)) = false := by rw [beq_eq_false_iff_ne]; omega
            have b4 : decide ((j : Int) < (l2.length : Int)) = true := decide_eq_true (by omega)
            generalize l1.getD i ⟨#[]⟩ = x at g1
            generalize l2.getD j ⟨#[]⟩ = y at g2
            by_cases h12 : Op.bytesLess x.toList y.toList = true
            · go_wp2_with (fail)
              go_quiet (fail)
              go_wp2_with (at_builtin; refine print_append_of (w0 := w2) Value.string w2.heap.size rfl _ _ 45 9 (.string ⟨#[]⟩) 16 rfl Tryd.underlying45 infoStr (by rfl) (by decide) u5 out x rfl rfl rfl hs (pw_below_drewN hb _) hb.size (by have := Z.out; omega) ?_; intro v1 w4 ho1 hb1 hg1 hat1; clear hg1 hat1 hb hs)
              go_roundw
              case rel => exact ⟨i + 1, j, out ++ [x], by omega, by omega, by go_num, rfl, by simp; omega, ho1, hb1⟩
              case measure => simp [intOf]; omega
            · have h12' := Bool.eq_false_iff.2 h12
              clear h12
              by_cases h21 : Op.bytesLess y.toList x.toList = true
              · go_wp2_with (fail)
                go_quiet (fail)
                go_wp2_with (fail)
                go_quiet (fail)
                go_wp2_with (at_builtin; refine print_append_of (w0 := w2) Value.string w2.heap.size rfl _ _ 45 9 (.string ⟨#[]⟩) 16 rfl Tryd.underlying45 infoStr (by rfl) (by decide) u5 out y rfl rfl rfl hs (pw_below_drewN hb _) hb.size (by have := Z.out; omega) ?_; intro v1 w4 ho1 hb1 hg1 hat1; clear hg1 hat1 hb hs)
                go_roundw
                case rel => exact ⟨i, j + 1, out ++ [y], by omega, by omega, rfl, by go_num, by simp; omega, ho1, hb1⟩
                case measure => simp [intOf]; omega
              · have h21' := Bool.eq_false_iff.2 h21
                clear h21
                go_wp2_with (fail)
                go_quiet (fail)
                go_wp2_with (fail)
                go_quiet (fail)
                go_wp2
                go_roundw
                case rel => exact ⟨i + 1, j, out, by omega, by omega, by go_num, rfl, by omega, hs, pw_below_drewN hb _⟩
                case measure => simp [intOf]; omega
          · obtain rfl : j = l2.length := by omega
            generalize l1.getD i ⟨#[]⟩ = x at g1
            have b3 : ((l2.length : Int) == (l2.length : Int)) = true := beq_self_eq_true _
            go_wp2_with (fail)
            go_quiet (fail)
            go_wp2_with (at_builtin; refine print_append_of (w0 := w2) Value.string w2.heap.size rfl _ _ 45 9 (.string ⟨#[]⟩) 16 rfl Tryd.underlying45 infoStr (by rfl) (by decide) u5 out x rfl rfl rfl hs (pw_below_drewN hb _) hb.size (by have := Z.out; omega) ?_; intro v1 w4 ho1 hb1 hg1 hat1; clear hg1 hat1 hb hs)
            go_roundw
            case rel => exact ⟨i + 1, l2.length, out ++ [x], by omega, Nat.le_refl _, by go_num, rfl, by simp; omega, ho1, hb1⟩
            case measure => simp [intOf]; omega
        · obtain rfl : i = l1.length := by omega
          by_cases e2 : j < l2.length
          · obtain ⟨ad2, rfl, g2⟩ := (r2'.out.below hb).get j e2
            have b1 : ((l1.length : Int) == (l1.length : Int)) = true := beq_self_eq_true _
            have b2 : decide ((l1.length : Int) < (l1.length : Int)) = false := decide_eq_false (by omega)
            have b3 : ((j : Int) == (l2.length : Int)) = false := by rw [beq_eq_false_iff_ne]; omega
            have b4 : decide ((j : Int) < (l2.length : Int)) = true := decide_eq_true (by omega)
            generalize l2.getD j ⟨#[]⟩ = y at g2
            go_wp2_with (fail)
            go_quiet (fail)
            go_wp2_with (fail)
            go_quiet (fail)
            go_wp2_with (at_builtin; refine print_append_of (w0 := w2) Value.string w2.heap.size rfl _ _ 45 9 (.string ⟨#[]⟩) 16 rfl Tryd.underlying45 infoStr (by rfl) (by decide) u5 out y rfl rfl rfl hs (pw_below_drewN hb _) hb.size (by have := Z.out; omega) ?_; intro v1 w4 ho1 hb1 hg1 hat1; clear hg1 hat1 hb hs)
            go_roundw
            case rel => exact ⟨l1.length, j + 1, out ++ [y], Nat.le_refl _, by omega, rfl, by go_num, by simp; omega, ho1, hb1⟩
            case measure => simp [intOf]; omega
          · obtain rfl : j = l2.length := by omega
            obtain ⟨A3, c3, rfl, hr3⟩ := RdS.of hs
            go_wp2
            go_ret
            exact ⟨A3, c3, out, rfl, hr3, by have := Z.out; omega, K2.out.trans (Kp.ofBelow hb _)⟩
end Go.Proofs.YtieolphpgjpcmaaDoor

namespace Go.Proofs.YtieolphpgjpcmaaDoor
open Go.RowKit Go.Proofs.YtieolphpgjpcmaaDoorW.PrintWords

structure Nd where
  depth : Int
  op : Int
  desc : ByteArray
  value : ByteArray
  ini : ByteArray
  any : List ByteArray
  fin : ByteArray
  rule : ByteArray
  dn : Bool
def Nd.zero : Nd := ⟨0, 0, ⟨#[]⟩, ⟨#[]⟩, ⟨#[]⟩, [], ⟨#[]⟩, ⟨#[]⟩, false⟩
def Nd.at (d o : Int) : Nd := { Nd.zero with depth := d, op := o }
/-- A node's cells; av: its inner pieces' slice value. -/
def Nd.cells (n : Nd) (av : Value) : Array Value := #[.int .i64 n.depth, .int .i64 n.op, .string n.desc, .string n.value, .string n.ini, av, .string n.fin, .string n.rule, .bool n.dn]
/-- A slice of texts in a block of texts, from lo on, in one of the blocks of ok. -/
def AnyR (w : World) (lo : Nat) (ok : Nat → Prop) (v : Value) (l : List ByteArray) : Prop :=
  ∃ A c, v = .slice A l.length c ∧ l.length ≤ c ∧ c ≤ maxLen ∧ (l = [] ∨ ∃ g off cs, A = some ⟨g, off, none⟩ ∧ lo ≤ g ∧ ok g ∧ w.heap[g]? = some (.cells cs 9 (0, 0)) ∧ ∀ j : Nat, j < l.length → cs[off + j]? = some (.string (l.getD j ⟨#[]⟩)))
namespace AnyR
variable {w w1 : World} {lo lo' : Nat} {ok ok' : Nat → Prop} {v : Value} {l : List ByteArray}
theorem nil (w : World) (lo : Nat) (ok : Nat → Prop) : AnyR w lo ok (.slice none 0 0) [] := ⟨none, 0, rfl, Nat.le_refl _, Nat.zero_le _, .inl rfl⟩
theorem mono (h : AnyR w lo ok v l) (hs : ∀ k, ok k → ok' k) : AnyR w lo ok' v l := by
  obtain ⟨A, c, e, h1, h2, h3⟩ := h
  refine ⟨A, c, e, h1, h2, ?_⟩
  rcases h3 with h3 | ⟨g, off, cs, a1, a2, a3, a4, a5⟩
  · exact .inl h3
  · exact .inr ⟨g, off, cs, a1, a2, hs _ a3, a4, a5⟩
theorem lower (h : AnyR w lo ok v l) (hs : lo' ≤ lo) : AnyR w lo' ok v l := by
  obtain ⟨A, c, e, h1, h2, h3⟩ := h
  refine ⟨A, c, e, h1, h2, ?_⟩
  rcases h3 with h3 | ⟨g, off, cs, a1, a2, a3, a4, a5⟩
  · exact .inl h3
  · exact .inr ⟨g, off, cs, a1, by omega, a3, a4, a5⟩
theorem move (h : AnyR w lo ok v l) (hm : ∀ k, ok k → w1.heap[k]? = w.heap[k]?) : AnyR w1 lo ok v l := by
  obtain ⟨A, c, e, h1, h2, h3⟩ := h
  refine ⟨A, c, e, h1, h2, ?_⟩
  rcases h3 with h3 | ⟨g, off, cs, a1, a2, a3, a4, a5⟩
  · exact .inl h3
  · exact .inr ⟨g, off, cs, a1, a2, a3, (hm g a3).trans a4, a5⟩
theorem bound (h : AnyR w lo ok v l) : AnyR w lo (fun k => ok k ∧ lo ≤ k ∧ k < w.heap.size ∧ ∃ q, q ∈ [9] ∧ ∃ cells, w.heap[k]? = some (.cells cells q (0, 0))) v l := by
  obtain ⟨A, c, e, h1, h2, h3⟩ := h
  refine ⟨A, c, e, h1, h2, ?_⟩
  rcases h3 with h3 | ⟨g, off, cs, a1, a2, a3, a4, a5⟩
  · exact .inl h3
  · exact .inr ⟨g, off, cs, a1, a2, ⟨a3, a2, blk_lt a4, 9, List.mem_singleton.2 rfl, cs, a4⟩, a4, a5⟩
theorem step (h : AnyR w lo ok v l) (hm : ∀ k, ok k → k < w.heap.size → w1.heap[k]? = w.heap[k]?) : AnyR w1 lo ok v l :=
  ((h.bound).move (fun k hk => hm k hk.1 hk.2.2.1)).mono (fun _ hk => hk.1)
theorem kp {S : Nat → Prop} (h : AnyR w lo ok v l) (hk : Kp S w w1) (hn : ∀ k, ok k → ¬ S k) : AnyR w1 lo ok v l := h.step (fun k ho hlt => hk.block k hlt (hn k ho))
theorem one (h : AnyR w lo ok v l) : v.oneCell' = true := by
  obtain ⟨A, c, rfl, _⟩ := h
  rfl
theorem reads (h : AnyR w lo ok v l) : ∃ A c, v = .slice A l.length c ∧ RdS w A c l := by
  obtain ⟨A, c, e, h1, h2, h3⟩ := h
  refine ⟨A, c, e, ⟨rfl, Nat.le_trans h1 h2, ?_⟩, h1⟩
  intro hpos
  rcases h3 with h3 | ⟨g, off, cs, a1, a2, a3, a4, a5⟩
  · subst h3; simp at hpos
  · refine ⟨_, a1, fun j hj => ?_⟩
    rw [show (⟨g, off, none⟩ : Addr).add j = ⟨g, off + j, none⟩ from by unfold Addr.add; split <;> simp_all]
    rw [blk_cell a4, a5 j hj]
theorem ofStrs {base : Nat} (h : Strs w base v l) : AnyR w base (fun k => base ≤ k) v l := by
  rcases h.2 with ⟨rfl, hz⟩ | ⟨g, cap, cur, rfl, hb, hh, hc, hm, hz, ht⟩
  · have : l = [] := List.eq_nil_of_length_eq_zero hz
    subst this
    exact nil _ _ _
  · refine ⟨_, cap, rfl, hc, hm, .inr ⟨g, 0, cur, rfl, hb, hb, hh, fun j hj => ?_⟩⟩
    have := (h.cells (g := g) rfl j (.string (l.getD j ⟨#[]⟩)) (by simp [encs, List.getD_eq_getElem?_getD, List.getElem?_eq_getElem hj]))
    rw [add_plain, blk_cell hh] at this
    rw [Nat.zero_add]
    exact this
end AnyR

/-- The kind of a node. -/
def kN : Kd Nd where
  sz := 9
  E := [9]
  K w n cs := ∃ A c, cs = (n.cells (.slice A n.any.length c)).toList ∧ RdS w A c n.any
  M w base ok n cs := ∃ av, cs = (n.cells av).toList ∧ AnyR w base ok av n.any
  K_len := by
    rintro w x cs ⟨A, c, rfl, _⟩
    rfl
  K_one := by
    rintro w x cs ⟨A, c, rfl, _⟩
    intro u hu
    simp only [Nd.cells, List.mem_cons, List.mem_nil_iff, or_false] at hu
    rcases hu with rfl | rfl | rfl | rfl | rfl | rfl | rfl | rfl | rfl <;> rfl
  K_below := by
    rintro w w1 x cs hb ⟨A, c, e, h⟩
    exact ⟨A, c, e, h.below hb⟩
  K_of_M := by
    rintro w base ok x cs ⟨av, rfl, h⟩
    obtain ⟨A, c, rfl, hr⟩ := h.reads
    exact ⟨A, c, rfl, hr⟩
  M_mono := by
    rintro w base ok ok' x cs hs ⟨av, e, h⟩
    exact ⟨av, e, h.mono hs⟩
  M_bound := by
    rintro w base ok x cs ⟨av, e, h⟩
    exact ⟨av, e, h.bound⟩
  M_move := by
    rintro w w1 base ok x cs hm ⟨av, e, h⟩
    exact ⟨av, e, h.move hm⟩
  M_lower := by
    rintro w base base' ok x cs hb ⟨av, e, h⟩
    exact ⟨av, e, h.lower hb⟩
theorem infoNode : (Tryd.prog.info? 49).map (fun i => (i.zero, i.size, i.bytes)) = some (some (.agg (Nd.zero.cells (.slice none 0 0))), 9, 128) := by kernel_rfl

/-- A list of nodes that the call owns, all of it from base on. -/
def NS (w : World) (base : Nat) (v : Value) (ns : List Nd) : Prop := kN.R 49 w base (fun k => base ≤ k) v ns
theorem NS.nil (w : World) (base : Nat) : NS w base (.slice none 0 0) [] := Kd.R_nil _ _ _ _ _
theorem NS.kp {S : Nat → Prop} {w w1 : World} {base : Nat} {v : Value} {ns : List Nd} (h : NS w base v ns) (hk : Kp S w w1) (hn : ∀ k, base ≤ k → ¬ S k) : NS w1 base v ns :=
  Kd.R_step h (fun k ho hlt => hk.block k hlt (hn k ho))
theorem NS.drewN {w : World} {base : Nat} {v : Value} {ns : List Nd} (h : NS w base v ns) (n : Nat) : NS (w.drewN n) base v ns := h.kp ((Kp.refl No w).drewN n) (fun _ _ q => q)
/-- What a reader's step may turn: its own block, and what is new from base on. -/
def Own (g base : Nat) : Nat → Prop := fun k => k = g ∨ base ≤ k
theorem One.own {g : Nat} (base : Nat) : ∀ k : Nat, One g k → Own g base k := fun _ h => .inl h
end Go.Proofs.YtieolphpgjpcmaaDoor

namespace Go.Proofs.YtieolphpgjpcmaaDoor
open Go.RowKit Go.Proofs.YtieolphpgjpcmaaDoorW.PrintWords

/-- The reference's table of UTF-8's rows, as the program's variable holds it. -/
def seqT : List (List Int) := [[1, 0, 127, 0, 0, 0, 0, 0, 0], [2, 194, 223, 128, 191, 0, 0, 0, 0], [3, 224, 224, 160, 191, 128, 191, 0, 0], [3, 225, 236, 128, 191, 128, 191, 0, 0], [3, 237, 237, 128, 159, 128, 191, 0, 0], [3, 238, 239, 128, 191, 128, 191, 0, 0], [4, 240, 240, 144, 191, 128, 191, 128, 191], [4, 241, 243, 128, 191, 128, 191, 128, 191], [4, 244, 244, 128, 143, 128, 191, 128, 191]]
def tT (r c : Nat) : Int := (seqT.getD r []).getD c 0
def RowsAt (w : World) : Prop := ∀ r c : Nat, r < 9 → c < 9 → w.cell? ⟨0, r * 9 + c, none⟩ = some (.int .i64 (tT r c))

theorem RowsAt.kp {S : Nat → Prop} {w w1 : World} (h : RowsAt w) (hk : Kp S w w1) (hn : ¬ S 0) : RowsAt w1 := by
  intro r c hr hc
  have h1 := h r c hr hc
  have hlt := World.block_lt_of_cell? _ _ h1
  rw [World.cell?_of_block (w := w) (hk.block _ hlt hn)]
  exact h1
theorem RowsAt.drewN {w : World} (h : RowsAt w) (n : Nat) : RowsAt (w.drewN n) := h
theorem tT_len (r : Nat) (h : r < 9) : 1 ≤ tT r 0 ∧ tT r 0 ≤ 4 := by
  have : ∀ r : Fin 9, 1 ≤ tT r.val 0 ∧ tT r.val 0 ≤ 4 := by decide
  exact this ⟨r, h⟩
/-- Do n bytes from the k-th on lie in the row's ranges? -/
def fitF (s : ByteArray) (i : Int) (r : Nat) : Nat → Nat → Bool
  | 0, _ => true
  | n + 1, k => if bt s (i + k) < tT r (1 + 2 * k) ∨ tT r (2 + 2 * k) < bt s (i + k) then false else fitF s i r n (k + 1)
def fitsB (s : ByteArray) (i : Int) (r : Nat) : Bool := if (s.size : Int) < i + tT r 0 then false else fitF s i r (tT r 0).toNat 0
theorem fitF_bad {s : ByteArray} {i : Int} {r n k : Nat} (h : bt s (i + k) < tT r (1 + 2 * k) ∨ tT r (2 + 2 * k) < bt s (i + k)) : fitF s i r (n + 1) k = false := by simp only [fitF]; rw [if_pos h]
theorem fitF_go {s : ByteArray} {i : Int} {r n k : Nat} (h : ¬ (bt s (i + k) < tT r (1 + 2 * k) ∨ tT r (2 + 2 * k) < bt s (i + k))) : fitF s i r (n + 1) k = fitF s i r n (k + 1) := by simp only [fitF]; rw [if_neg h]

set_option maxHeartbeats 1000000 in
set_option maxRecDepth 100000 in
theorem fits_any (s : ByteArray) (i : Int) (r : Nat) (w : World) (hr : r < 9) (ht : RowsAt w) (h0 : 0 ≤ i) (hi : i ≤ (s.size : Int)) (hl : s.size ≤ LIM) :
    Calls Tryd.prog 66 #[.string s, .int .i64 i, .int .i64 r] w fun e w' => e = .returned (.bool (fitsB s i r)) ∧ w = w' := by
  unfold LIM at hl
  have n1 : w.cell? ⟨0, r * 9, none⟩ = some (.int .i64 (tT r 0)) := ht r 0 hr (by omega)
  have hn := tT_len r hr
  obtain ⟨B, hB⟩ : ∃ B, fitsB s i r = B := ⟨_, rfl⟩
  rw [hB]
  have HT := hd ht
  have HB := hd hB
  clear ht hB
  obtain ⟨m, hm⟩ : ∃ m : Nat, tT r 0 = m := ⟨(tT r 0).toNat, by omega⟩
  rw [hm] at n1 hn
  have HM := hd hm
  clear hm
  by_cases hbig : (s.size : Int) < i + m
  · obtain rfl : false = B := by rw [← HB.out]; unfold fitsB; rw [HM.out, if_pos hbig]
    clear HB
    go_enter Tryd.func66, Tryd.ntmps66
    go_wp2
    go_ret
    exact ⟨rfl, rfl⟩
  · have HF : Hid (fitF s i r m 0 = B) := by
      have := HB.out
      unfold fitsB at this
      rw [HM.out, if_neg hbig] at this
      exact this
    clear HB
    go_enter Tryd.func66, Tryd.ntmps66
    go_wp2
    go_loop [8] (fun q => ∃ k : Nat, k ≤ m ∧ q = .int .i64 k ∧ Hid (fitF s i r (m - k) k = B)) (fun q => m - (intOf q).toNat)
    case atStart => exact ⟨0, Nat.zero_le _, rfl, HF⟩
    case round =>
      clear HF
      obtain ⟨k, hk, rfl, HF⟩ := hrel
      by_cases hlt : k < m
      · have n2 : w.cell? ⟨0, r * 9 + (1 + 2 * k), none⟩ = some (.int .i64 (tT r (1 + 2 * k))) := HT.out r _ hr (by omega)
        have n3 : w.cell? ⟨0, r * 9 + (2 + 2 * k), none⟩ = some (.int .i64 (tT r (2 + 2 * k))) := HT.out r _ hr (by omega)
        have hx := bt_at s (i + k)
        have hb := bt_range s (i + k)
        have HG : Hid (fitF s i r (m - k - 1 + 1) k = B) := by have := HF.out; rwa [show m - k = m - k - 1 + 1 from by omega] at this
        clear HF
        have p1 : 0 ≤ i + (k : Int) := by omega
        have p2 : i + (k : Int) < (s.size : Int) := by omega
        replace p1 := eq_true p1
        replace p2 := eq_true p2
        go_wp2
        all_goals
          first
          | (have e : bt s (i + k) < tT r (1 + 2 * k) := by assumption
             have e2 := fitF_bad (n := m - k - 1) (.inl e)
             rw [HG.out] at e2
             subst e2
             go_ret
             exact ⟨rfl, rfl⟩)
          | (have e : tT r (2 + 2 * k) < bt s (i + k) := by omega
             have e2 := fitF_bad (i := i) (s := s) (k := k) (r := r) (n := m - k - 1) (Or.inr e)
             rw [HG.out] at e2
             subst e2
             go_ret
             exact ⟨rfl, rfl⟩)
          | (have e1 : ¬ bt s (i + k) < tT r (1 + 2 * k) := by omega
             have e2 : ¬ tT r (2 + 2 * k) < bt s (i + k) := by omega
             have e3 := fitF_go (n := m - k - 1) (fun q => q.elim e1 e2)
             rw [HG.out] at e3
             refine ⟨⟨k + 1, by omega, by go_num, hd ?_⟩, by simp [intOf]; omega⟩
             rw [show m - (k + 1) = m - k - 1 from by omega]
             exact e3.symm)
      · obtain rfl : k = m := by omega
        obtain rfl : true = B := by have := HF.out; rw [Nat.sub_self] at this; exact this
        go_wp2
        go_ret
        exact ⟨rfl, rfl⟩

/-- How many bytes the sequence has that begins at i; 0: none does. From row r on. -/
def seqF (s : ByteArray) (i : Int) : Nat → Nat → Int
  | 0, _ => 0
  | n + 1, r => if fitsB s i r = true then tT r 0 else seqF s i n (r + 1)
def seqN (s : ByteArray) (i : Int) : Int := seqF s i 9 0
set_option maxHeartbeats 1000000 in
set_option maxRecDepth 100000 in
theorem seq_any (s : ByteArray) (i : Int) (w : World) (ht : RowsAt w) (h0 : 0 ≤ i) (hi : i ≤ (s.size : Int)) (hl : s.size ≤ LIM) :
    Calls Tryd.prog 54 #[.string s, .int .i64 i] w fun e w' => e = .returned (.int .i64 (seqN s i)) ∧ w = w' := by
  obtain ⟨B, hB⟩ : ∃ B, seqN s i = B := ⟨_, rfl⟩
  rw [hB]
  have HT := hd ht
  have HB := hd hB
  clear ht hB
  go_enter Tryd.func54, Tryd.ntmps54
  go_wp2
  go_loop [5] (fun q => ∃ k : Nat, k ≤ 9 ∧ q = .int .i64 k ∧ Hid (seqF s i (9 - k) k = B)) (fun q => 9 - (intOf q).toNat)
  case atStart => exact ⟨0, Nat.zero_le _, rfl, HB⟩
  case round =>
    clear HB
    obtain ⟨k, hk, rfl, HF⟩ := hrel
    by_cases hlt : k < 9
    · have n2 : w.cell? ⟨0, k * 9, none⟩ = some (.int .i64 (tT k 0)) := HT.out k 0 hlt (by omega)
      have HG : Hid (seqF s i (9 - k - 1 + 1) k = B) := by have := HF.out; rwa [show 9 - k = 9 - k - 1 + 1 from by omega] at this
      clear HF
      by_cases hf : fitsB s i k = true
      · have e : tT k 0 = B := by have := HG.out; simp only [seqF] at this; rwa [if_pos hf] at this
        subst e
        have H := hd hf
        clear hf HG
        go_wp2_with (go_at_call 66; refine (fits_any s i k _ hlt HT.out h0 hi hl).mono ?_; rintro e w' ⟨rfl, rfl⟩; rw [H.out])
        go_ret
        exact ⟨rfl, rfl⟩
      · have e : seqF s i (9 - k - 1) (k + 1) = B := by have := HG.out; simp only [seqF] at this; rwa [if_neg hf] at this
        have H := hd (Bool.eq_false_iff.2 hf)
        have HE := hd e
        clear hf HG e
        go_wp2_with (go_at_call 66; refine (fits_any s i k _ hlt HT.out h0 hi hl).mono ?_; rintro e w' ⟨rfl, rfl⟩; rw [H.out])
        go_round
        case rel => exact ⟨k + 1, by omega, by go_num, by have := HE.out; rwa [show 9 - (k + 1) = 9 - k - 1 from by omega]⟩
        case measure => simp [intOf]; omega
    · obtain rfl : k = 9 := by omega
      obtain rfl : 0 = B := HF.out
      go_wp2
      go_ret
      exact ⟨rfl, rfl⟩
theorem seq_eq (s : ByteArray) (i m : Int) (hm : seqN s i = m) (w : World) (ht : RowsAt w) (h0 : 0 ≤ i) (hi : i ≤ (s.size : Int)) (hl : s.size ≤ LIM) :
    Calls Tryd.prog 54 #[.string s, .int .i64 i] w fun e w' => e = .returned (.int .i64 m) ∧ w = w' := by
  have := seq_any s i w ht h0 hi hl
  rwa [hm] at this
end Go.Proofs.YtieolphpgjpcmaaDoor
