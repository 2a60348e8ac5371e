/- attr.Parse: its parts: the pieces of a description, the map of its options. -/
import Derived.Test.YtieolphpgjpcmaaDoorMFAttrS
import Derived.Test.YtieolphpgjpcmaaDoorM06
import Derived.Test.YtieolphpgjpcmaaDoorM01
import Derived.Lib.SplitLaws
import Derived.Maps.Views
import Derived.Maps.OwnOps
import Derived.Maps.RangeWalk
import Derived.Sort.KeysCollected
import Derived.Sort.OwnSorted
import Derived.Shelf.Slices.In.SortNone2

namespace Go.Proofs.YtieolphpgjpcmaaDoor
open Go.RowKit Go.Proofs.YtieolphpgjpcmaaDoorW.PrintWords

def semi : ByteArray := ⟨#[59]⟩
def splitS (s : ByteArray) : List ByteArray := Lib.splitB semi 0 (Lib.countB s semi) s
theorem splitS_len (s : ByteArray) : (splitS s).length = Lib.countB s semi + 1 := Lib.splitB_all semi (by decide) 0 _ s rfl
theorem splitS_count (s : ByteArray) : Lib.countB s semi ≤ s.size := Lib.countB_le semi (by decide) s.size s (Nat.le_refl _)
theorem splitB_size (sep : ByteArray) : ∀ (k : Nat) (s : ByteArray), ∀ x ∈ Lib.splitB sep 0 k s, x.size ≤ s.size := by
  intro k
  induction k with
  | zero => intro s x hx; simp only [Lib.splitB, List.mem_singleton] at hx; subst hx; exact Nat.le_refl _
  | succ k ih =>
    intro s x hx
    unfold Lib.splitB at hx
    split at hx
    · simp only [List.mem_singleton] at hx; subst hx; exact Nat.le_refl _
    · rcases List.mem_cons.1 hx with rfl | hx
      · rw [ByteArray.size_extract]; omega
      · have := ih _ x hx
        rw [ByteArray.size_extract] at this
        omega
theorem splitS_size (s : ByteArray) (k : Nat) : ((splitS s).getD k ⟨#[]⟩).size ≤ s.size := by
  rw [List.getD_eq_getElem?_getD]
  rcases Nat.lt_or_ge k (splitS s).length with h | h
  · rw [List.getElem?_eq_getElem h]
    exact splitB_size _ _ _ _ (List.getElem_mem h)
  · rw [List.getElem?_eq_none h]
    exact Nat.zero_le _
theorem asplit_any (s : ByteArray) (w : World) (hT : Tabs w) (hl : s.size ≤ LIM) (ps : List ByteArray) (hps : splitS s = ps) :
    Calls Tryd.prog 41 #[.string s, .string semi] w fun e w' => e = .returned (.slice (some ⟨w.heap.size, 0, none⟩) ps.length ps.length) ∧ Blk w' w.heap.size (ps.map Value.string).toArray 9 ∧ Kp No w w' := by
  obtain ⟨m, hm⟩ := hT.mx
  unfold LIM at hl
  refine (Tryd.strings_Split s semi m w (by omega) hm (by decide)).mono ?_
  rintro e w' ⟨rfl, rfl⟩
  have hln := splitS_len s
  subst hps
  refine ⟨by rw [hln], Blk.new _ _ _, (Kp.refl _ _).alloc _⟩
theorem run_clear_map {P : Program} {w : World} {r : Nat} {es : Array MapEntry} {clock : Nat} {mty kt et : TypeId} (hm : P.underlying mty = some (.map kt et)) (hb : w.heap[r]? = some (.map es clock)) :
    ∃ w', (∀ ty, (Builtin.clear_ #[mty] ty #[.map (some r)]).run P w = .ok (.tuple #[]) w') ∧ w.grownBy w' (some r) := by
  refine ⟨{ w with heap := w.heap.setIfInBounds r (.map #[] clock) }, fun ty => ?_, rfl, rfl, rfl, by simp, fun k hk hne => ?_⟩
  · simp [Builtin.clear_, run_underlying hm, MapKept.run_getObj_map hb, MapKept.run_setObj_map _ hb, Result.andThen]
  · have : r ≠ k := fun e => hne (by rw [e])
    simp [this]
/-- The keys of a map of texts: those of l. -/
def KeysAre (D : DataW Unit) (l : List (List UInt8)) : Prop := Maps.IsMap D ∧ ∀ x, Maps.has D (.string x) = true ↔ x ∈ l
theorem KeysAre.nil : KeysAre (.map []) [] := ⟨Maps.isMap_empty, fun x => by simp [Maps.has_eq]⟩
theorem KeysAre.put {D : DataW Unit} {l : List (List UInt8)} (h : KeysAre D l) (y : List UInt8) (d : DataW Unit) : KeysAre (D.put (.string y) d) (l ++ [y]) := by
  obtain ⟨es, rfl⟩ := h.1
  refine ⟨⟨_, rfl⟩, fun x => ?_⟩
  by_cases e : x = y
  · subst e
    rw [Maps.has_put_same h.1 (by simp [WideAt.IsKeyLit])]
    simp
  · rw [Maps.has_put_other (fun q => e (by injection q)), h.2 x]
    simp [e]
def optsOf (ps : List ByteArray) : List (List UInt8) := (ps.drop 1).map fun o => (foldS o).data.toList
/-- The options of a description, as they are handed back: rising, none twice. -/
structure OptsOk (l : List (List UInt8)) (os : List (List UInt8)) : Prop where
  nodup : os.Nodup
  sorted : os.Pairwise (· ≤ ·)
  mem : ∀ x, x ∈ os ↔ x ∈ l
open Go.Sort in
theorem optsOk_of {l ss : List (List UInt8)} (hn : ss.Nodup) (hm : ∀ x, x ∈ ss ↔ x ∈ l) : OptsOk l (ss.mergeSort fun x y => decide (x ≤ y)) := by
  have tr : ∀ a b c : List UInt8, leB a b = true → leB b c = true → leB a c = true := fun a b c h1 h2 => by simp only [leB, decide_eq_true_eq] at *; exact List.le_trans h1 h2
  have tot : ∀ a b : List UInt8, (leB a b || leB b a) = true := fun a b => by simp only [leB, Bool.or_eq_true, decide_eq_true_eq]; exact List.le_total a b
  refine ⟨(List.mergeSort_perm ss leB).nodup_iff.2 hn, ?_, fun x => ((List.mergeSort_perm ss leB).mem_iff).trans (hm x)⟩
  have := List.pairwise_mergeSort tr tot ss
  exact this.imp (fun h => by simpa [leB] using h)
theorem grown_set (w : World) (p : Addr) (u : Value) : w.grownBy (w.setCell p u) (some p.block) :=
  ⟨rfl, rfl, rfl, by simp [World.setCell], fun i _ hne => Below.heap_setCell _ _ _ _ (fun e => hne (by rw [e]))⟩
theorem grown_drew (w : World) (row : Option Nat) : w.grownBy w.drew row := ⟨rfl, rfl, rfl, Nat.le_refl _, fun _ _ _ => rfl⟩
open Go.Sort in
theorem asort_any (w : World) (base : Nat) (A : Option Addr) (c : Nat) (ss : List (List UInt8)) (h : w.ownsRow base 9 1 (.slice A ss.length c) ss.length (ss.map encStr)) (hl : ss.length ≤ LIM) :
    Calls Tryd.prog 44 #[.slice A ss.length c] w fun e w' => e = .returned (.tuple #[]) ∧ w'.ownsRow base 9 1 (.slice A ss.length c) ss.length ((ss.mergeSort fun x y => decide (x ≤ y)).map encStr) ∧ w.grownBy w' (Value.slice A ss.length c).ownBlock := by
  rcases h.2 with ⟨hnil, hz⟩ | ⟨g, cap, cur, hv, hbase, hb, h1, h2, h3, h4⟩
  · injection hnil with e1 e2 e3
    subst e1 e3
    have e4 : ss = [] := List.eq_nil_of_length_eq_zero e2
    subst e4
    refine (show Calls Tryd.prog 44 #[.slice none 0 0] w (fun e w' => e = .returned (.tuple #[]) ∧ w' = w) from Any.sort_Strings_none Tryd.lays192 none 0 w).mono ?_
    rintro e w' ⟨rfl, rfl⟩
    exact ⟨rfl, by simpa using h, ⟨rfl, rfl, rfl, Nat.le_refl _, fun _ _ _ => rfl⟩⟩
  · injection hv with e1 e2 e3
    subst e1 e3
    have hH : Holds encStr w g 0 ss.toArray := holds_of_block hb (by simpa using h4)
    refine (Tryd.sort_Strings g 0 c ss w hH (Array.getElem?_eq_some_iff.1 hb).1 (by unfold LIM at hl; omega)).mono ?_
    rintro e w' ⟨rfl, nn, os, rfl⟩
    exact ⟨rfl, ownsRow_sorted (by simp) hbase hb h1 h2 h3, grownBy_sorted _⟩
end Go.Proofs.YtieolphpgjpcmaaDoor
