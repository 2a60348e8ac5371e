/- The row's closed facts (FilterParses: for every text (of bulk at most 1048576), on every tape, from every world that holds the tables that the program lays, the law returns true and leaves its argument as it was. The card: its listed variables tied to the program's text): the tables out of the row, the witness. -/
import Derived.Test.YtieolphpgjpcmaaDoorCards
import Derived.Test.YtieolphpgjpcmaaDoorTie
import Derived.WalkKit
import Derived.ProofKit
import Derived.OpenShut
import Derived.Deep.DeepHandedRow
import Derived.Lib.LaidU8
import Derived.LaidMore
import Derived.Lay
import Derived.Shelf.Vars
import Derived.SevenTiedAt
import Derived.Test.YtieolphpgjpcmaaDoorM06

namespace Go.Proofs.YtieolphpgjpcmaaDoor
namespace RowP
open Go.ChangeShapes Go.WideShapes Go.ChangeAt Go.RowKit
open Go.ChangeMaps (open_string shut_string)
set_option maxRecDepth 100000

theorem own : ownKnob Tryd.prog.godebug = none := by kernel_rfl
theorem cInt : Tryd.prog.cellsOf 3 = 1 := by kernel_rfl
theorem c9 : Tryd.prog.cellsOf 102 = 9 := by kernel_rfl
theorem c99 : Tryd.prog.cellsOf 103 = 81 := by kernel_rfl
theorem gRows : Tryd.prog.globalNamed "roster/rosterref01.rows" = some 0 := by kernel_rfl
theorem tRows : (Tryd.prog.globals[0]?).map (·.type) = some 103 := by kernel_rfl
theorem uU8 : Tryd.prog.cellsOf 5 = 1 := by kernel_rfl
theorem extra : U8Extra Tryd.prog Tryd.lays260_ren := ⟨by kernel_rfl, by kernel_rfl, by kernel_rfl, by kernel_rfl, by kernel_rfl, by kernel_rfl, by kernel_rfl⟩
theorem dRows : Rows.laid_roster_rosterref01_rows (H := Unit) = .agg ((List.range 9).map fun r => .agg ((seqT.getD r []).map fun z => .lit (.int .i64 z))) := by kernel_rfl
theorem dAcc : Rows.laid_unicode_utf8_acceptRanges (H := Unit) = Lib.acceptData := by kernel_rfl
theorem dFirst : Rows.laid_unicode_utf8_first = Lib.firstData := by kernel_rfl
theorem seqT_len : ((List.range 9).all fun r => (seqT.getD r []).length == 9) = true := by kernel_rfl

theorem rows_of_reads {w : World} (h : Lib.VarReads Tryd.prog w "roster/rosterref01.rows" Rows.laid_roster_rosterref01_rows) : RowsAt w := by
  obtain ⟨g, t, cs, fuel, p, hg, hty, hvar, hd⟩ := h
  obtain rfl := Option.some.inj (gRows.symm.trans hg)
  obtain rfl := Option.some.inj (tRows.symm.trans hty)
  rw [dRows] at hd
  intro r c hr hc
  obtain ⟨fuel', d, q, hdi, he⟩ := Lib.array_elem Tryd.underlying103 hd r hr
  simp only [List.getElem?_map, List.getElem?_range hr, Option.map_some, Option.some.injEq] at hdi
  subst hdi
  rw [c9] at he
  have hcs := Lib.cells_of_tab (zs := seqT.getD r []) Tryd.underlying102 Tryd.underlying3 cInt c9 he
  have hl : (seqT.getD r []).length = 9 := by
    have := List.all_eq_true.1 seqT_len r (List.mem_range.2 hr)
    exact beq_iff_eq.1 this
  have e0 := congrArg (·[c]?) hcs
  simp only [List.getElem?_take, List.getElem?_drop, hc, if_pos, List.getElem?_map] at e0
  rw [World.var?_cell hg hvar (r * 9 + c), ← Array.getElem?_toList, e0, List.getElem?_eq_getElem (by omega)]
  simp [tT, List.getD, List.getElem?_eq_getElem (show c < (seqT[r]?.getD []).length from by simpa [List.getD] using (by omega : c < (seqT.getD r []).length))]

theorem tabs {W : World} (h : laidMetH Tryd.prog Rows.filterParsesUptoRow.laid W) (hsh : W.ShapedOpen Tryd.prog) : Tabs W := by
  have hr : laidMet Tryd.prog Rows.filterParsesUptoRow.laid W := h
  refine ⟨rows_of_reads (Lib.laidMet.reads hr (by simp [Rows.filterParsesUptoRow])), utf8Tabs_of_reads Tryd.lays260 extra ?_ ?_, ?_⟩
  · rw [← dFirst]; exact Lib.laidMet.reads hr (by simp [Rows.filterParsesUptoRow])
  · rw [← dAcc]; exact Lib.laidMet.reads hr (by simp [Rows.filterParsesUptoRow])
  · exact cell_of_shapedOpen_int (P := Tryd.prog) (g := 3) (t := 3) (zero := #[.int .i64 0]) hsh (of_decide_eq_true (by kernel_rfl)) (by kernel_rfl) rfl (by kernel_rfl) (by kernel_rfl) Tryd.underlying3

/-- A world for the witness: the tables laid, the argument an empty text. -/
noncomputable abbrev laidWorld (os : Os) : World := World.laidAll Tryd.prog os Rows.filterParsesUptoRow.laid
theorem laid_met (os : Os) : laidMetH Tryd.prog Rows.filterParsesUptoRow.laid ((laidWorld os).forCall (fun _ _ => 0) ⟨#[], #[.string ⟨#[]⟩], []⟩).memory :=
  laidMet_laidAll _ (by kernel_rfl) (by kernel_rfl)
theorem reads (os : Os) {H : Type} (enc : TypeId × Value → H) : ∃ places, DataW.whole enc Tryd.prog ((laidWorld os).forCall (fun _ _ => 0) ⟨#[], #[.string ⟨#[]⟩], []⟩).memory Tryd.f3.params.toList Rows.filterParsesSpec.vars false #[Value.string ⟨#[]⟩].toList 8 = some ([.lit (.string [])], [], places) :=
  ⟨[], by kernel_rfl⟩
theorem pre (os : Os) {H : Type} (enc : TypeId × Value → H) : (Rows.OpenSpec.upto Rows.filterParsesSpec).preRow enc Tryd.prog Tryd.f3 Rows.filterParsesUptoRow.domain false Rows.filterParsesUptoRow.laid ((laidWorld os).forCall (fun _ _ => 0) ⟨#[], #[.string ⟨#[]⟩], []⟩).memory #[.string ⟨#[]⟩] := by
  obtain ⟨places, hx⟩ := reads os enc
  exact OpenSpec.preRow_of_cond 8 hx (by kernel_rfl) (fun k hk => by cases hk; kernel_rfl) (by kernel_rfl) (laid_met os)
theorem witness (os : Os) {H : Type} (enc : TypeId × Value → H) : ∃ (w : World) (tape : Tape) (i : Input), w.os = os ∧ (w.forCall tape i).Shaped Tryd.checked.prog ∧ i.vars = [] ∧ Input.okWide Tryd.checked.prog (w.forCall tape i) .any w.heap.size 3 i ∧
    (Rows.OpenSpec.upto Rows.filterParsesSpec).preRow enc Tryd.checked.prog Tryd.f3 Rows.filterParsesUptoRow.domain false Rows.filterParsesUptoRow.laid (w.forCall tape i).memory i.args ∧ ({ } : Assume).holds Tryd.checked.prog (lone (Frame.enter Tryd.checked.prog 3 i.args .normal) [] (w.forCall tape i)) := by
  have hok : Input.okWideB Tryd.checked.prog ((laidWorld os).forCall (fun _ _ => 0) ⟨#[], #[.string ⟨#[]⟩], []⟩) 3 ⟨#[], #[.string ⟨#[]⟩], []⟩ = true := by kernel_rfl
  refine ⟨laidWorld os, fun _ _ => 0, ⟨#[], #[.string ⟨#[]⟩], []⟩, World.laidAll_os _ _ _, World.shaped_of_ZipB (by kernel_rfl) (by kernel_rfl), (Input.okWide_of_okWideB (base := 0) hok).1, (Input.okWide_of_okWideB hok).2, pre os enc, ?_⟩
  simp only [Assume.holds]
  exact ⟨by simp, by simp, by simp, by simp, by simp⟩

theorem plain (f : FuncId) (fn : Func) (hf : Tryd.pinned.checked.prog.funcNamed "roster/rosterlaw12.FilterParses" = some f) (hfn : Tryd.pinned.checked.prog.funcs[f]? = some fn) :
    true = Tryd.pinned.checked.prog.looks [] ∧ ∀ (j : Nat) t, fn.params[j]? = some t → Tryd.pinned.checked.prog.wantsStandIn t = false := by
  obtain rfl : f = 3 := Option.some.inj ((show Tryd.prog.funcNamed "roster/rosterlaw12.FilterParses" = some 3 by kernel_rfl).symm.trans hf) |>.symm
  obtain rfl : fn = Tryd.f3 := (Option.some.inj (Tryd.func3.symm.trans hfn)).symm
  refine ⟨by kernel_rfl, fun j t ht => ?_⟩
  rw [Tryd.params3] at ht
  obtain rfl : t = 9 := by simpa using Array.mem_of_getElem? ht
  exact (show Tryd.prog.wantsStandIn 9 = false by kernel_rfl)

end RowP
end Go.Proofs.YtieolphpgjpcmaaDoor
