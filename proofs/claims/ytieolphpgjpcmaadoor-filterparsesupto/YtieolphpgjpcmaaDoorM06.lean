/- The contracts of library functions (the plain text that shelf.sh writes). | The tables that lie in package variables: what is kept of them; Go's decoder against the reference's sequences. | filter.digit. -/
import Derived.Test.YtieolphpgjpcmaaDoorFPlain
import Derived.Test.YtieolphpgjpcmaaDoorM01
import Derived.Test.YtieolphpgjpcmaaDoorM02
import Derived.Test.YtieolphpgjpcmaaDoorM03



namespace Go.Proofs.YtieolphpgjpcmaaDoor
open Go.RowKit Go.Proofs.YtieolphpgjpcmaaDoorW.PrintWords

/-- The last of the variables that are read. -/
def gTop : Nat := max (max 0 1) (max 2 3)
structure Tabs (w : World) : Prop where
  rows : RowsAt w
  utf : Lib.Utf8Tabs 1 2 w
  mx : ∃ m : Int, w.cell? ⟨3, 0, none⟩ = some (.int .i64 m)
theorem Tabs.kp {S : Nat → Prop} {w w1 : World} (h : Tabs w) (hk : Kp S w w1) (hn : ∀ k, k ≤ gTop → ¬ S k) : Tabs w1 := by
  obtain ⟨m, hm⟩ := h.mx
  exact ⟨h.rows.kp hk (hn 0 (by decide)), ⟨fun c hc => hk.cell (h.utf.1 c hc) (hn 1 (by decide)), fun i hi => ⟨hk.cell (h.utf.2 i hi).1 (hn 2 (by decide)), hk.cell (h.utf.2 i hi).2 (hn 2 (by decide))⟩⟩, m, hk.cell hm (hn 3 (by decide))⟩
theorem Tabs.one {g : Nat} {w w1 : World} (h : Tabs w) (hk : Kp (One g) w w1) (hg : gTop < g) : Tabs w1 := h.kp hk (fun k hl q => by have q' : k = g := q; omega)
theorem Tabs.no {w w1 : World} (h : Tabs w) (hk : Kp No w w1) : Tabs w1 := h.kp hk (fun _ _ q => q)
theorem Tabs.top {w : World} (h : Tabs w) : gTop < w.heap.size := by
  obtain ⟨m, hm⟩ := h.mx
  have h0 := World.block_lt_of_cell? _ _ (h.rows 0 0 (by omega) (by omega))
  have h1 := World.block_lt_of_cell? _ _ (h.utf.1 0 (by omega))
  have h2 := World.block_lt_of_cell? _ _ (h.utf.2 0 (by omega)).1
  have h3 := World.block_lt_of_cell? _ _ hm
  simp only at h0 h1 h2 h3
  unfold gTop
  omega
theorem pdec (s : ByteArray) (j m : Int) (hm : seqN s j = m) (h0 : 0 ≤ j) (hj : j < (s.size : Int)) :
    ∃ d1 d2 : Int, (∀ W, Tabs W → Calls Tryd.prog 46 #[.string (s.extract j.toNat s.size)] W fun e w' => e = .returned (.tuple #[.int .i32 d1, .int .i64 d2]) ∧ Kp No W w') ∧
      ((m = 0 ∧ d1 = 65533 ∧ d2 = 1) ∨ (1 ≤ m ∧ m ≤ 4 ∧ j + m ≤ (s.size : Int) ∧ d2 = m ∧ ¬ (d1 = 65533 ∧ d2 < 2))) := by
  have hsq := decode_seq s j.toNat (by omega)
  rw [Int.toNat_of_nonneg h0, hm] at hsq
  refine ⟨(Lib.decodeGo (s.extract j.toNat s.size)).1, (Lib.decodeGo (s.extract j.toNat s.size)).2, fun W hT => ?_, ?_⟩
  · exact (Tryd.utf8_DecodeRuneInString (s.extract j.toNat s.size) W hT.utf).mono fun e w' ⟨a, b⟩ => ⟨a, Kp.ofBelow b _⟩
  · rcases hsq with ⟨a, b⟩ | ⟨a, b, c, d, e⟩
    · refine .inl ⟨a, ?_, ?_⟩
      · rw [b]; rfl
      · rw [b]; rfl
    · exact .inr ⟨a, b, c, d.symm, fun q => e ⟨by omega, by omega⟩⟩
end Go.Proofs.YtieolphpgjpcmaaDoor

namespace Go.Proofs.YtieolphpgjpcmaaDoor
open Go.RowKit Go.Proofs.YtieolphpgjpcmaaDoorW.PrintWords

def hexTab : List UInt8 := [48, 49, 50, 51, 52, 53, 54, 55, 56, 57, 97, 98, 99, 100, 101, 102]
theorem digit_all : ∀ n : Fin 256, 0 < (foldS (Utf8.encode (n.val : Int))).size ∧ Lib.indexByte hexTab ((bt (foldS (Utf8.encode (n.val : Int))) 0).toNat.toUInt8) = hexv (n.val : Int) := by decide +kernel
theorem encode_short : ∀ n : Fin 256, (Utf8.encode (n.val : Int)).size ≤ 4 := by decide +kernel
set_option maxHeartbeats 4000000 in
theorem pdigit_any (c : Int) (w : World) (h0 : 0 ≤ c) (h1 : c < 256) :
    Calls Tryd.prog 62 #[.int .u8 c] w fun e w' => e = .returned (.int .i64 (hexv c)) ∧ Kp No w w' := by
  have hA := digit_all ⟨c.toNat, by omega⟩
  have hS := encode_short ⟨c.toNat, by omega⟩
  simp only [Int.toNat_of_nonneg h0] at hA hS
  have cF := hd (tfold_any (Utf8.encode c) w (by unfold LIM; omega))
  have hz0 := hA.1
  have HA : Hid (Lib.indexByte hexTab ((foldS (Utf8.encode c))[0]'hz0) = hexv c) := hd (by
    have h2 := hA.2
    rw [← bt_at (foldS (Utf8.encode c)) 0 hz0] at h2
    simpa using h2)
  have hz := eq_true hz0
  clear hA hS
  go_enter Tryd.func62, Tryd.ntmps62
  go_wp2_with (fail)
  refine cF.out.mono ?_
  rintro e w1 ⟨rfl, hk1⟩
  go_wp2_with (fail)
  refine (Tryd.strings_IndexByte _ _ _).mono ?_
  rintro e w2 ⟨rfl, rfl⟩
  go_wp2
  go_ret
  exact ⟨ret_int HA.out, hk1⟩
end Go.Proofs.YtieolphpgjpcmaaDoor
