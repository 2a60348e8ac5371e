/- The two decoders of UTF-8 agree: Go's own and the reference's table of rows; no program here. | A value's reading, as a plain function. | rosterref12.Reader: hexAt. | rosterref12.Reader: value. | rosterref12.Reader: value behind a fault; only. | rosterref12.Reader: equal. -/
import Derived.Test.YtieolphpgjpcmaaDoorM01
import Derived.Shelf.Unicode.DecodeSlow
import Derived.Lib.IndexBytes
import Derived.StillTailTactics
import Derived.IntWalk
import Derived.Deep.RegionLaw
import Derived.Laws.Rows

namespace Go.Proofs.YtieolphpgjpcmaaDoor
open Go.RowKit Go.Proofs.YtieolphpgjpcmaaDoorW.PrintWords

def seqM (n b0 b1 b2 b3 : Int) : Int :=
  if b0 ≤ 127 then 1
  else if 2 ≤ n ∧ 194 ≤ b0 ∧ b0 ≤ 223 ∧ 128 ≤ b1 ∧ b1 ≤ 191 then 2
  else if 3 ≤ n ∧ b0 = 224 ∧ 160 ≤ b1 ∧ b1 ≤ 191 ∧ 128 ≤ b2 ∧ b2 ≤ 191 then 3
  else if 3 ≤ n ∧ 225 ≤ b0 ∧ b0 ≤ 236 ∧ 128 ≤ b1 ∧ b1 ≤ 191 ∧ 128 ≤ b2 ∧ b2 ≤ 191 then 3
  else if 3 ≤ n ∧ b0 = 237 ∧ 128 ≤ b1 ∧ b1 ≤ 159 ∧ 128 ≤ b2 ∧ b2 ≤ 191 then 3
  else if 3 ≤ n ∧ 238 ≤ b0 ∧ b0 ≤ 239 ∧ 128 ≤ b1 ∧ b1 ≤ 191 ∧ 128 ≤ b2 ∧ b2 ≤ 191 then 3
  else if 4 ≤ n ∧ b0 = 240 ∧ 144 ≤ b1 ∧ b1 ≤ 191 ∧ 128 ≤ b2 ∧ b2 ≤ 191 ∧ 128 ≤ b3 ∧ b3 ≤ 191 then 4
  else if 4 ≤ n ∧ 241 ≤ b0 ∧ b0 ≤ 243 ∧ 128 ≤ b1 ∧ b1 ≤ 191 ∧ 128 ≤ b2 ∧ b2 ≤ 191 ∧ 128 ≤ b3 ∧ b3 ≤ 191 then 4
  else if 4 ≤ n ∧ b0 = 244 ∧ 128 ≤ b1 ∧ b1 ≤ 143 ∧ 128 ≤ b2 ∧ b2 ≤ 191 ∧ 128 ≤ b3 ∧ b3 ≤ 191 then 4
  else 0

theorem seqM_bound (n b0 b1 b2 b3 : Int) (hn : 1 ≤ n) : 0 ≤ seqM n b0 b1 b2 b3 ∧ seqM n b0 b1 b2 b3 ≤ 4 ∧ seqM n b0 b1 b2 b3 ≤ n := by
  unfold seqM
  repeat' split
  all_goals omega
theorem seqM_congr {n b0 b1 b2 b3 c1 c2 c3 : Int} (h1 : 2 ≤ n → b1 = c1) (h2 : 3 ≤ n → b2 = c2) (h3 : 4 ≤ n → b3 = c3) : seqM n b0 b1 b2 b3 = seqM n b0 c1 c2 c3 := by
  unfold seqM
  by_cases a1 : 2 ≤ n
  · rw [h1 a1]
    by_cases a2 : 3 ≤ n
    · rw [h2 a2]
      by_cases a3 : 4 ≤ n
      · rw [h3 a3]
      · simp only [a3, false_and, if_false]
    · simp only [a2, show ¬ 4 ≤ n from by omega, false_and, if_false]
  · simp only [a1, show ¬ 3 ≤ n from by omega, show ¬ 4 ≤ n from by omega, false_and, if_false]
theorem bt_nat' (s : ByteArray) (j : Nat) (h : j < s.size) : bt s j = ((s.data.toList.getD j 0).toNat : Int) := by
  rw [← rd_bytesOf]
  have h' : j < s.data.toList.length := by rw [data_length]; exact h
  simp [rd, bytesOf, List.getD_eq_getElem?_getD, List.getElem?_eq_getElem h']
def Dec (n b0 b1 b2 b3 : Nat) : Prop := (seqM n b0 b1 b2 b3 = 0 ∧ Lib.decodeN n b0 b1 b2 b3 = (65533, 1)) ∨ (seqM n b0 b1 b2 b3 = 1 ∧ Lib.decodeN n b0 b1 b2 b3 = (b0, 1) ∧ b0 < 128) ∨ (2 ≤ seqM n b0 b1 b2 b3 ∧ seqM n b0 b1 b2 b3 = (Lib.decodeN n b0 b1 b2 b3).2)
theorem dec_bad {n b0 b1 b2 b3 : Nat} (hs : seqM n b0 b1 b2 b3 = 0) (hd : Lib.decodeN n b0 b1 b2 b3 = (65533, 1)) : Dec n b0 b1 b2 b3 := .inl ⟨hs, hd⟩
theorem dec_good {n b0 b1 b2 b3 L r : Nat} (hs : seqM n b0 b1 b2 b3 = L) (hd : Lib.decodeN n b0 b1 b2 b3 = (r, L)) (hl : 2 ≤ L) : Dec n b0 b1 b2 b3 := .inr (.inr ⟨by rw [hs]; omega, by rw [hs, hd]⟩)
set_option maxHeartbeats 4000000 in
theorem dec2 (n b0 b1 b2 b3 : Nat) (a1 : b0 / 32 = 6) (h1 : b1 < 256) : Dec n b0 b1 b2 b3 := by
  by_cases c : 1 < n ∧ b1 / 64 = 2
  · by_cases d : 194 ≤ b0
    · refine dec_good (L := 2) (r := b0 % 32 * 64 + b1 % 64) ?_ ?_ (by omega)
      · unfold seqM; rw [if_neg (by omega), if_pos (by omega)]; rfl
      · unfold Lib.decodeN; rw [if_neg (by omega), if_pos ⟨a1, c⟩, if_pos (by omega)]
    · refine dec_bad ?_ ?_
      · unfold seqM; repeat rw [if_neg (by omega)]
      · unfold Lib.decodeN; rw [if_neg (by omega), if_pos ⟨a1, c⟩, if_neg (by omega)]
  · refine dec_bad ?_ ?_
    · unfold seqM; repeat rw [if_neg (by omega)]
    · unfold Lib.decodeN; rw [if_neg (by omega), if_neg (fun q => c q.2), if_neg (by omega), if_neg (by omega)]
set_option maxHeartbeats 4000000 in
theorem dec3 (n b0 b1 b2 b3 : Nat) (a1 : b0 / 16 = 14) (h1 : b1 < 256) (h2 : b2 < 256) : Dec n b0 b1 b2 b3 := by
  by_cases c : (1 < n ∧ b1 / 64 = 2) ∧ (2 < n ∧ b2 / 64 = 2)
  · obtain ⟨v, hv⟩ : ∃ v, b0 % 16 * 4096 + b1 % 64 * 64 + b2 % 64 = v := ⟨_, rfl⟩
    by_cases d : (b0 = 224 ∧ b1 < 160) ∨ (b0 = 237 ∧ 160 ≤ b1)
    · refine dec_bad ?_ ?_
      · unfold seqM; repeat rw [if_neg (by omega)]
      · unfold Lib.decodeN; rw [if_neg (by omega), if_neg (by omega), if_pos ⟨a1, c.1, c.2⟩, hv, if_neg (by omega)]
    · refine dec_good (L := 3) (r := v) ?_ ?_ (by omega)
      · unfold seqM; rw [if_neg (by omega), if_neg (by omega)]
        by_cases x1 : b0 = 224
        · rw [if_pos (by omega)]; rfl
        rw [if_neg (by omega)]
        by_cases x2 : b0 ≤ 236
        · rw [if_pos (by omega)]; rfl
        rw [if_neg (by omega)]
        by_cases x3 : b0 = 237
        · rw [if_pos (by omega)]; rfl
        rw [if_neg (by omega), if_pos (by omega)]; rfl
      · unfold Lib.decodeN; rw [if_neg (by omega), if_neg (by omega), if_pos ⟨a1, c.1, c.2⟩, hv, if_pos (by omega)]
  · refine dec_bad ?_ ?_
    · unfold seqM; repeat rw [if_neg (by omega)]
    · unfold Lib.decodeN; rw [if_neg (by omega), if_neg (by omega), if_neg (fun q => c ⟨q.2.1, q.2.2⟩), if_neg (by omega)]
set_option maxHeartbeats 4000000 in
theorem dec4 (n b0 b1 b2 b3 : Nat) (a1 : b0 / 8 = 30) (h1 : b1 < 256) (h2 : b2 < 256) (h3 : b3 < 256) : Dec n b0 b1 b2 b3 := by
  by_cases c : (1 < n ∧ b1 / 64 = 2) ∧ (2 < n ∧ b2 / 64 = 2) ∧ (3 < n ∧ b3 / 64 = 2)
  · obtain ⟨v, hv⟩ : ∃ v, b0 % 8 * 262144 + b1 % 64 * 4096 + b2 % 64 * 64 + b3 % 64 = v := ⟨_, rfl⟩
    by_cases d : (b0 = 240 ∧ b1 < 144) ∨ (b0 = 244 ∧ 144 ≤ b1) ∨ 245 ≤ b0
    · refine dec_bad ?_ ?_
      · unfold seqM; repeat rw [if_neg (by omega)]
      · unfold Lib.decodeN; rw [if_neg (by omega), if_neg (by omega), if_neg (by omega), if_pos ⟨a1, c.1, c.2.1, c.2.2⟩, hv, if_neg (by omega)]
    · refine dec_good (L := 4) (r := v) ?_ ?_ (by omega)
      · unfold seqM; rw [if_neg (by omega), if_neg (by omega), if_neg (by omega), if_neg (by omega), if_neg (by omega), if_neg (by omega)]
        by_cases x1 : b0 = 240
        · rw [if_pos (by omega)]; rfl
        rw [if_neg (by omega)]
        by_cases x2 : b0 ≤ 243
        · rw [if_pos (by omega)]; rfl
        rw [if_neg (by omega), if_pos (by omega)]; rfl
      · unfold Lib.decodeN; rw [if_neg (by omega), if_neg (by omega), if_neg (by omega), if_pos ⟨a1, c.1, c.2.1, c.2.2⟩, hv, if_pos (by omega)]
  · refine dec_bad ?_ ?_
    · unfold seqM; repeat rw [if_neg (by omega)]
    · unfold Lib.decodeN; rw [if_neg (by omega), if_neg (by omega), if_neg (by omega), if_neg (fun q => c ⟨q.2.1, q.2.2.1, q.2.2.2⟩)]
theorem dec_seqM (n b0 b1 b2 b3 : Nat) (h1 : b1 < 256) (h2 : b2 < 256) (h3 : b3 < 256) : Dec n b0 b1 b2 b3 := by
  by_cases a : b0 < 128
  · exact .inr (.inl ⟨by unfold seqM; rw [if_pos (by omega)], by unfold Lib.decodeN; rw [if_pos a], a⟩)
  by_cases a1 : b0 / 32 = 6
  · exact dec2 n b0 b1 b2 b3 a1 h1
  by_cases a2 : b0 / 16 = 14
  · exact dec3 n b0 b1 b2 b3 a2 h1 h2
  by_cases a3 : b0 / 8 = 30
  · exact dec4 n b0 b1 b2 b3 a3 h1 h2 h3
  · refine dec_bad ?_ ?_
    · unfold seqM; repeat rw [if_neg (by omega)]
    · unfold Lib.decodeN; rw [if_neg a, if_neg (by omega), if_neg (by omega), if_neg (by omega)]

theorem fits_0 (s : ByteArray) (i : Int) : (fitsB s i 0 = true) = (i + 1 ≤ (s.size : Int) ∧ 0 ≤ bt s i ∧ bt s i ≤ 127) := by
  simp [fitsB, fitF, tT, seqT]; try omega
theorem fits_1 (s : ByteArray) (i : Int) : (fitsB s i 1 = true) = (i + 2 ≤ (s.size : Int) ∧ 194 ≤ bt s i ∧ bt s i ≤ 223 ∧ 128 ≤ bt s (i + 1) ∧ bt s (i + 1) ≤ 191) := by
  simp [fitsB, fitF, tT, seqT]; try omega
theorem fits_2 (s : ByteArray) (i : Int) : (fitsB s i 2 = true) = (i + 3 ≤ (s.size : Int) ∧ 224 ≤ bt s i ∧ bt s i ≤ 224 ∧ 160 ≤ bt s (i + 1) ∧ bt s (i + 1) ≤ 191 ∧ 128 ≤ bt s (i + 2) ∧ bt s (i + 2) ≤ 191) := by
  simp [fitsB, fitF, tT, seqT]; try omega
theorem fits_3 (s : ByteArray) (i : Int) : (fitsB s i 3 = true) = (i + 3 ≤ (s.size : Int) ∧ 225 ≤ bt s i ∧ bt s i ≤ 236 ∧ 128 ≤ bt s (i + 1) ∧ bt s (i + 1) ≤ 191 ∧ 128 ≤ bt s (i + 2) ∧ bt s (i + 2) ≤ 191) := by
  simp [fitsB, fitF, tT, seqT]; try omega
theorem fits_4 (s : ByteArray) (i : Int) : (fitsB s i 4 = true) = (i + 3 ≤ (s.size : Int) ∧ 237 ≤ bt s i ∧ bt s i ≤ 237 ∧ 128 ≤ bt s (i + 1) ∧ bt s (i + 1) ≤ 159 ∧ 128 ≤ bt s (i + 2) ∧ bt s (i + 2) ≤ 191) := by
  simp [fitsB, fitF, tT, seqT]; try omega
theorem fits_5 (s : ByteArray) (i : Int) : (fitsB s i 5 = true) = (i + 3 ≤ (s.size : Int) ∧ 238 ≤ bt s i ∧ bt s i ≤ 239 ∧ 128 ≤ bt s (i + 1) ∧ bt s (i + 1) ≤ 191 ∧ 128 ≤ bt s (i + 2) ∧ bt s (i + 2) ≤ 191) := by
  simp [fitsB, fitF, tT, seqT]; try omega
theorem fits_6 (s : ByteArray) (i : Int) : (fitsB s i 6 = true) = (i + 4 ≤ (s.size : Int) ∧ 240 ≤ bt s i ∧ bt s i ≤ 240 ∧ 144 ≤ bt s (i + 1) ∧ bt s (i + 1) ≤ 191 ∧ 128 ≤ bt s (i + 2) ∧ bt s (i + 2) ≤ 191 ∧ 128 ≤ bt s (i + 3) ∧ bt s (i + 3) ≤ 191) := by
  simp [fitsB, fitF, tT, seqT]; try omega
theorem fits_7 (s : ByteArray) (i : Int) : (fitsB s i 7 = true) = (i + 4 ≤ (s.size : Int) ∧ 241 ≤ bt s i ∧ bt s i ≤ 243 ∧ 128 ≤ bt s (i + 1) ∧ bt s (i + 1) ≤ 191 ∧ 128 ≤ bt s (i + 2) ∧ bt s (i + 2) ≤ 191 ∧ 128 ≤ bt s (i + 3) ∧ bt s (i + 3) ≤ 191) := by
  simp [fitsB, fitF, tT, seqT]; try omega
theorem fits_8 (s : ByteArray) (i : Int) : (fitsB s i 8 = true) = (i + 4 ≤ (s.size : Int) ∧ 244 ≤ bt s i ∧ bt s i ≤ 244 ∧ 128 ≤ bt s (i + 1) ∧ bt s (i + 1) ≤ 143 ∧ 128 ≤ bt s (i + 2) ∧ bt s (i + 2) ≤ 191 ∧ 128 ≤ bt s (i + 3) ∧ bt s (i + 3) ≤ 191) := by
  simp [fitsB, fitF, tT, seqT]; try omega
set_option maxHeartbeats 4000000 in
theorem seqN_seqM (s : ByteArray) (i : Int) : seqN s i = seqM ((s.size : Int) - i) (bt s i) (bt s (i + 1)) (bt s (i + 2)) (bt s (i + 3)) ∨ (s.size : Int) ≤ i := by
  by_cases hi : i < (s.size : Int)
  · left
    have hr := bt_range s i
    unfold seqN
    simp only [seqF, Nat.reduceAdd, Nat.zero_add, fits_0, fits_1, fits_2, fits_3, fits_4, fits_5, fits_6, fits_7, fits_8]
    unfold seqM
    generalize bt s i = b0 at *
    generalize bt s (i + 1) = b1 at *
    generalize bt s (i + 2) = b2 at *
    generalize bt s (i + 3) = b3 at *
    by_cases c0 : i + 1 ≤ (s.size : Int) ∧ 0 ≤ b0 ∧ b0 ≤ 127
    · rw [if_pos c0, if_pos (show b0 ≤ 127 by omega)]; rfl
    rw [if_neg c0, if_neg (show ¬ (b0 ≤ 127) by omega)]
    by_cases c1 : i + 2 ≤ (s.size : Int) ∧ 194 ≤ b0 ∧ b0 ≤ 223 ∧ 128 ≤ b1 ∧ b1 ≤ 191
    · rw [if_pos c1, if_pos (show 2 ≤ (s.size : Int) - i ∧ 194 ≤ b0 ∧ b0 ≤ 223 ∧ 128 ≤ b1 ∧ b1 ≤ 191 by omega)]; rfl
    rw [if_neg c1, if_neg (show ¬ (2 ≤ (s.size : Int) - i ∧ 194 ≤ b0 ∧ b0 ≤ 223 ∧ 128 ≤ b1 ∧ b1 ≤ 191) by omega)]
    by_cases c2 : i + 3 ≤ (s.size : Int) ∧ 224 ≤ b0 ∧ b0 ≤ 224 ∧ 160 ≤ b1 ∧ b1 ≤ 191 ∧ 128 ≤ b2 ∧ b2 ≤ 191
    · rw [if_pos c2, if_pos (show 3 ≤ (s.size : Int) - i ∧ b0 = 224 ∧ 160 ≤ b1 ∧ b1 ≤ 191 ∧ 128 ≤ b2 ∧ b2 ≤ 191 by omega)]; rfl
    rw [if_neg c2, if_neg (show ¬ (3 ≤ (s.size : Int) - i ∧ b0 = 224 ∧ 160 ≤ b1 ∧ b1 ≤ 191 ∧ 128 ≤ b2 ∧ b2 ≤ 191) by omega)]
    by_cases c3 : i + 3 ≤ (s.size : Int) ∧ 225 ≤ b0 ∧ b0 ≤ 236 ∧ 128 ≤ b1 ∧ b1 ≤ 191 ∧ 128 ≤ b2 ∧ b2 ≤ 191
    · rw [if_pos c3, if_pos (show 3 ≤ (s.size : Int) - i ∧ 225 ≤ b0 ∧ b0 ≤ 236 ∧ 128 ≤ b1 ∧ b1 ≤ 191 ∧ 128 ≤ b2 ∧ b2 ≤ 191 by omega)]; rfl
    rw [if_neg c3, if_neg (show ¬ (3 ≤ (s.size : Int) - i ∧ 225 ≤ b0 ∧ b0 ≤ 236 ∧ 128 ≤ b1 ∧ b1 ≤ 191 ∧ 128 ≤ b2 ∧ b2 ≤ 191) by omega)]
    by_cases c4 : i + 3 ≤ (s.size : Int) ∧ 237 ≤ b0 ∧ b0 ≤ 237 ∧ 128 ≤ b1 ∧ b1 ≤ 159 ∧ 128 ≤ b2 ∧ b2 ≤ 191
    · rw [if_pos c4, if_pos (show 3 ≤ (s.size : Int) - i ∧ b0 = 237 ∧ 128 ≤ b1 ∧ b1 ≤ 159 ∧ 128 ≤ b2 ∧ b2 ≤ 191 by omega)]; rfl
    rw [if_neg c4, if_neg (show ¬ (3 ≤ (s.size : Int) - i ∧ b0 = 237 ∧ 128 ≤ b1 ∧ b1 ≤ 159 ∧ 128 ≤ b2 ∧ b2 ≤ 191) by omega)]
    by_cases c5 : i + 3 ≤ (s.size : Int) ∧ 238 ≤ b0 ∧ b0 ≤ 239 ∧ 128 ≤ b1 ∧ b1 ≤ 191 ∧ 128 ≤ b2 ∧ b2 ≤ 191
    · rw [if_pos c5, if_pos (show 3 ≤ (s.size : Int) - i ∧ 238 ≤ b0 ∧ b0 ≤ 239 ∧ 128 ≤ b1 ∧ b1 ≤ 191 ∧ 128 ≤ b2 ∧ b2 ≤ 191 by omega)]; rfl
    rw [if_neg c5, if_neg (show ¬ (3 ≤ (s.size : Int) - i ∧ 238 ≤ b0 ∧ b0 ≤ 239 ∧ 128 ≤ b1 ∧ b1 ≤ 191 ∧ 128 ≤ b2 ∧ b2 ≤ 191) by omega)]
    by_cases c6 : i + 4 ≤ (s.size : Int) ∧ 240 ≤ b0 ∧ b0 ≤ 240 ∧ 144 ≤ b1 ∧ b1 ≤ 191 ∧ 128 ≤ b2 ∧ b2 ≤ 191 ∧ 128 ≤ b3 ∧ b3 ≤ 191
    · rw [if_pos c6, if_pos (show 4 ≤ (s.size : Int) - i ∧ b0 = 240 ∧ 144 ≤ b1 ∧ b1 ≤ 191 ∧ 128 ≤ b2 ∧ b2 ≤ 191 ∧ 128 ≤ b3 ∧ b3 ≤ 191 by omega)]; rfl
    rw [if_neg c6, if_neg (show ¬ (4 ≤ (s.size : Int) - i ∧ b0 = 240 ∧ 144 ≤ b1 ∧ b1 ≤ 191 ∧ 128 ≤ b2 ∧ b2 ≤ 191 ∧ 128 ≤ b3 ∧ b3 ≤ 191) by omega)]
    by_cases c7 : i + 4 ≤ (s.size : Int) ∧ 241 ≤ b0 ∧ b0 ≤ 243 ∧ 128 ≤ b1 ∧ b1 ≤ 191 ∧ 128 ≤ b2 ∧ b2 ≤ 191 ∧ 128 ≤ b3 ∧ b3 ≤ 191
    · rw [if_pos c7, if_pos (show 4 ≤ (s.size : Int) - i ∧ 241 ≤ b0 ∧ b0 ≤ 243 ∧ 128 ≤ b1 ∧ b1 ≤ 191 ∧ 128 ≤ b2 ∧ b2 ≤ 191 ∧ 128 ≤ b3 ∧ b3 ≤ 191 by omega)]; rfl
    rw [if_neg c7, if_neg (show ¬ (4 ≤ (s.size : Int) - i ∧ 241 ≤ b0 ∧ b0 ≤ 243 ∧ 128 ≤ b1 ∧ b1 ≤ 191 ∧ 128 ≤ b2 ∧ b2 ≤ 191 ∧ 128 ≤ b3 ∧ b3 ≤ 191) by omega)]
    by_cases c8 : i + 4 ≤ (s.size : Int) ∧ 244 ≤ b0 ∧ b0 ≤ 244 ∧ 128 ≤ b1 ∧ b1 ≤ 143 ∧ 128 ≤ b2 ∧ b2 ≤ 191 ∧ 128 ≤ b3 ∧ b3 ≤ 191
    · rw [if_pos c8, if_pos (show 4 ≤ (s.size : Int) - i ∧ b0 = 244 ∧ 128 ≤ b1 ∧ b1 ≤ 143 ∧ 128 ≤ b2 ∧ b2 ≤ 191 ∧ 128 ≤ b3 ∧ b3 ≤ 191 by omega)]; rfl
    rw [if_neg c8, if_neg (show ¬ (4 ≤ (s.size : Int) - i ∧ b0 = 244 ∧ 128 ≤ b1 ∧ b1 ≤ 143 ∧ 128 ≤ b2 ∧ b2 ≤ 191 ∧ 128 ≤ b3 ∧ b3 ≤ 191) by omega)]
  · right; omega

theorem get_bt (s : ByteArray) (i k : Nat) (h : i + k < s.size) : (((s.extract i s.size).get! k).toNat : Int) = bt s ((i : Int) + k) := by
  rw [show (i : Int) + k = ((i + k : Nat) : Int) from by omega, bt_nat' s (i + k) h]
  have hz : (s.extract i s.size).size = s.size - i := by simp
  rw [Utf8W.get!_of_lt _ k (by rw [hz]; omega)]
  have e := Lib.extract_to_end s i
  have h1 : k < (s.extract i s.size).data.toList.length := by rw [data_length, hz]; omega
  have h2 : i + k < s.data.toList.length := by rw [data_length]; exact h
  have e3 : (s.extract i s.size).data.toList[k]? = s.data.toList[i + k]? := by rw [e, List.getElem?_drop]
  rw [List.getElem?_eq_getElem h1, List.getElem?_eq_getElem h2] at e3
  have e4 := Option.some.inj e3
  have e5 : (s.extract i s.size)[k]'(by rw [hz]; omega) = (s.extract i s.size).data.toList[k] := rfl
  rw [e5, e4, List.getD_eq_getElem?_getD, List.getElem?_eq_getElem h2]
  rfl
/-- Go's decoder at a place, by the reference's count. -/
theorem decode_seq (s : ByteArray) (i : Nat) (h : i < s.size) :
    (seqN s i = 0 ∧ Lib.decodeGo (s.extract i s.size) = (65533, 1)) ∨ (1 ≤ seqN s i ∧ seqN s i ≤ 4 ∧ (i : Int) + seqN s i ≤ (s.size : Int) ∧ seqN s i = (Lib.decodeGo (s.extract i s.size)).2 ∧ ¬ ((Lib.decodeGo (s.extract i s.size)).1 = 65533 ∧ (Lib.decodeGo (s.extract i s.size)).2 < 2)) := by
  have hz : (s.extract i s.size).size = s.size - i := by simp
  have hd : Lib.decodeGo (s.extract i s.size) = Lib.decodeN (s.size - i) ((s.extract i s.size).get! 0).toNat ((s.extract i s.size).get! 1).toNat ((s.extract i s.size).get! 2).toNat ((s.extract i s.size).get! 3).toNat := by
    unfold Lib.decodeGo
    rw [if_neg (by rw [hz]; omega), Lib.decode_at, hz]
    rfl
  have hq := dec_seqM (s.size - i) ((s.extract i s.size).get! 0).toNat ((s.extract i s.size).get! 1).toNat ((s.extract i s.size).get! 2).toNat ((s.extract i s.size).get! 3).toNat (UInt8.toNat_lt _) (UInt8.toNat_lt _) (UInt8.toNat_lt _)
  have hs : seqN s i = seqM ((s.size - i : Nat) : Int) ((s.extract i s.size).get! 0).toNat ((s.extract i s.size).get! 1).toNat ((s.extract i s.size).get! 2).toNat ((s.extract i s.size).get! 3).toNat := by
    rcases seqN_seqM s i with q | q
    · rw [q, show ((s.size - i : Nat) : Int) = (s.size : Int) - i from by omega]
      have b0 : bt s (i : Int) = (((s.extract i s.size).get! 0).toNat : Int) := by rw [get_bt s i 0 (by omega)]; simp
      rw [b0]
      refine seqM_congr (fun q => ?_) (fun q => ?_) (fun q => ?_)
      · rw [get_bt s i 1 (by omega)]; rfl
      · rw [get_bt s i 2 (by omega)]; rfl
      · rw [get_bt s i 3 (by omega)]; rfl
    · omega
  have hb := seqM_bound ((s.size - i : Nat) : Int) ((s.extract i s.size).get! 0).toNat ((s.extract i s.size).get! 1).toNat ((s.extract i s.size).get! 2).toNat ((s.extract i s.size).get! 3).toNat (by omega)
  rw [← hs] at hb
  unfold Dec at hq
  rw [← hs, ← hd] at hq
  rcases hq with ⟨q1, q2⟩ | ⟨q1, q2, q3⟩ | ⟨q1, q2⟩
  · exact .inl ⟨q1, q2⟩
  · refine .inr ⟨by omega, by omega, by omega, by rw [q1, q2]; rfl, fun q => ?_⟩
    rw [q2] at q
    have := q.1
    simp only at this
    omega
  · exact .inr ⟨by omega, by omega, by omega, q2, fun q => by have := q.2; omega⟩
end Go.Proofs.YtieolphpgjpcmaaDoor

namespace Go.Proofs.YtieolphpgjpcmaaDoor
open Go.RowKit Go.Proofs.YtieolphpgjpcmaaDoorW.PrintWords

def vals (s : ByteArray) (stars : Bool) : Nat → Int → Bool → List ByteArray → List Int → VRes
  | 0, i, _, _, _ => .bad i
  | n + 1, i, star, l, now =>
    if (s.size : Int) ≤ i then .bad i
    else if bt s i = 41 then .ok (l ++ [strOfNums now]) i
    else if bt s i = 42 ∧ stars = true ∧ star = false then vals s stars n (i + 1) true (l ++ [strOfNums now]) []
    else if bt s i = 0 ∨ bt s i = 40 ∨ bt s i = 42 then .bad i
    else if bt s i = 92 then
      (if hexOf s (i + 1) < 0 then .bad (i + 1)
       else if hexOf s (i + 2) < 0 then .bad (i + 2)
       else vals s stars n (i + 3) false l (now ++ [hexOf s (i + 1) * 16 + hexOf s (i + 2)]))
    else if seqN s i = 0 then .bad i
    else vals s stars n (i + seqN s i) false l (now ++ bytesOf (s.extract i.toNat (i + seqN s i).toNat))

/-- The reader's block, the texts and the bytes that a value's reading holds. -/
structure VS (w W : World) (g : Nat) (s : ByteArray) (i : Int) (v : Value) (er pl : Int) (vl : Value) (l : List ByteArray) (vn : Value) (now : List Int) : Prop where
  rb : RB W g s i v er pl
  lt : g < w.heap.size
  kp : Kp (One g) w W
  ls : Strs W w.heap.size vl l
  ns : Bys W w.heap.size vn now
namespace VS
variable {w W w1 : World} {g : Nat} {s : ByteArray} {i : Int} {v : Value} {er pl : Int} {vl : Value} {l : List ByteArray} {vn : Value} {now : List Int}
theorem drewN (h : VS w W g s i v er pl vl l vn now) (n : Nat) : VS w (W.drewN n) g s i v er pl vl l vn now := ⟨h.rb, h.lt, h.kp.drewN n, h.ls, h.ns⟩
theorem drew (h : VS w W g s i v er pl vl l vn now) : VS w W.drew g s i v er pl vl l vn now := ⟨h.rb, h.lt, h.kp.drew, h.ls, h.ns⟩
theorem dr (h : VS w W g s i v er pl vl l vn now) (hd : Dr W w1) : VS w w1 g s i v er pl vl l vn now := by
  obtain ⟨n, rfl⟩ := hd
  exact h.drewN n
theorem moved (h : VS w W g s i v er pl vl l vn now) {i' er' pl' : Int} (hr : RB w1 g s i' v er' pl') (hk : Kp (One g) W w1) : VS w w1 g s i' v er' pl' vl l vn now :=
  ⟨hr, h.lt, h.kp.trans hk, h.ls.kp hk (fun k e q => by have := own_base h.ls k e; have h2 := h.lt; rw [show k = g from q] at this; omega), h.ns.kp hk (fun k e q => by have := own_base h.ns k e; have h2 := h.lt; rw [show k = g from q] at this; omega)⟩
theorem set1 (h : VS w W g s i v er pl vl l vn now) (x : Int) : VS w (W.setCell ⟨g, 1, none⟩ (.int .i64 x)) g s x v er pl vl l vn now := h.moved (h.rb.set1 x) ((Kp.refl _ _).setOne _ _)
theorem none_ (h : VS w W g s i v er pl vl l vn now) : VS w W g s i v er pl vl l (.slice none 0 0) [] := ⟨h.rb, h.lt, h.kp, h.ls, Bys.nil _ _⟩
theorem app_l (h : VS w W g s i v er pl vl l vn now) {v1 : Value} {y : ByteArray} (hg : W.grownBy w1 vl.ownBlock) (ho : Strs w1 w.heap.size v1 (l ++ [y])) : VS w w1 g s i v er pl v1 (l ++ [y]) vn now :=
  ⟨blk_grown h.rb hg (fun e => by have := own_base h.ls g e.symm; have h2 := h.lt; omega), h.lt, h.kp.grown hg (fun k e hk => by have := own_base h.ls k e; omega), ho, own_other h.ns hg (own_type_ne h.ns h.ls (by decide))⟩
theorem app_n (h : VS w W g s i v er pl vl l vn now) {v1 : Value} {ys : List Int} (hg : W.grownBy w1 vn.ownBlock) (ho : Bys w1 w.heap.size v1 ys) : VS w w1 g s i v er pl vl l v1 ys :=
  ⟨blk_grown h.rb hg (fun e => by have := own_base h.ns g e.symm; have h2 := h.lt; omega), h.lt, h.kp.grown hg (fun k e hk => by have := own_base h.ns k e; omega), own_other h.ls hg (own_type_ne h.ls h.ns (by decide)), ho⟩
end VS
theorem region_tail {P : Program} {id : Nat} {Q : Exit → Act → World → Prop} {a : Act} {w : World} {l : List Oper} (n : Nat) (hm : P.follows .mixedOrders = true) (hB : Region.lexTailB .any l.toArray n = true)
    (h : wpStill P l.toArray w.drew (fun a' => wpList P l.toArray Q (l.drop n) a' w.drew) (l.take n) a) : (Code.region id l.toArray true).wp P Q a w := wp_region_still_tail n hm hB h
end Go.Proofs.YtieolphpgjpcmaaDoor

namespace Go.Proofs.YtieolphpgjpcmaaDoor
open Go.RowKit Go.Proofs.YtieolphpgjpcmaaDoorW.PrintWords

set_option maxHeartbeats 1000000 in
set_option maxRecDepth 100000 in
theorem rhex_any (g : Nat) (s : ByteArray) (i : Int) (v : Value) (er pl j : Int) (w : World) (hp : RB w g s i v er pl) (h0 : 0 ≤ j) :
    Calls Tryd.prog 53 #[.pointer (some ⟨g, 0, none⟩), .int .i64 j] w fun e w' => e = .returned (.int .i64 (hexOf s j)) ∧ Dr w w' := by
  have c0 := hp.c0
  clear hp
  by_cases hlt : j < (s.size : Int)
  · have eh : hexOf s j = hexv (bt s j) := by simp [hexOf, hlt]
    rw [eh]
    clear eh
    have d1 : decide ((s.size : Int) ≤ j) = false := decide_eq_false (by omega)
    have hx := bt_at s j
    have hb := bt_range s j
    generalize bt s j = c at hx hb ⊢
    replace h0 := eq_true h0
    replace hlt := eq_true hlt
    obtain ⟨R, hR⟩ : ∃ R, hexv c = R := ⟨_, rfl⟩
    rw [hR]
    have HR := hd hR
    clear hR
    go_enter Tryd.func53, Tryd.ntmps53
    go_wp2_with (fail)
    rcases hex_cases c with q | q | q | q | q | q | q
    all_goals
      first | (have t0 : decide (97 ≤ c) = true := decide_eq_true (by omega)) | (have t0 : decide (97 ≤ c) = false := decide_eq_false (by omega))
      first | (have t1 : decide (c ≤ 102) = true := decide_eq_true (by omega)) | (have t1 : decide (c ≤ 102) = false := decide_eq_false (by omega))
      first | (have t2 : decide (65 ≤ c) = true := decide_eq_true (by omega)) | (have t2 : decide (65 ≤ c) = false := decide_eq_false (by omega))
      first | (have t3 : decide (c ≤ 70) = true := decide_eq_true (by omega)) | (have t3 : decide (c ≤ 70) = false := decide_eq_false (by omega))
      first | (have t4 : decide (48 ≤ c) = true := decide_eq_true (by omega)) | (have t4 : decide (48 ≤ c) = false := decide_eq_false (by omega))
      first | (have t5 : decide (c ≤ 57) = true := decide_eq_true (by omega)) | (have t5 : decide (c ≤ 57) = false := decide_eq_false (by omega))
      go_wp2
      go_ret
      exact ⟨ret_int (by rw [← HR.out]; unfold hexv; repeat (first | rw [if_pos (by omega)] | rw [if_neg (by omega)]); try omega), by repeat (first | exact Dr.refl _ | apply Dr.drewN)⟩
  · have eh : hexOf s j = -1 := by simp [hexOf, hlt]
    rw [eh]
    clear eh
    have d1 : decide ((s.size : Int) ≤ j) = true := decide_eq_true (by omega)
    go_enter Tryd.func53, Tryd.ntmps53
    go_wp2
    go_ret
    exact ⟨rfl, by repeat (first | exact Dr.refl _ | apply Dr.drewN)⟩
end Go.Proofs.YtieolphpgjpcmaaDoor

namespace Go.Proofs.YtieolphpgjpcmaaDoor
open Go.RowKit Go.Proofs.YtieolphpgjpcmaaDoorW.PrintWords

/-- What the reference's reader holds behind a value's reading. -/
def VEnd (w w' : World) (g : Nat) (s : ByteArray) (v : Value) (pl i0 : Int) (e : Ending) : VRes → Prop
  | .ok l j => ∃ vl, e = .returned vl ∧ RB w' g s j v 0 pl ∧ Kp (One g) w w' ∧ Strs w' w.heap.size vl l ∧ 0 < l.length ∧ (l.length : Int) ≤ (s.size : Int) + 1 ∧ i0 ≤ j ∧ j < (s.size : Int)
  | .bad p => ∃ vl l j, e = .returned vl ∧ RB w' g s j v 120 p ∧ Kp (One g) w w' ∧ Strs w' w.heap.size vl l ∧ 0 < l.length ∧ (l.length : Int) ≤ (s.size : Int) + 1 ∧ i0 ≤ j ∧ j ≤ (s.size : Int)
theorem VEnd.bad_ {w w' : World} {g : Nat} {s : ByteArray} {v : Value} {pl i0 j p : Int} {vl vn : Value} {l : List ByteArray} {now : List Int} (h : VS w w' g s j v 120 p vl l vn now) (hl : 0 < l.length) (hl2 : (l.length : Int) ≤ (s.size : Int) + 1) (h0 : i0 ≤ j) (h1 : j ≤ (s.size : Int)) : VEnd w w' g s v pl i0 (.returned vl) (.bad p) :=
  ⟨vl, l, j, rfl, h.rb, h.kp, h.ls, hl, hl2, h0, h1⟩
theorem VEnd.ok_ {w w' : World} {g : Nat} {s : ByteArray} {v : Value} {pl i0 j : Int} {vl vn : Value} {l : List ByteArray} {now : List Int} (h : VS w w' g s j v 0 pl vl l vn now) (hl : 0 < l.length) (hl2 : (l.length : Int) ≤ (s.size : Int) + 1) (h0 : i0 ≤ j) (h1 : j < (s.size : Int)) : VEnd w w' g s v pl i0 (.returned vl) (.ok l j) :=
  ⟨vl, rfl, h.rb, h.kp, h.ls, hl, hl2, h0, h1⟩

set_option maxHeartbeats 4000000 in
set_option maxRecDepth 100000 in
theorem rvalue_any (g : Nat) (s : ByteArray) (i : Int) (v : Value) (pl : Int) (stars : Bool) (w : World) (hp : RB w g s i v 0 pl) (hT : RowsAt w) (hg : 0 ≠ g) (h0 : 0 ≤ i) (h1 : i ≤ (s.size : Int)) (hl : s.size ≤ LIM) :
    Calls Tryd.prog 37 #[.pointer (some ⟨g, 0, none⟩), .bool stars] w fun e w' => VEnd w w' g s v pl i e (vals s stars (s.size + 1) i false [] []) := by
  unfold LIM at hl
  obtain ⟨R, hR⟩ : ∃ R, vals s stars (s.size + 1) i false [] [] = R := ⟨_, rfl⟩
  rw [hR]
  have HR := hd hR
  have HV : Hid (VS w w g s i v 0 pl (.slice none 0 0) [] (.slice none 0 0) []) := ⟨hp, hp.lt, Kp.refl _ _, Strs.nil _ _, Bys.nil _ _⟩
  have HT := hd hT
  have HH := hd h1
  clear hR hT h1 hp
  go_enter Tryd.func37, Tryd.ntmps37
  go_wp2
  go_loopg [5, 6, 7] (s.size + 1) (fun kq vl vn vs w' => ∃ (j : Int) (star : Bool) (l : List ByteArray) (now : List Int), vs = .bool star ∧ i ≤ j ∧ j ≤ (s.size : Int) ∧ Hid ((s.size : Int) - j < kq) ∧ Hid ((l.length : Int) ≤ j ∧ (now.length : Int) ≤ j) ∧ Hid (VS w w' g s j v 0 pl vl l vn now) ∧ Hid (vals s stars kq j star l now = R))
  case atStart => exact ⟨i, false, [], [], rfl, Int.le_refl _, HH.out, hd (by omega), hd ⟨by simp; omega, by simp; omega⟩, HV, HR⟩
  case round =>
    clear HR HV HH
    obtain ⟨j, star, l, now, rfl, hj0, hj1, HF, HL, HV, HR⟩ := hrel
    have hv := HV.out
    have c0 := hv.rb.c0
    have c1 := hv.rb.c1
    have c3 := hv.rb.c3
    have f1 := hv.rb.fz 1
    cases gk with
    | zero => exact absurd HF.out (by omega)
    | succ k1 =>
      have H := HR.out
      clear HR
      simp only [vals] at H
      have p0 : 0 ≤ j := by omega
      by_cases hlt : j < (s.size : Int)
      · rw [if_neg (by omega)] at H
        have d1 : decide ((s.size : Int) ≤ j) = false := decide_eq_false (by omega)
        have hx := bt_at s j
        have hb := bt_range s j
        obtain ⟨c, hc⟩ : ∃ c, bt s j = c := ⟨_, rfl⟩
        rw [hc] at hx hb H
        have p1 := eq_true p0
        have q1 := eq_true hlt
        clear hc
        go_wp2_with (fail)
        go_quiet (fail)
        go_wp2_with (fail)
        go_quiet (fail)
        by_cases e41 : c = 41
        · subst e41
          have H' := hd (show VRes.ok (l ++ [strOfNums now]) j = R from H)
          clear H hv
          have hs := fun n => (HV.out.drewN n).ns.str
          go_wp2_with (at_builtin; refine print_append_of (w0 := wr) Value.string w.heap.size rfl _ _ 45 9 (.string ⟨#[]⟩) 16 rfl Tryd.underlying45 infoStr (by rfl) (by decide) u5 l (strOfNums now) rfl rfl rfl (HV.out.drewN _).ls (pw_below_drewN (Below.refl _ _) _) HV.out.kp.size (by have := HL.out; omega) ?_; intro v1 w2 ho1 hb1 hg1 hat1; clear hb1 hat1)
          go_ret
          obtain rfl : VRes.ok (l ++ [strOfNums now]) j = R := H'.out
          exact VEnd.ok_ ((HV.out.drewN _).app_l hg1 ho1) (by simp) (by have := HL.out; simp; omega) hj0 hlt
        have n41 : (c == 41) = false := beq_eq_false_iff_ne.2 e41
        rw [if_neg e41] at H
        by_cases e42 : c = 42
        · subst e42
          cases stars
          · have H' := hd (show VRes.bad j = R by rw [← H, if_neg (by simp), if_pos (by simp)])
            clear H hv
            go_wp2_with (fail)
            refine (stop_any g s j v 0 pl 120 (j) _ (HV.out.rb.drewN _)).mono ?_
            rintro e w1 ⟨rfl, hq, hk⟩
            have hv2 := hd ((HV.out.drewN _).moved (show RB w1 g s j v 120 (j) from hq) hk)
            have hs := hv2.out.ns.str
            clear hq hk
            go_wp2_with (at_builtin; refine print_append_of (w0 := w1) Value.string w.heap.size rfl _ _ 45 9 (.string ⟨#[]⟩) 16 rfl Tryd.underlying45 infoStr (by rfl) (by decide) u5 l (strOfNums now) rfl rfl rfl hv2.out.ls (Below.refl _ _) hv2.out.kp.size (by have := HL.out; omega) ?_; intro v1 w2 ho1 hb1 hg1 hat1; clear hb1 hat1)
            go_ret
            obtain rfl : VRes.bad (j) = R := H'.out
            exact VEnd.bad_ (hv2.out.app_l hg1 ho1) (by simp) (by have := HL.out; simp; omega) hj0 hj1

          · cases star
            · have H' := hd (show vals s true k1 (j + 1) true (l ++ [strOfNums now]) [] = R by rw [← H, if_pos ⟨rfl, rfl, rfl⟩])
              clear H hv
              have hs := fun n => (HV.out.drewN n).ns.str
              go_wp2_with (at_builtin; refine print_append_of (w0 := wr) Value.string w.heap.size rfl _ _ 45 9 (.string ⟨#[]⟩) 16 rfl Tryd.underlying45 infoStr (by rfl) (by decide) u5 l (strOfNums now) rfl rfl rfl (HV.out.drewN _).ls (pw_below_drewN (Below.refl _ _) _) HV.out.kp.size (by have := HL.out; omega) ?_; intro v1 w2 ho1 hb1 hg1 hat1; clear hb1 hat1; have hv3 := hd ((HV.out.drewN _).app_l hg1 ho1); clear hg1 ho1; have c1' := hv3.out.rb.c1; have f1' := hv3.out.rb.fz 1)
              go_roundg k1
              case measure => omega
              case rel => exact ⟨j + 1, true, l ++ [strOfNums now], [], rfl, by omega, by omega, hd (by have := HF.out; omega), hd ⟨by have := HL.out; simp; omega, by simp; omega⟩, hd (hv3.out.none_.set1 _), H'⟩
            · have H' := hd (show VRes.bad j = R by rw [← H, if_neg (by simp), if_pos (by simp)])
              clear H hv
              go_wp2_with (fail)
              refine (stop_any g s j v 0 pl 120 (j) _ (HV.out.rb.drewN _)).mono ?_
              rintro e w1 ⟨rfl, hq, hk⟩
              have hv2 := hd ((HV.out.drewN _).moved (show RB w1 g s j v 120 (j) from hq) hk)
              have hs := hv2.out.ns.str
              clear hq hk
              go_wp2_with (at_builtin; refine print_append_of (w0 := w1) Value.string w.heap.size rfl _ _ 45 9 (.string ⟨#[]⟩) 16 rfl Tryd.underlying45 infoStr (by rfl) (by decide) u5 l (strOfNums now) rfl rfl rfl hv2.out.ls (Below.refl _ _) hv2.out.kp.size (by have := HL.out; omega) ?_; intro v1 w2 ho1 hb1 hg1 hat1; clear hb1 hat1)
              go_ret
              obtain rfl : VRes.bad (j) = R := H'.out
              exact VEnd.bad_ (hv2.out.app_l hg1 ho1) (by simp) (by have := HL.out; simp; omega) hj0 hj1

        have n42 : (c == 42) = false := beq_eq_false_iff_ne.2 e42
        rw [if_neg (fun q => e42 q.1)] at H
        by_cases e0 : c = 0
        · subst e0
          have H' := hd (show VRes.bad j = R by rw [← H, if_pos (by simp)])
          clear H hv
          go_wp2_with (fail)
          refine (stop_any g s j v 0 pl 120 (j) _ (HV.out.rb.drewN _)).mono ?_
          rintro e w1 ⟨rfl, hq, hk⟩
          have hv2 := hd ((HV.out.drewN _).moved (show RB w1 g s j v 120 (j) from hq) hk)
          have hs := hv2.out.ns.str
          clear hq hk
          go_wp2_with (at_builtin; refine print_append_of (w0 := w1) Value.string w.heap.size rfl _ _ 45 9 (.string ⟨#[]⟩) 16 rfl Tryd.underlying45 infoStr (by rfl) (by decide) u5 l (strOfNums now) rfl rfl rfl hv2.out.ls (Below.refl _ _) hv2.out.kp.size (by have := HL.out; omega) ?_; intro v1 w2 ho1 hb1 hg1 hat1; clear hb1 hat1)
          go_ret
          obtain rfl : VRes.bad (j) = R := H'.out
          exact VEnd.bad_ (hv2.out.app_l hg1 ho1) (by simp) (by have := HL.out; simp; omega) hj0 hj1

        have n0 : (c == 0) = false := beq_eq_false_iff_ne.2 e0
        by_cases e40 : c = 40
        · subst e40
          have H' := hd (show VRes.bad j = R by rw [← H, if_pos (by simp)])
          clear H hv
          go_wp2_with (fail)
          refine (stop_any g s j v 0 pl 120 (j) _ (HV.out.rb.drewN _)).mono ?_
          rintro e w1 ⟨rfl, hq, hk⟩
          have hv2 := hd ((HV.out.drewN _).moved (show RB w1 g s j v 120 (j) from hq) hk)
          have hs := hv2.out.ns.str
          clear hq hk
          go_wp2_with (at_builtin; refine print_append_of (w0 := w1) Value.string w.heap.size rfl _ _ 45 9 (.string ⟨#[]⟩) 16 rfl Tryd.underlying45 infoStr (by rfl) (by decide) u5 l (strOfNums now) rfl rfl rfl hv2.out.ls (Below.refl _ _) hv2.out.kp.size (by have := HL.out; omega) ?_; intro v1 w2 ho1 hb1 hg1 hat1; clear hb1 hat1)
          go_ret
          obtain rfl : VRes.bad (j) = R := H'.out
          exact VEnd.bad_ (hv2.out.app_l hg1 ho1) (by simp) (by have := HL.out; simp; omega) hj0 hj1

        have n40 : (c == 40) = false := beq_eq_false_iff_ne.2 e40
        rw [if_neg (by omega)] at H
        clear e0 e40 e41 e42
        by_cases e92 : c = 92
        · subst e92
          rw [if_pos rfl] at H
          clear hv
          have hr1 := hexOf_range s (j + 1)
          have hr2 := hexOf_range s (j + 2)
          obtain ⟨h1, hh1⟩ : ∃ h1, hexOf s (j + 1) = h1 := ⟨_, rfl⟩
          obtain ⟨h2, hh2⟩ : ∃ h2, hexOf s (j + 2) = h2 := ⟨_, rfl⟩
          rw [hh1] at H hr1
          rw [hh2] at H hr2
          have H1 := hd hh1
          have H2 := hd hh2
          clear hh1 hh2
          by_cases l1 : h1 < 0
          · have H' := hd (show VRes.bad (j + 1) = R by rw [← H, if_pos l1])
            clear H
            go_wp2_with (fail)
            refine (rhex_any g s j v 0 pl (j + 1) _ (HV.out.rb.drewN _) (by omega)).mono ?_
            rintro e w2 ⟨rfl, m1, rfl⟩
            rw [H1.out]
            go_wp2_with (fail)
            refine (rhex_any g s j v 0 pl (j + 2) _ (HV.out.rb.drewN _) (by omega)).mono ?_
            rintro e w2 ⟨rfl, m2, rfl⟩
            go_wp2_with (fail)
            refine (stop_any g s j v 0 pl 120 (j + 1) _ (HV.out.rb.drewN _)).mono ?_
            rintro e w1 ⟨rfl, hq, hk⟩
            have hv2 := hd ((HV.out.drewN _).moved (show RB w1 g s j v 120 (j + 1) from hq) hk)
            have hs := hv2.out.ns.str
            clear hq hk
            go_wp2_with (at_builtin; refine print_append_of (w0 := w1) Value.string w.heap.size rfl _ _ 45 9 (.string ⟨#[]⟩) 16 rfl Tryd.underlying45 infoStr (by rfl) (by decide) u5 l (strOfNums now) rfl rfl rfl hv2.out.ls (Below.refl _ _) hv2.out.kp.size (by have := HL.out; omega) ?_; intro v1 w2 ho1 hb1 hg1 hat1; clear hb1 hat1)
            go_ret
            obtain rfl : VRes.bad (j + 1) = R := H'.out
            exact VEnd.bad_ (hv2.out.app_l hg1 ho1) (by simp) (by have := HL.out; simp; omega) hj0 hj1

          · rw [if_neg l1] at H
            have t1 : decide (h1 < 0) = false := decide_eq_false l1
            by_cases l2 : h2 < 0
            · have H' := hd (show VRes.bad (j + 2) = R by rw [← H, if_pos l2])
              clear H
              go_wp2_with (fail)
              refine (rhex_any g s j v 0 pl (j + 1) _ (HV.out.rb.drewN _) (by omega)).mono ?_
              rintro e w2 ⟨rfl, m1, rfl⟩
              rw [H1.out]
              go_wp2_with (fail)
              refine (rhex_any g s j v 0 pl (j + 2) _ (HV.out.rb.drewN _) (by omega)).mono ?_
              rintro e w2 ⟨rfl, m2, rfl⟩
              rw [H2.out]
              go_wp2_with (fail)
              refine (stop_any g s j v 0 pl 120 (j + 2) _ (HV.out.rb.drewN _)).mono ?_
              rintro e w1 ⟨rfl, hq, hk⟩
              have hv2 := hd ((HV.out.drewN _).moved (show RB w1 g s j v 120 (j + 2) from hq) hk)
              have hs := hv2.out.ns.str
              clear hq hk
              go_wp2_with (at_builtin; refine print_append_of (w0 := w1) Value.string w.heap.size rfl _ _ 45 9 (.string ⟨#[]⟩) 16 rfl Tryd.underlying45 infoStr (by rfl) (by decide) u5 l (strOfNums now) rfl rfl rfl hv2.out.ls (Below.refl _ _) hv2.out.kp.size (by have := HL.out; omega) ?_; intro v1 w2 ho1 hb1 hg1 hat1; clear hb1 hat1)
              go_ret
              obtain rfl : VRes.bad (j + 2) = R := H'.out
              exact VEnd.bad_ (hv2.out.app_l hg1 ho1) (by simp) (by have := HL.out; simp; omega) hj0 hj1

            · rw [if_neg l2] at H
              have t2 : decide (h2 < 0) = false := decide_eq_false l2
              have H' := hd H
              clear H
              have hj3 : j + 2 < (s.size : Int) := by
                have := H2.out
                unfold hexOf at this
                split at this <;> omega
              go_wp2_with (fail)
              refine (rhex_any g s j v 0 pl (j + 1) _ (HV.out.rb.drewN _) (by omega)).mono ?_
              rintro e w2 ⟨rfl, m1, rfl⟩
              rw [H1.out]
              go_wp2_with (fail)
              refine (rhex_any g s j v 0 pl (j + 2) _ (HV.out.rb.drewN _) (by omega)).mono ?_
              rintro e w2 ⟨rfl, m2, rfl⟩
              rw [H2.out]
              go_wp2_with (at_builtin; refine print_append_num (w0 := wr) w.heap.size rfl _ _ 76 5 .u8 1 rfl Tryd.underlying76 infoU8 (by decide) u6 now (h1 * 16 + h2) rfl rfl (HV.out.drewN _).ns (pw_below_drewN (Below.refl _ _) _) HV.out.kp.size (by have := HL.out; omega) ?_; intro v1 w2 ho1 hb1 hg1 hat1; clear hb1 hat1; have hv3 := hd ((HV.out.drewN _).app_n hg1 ho1); clear hg1 ho1; have c1' := hv3.out.rb.c1; have f1' := hv3.out.rb.fz 1)
              go_roundg k1
              case measure => omega
              case rel => exact ⟨j + 3, false, l, now ++ [h1 * 16 + h2], rfl, by omega, by omega, hd (by have := HF.out; omega), hd ⟨by have := HL.out; omega, by have := HL.out; simp; omega⟩, hd (hv3.out.set1 _), H'⟩
        have n92 : (c == 92) = false := beq_eq_false_iff_ne.2 e92
        rw [if_neg e92] at H
        clear e92 hv
        have hsq := decode_seq s j.toNat (by omega)
        rw [Int.toNat_of_nonneg p0] at hsq
        have hTr : Hid (RowsAt wr) := hd (HT.out.kp HV.out.kp (fun q => hg q))
        obtain ⟨m, hm⟩ : ∃ m, seqN s j = m := ⟨_, rfl⟩
        rw [hm] at hsq H
        have HM := hd hm
        clear hm
        by_cases m0 : m = 0
        · have H' := hd (show VRes.bad j = R by rw [← H, if_pos m0])
          subst m0
          clear H hsq
          go_wp2_with (fail)
          go_quiet ((go_at_call 54; exact quiet_add_left (seq_eq s j _ HM.out _ (hTr.out.drewN _) p0 hj1 hl)))
          go_wp2_with (fail)
          refine (stop_any g s j v 0 pl 120 (j) _ (HV.out.rb.drewN _)).mono ?_
          rintro e w1 ⟨rfl, hq, hk⟩
          have hv2 := hd ((HV.out.drewN _).moved (show RB w1 g s j v 120 (j) from hq) hk)
          have hs := hv2.out.ns.str
          clear hq hk
          go_wp2_with (at_builtin; refine print_append_of (w0 := w1) Value.string w.heap.size rfl _ _ 45 9 (.string ⟨#[]⟩) 16 rfl Tryd.underlying45 infoStr (by rfl) (by decide) u5 l (strOfNums now) rfl rfl rfl hv2.out.ls (Below.refl _ _) hv2.out.kp.size (by have := HL.out; omega) ?_; intro v1 w2 ho1 hb1 hg1 hat1; clear hb1 hat1)
          go_ret
          obtain rfl : VRes.bad (j) = R := H'.out
          exact VEnd.bad_ (hv2.out.app_l hg1 ho1) (by simp) (by have := HL.out; simp; omega) hj0 hj1

        · rw [if_neg m0] at H
          have hm1 : 1 ≤ m ∧ m ≤ 4 ∧ j + m ≤ (s.size : Int) := by
            rcases hsq with q | q
            · exact absurd q.1 m0
            · exact ⟨q.1, q.2.1, q.2.2.1⟩
          have n00 : (m == 0) = false := beq_eq_false_iff_ne.2 m0
          have H' := hd H
          clear H hsq m0
          obtain ⟨g1, g2, g3⟩ := hm1
          have q4 := eq_true (show j ≤ j + m by omega)
          have q5 := eq_true g3
          have q6 := eq_true (show 0 ≤ m by omega)
          go_wp2_with (fail)
          go_quiet ((go_at_call 54; exact quiet_add_left (seq_eq s j _ HM.out _ (hTr.out.drewN _) p0 hj1 hl)))
          go_wp2_with (fail)
          refine region_tail 16 (by kernel_rfl) (by kernel_rfl) ?_
          simp only [List.take_succ_cons, List.take_zero, List.drop_succ_cons, List.drop_zero]
          have ew : IntKind.i64.wrap (j + m) = j + m := IntWalk.i64_in _ (by omega)
          repeat still_step
          refine wpStill_nil ?_
          clear ew
          go_wp2_with (at_builtin; go_loud (refine print_append_str (w0 := wr) w.heap.size rfl _ _ 76 9 5 rfl Tryd.underlying76 Tryd.underlying9 infoU8 u6 now (s.extract j.toNat (j + m).toNat) rfl rfl (HV.out.drewN _).drew.ns (below_drew (pw_below_drewN (Below.refl _ _) _)) HV.out.kp.size (by have := HL.out; rw [ByteArray.size_extract]; omega) ?_; intro v1 w2 ho1 hb1 hg1; clear hb1; have hv3 := hd ((HV.out.drewN _).drew.app_n hg1 ho1); clear hg1 ho1; have c1' := hv3.out.rb.c1; have f1' := hv3.out.rb.fz 1))
          go_roundg k1
          case measure => omega
          case rel => exact ⟨j + m, false, l, now ++ bytesOf (s.extract j.toNat (j + m).toNat), rfl, by omega, by omega, hd (by have := HF.out; omega), hd ⟨by have := HL.out; omega, by have := HL.out; rw [List.length_append, bytesOf_length, ByteArray.size_extract]; omega⟩, hd (hv3.out.set1 _), H'⟩
      · rw [if_pos (by omega)] at H
        have d1 : decide ((s.size : Int) ≤ j) = true := decide_eq_true (by omega)
        have H' := hd H
        clear H hv
        go_wp2_with (fail)
        repeat (go_quiet (fail); try go_wp2_with (fail))
        refine (stop_any g s j v 0 pl 120 (j) _ (HV.out.rb.drewN _)).mono ?_
        rintro e w1 ⟨rfl, hq, hk⟩
        have hv2 := hd ((HV.out.drewN _).moved (show RB w1 g s j v 120 (j) from hq) hk)
        have hs := hv2.out.ns.str
        clear hq hk
        go_wp2_with (at_builtin; refine print_append_of (w0 := w1) Value.string w.heap.size rfl _ _ 45 9 (.string ⟨#[]⟩) 16 rfl Tryd.underlying45 infoStr (by rfl) (by decide) u5 l (strOfNums now) rfl rfl rfl hv2.out.ls (Below.refl _ _) hv2.out.kp.size (by have := HL.out; omega) ?_; intro v1 w2 ho1 hb1 hg1 hat1; clear hb1 hat1)
        go_ret
        obtain rfl : VRes.bad (j) = R := H'.out
        exact VEnd.bad_ (hv2.out.app_l hg1 ho1) (by simp) (by have := HL.out; simp; omega) hj0 hj1
end Go.Proofs.YtieolphpgjpcmaaDoor

namespace Go.Proofs.YtieolphpgjpcmaaDoor
open Go.RowKit Go.Proofs.YtieolphpgjpcmaaDoorW.PrintWords

set_option maxHeartbeats 1000000 in
set_option maxRecDepth 100000 in
theorem rvalue_err (g : Nat) (s : ByteArray) (i : Int) (v : Value) (er pl : Int) (stars : Bool) (w : World) (hp : RB w g s i v er pl) (he : er ≠ 0) :
    Calls Tryd.prog 37 #[.pointer (some ⟨g, 0, none⟩), .bool stars] w fun e w' => ∃ vl l, e = .returned vl ∧ RB w' g s i v er pl ∧ Kp No w w' ∧ Strs w' w.heap.size vl l ∧ 0 < l.length := by
  have c3 := hp.c3
  have n0 : (er == 0) = false := beq_eq_false_iff_ne.2 he
  have hs := (Bys.nil w w.heap.size).str
  clear he
  go_enter Tryd.func37, Tryd.ntmps37
  go_wp2
  refine wp_loop_rounds 1 ?_
  rw [rounds_succ]
  go_wp2_with (at_builtin; refine print_append_of (w0 := w) Value.string w.heap.size rfl _ _ 45 9 (.string ⟨#[]⟩) 16 rfl Tryd.underlying45 infoStr (by rfl) (by decide) (.slice none 0 0) [] (strOfNums []) rfl rfl rfl (Strs.nil _ _) (Below.refl _ _) (Nat.le_refl _) (by simp) ?_; intro v1 w2 ho1 hb1 hg1 hat1; clear hat1)
  go_ret
  exact ⟨_, _, rfl, hp.kp (Kp.ofBelow hb1 No) (fun q => q), Kp.ofBelow hb1 _, ho1, by simp⟩

/-- What the reference's reader holds behind a value without stars. -/
def OEnd (w w' : World) (g : Nat) (s : ByteArray) (v : Value) (pl i0 : Int) (e : Ending) : VRes → Prop
  | .ok l j => e = .returned (.string (l.getD 0 ⟨#[]⟩)) ∧ RB w' g s j v 0 pl ∧ Kp (One g) w w' ∧ i0 ≤ j ∧ j < (s.size : Int)
  | .bad p => ∃ y j, e = .returned (.string y) ∧ RB w' g s j v 120 p ∧ Kp (One g) w w' ∧ i0 ≤ j ∧ j ≤ (s.size : Int)

set_option maxHeartbeats 1000000 in
set_option maxRecDepth 100000 in
theorem ronly_any (g : Nat) (s : ByteArray) (i : Int) (v : Value) (pl : Int) (w : World) (hp : RB w g s i v 0 pl) (hT : RowsAt w) (hg : 0 ≠ g) (h0 : 0 ≤ i) (h1 : i ≤ (s.size : Int)) (hl : s.size ≤ LIM) :
    Calls Tryd.prog 23 #[.pointer (some ⟨g, 0, none⟩)] w fun e w' => OEnd w w' g s v pl i e (vals s false (s.size + 1) i false [] []) := by
  obtain ⟨R, hR⟩ : ∃ R, vals s false (s.size + 1) i false [] [] = R := ⟨_, rfl⟩
  rw [hR]
  have cV := hd (rvalue_any g s i v pl false w hp hT hg h0 h1 hl)
  rw [hR] at cV
  clear hR hT h0 h1
  go_enter Tryd.func23, Tryd.ntmps23
  go_wp2_with (fail)
  refine cV.out.mono ?_
  rintro e w1 hq
  cases R with
  | ok l j =>
    obtain ⟨vl, rfl, hr, hk, hs, hz, hz9, hj0, hj1⟩ := hq
    obtain ⟨b, cap, rfl, hb, hb2, hc⟩ := hs.form hz
    have hc0 := hc 0 hz
    have z0 := eq_true (show (0 : Int) < (l.length : Int) by omega)
    clear hc
    go_wp2
    go_ret
    have e0 : l.getD 0 ⟨#[]⟩ = l[0] := by simp [List.getD_eq_getElem?_getD, List.getElem?_eq_getElem hz]
    refine ⟨?_, hr, hk, hj0, hj1⟩
    rw [e0]
    rfl
  | bad p =>
    obtain ⟨vl, l, j, rfl, hr, hk, hs, hz, hz9, hj0, hj1⟩ := hq
    obtain ⟨b, cap, rfl, hb, hb2, hc⟩ := hs.form hz
    have hc0 := hc 0 hz
    have z0 := eq_true (show (0 : Int) < (l.length : Int) by omega)
    clear hc
    go_wp2
    go_ret
    exact ⟨_, j, rfl, hr, hk, hj0, hj1⟩

set_option maxHeartbeats 1000000 in
set_option maxRecDepth 100000 in
theorem ronly_err (g : Nat) (s : ByteArray) (i : Int) (v : Value) (er pl : Int) (w : World) (hp : RB w g s i v er pl) (he : er ≠ 0) :
    Calls Tryd.prog 23 #[.pointer (some ⟨g, 0, none⟩)] w fun e w' => ∃ y, e = .returned (.string y) ∧ RB w' g s i v er pl ∧ Kp No w w' := by
  have cV := hd (rvalue_err g s i v er pl false w hp he)
  clear he
  go_enter Tryd.func23, Tryd.ntmps23
  go_wp2_with (fail)
  refine cV.out.mono ?_
  rintro e w1 ⟨vl, l, rfl, hr, hk, hs, hz⟩
  obtain ⟨b, cap, rfl, hb, hb2, hc⟩ := hs.form hz
  have hc0 := hc 0 hz
  have z0 := eq_true (show (0 : Int) < (l.length : Int) by omega)
  clear hc
  go_wp2
  go_ret
  exact ⟨_, rfl, hr, hk⟩
end Go.Proofs.YtieolphpgjpcmaaDoor

namespace Go.Proofs.YtieolphpgjpcmaaDoor
open Go.RowKit Go.Proofs.YtieolphpgjpcmaaDoorW.PrintWords

def e0 : ByteArray := ⟨#[]⟩
/-- A node out of the pieces that stand behind "=". -/
def eqRes (n : Nd) (l : List ByteArray) : Nd :=
  if l.length = 1 then { n with op := 3, value := l.getD 0 ⟨#[]⟩ }
  else if l.length = 2 ∧ (l.getD 0 ⟨#[]⟩).size = 0 ∧ (l.getD 1 ⟨#[]⟩).size = 0 then { n with op := 7 }
  else { n with op := 4, ini := l.getD 0 ⟨#[]⟩, any := (l.take (l.length - 1)).drop 1, fin := l.getD (l.length - 1) ⟨#[]⟩ }
/-- How a reader's fault and place stand behind a reading that comes to R: at j, with the pieces l. -/
def VOut (R : VRes) (s : ByteArray) (pl : Int) (l : List ByteArray) (j er' pl' : Int) : Prop :=
  (R = .ok l j ∧ er' = 0 ∧ pl' = pl ∧ j < (s.size : Int)) ∨ (∃ p, R = .bad p ∧ er' = 120 ∧ pl' = p)
theorem VEnd.out {w w' : World} {g : Nat} {s : ByteArray} {v : Value} {pl i0 : Int} {e : Ending} {R : VRes} (h : VEnd w w' g s v pl i0 e R) :
    ∃ vl l j er' pl', e = .returned vl ∧ RB w' g s j v er' pl' ∧ Kp (One g) w w' ∧ Strs w' w.heap.size vl l ∧ 0 < l.length ∧ (l.length : Int) ≤ (s.size : Int) + 1 ∧ i0 ≤ j ∧ j ≤ (s.size : Int) ∧ VOut R s pl l j er' pl' := by
  cases R with
  | ok l j =>
    obtain ⟨vl, rfl, hr, hk, hs, hz, hz9, hj0, hj1⟩ := h
    exact ⟨vl, l, j, 0, pl, rfl, hr, hk, hs, hz, hz9, hj0, by omega, .inl ⟨rfl, rfl, rfl, hj1⟩⟩
  | bad p =>
    obtain ⟨vl, l, j, rfl, hr, hk, hs, hz, hz9, hj0, hj1⟩ := h
    exact ⟨vl, l, j, 120, p, rfl, hr, hk, hs, hz, hz9, hj0, hj1, .inr ⟨p, rfl, rfl, rfl⟩⟩
theorem Blk.new2 (w : World) (o : Obj) (cs : Array Value) (t : TypeId) : Blk ((w.alloc o).alloc (.cells cs t)) (w.heap.size + 1) cs t := by
  have h := Blk.new (w.alloc o) cs t
  simpa using h
theorem strs_len {w : World} {base : Nat} {v : Value} {l : List ByteArray} (h : Strs w base v l) : l.length ≤ 9223372036854775807 := by
  rcases h.2 with ⟨_, hz⟩ | ⟨g, cap, cur, _, _, _, hc, hm, _⟩
  · omega
  · unfold maxLen at hm; omega
def Two (a b : Nat) : Nat → Prop := fun k => k = a ∨ k = b
def EqEnd (w w' : World) (g : Nat) (s : ByteArray) (v : Value) (pl i0 : Int) (n : Nd) (R : VRes) (e : Ending) : Prop :=
  ∃ l j er' pl' av, e = .returned (.agg ((eqRes n l).cells av)) ∧ AnyR w' w.heap.size (fun k => w.heap.size ≤ k) av (eqRes n l).any ∧ RB w' g s j v er' pl' ∧ Kp (One g) w w' ∧ i0 ≤ j ∧ j ≤ (s.size : Int) ∧ VOut R s pl l j er' pl'

section
variable {ops : Array Oper} {o : Oper} {a : Act} {Q : Exit → Act → World → Prop} {Kc : Act → World → Prop} {E : Prop}
theorem step_app_strs (W : World) {Wd : World} (base : Nat) (hgd : o.guard = none) (s x : Operand) (ho : o.op = .call { callee := .builtin .append, args := #[s, x], argTypes := #[45, 45] })
    (v : Value) (xs : List ByteArray) (y : ByteArray) (hs : a.eval s = v) (hx : a.eval x = .slice (some ⟨W.heap.size, 0, none⟩) 1 1) (HO : Strs W base v xs) (hbase : base ≤ W.heap.size) (hl : xs.length ≤ 4194400) (hW : Wd = W.alloc (.cells #[.string y] 9))
    (h : ∀ A c w1, Strs w1 base (.slice A (xs.length + 1) c) (xs ++ [y]) ∧ W.grownBy w1 v.ownBlock → Kc (a.put o.dst (.slice A (xs.length + 1) c)) w1) :
    if Region.wanted o (yielded ops a.tmps) = true then Oper.wp Tryd.prog o a Wd Kc Q else E := by
  subst hW
  have hw : Region.wanted o (yielded ops a.tmps) = true := by simp [Region.wanted, hgd]
  have key := step_append_cells (P := Tryd.prog) (ops := ops) (o := o) (a := a) (Q := Q) (K := Kc) (w0 := W) base hw s x 45 9 (.string ⟨#[]⟩) 1 16 ho Tryd.underlying45 infoStr rfl (by decide) (by decide) v xs.length (encs Value.string xs) [.string y] hs hx rfl (fun u hu => by rw [List.mem_singleton] at hu; rw [hu]; rfl) HO (Below.refl _ _) hbase (by omega)
    (fun v1 w1 hown _ hg _ => by
      have hs1 : Strs w1 base v1 (xs ++ [y]) := by simpa [Strs, encs] using hown
      obtain ⟨A, c, hv⟩ := own_slice hs1
      rw [List.length_append, List.length_singleton] at hv
      subst hv
      exact h A c w1 ⟨hs1, hg⟩)
  rw [if_pos hw] at key ⊢
  exact key
end
theorem res_rEq (tmps : Array Value) (W : World) (B : Nat) (n : Nd) (av : Value) (hp : tmps.getD 4 undef = .pointer (some ⟨B, 0, none⟩)) (hW : Blk W B (n.cells av) 49) : (results Tryd.f21 tmps).run Tryd.prog W = .ok (.agg (n.cells av)) W :=
  results_cell_row rfl tmps W B 49 (n.cells av) (0, 0) _ hp hW Tryd.underlying49 rfl (by kernel_rfl)
theorem EqEnd.mk_ {w w1 W : World} {g : Nat} {s : ByteArray} {v : Value} {pl i : Int} {n n' : Nd} {R : VRes} {l : List ByteArray} {j er' pl' : Int} {av : Value} (hR : RB w1 g s j v er' pl') (hA : g < w.heap.size) (hK : Kp (One g) w w1) (hO : VOut R s pl l j er' pl') (hj0 : i ≤ j) (hj1 : j ≤ (s.size : Int))
    (K12 : Kp (fun k => w.heap.size ≤ k) w1 W) (ER : eqRes n l = n') (hav : AnyR W w.heap.size (fun k => w.heap.size ≤ k) av n'.any) : EqEnd w W g s v pl i n R (.returned (.agg (n'.cells av))) :=
  ⟨l, j, er', pl', av, by rw [ER], by rw [ER]; exact hav, hR.kp K12 (fun q => by omega), hK.trans' K12 (fun i hi q => by omega), hj0, hj1, hO⟩

set_option maxHeartbeats 4000000 in
set_option maxRecDepth 100000 in
theorem req_any (g : Nat) (s : ByteArray) (i : Int) (v : Value) (pl : Int) (n : Nd) (w : World) (hp : RB w g s i v 0 pl) (hT : RowsAt w) (hg : 0 ≠ g) (h0 : 0 ≤ i) (h1 : i ≤ (s.size : Int)) (hl : s.size ≤ LIM) (hn : n.any = []) :
    Calls Tryd.prog 21 #[.pointer (some ⟨g, 0, none⟩), .agg (n.cells (.slice none 0 0))] w fun e w' => EqEnd w w' g s v pl i n (vals s true (s.size + 1) i false [] []) e := by
  obtain ⟨R, hR⟩ : ∃ R, vals s true (s.size + 1) i false [] [] = R := ⟨_, rfl⟩
  rw [hR]
  have cV := hd (fun W (hp : RB W g s i v 0 pl) (hT : RowsAt W) => rvalue_any g s i v pl true W hp hT hg h0 h1 hl)
  rw [hR] at cV
  have HN := hd hn
  have HT := hd hT
  have HG := hd (And.intro hg hp.lt)
  clear hR hn hT
  obtain ⟨nd, no, nde, nv, ni, na, nf, nr, ndn⟩ := n
  unfold Nd.cells
  go_enter Tryd.func21, Tryd.ntmps21
  go_wp2_with (fail)
  refine (cV.out _ ((hp.alloc _).alloc _) (HT.out.kp (((Kp.refl No w).alloc _).alloc _) (fun q => q))).mono ?_
  rintro e w1 hq
  obtain ⟨vl, l, j, er', pl', rfl, hr, hk, hs, hz, hz9, hj0, hj1, ho⟩ := hq.out
  have hlm : l.length ≤ 4194305 := by unfold LIM at hl; omega
  clear hz9
  have hA := HG.out.2
  have hB1 := hd ((((Blk.new w _ 49).alloc _).kp hk (fun q => by have q' : w.heap.size = g := q; omega)))
  have hB2 := hd (((Blk.new2 w _ _ 49).kp hk (fun q => by have q' : w.heap.size + 1 = g := q; omega)))
  have hK := hd ((((Kp.refl No w).alloc _).alloc _).mono (S' := One g) (fun _ _ q => q.elim) |>.trans hk)
  have hR := hd hr
  have hO := hd ho
  have hS := hd (show Strs w1 w.heap.size vl l ∧ ∀ k, vl.ownBlock = some k → w.heap.size + 2 ≤ k from ⟨own_weaken hs (by simp; omega), fun k e => by have := own_base hs k e; simp at this; omega⟩)
  obtain ⟨b, cap, rfl, hbb, hbl, hc⟩ := hs.form hz
  have HC := hd hc
  have hc0 := hc 0 hz
  have z1 : 0 < l.length := hz
  have zz := hd (strs_len hs)
  clear hc hs hr hk hq ho cV hp
  have n1 : (w.heap.size = b) = False := eq_false (by have := hS.out.2 b rfl; omega)
  have n2 : (w.heap.size + 1 = b) = False := eq_false (by have := hS.out.2 b rfl; omega)
  have c1 := hB1.out.c 1 rfl
  have f1 := hB1.out.f 1
  have hne : w.heap.size + 1 ≠ w.heap.size := by omega
  obtain rfl : na = [] := HN.out
  by_cases l1 : l.length = 1
  · have er : eqRes ⟨nd, no, nde, nv, ni, [], nf, nr, ndn⟩ l = ⟨nd, 3, nde, l.getD 0 ⟨#[]⟩, ni, [], nf, nr, ndn⟩ := by unfold eqRes; rw [if_pos l1]
    have ER := hd er
    clear er
    generalize l.getD 0 ⟨#[]⟩ = x0 at hc0 ER
    have c0 := hB1.out.c 0 rfl
    have c1 := hB1.out.c 1 rfl
    have c2 := hB1.out.c 2 rfl
    have c3 := hB1.out.c 3 rfl
    have c4 := hB1.out.c 4 rfl
    have c5 := hB1.out.c 5 rfl
    have c6 := hB1.out.c 6 rfl
    have c7 := hB1.out.c 7 rfl
    have c8 := hB1.out.c 8 rfl
    have d0 := hB2.out.c 0 rfl
    have d1 := hB2.out.c 1 rfl
    have d2 := hB2.out.c 2 rfl
    have d3 := hB2.out.c 3 rfl
    have d4 := hB2.out.c 4 rfl
    have d5 := hB2.out.c 5 rfl
    have d6 := hB2.out.c 6 rfl
    have d7 := hB2.out.c 7 rfl
    have d8 := hB2.out.c 8 rfl
    have f3 := hB1.out.f 3
    have f4 := hB1.out.f 4
    have f5 := hB1.out.f 5
    have f6 := hB1.out.f 6
    have g0 := hB2.out.f 0
    have g1 := hB2.out.f 1
    have g2 := hB2.out.f 2
    have g3 := hB2.out.f 3
    have g4 := hB2.out.f 4
    have g5 := hB2.out.f 5
    have g6 := hB2.out.f 6
    have g7 := hB2.out.f 7
    have g8 := hB2.out.f 8
    go_wp2
    refine bodyPost_ret (res_rEq _ _ (w.heap.size + 1) ⟨nd, 3, nde, x0, ni, [], nf, nr, ndn⟩ (.slice none 0 0) rfl (Blk.cast ((((((((((((hB2.out.far (p := ⟨w.heap.size, 1, none⟩) hne _).far (p := ⟨w.heap.size, 1, none⟩) hne _).far (p := ⟨w.heap.size, 3, none⟩) hne _).set 0 _).set 1 _).set 2 _).set 3 _).set 4 _).set 5 _).set 6 _).set 7 _).set 8 _) (by kernel_rfl))) rfl ?_
    exact EqEnd.mk_ hR.out hA hK.out hO.out hj0 hj1 (by repeat (first | (with_reducible exact Kp.refl _ _) | (with_reducible refine Kp.setCell ?_ (fun _ => by simp) _))) ER.out (AnyR.nil _ _ _)
  · by_cases l2 : l.length = 2 ∧ (l.getD 0 ⟨#[]⟩).size = 0 ∧ (l.getD 1 ⟨#[]⟩).size = 0
    · have er : eqRes ⟨nd, no, nde, nv, ni, [], nf, nr, ndn⟩ l = ⟨nd, 7, nde, nv, ni, [], nf, nr, ndn⟩ := by unfold eqRes; rw [if_neg l1, if_pos l2]
      have ER := hd er
      clear er
      have hc1 := HC.out 1 (by omega)
      have y0 := empty_iff (l.getD 0 ⟨#[]⟩)
      have y1 := empty_iff (l.getD 1 ⟨#[]⟩)
      rw [l2.2.1] at y0
      rw [l2.2.2] at y1
      have l2' := l2.1
      clear l2 l1
      generalize l.getD 0 ⟨#[]⟩ = x0 at hc0 y0
      generalize l.getD 1 ⟨#[]⟩ = x1 at hc1 y1
      have c0 := hB1.out.c 0 rfl
      have c1 := hB1.out.c 1 rfl
      have c2 := hB1.out.c 2 rfl
      have c3 := hB1.out.c 3 rfl
      have c4 := hB1.out.c 4 rfl
      have c5 := hB1.out.c 5 rfl
      have c6 := hB1.out.c 6 rfl
      have c7 := hB1.out.c 7 rfl
      have c8 := hB1.out.c 8 rfl
      have d0 := hB2.out.c 0 rfl
      have d1 := hB2.out.c 1 rfl
      have d2 := hB2.out.c 2 rfl
      have d3 := hB2.out.c 3 rfl
      have d4 := hB2.out.c 4 rfl
      have d5 := hB2.out.c 5 rfl
      have d6 := hB2.out.c 6 rfl
      have d7 := hB2.out.c 7 rfl
      have d8 := hB2.out.c 8 rfl
      have f3 := hB1.out.f 3
      have f4 := hB1.out.f 4
      have f5 := hB1.out.f 5
      have f6 := hB1.out.f 6
      have g0 := hB2.out.f 0
      have g1 := hB2.out.f 1
      have g2 := hB2.out.f 2
      have g3 := hB2.out.f 3
      have g4 := hB2.out.f 4
      have g5 := hB2.out.f 5
      have g6 := hB2.out.f 6
      have g7 := hB2.out.f 7
      have g8 := hB2.out.f 8
      go_wp2
      refine bodyPost_ret (res_rEq _ _ (w.heap.size + 1) ⟨nd, 7, nde, nv, ni, [], nf, nr, ndn⟩ (.slice none 0 0) rfl (Blk.cast (((((((((((hB2.out.far (p := ⟨w.heap.size, 1, none⟩) hne _).far (p := ⟨w.heap.size, 1, none⟩) hne _).set 0 _).set 1 _).set 2 _).set 3 _).set 4 _).set 5 _).set 6 _).set 7 _).set 8 _) (by kernel_rfl))) rfl ?_
      exact EqEnd.mk_ hR.out hA hK.out hO.out hj0 hj1 (by repeat (first | (with_reducible exact Kp.refl _ _) | (with_reducible refine Kp.setCell ?_ (fun _ => by simp) _))) ER.out (AnyR.nil _ _ _)
    · have er : eqRes ⟨nd, no, nde, nv, ni, [], nf, nr, ndn⟩ l = ⟨nd, 4, nde, nv, l.getD 0 ⟨#[]⟩, (l.take (l.length - 1)).drop 1, l.getD (l.length - 1) ⟨#[]⟩, nr, ndn⟩ := by unfold eqRes; rw [if_neg l1, if_neg l2]
      have ER := hd er
      clear er
      have hcl := HC.out (l.length - 1) (by omega)
      have hl3 : 2 ≤ l.length := by omega
      have t0 : ((l.length : Int) - 1 == 0) = false := by rw [beq_eq_false_iff_ne]; omega
      have tz := hd zz.out
      have hcs : (l.length = 2 ∧ (l.getD 0 ⟨#[]⟩).size = 0 ∧ (l.getD 1 ⟨#[]⟩).size ≠ 0) ∨ (l.length = 2 ∧ (l.getD 0 ⟨#[]⟩).size ≠ 0) ∨ l.length ≠ 2 := by
        by_cases q1 : l.length = 2
        · by_cases q2 : (l.getD 0 ⟨#[]⟩).size = 0
          · exact .inl ⟨q1, q2, fun q3 => l2 ⟨q1, q2, q3⟩⟩
          · exact .inr (.inl ⟨q1, q2⟩)
        · exact .inr (.inr q1)
      have hc1 := HC.out 1 (by omega)
      have y0 := empty_iff (l.getD 0 ⟨#[]⟩)
      have y1 := empty_iff (l.getD 1 ⟨#[]⟩)
      clear l1 l2
      generalize l.getD 0 ⟨#[]⟩ = x0 at hc0 y0 ER hcs
      generalize l.getD 1 ⟨#[]⟩ = x1 at hc1 y1 hcs
      generalize l.getD (l.length - 1) ⟨#[]⟩ = xl at hcl ER
      have f1' := hB1.out.f 1
      have hT1 : (((l.length : Int) - 1 == 1) = true ∧ x0.toList.isEmpty = true ∧ x1.toList.isEmpty = false) ∨ (((l.length : Int) - 1 == 1) = true ∧ x0.toList.isEmpty = false) ∨ ((l.length : Int) - 1 == 1) = false := by
        rcases hcs with ⟨q1, q2, q3⟩ | ⟨q1, q2⟩ | q1
        · exact .inl ⟨by rw [q1]; rfl, by rw [y0, q2]; rfl, by rw [y1]; simpa using q3⟩
        · exact .inr (.inl ⟨by rw [q1]; rfl, by rw [y0]; simpa using q2⟩)
        · exact .inr (.inr (by rw [beq_eq_false_iff_ne]; omega))
      clear hcs y0 y1
      have u5 : 1 < l.length := by omega
      have u6 := eq_true (show (1 : Int) < (l.length : Int) by omega)
      rcases hT1 with ⟨t1, t2, t3⟩ | ⟨t1, t2⟩ | t1
      all_goals
        have u0 := eq_true (show (0 : Int) < (l.length : Int) by omega)
        have u1 := eq_true (show (1 : Int) ≤ (l.length : Int) by omega)
        have u2 := eq_true (show (0 : Int) ≤ (l.length : Int) - 1 by omega)
        have u3 := eq_true (show (l.length : Int) - 1 < (l.length : Int) by omega)
        have u4 : ((l.length : Int) - 1).toNat = l.length - 1 := by omega
        have c0 := hB1.out.c 0 rfl
        have c1 := hB1.out.c 1 rfl
        have c2 := hB1.out.c 2 rfl
        have c3 := hB1.out.c 3 rfl
        have c4 := hB1.out.c 4 rfl
        have c5 := hB1.out.c 5 rfl
        have c6 := hB1.out.c 6 rfl
        have c7 := hB1.out.c 7 rfl
        have c8 := hB1.out.c 8 rfl
        have d0 := hB2.out.c 0 rfl
        have d1 := hB2.out.c 1 rfl
        have d2 := hB2.out.c 2 rfl
        have d3 := hB2.out.c 3 rfl
        have d4 := hB2.out.c 4 rfl
        have d5 := hB2.out.c 5 rfl
        have d6 := hB2.out.c 6 rfl
        have d7 := hB2.out.c 7 rfl
        have d8 := hB2.out.c 8 rfl
        have f3 := hB1.out.f 3
        have f4 := hB1.out.f 4
        have f5 := hB1.out.f 5
        have f6 := hB1.out.f 6
        have g0 := hB2.out.f 0
        have g1 := hB2.out.f 1
        have g2 := hB2.out.f 2
        have g3 := hB2.out.f 3
        have g4 := hB2.out.f 4
        have g5 := hB2.out.f 5
        have g6 := hB2.out.f 6
        have g7 := hB2.out.f 7
        have g8 := hB2.out.f 8
        go_wp2_with (fail)
        refine region_tail 9 (by kernel_rfl) (by kernel_rfl) ?_
        simp only [List.take_succ_cons, List.take_zero, List.drop_succ_cons, List.drop_zero]
        repeat still_step
        refine wpStill_nil ?_
        go_wp2
        clear c0 c1 c2 c3 c4 c5 c6 c7 c8 d0 d1 d2 d3 d4 d5 d6 d7 d8
        go_loopw [7] (fun q wr => ∃ (k : Nat) (av : Value), 1 ≤ k ∧ k ≤ l.length - 1 ∧ q = .int .i64 k ∧ Hid (Blk wr w.heap.size (Nd.cells ⟨nd, 4, nde, nv, x0, [], xl, nr, ndn⟩ av) 49) ∧ Hid (Strs wr w1.heap.size av ((l.take k).drop 1)) ∧ Hid (Kp (One w.heap.size) w1 wr)) (fun q _ => l.length - (intOf q).toNat)
        case atStart => exact ⟨1, .slice none 0 0, Nat.le_refl _, by omega, rfl, hd (Blk.cast (Blk.set (Blk.set (Blk.set (Blk.drew (hB1.out.set 1 _)) 4 _) 5 _) 6 _) (by kernel_rfl)), hd (by rw [show (l.take 1).drop 1 = [] from by cases l <;> rfl]; exact Strs.nil _ _), hd (by repeat (first | (with_reducible exact Kp.refl _ _) | (with_reducible refine Kp.setOne ?_ _ _) | (with_reducible refine Kp.drew ?_)))⟩
        case round =>
          obtain ⟨k, av, hk1, hk2, rfl, hB, hS2, hK2⟩ := hrel
          by_cases hlt : k < l.length - 1
          · have ck := hK2.out.cell (p := ⟨b, k, none⟩) (HC.out k (by omega)) (fun q => by have q' : b = w.heap.size := q; exact absurd q'.symm (of_eq_false n1))
            have e5 : wr.cell? ⟨w.heap.size, 5, none⟩ = some av := hB.out.c 5 rfl
            have g5' := hB.out.f 5
            have v1 := eq_true (show (k : Int) < (l.length : Int) by omega)
            have v2 := eq_true (show (0 : Int) ≤ (k : Int) by omega)
            have d9 : decide ((k : Int) < (l.length : Int) - 1) = true := decide_eq_true (by omega)
            have ht : Hid ((l.take (k + 1)).drop 1 = (l.take k).drop 1 ++ [l.getD k ⟨#[]⟩]) := hd (mid_snoc l k hk1 (by omega))
            obtain ⟨xs, hxs⟩ : ∃ xs, (l.take k).drop 1 = xs := ⟨_, rfl⟩
            have hxl : xs.length ≤ 4194400 := by rw [← hxs]; simp; omega
            rw [hxs] at ht hS2
            clear hxs
            generalize l.getD k ⟨#[]⟩ = y at ck ht
            have e5a : (wr.alloc (.cells #[.string y] 9)).cell? ⟨w.heap.size, 5, none⟩ = some av := (hB.out.alloc _).c 5 rfl
            go_wp2_with (fail)
            go_region_law (refine step_app_strs wr.drew w1.heap.size rfl (.tmp 54) (.tmp 59) rfl av xs y rfl rfl hS2.out hK2.out.size hxl rfl ?_; rintro A3 c3 w3 ⟨hs3, hg3⟩; have hB3 : Hid (Blk w3 w.heap.size (Nd.cells ⟨nd, 4, nde, nv, x0, [], xl, nr, ndn⟩ av) 49) := hd (blk_grown (Blk.drew hB.out) hg3 (fun e => absurd (own_base hS2.out _ e.symm) (by have := hB1.out.lt; omega))); have hS3 := hd hs3; have hG3 := hd hg3; clear hs3 hg3; have e6 : w3.cell? ⟨w.heap.size, 5, none⟩ = some av := hB3.out.c 5 rfl; have g6 := hB3.out.f 5)
            all_goals
              go_wp2
              go_roundw
              case rel => exact ⟨k + 1, _, by omega, by omega, by go_num, hd (Blk.cast (hB3.out.set 5 _) (by kernel_rfl)), hd (by rw [ht.out]; exact hS3.out.kp (S := One w.heap.size) ((Kp.refl _ _).setOne 5 _) (fun k' e' q => by have q' : k' = w.heap.size := q; have := own_base hS3.out k' e'; have := hB1.out.lt; omega)), hd ((hK2.out.drew.grown hG3.out (fun k' e' hlt' => absurd (own_base hS2.out k' e') (by omega))).setOne 5 _)⟩
              case measure => simp [intOf]; omega
          · obtain rfl : k = l.length - 1 := by omega
            obtain ⟨xs, hxs⟩ : ∃ xs, (l.take (l.length - 1)).drop 1 = xs := ⟨_, rfl⟩
            rw [hxs] at hS2 ER
            clear hxs
            obtain ⟨Av, cv, rfl⟩ := own_slice hS2.out
            have hBB := hd (hB2.out.kp hK2.out (fun q => by have q' : w.heap.size + 1 = w.heap.size := q; omega))
            have d9 : decide ((((l.length - 1 : Nat) : Int)) < (l.length : Int) - 1) = false := decide_eq_false (by omega)
            have ec : ((l.length - 1 : Nat) : Int) = (l.length : Int) - 1 := by omega
            rw [ec] at d9 ⊢
            clear ec
            have hBl : Blk wr w.heap.size #[.int .i64 nd, .int .i64 4, .string nde, .string nv, .string x0, .slice Av xs.length cv, .string xl, .string nr, .bool ndn] 49 := hB.out
            have c0 := hBl.c 0 rfl
            have c1 := hBl.c 1 rfl
            have c2 := hBl.c 2 rfl
            have c3 := hBl.c 3 rfl
            have c4 := hBl.c 4 rfl
            have c5 := hBl.c 5 rfl
            have c6 := hBl.c 6 rfl
            have c7 := hBl.c 7 rfl
            have c8 := hBl.c 8 rfl
            have d0 := hBB.out.c 0 rfl
            have d1 := hBB.out.c 1 rfl
            have d2 := hBB.out.c 2 rfl
            have d3 := hBB.out.c 3 rfl
            have d4 := hBB.out.c 4 rfl
            have d5 := hBB.out.c 5 rfl
            have d6 := hBB.out.c 6 rfl
            have d7 := hBB.out.c 7 rfl
            have d8 := hBB.out.c 8 rfl
            have g0 := hBB.out.f 0
            have g1 := hBB.out.f 1
            have g2 := hBB.out.f 2
            have g3 := hBB.out.f 3
            have g4 := hBB.out.f 4
            have g5 := hBB.out.f 5
            have g6 := hBB.out.f 6
            have g7 := hBB.out.f 7
            have g8 := hBB.out.f 8
            clear hBl
            go_wp2
            refine bodyPost_ret (res_rEq _ _ (w.heap.size + 1) ⟨nd, 4, nde, nv, x0, xs, xl, nr, ndn⟩ (.slice Av xs.length cv) rfl (Blk.cast (((((((((hBB.out.set 0 _).set 1 _).set 2 _).set 3 _).set 4 _).set 5 _).set 6 _).set 7 _).set 8 _) (by kernel_rfl))) rfl ?_
            have hK2m : Kp (fun k => w.heap.size ≤ k) w1 wr := hK2.out.mono (fun k _ q => by rw [show k = w.heap.size from q]; exact Nat.le_refl _)
            have hav : AnyR wr w.heap.size (fun k => w.heap.size + 2 ≤ k) (.slice Av xs.length cv) xs := ((AnyR.ofStrs hS2.out).lower (by have := hB1.out.lt; omega)).mono (fun k hk => by have := hB2.out.lt; omega)
            exact EqEnd.mk_ hR.out hA hK.out hO.out hj0 hj1 (by repeat (first | (with_reducible exact hK2m) | (with_reducible refine Kp.setCell ?_ (fun _ => by simp) _))) ER.out ((hav.kp (S := One (w.heap.size + 1)) (by repeat (first | (with_reducible exact Kp.refl _ _) | (with_reducible refine Kp.setOne ?_ _ _))) (fun k hk q => by have q' : k = w.heap.size + 1 := q; omega)).mono (fun k hk => by omega))
end Go.Proofs.YtieolphpgjpcmaaDoor
