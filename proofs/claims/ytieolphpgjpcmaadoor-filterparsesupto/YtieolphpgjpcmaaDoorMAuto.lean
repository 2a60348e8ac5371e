/- The reading of a description byte by byte (the program's) and by its parts (the reference's) are one: plain functions alone. | attr: letter, digit, key, whole, next. -/
import Derived.Test.YtieolphpgjpcmaaDoorM01

namespace Go.Proofs.YtieolphpgjpcmaaDoor
open Go.RowKit Go.Proofs.YtieolphpgjpcmaaDoorW.PrintWords

/-! the automaton of a description -/
def wholeB (a p : Nat) : Bool := a == 1 || a == 6 || ((a == 2 || a == 3) && decide (0 < p))
def nextA (bare : Bool) (a p : Nat) (c : Int) : Option (Nat × Nat) :=
  if c = 59 then (if bare = false ∧ wholeB a p = true then some (5, p) else none)
  else if (a = 0 ∧ letB c = true) ∨ (a = 1 ∧ keyB c = true) then some (1, p)
  else if (a = 5 ∨ a = 6) ∧ keyB c = true then some (6, p)
  else if (a = 0 ∨ a = 4) ∧ digB c = true then some (if c = 48 then 2 else 3, p)
  else if a = 3 ∧ digB c = true then some (3, p)
  else if (a = 2 ∨ a = 3) ∧ c = 46 then some (4, p + 1)
  else none
def runA (bare : Bool) : Nat → Nat → List Int → Option (Nat × Nat)
  | a, p, [] => some (a, p)
  | a, p, c :: l => match nextA bare a p c with | none => none | some (a', p') => runA bare a' p' l
def accA (bare : Bool) (a p : Nat) (l : List Int) : Bool := match runA bare a p l with | none => false | some (a', p') => wholeB a' p'
theorem accA_nil (bare : Bool) (a p : Nat) : accA bare a p [] = wholeB a p := rfl
theorem accA_cons (bare : Bool) (a p : Nat) (c : Int) (l : List Int) : accA bare a p (c :: l) = match nextA bare a p c with | none => false | some (a', p') => accA bare a' p' l := by
  unfold accA
  simp only [runA]
  cases nextA bare a p c <;> rfl
/-! the same by parts -/
def hdS (c : Int) : List Int → List Int
  | [] => []
  | x :: l => if x = c then [] else x :: hdS c l
def tlS (c : Int) : List Int → List (List Int)
  | [] => []
  | x :: l => if x = c then hdS c l :: tlS c l else tlS c l
def keysL (l : List Int) : Bool := l.all keyB && !l.isEmpty
def numL (l : List Int) : Bool := l.all digB && ((l == [48]) || (!l.isEmpty && (l.headD 0 != 48)))
def typeL (l : List Int) : Bool := if l = [] then false else if letB (l.headD 0) = true then keysL l else (hdS 46 l :: tlS 46 l).all numL && decide (1 < (hdS 46 l :: tlS 46 l).length)
def hdD (bare : Bool) (l : List Int) : List Int := if bare = true then l else hdS 59 l
def tlD (bare : Bool) (l : List Int) : Bool := if bare = true then true else (tlS 59 l).all keysL
def isL (bare : Bool) (l : List Int) : Bool := typeL (hdD bare l) && tlD bare l

/-- what a state wants of the rest -/
def want (p : Nat) (b : Bool) (h : List Int) : Bool := b && (tlS 46 h).all numL && decide (0 < p + (tlS 46 h).length)

theorem hdD_cons (bare : Bool) (x : Int) (l : List Int) : hdD bare (x :: l) = if bare = false ∧ x = 59 then [] else x :: hdD bare l := by
  cases bare <;> simp [hdD, hdS]
theorem tlD_cons (bare : Bool) (x : Int) (l : List Int) : tlD bare (x :: l) = if bare = false ∧ x = 59 then keysL (hdD bare l) && tlD bare l else tlD bare l := by
  cases bare
  · by_cases h : x = 59 <;> simp [tlD, tlS, hdD, h]
  · simp [tlD]

theorem cls (x : Int) : x = 59 ∨ x = 46 ∨ x = 45 ∨ x = 48 ∨ (49 ≤ x ∧ x ≤ 57) ∨ ((97 ≤ x ∧ x ≤ 122) ∨ (65 ≤ x ∧ x ≤ 90)) ∨ (keyB x = false ∧ letB x = false ∧ digB x = false ∧ x ≠ 59 ∧ x ≠ 46 ∧ x ≠ 45 ∧ x ≠ 48) := by
  by_cases h : keyB x = false ∧ letB x = false ∧ digB x = false ∧ x ≠ 59 ∧ x ≠ 46 ∧ x ≠ 45 ∧ x ≠ 48
  · exact .inr (.inr (.inr (.inr (.inr (.inr h)))))
  · simp only [keyB, alnum, letB, digB, Bool.or_eq_false_iff, Bool.and_eq_false_iff, decide_eq_false_iff_not, beq_eq_false_iff_ne] at h
    omega
theorem dig_of {x : Int} (h : 49 ≤ x ∧ x ≤ 57) : digB x = true ∧ letB x = false ∧ keyB x = true ∧ x ≠ 59 ∧ x ≠ 46 ∧ x ≠ 48 ∧ x ≠ 45 := by
  refine ⟨?_, ?_, ?_, by omega, by omega, by omega, by omega⟩
  · simp [digB]; omega
  · simp [letB]; omega
  · simp [keyB, alnum]; omega
theorem let_of {x : Int} (h : (97 ≤ x ∧ x ≤ 122) ∨ (65 ≤ x ∧ x ≤ 90)) : digB x = false ∧ letB x = true ∧ keyB x = true ∧ x ≠ 59 ∧ x ≠ 46 ∧ x ≠ 48 ∧ x ≠ 45 := by
  refine ⟨?_, ?_, ?_, by omega, by omega, by omega, by omega⟩
  · simp [digB]; omega
  · simp [letB]; omega
  · simp [keyB, alnum]; omega

theorem acc_all (bare : Bool) (l : List Int) :
    (∀ p, accA bare 6 p l = ((hdD bare l).all keyB && tlD bare l)) ∧
    (∀ p, accA bare 5 p l = (keysL (hdD bare l) && tlD bare l)) ∧
    (∀ p, accA bare 1 p l = ((hdD bare l).all keyB && tlD bare l)) ∧
    (∀ p, accA bare 3 p l = (want p ((hdS 46 (hdD bare l)).all digB) (hdD bare l) && tlD bare l)) ∧
    (∀ p, accA bare 2 p l = (want p ((hdS 46 (hdD bare l)).isEmpty) (hdD bare l) && tlD bare l)) ∧
    (∀ p, accA bare 4 p l = (want p (numL (hdS 46 (hdD bare l))) (hdD bare l) && tlD bare l)) ∧
    accA bare 0 0 l = isL bare l := by
  induction l with
  | nil => cases bare <;> simp [accA_nil, wholeB, hdD, tlD, hdS, tlS, keysL, want, numL, isL, typeL]
  | cons x l ih =>
    obtain ⟨i6, i5, i1, i3, i2, i4, i0⟩ := ih
    have k59 : keyB 59 = false := by decide
    have d59 : digB 59 = false := by decide
    have l59 : letB 59 = false := by decide
    have k46 : keyB 46 = false := by decide
    have d46 : digB 46 = false := by decide
    have l46 : letB 46 = false := by decide
    have k45 : keyB 45 = true := by decide
    have d45 : digB 45 = false := by decide
    have l45 : letB 45 = false := by decide
    have k48 : keyB 48 = true := by decide
    have d48 : digB 48 = true := by decide
    have l48 : letB 48 = false := by decide
    simp only [accA_cons, hdD_cons, tlD_cons, isL]
    rcases cls x with rfl | rfl | rfl | rfl | h | h | ⟨h1, h2, h3, h4, h5, h6, h7⟩
    · cases bare <;> simp [nextA, wholeB, hdS, tlS, keysL, want, numL, typeL, i5, k59, d59, l59]
      intro p
      by_cases hp : 0 < p
      · simp [hp, i5, keysL]
      · simp [hp]
    · cases bare <;> simp [nextA, hdS, tlS, keysL, want, numL, typeL, i4, k46, d46, l46, Nat.add_assoc, Nat.add_comm]
    · cases bare <;> simp [nextA, hdS, tlS, keysL, want, numL, typeL, i6, i1, k45, d45, l45]
    · cases bare <;> simp [nextA, hdS, tlS, keysL, want, numL, typeL, i6, i1, i2, i3, k48, d48, l48]
      all_goals
        cases hE : (hdS 46 (hdD _ l)) with
        | nil => simp
        | cons y t => simp
    · obtain ⟨a1, a2, a3, a4, a5, a6, a7⟩ := dig_of h
      have a8 : (x == 48) = false := by simpa using a6
      have a9 : (x != 48) = true := by simpa using a6
      cases bare <;> simp [nextA, hdS, tlS, keysL, want, numL, typeL, i6, i1, i3, a1, a2, a3, a4, a5, a6, a8, a9]
    · obtain ⟨a1, a2, a3, a4, a5, a6, a7⟩ := let_of h
      cases bare <;> simp [nextA, hdS, tlS, keysL, want, numL, typeL, i6, i1, a1, a2, a3, a4, a5]
    · cases bare <;> simp [nextA, hdS, tlS, keysL, want, numL, typeL, h1, h2, h3, h4, h5]

theorem accA_eq (bare : Bool) (l : List Int) : accA bare 0 0 l = isL bare l := (acc_all bare l).2.2.2.2.2.2
theorem runA_append (bare : Bool) (l m : List Int) : ∀ a p, runA bare a p (l ++ m) = match runA bare a p l with | none => none | some (a', p') => runA bare a' p' m := by
  induction l with
  | nil => intro a p; rfl
  | cons c l ih =>
    intro a p
    simp only [List.cons_append, runA]
    cases nextA bare a p c with
    | none => rfl
    | some q => exact ih q.1 q.2
theorem nextA_inv {bare : Bool} {a p a' p' : Nat} {c : Int} (h : nextA bare a p c = some (a', p')) : a' ≤ 6 ∧ (a' = 4 → 0 < p') := by
  unfold nextA at h
  split at h
  · split at h
    · simp only [Option.some.injEq, Prod.mk.injEq] at h; omega
    · exact absurd h (by simp)
  split at h
  · simp only [Option.some.injEq, Prod.mk.injEq] at h; omega
  split at h
  · simp only [Option.some.injEq, Prod.mk.injEq] at h; omega
  split at h
  · simp only [Option.some.injEq, Prod.mk.injEq] at h
    split at h <;> omega
  split at h
  · simp only [Option.some.injEq, Prod.mk.injEq] at h; omega
  split at h
  · simp only [Option.some.injEq, Prod.mk.injEq] at h; omega
  · exact absurd h (by simp)
theorem runA_inv (bare : Bool) (l : List Int) : ∀ {a p a' p' : Nat}, a ≤ 6 ∧ (a = 4 → 0 < p) → runA bare a p l = some (a', p') → a' ≤ 6 ∧ (a' = 4 → 0 < p') := by
  induction l with
  | nil => intro a p a' p' h0 h; simp only [runA, Option.some.injEq, Prod.mk.injEq] at h; obtain ⟨rfl, rfl⟩ := h; exact h0
  | cons c l ih =>
    intro a p a' p' h0 h
    simp only [runA] at h
    cases hn : nextA bare a p c with
    | none => rw [hn] at h; exact absurd h (by simp)
    | some q => rw [hn] at h; exact ih (nextA_inv hn) h
def endsI : List (List Int) := [[], [97], [49], [46, 49]]
theorem ends_acc (bare : Bool) (a p : Nat) (h : a ≤ 6) (h4 : a = 4 → 0 < p) : endsI.any (fun e => accA bare a p e) = true := by
  have k97 : keyB 97 = true := by decide
  have l97 : letB 97 = true := by decide
  have d49 : digB 49 = true := by decide
  have d46 : digB 46 = false := by decide
  rcases (by omega : a = 0 ∨ a = 1 ∨ a = 2 ∨ a = 3 ∨ a = 4 ∨ a = 5 ∨ a = 6) with rfl | rfl | rfl | rfl | rfl | rfl | rfl
  all_goals simp_all [endsI, accA, runA, nextA, wholeB]
theorem goesL (bare : Bool) (l : List Int) : endsI.any (fun e => isL bare (l ++ e)) = (runA bare 0 0 l).isSome := by
  have e1 : ∀ e, isL bare (l ++ e) = match runA bare 0 0 l with | none => false | some (a, p) => accA bare a p e := by
    intro e
    rw [← accA_eq, accA, runA_append]
    cases runA bare 0 0 l <;> rfl
  cases hr : runA bare 0 0 l with
  | none => simp [e1, hr]
  | some q =>
    have hi := runA_inv bare l ⟨by omega, by omega⟩ hr
    simp only [e1, hr, Option.isSome_some]
    exact ends_acc bare q.1 q.2 hi.1 hi.2
theorem run_mono (bare : Bool) (l : List Int) {i j : Nat} (h : i ≤ j) (hj : (runA bare 0 0 (l.take j)).isSome = true) : (runA bare 0 0 (l.take i)).isSome = true := by
  have e : l.take j = l.take i ++ (l.take j).drop i := by
    conv => lhs; rw [← List.take_append_drop i (l.take j)]
    rw [List.take_take, Nat.min_eq_left h]
  rw [e, runA_append] at hj
  cases hr : runA bare 0 0 (l.take i) with
  | none => rw [hr] at hj; exact hj
  | some q => rfl
theorem bytesOf_extract (s : ByteArray) (a b : Nat) : bytesOf (s.extract a b) = ((bytesOf s).take b).drop a := by
  unfold bytesOf
  rw [ByteArray.data_extract, Array.toList_extract, List.extract_eq_take_drop, ← List.drop_take, ← List.map_take, ← List.map_drop]
theorem bytesOf_append (s e : ByteArray) : bytesOf (s ++ e) = bytesOf s ++ bytesOf e := by
  unfold bytesOf
  rw [ByteArray.data_append, Array.toList_append, List.map_append]
theorem drop_bt (s : ByteArray) {i : Int} (h0 : 0 ≤ i) (h1 : i < (s.size : Int)) : (bytesOf s).drop i.toNat = bt s i :: (bytesOf s).drop (i + 1).toNat := by
  have hl : i.toNat < (bytesOf s).length := by rw [bytesOf_length]; omega
  rw [List.drop_eq_getElem_cons hl, ← rd_bytesOf, rd, List.getD_eq_getElem?_getD, List.getElem?_eq_getElem hl]
  rw [show (i + 1).toNat = i.toNat + 1 by omega]
  rfl
theorem take_bt (s : ByteArray) {i : Int} (h0 : 0 ≤ i) (h1 : i < (s.size : Int)) : (bytesOf s).take (i + 1).toNat = (bytesOf s).take i.toNat ++ [bt s i] := by
  have hl : i.toNat < (bytesOf s).length := by rw [bytesOf_length]; omega
  rw [show (i + 1).toNat = i.toNat + 1 by omega, List.take_succ_eq_append_getElem hl, ← rd_bytesOf, rd, List.getD_eq_getElem?_getD, List.getElem?_eq_getElem hl]
  rfl
theorem drop_end (s : ByteArray) {i : Int} (h1 : (s.size : Int) ≤ i) : (bytesOf s).drop i.toNat = [] := List.drop_eq_nil_of_le (by rw [bytesOf_length]; omega)
theorem allF_eq (P : Int → Bool) (s : ByteArray) : ∀ (n : Nat) (i : Int), 0 ≤ i → i ≤ (s.size : Int) → (s.size : Int) - i < n → allF P s n i = ((bytesOf s).drop i.toNat).all P := by
  intro n
  induction n with
  | zero => intro i h0 h1 h2; omega
  | succ n ih =>
    intro i h0 h1 h2
    by_cases hi : i < (s.size : Int)
    · rw [drop_bt s h0 hi, List.all_cons]
      cases hp : P (bt s i) with
      | true => rw [allF_go hi hp, ih _ (by omega) (by omega) (by omega), Bool.true_and]
      | false => rw [allF_no hi hp, Bool.false_and]
    · rw [allF_end hi, drop_end s (by omega)]; rfl
theorem all_bytes (P : Int → Bool) (s : ByteArray) : allF P s (s.size + 1) 0 = (bytesOf s).all P := by
  rw [allF_eq P s _ 0 (by omega) (by omega) (by omega)]; rfl
theorem bytes_nil (s : ByteArray) : (s.size == 0) = (bytesOf s).isEmpty := by
  rw [← bytesOf_length]; cases bytesOf s <;> rfl
theorem bytes_head (s : ByteArray) : (bytesOf s).headD 0 = bt s 0 := by
  rw [← rd_bytesOf, rd]; cases bytesOf s <;> rfl
theorem keysB_eq (s : ByteArray) : keysB s = keysL (bytesOf s) := by
  unfold keysB keysL
  rw [all_bytes, bytes_nil]
theorem numberB_eq (s : ByteArray) : numberB s = numL (bytesOf s) := by
  unfold numberB numL
  rw [all_bytes, bytes_nil, bytes_head]
  congr 2
  have e : ∀ l : List Int, (l == [48]) = (l.length == 1 && l.headD 0 == 48) := by
    intro l
    rcases l with _ | ⟨x, _ | ⟨y, l⟩⟩
    · rfl
    · simp
    · simp
  rw [e, bytesOf_length, bytes_head]
theorem mid_snoc' (s : ByteArray) {lo i : Int} (h0 : 0 ≤ lo) (h1 : lo ≤ i) (h2 : i < (s.size : Int)) : ((bytesOf s).take (i + 1).toNat).drop lo.toNat = ((bytesOf s).take i.toNat).drop lo.toNat ++ [bt s i] := by
  rw [take_bt s (by omega) h2, List.drop_append_of_le_length]
  rw [List.length_take, bytesOf_length]; omega
theorem partsF_eq (s : ByteArray) (c : Int) : ∀ (n : Nat) (i lo : Int) (acc : List ByteArray), 0 ≤ lo → lo ≤ i → i ≤ (s.size : Int) → (s.size : Int) - i < n →
    (partsF s c n i lo acc).map bytesOf = acc.map bytesOf ++ (((bytesOf s).take i.toNat).drop lo.toNat ++ hdS c ((bytesOf s).drop i.toNat)) :: tlS c ((bytesOf s).drop i.toNat) := by
  intro n
  induction n with
  | zero => intro i lo acc h0 h1 h2 h3; omega
  | succ n ih =>
    intro i lo acc h0 h1 h2 h3
    by_cases hi : i < (s.size : Int)
    · by_cases hc : bt s i = c
      · simp only [partsF]
        rw [if_pos hi, if_pos hc, ih _ _ _ (by omega) (by omega) (by omega) (by omega), drop_bt s (by omega) hi]
        simp only [hdS, tlS]
        rw [if_pos hc, if_pos hc, List.map_append, List.map_cons, List.map_nil, bytesOf_extract, List.append_nil]
        rw [show ((bytesOf s).take (i + 1).toNat).drop (i + 1).toNat = [] from List.drop_eq_nil_of_le (by rw [List.length_take]; omega)]
        simp
      · simp only [partsF]
        rw [if_pos hi, if_neg hc, ih _ _ _ (by omega) (by omega) (by omega) (by omega), drop_bt s (by omega) hi]
        simp only [hdS, tlS]
        rw [if_neg hc, if_neg hc, mid_snoc' s h0 h1 hi, List.append_assoc]
        rfl
    · have e : i = (s.size : Int) := by omega
      simp only [partsF]
      rw [if_neg hi, drop_end s (by omega), List.map_append, List.map_cons, List.map_nil, bytesOf_extract, e]
      simp [hdS, tlS]
theorem partsS_eq (s : ByteArray) (c : Int) : (partsS s c).map bytesOf = hdS c (bytesOf s) :: tlS c (bytesOf s) := by
  unfold partsS
  rw [partsF_eq s c _ 0 0 [] (by omega) (by omega) (by omega) (by omega)]
  simp
theorem partsS_cons (s : ByteArray) (c : Int) : ∃ x l, partsS s c = x :: l ∧ bytesOf x = hdS c (bytesOf s) ∧ l.map bytesOf = tlS c (bytesOf s) := by
  have h := partsS_eq s c
  cases hp : partsS s c with
  | nil => rw [hp] at h; simp at h
  | cons x l => rw [hp] at h; simp only [List.map_cons, List.cons.injEq] at h; exact ⟨x, l, rfl, h.1, h.2⟩
theorem all_map_bytes {P : ByteArray → Bool} {Q : List Int → Bool} (h : ∀ s, P s = Q (bytesOf s)) (l : List ByteArray) : l.all P = (l.map bytesOf).all Q := by
  rw [List.all_map]; congr 1; funext s; exact h s
theorem isTypeB_eq (s : ByteArray) : isTypeB s = typeL (bytesOf s) := by
  unfold isTypeB typeL
  have e : s.size = 0 ↔ bytesOf s = [] := by rw [← bytesOf_length, List.length_eq_zero_iff]
  rw [bytes_head, keysB_eq, all_map_bytes numberB_eq, ← List.length_map (f := bytesOf), partsS_eq]
  by_cases h : s.size = 0
  · rw [if_pos h, if_pos (e.1 h)]
  · rw [if_neg h, if_neg (fun q => h (e.2 q))]
theorem isXB_eq (s : ByteArray) (bare : Bool) : isXB s bare = isL bare (bytesOf s) := by
  unfold isXB isL hdD tlD
  cases bare with
  | true => simp [isTypeB_eq]
  | false =>
    simp only [Bool.false_eq_true, if_false]
    unfold isDescB
    obtain ⟨x, l, hp, hx, hl⟩ := partsS_cons s 59
    rw [hp, Bool.and_comm]
    simp only [List.drop_succ_cons, List.drop_zero, List.getD_cons_zero]
    rw [isTypeB_eq, hx, all_map_bytes keysB_eq, hl]
theorem goesB_eq (s : ByteArray) (bare : Bool) : goesB s bare = (runA bare 0 0 (bytesOf s)).isSome := by
  rw [← goesL]
  unfold goesB endsI
  simp only [endsL, List.any_cons, List.any_nil, isXB_eq, bytesOf_append]
  rfl
/-- The place: the greatest front that goes on. -/
theorem placeF_spec (s : ByteArray) (bare : Bool) : ∀ (n : Nat) (lo hi : Int), 0 ≤ lo → lo ≤ hi → hi ≤ (s.size : Int) → hi - lo < n →
    (runA bare 0 0 ((bytesOf s).take lo.toNat)).isSome = true → (∀ p : Int, hi < p → p ≤ (s.size : Int) → (runA bare 0 0 ((bytesOf s).take p.toNat)).isSome = false) →
    0 ≤ placeF s bare n lo hi ∧ placeF s bare n lo hi ≤ (s.size : Int) ∧ (runA bare 0 0 ((bytesOf s).take (placeF s bare n lo hi).toNat)).isSome = true ∧ (∀ p : Int, placeF s bare n lo hi < p → p ≤ (s.size : Int) → (runA bare 0 0 ((bytesOf s).take p.toNat)).isSome = false) := by
  intro n
  induction n with
  | zero => intro lo hi h0 h1 h2 h3; omega
  | succ n ih =>
    intro lo hi h0 h1 h2 h3 hg hb
    simp only [placeF]
    by_cases hlt : lo < hi
    · rw [if_pos hlt, goesB_eq, bytesOf_extract, List.drop_zero]
      cases hm : (runA bare 0 0 ((bytesOf s).take ((lo + hi + 1) / 2).toNat)).isSome with
      | true =>
        rw [if_pos rfl]
        exact ih _ _ (by omega) (by omega) h2 (by omega) hm hb
      | false =>
        rw [if_neg (by simp)]
        refine ih _ _ h0 (by omega) (by omega) (by omega) hg (fun p hp hp2 => ?_)
        rw [Bool.eq_false_iff]
        intro hq
        have := run_mono bare (bytesOf s) (i := ((lo + hi + 1) / 2).toNat) (j := p.toNat) (by omega) hq
        rw [hm] at this
        exact absurd this (by simp)
    · rw [if_neg hlt]
      obtain rfl : lo = hi := by omega
      exact ⟨h0, h2, hg, hb⟩
theorem placeS_is (s : ByteArray) (bare : Bool) (i : Int) (h0 : 0 ≤ i) (h1 : i ≤ (s.size : Int)) (hg : (runA bare 0 0 ((bytesOf s).take i.toNat)).isSome = true)
    (hb : i < (s.size : Int) → (runA bare 0 0 ((bytesOf s).take (i + 1).toNat)).isSome = false) : placeS s bare = i := by
  obtain ⟨a, b, c, d⟩ := placeF_spec s bare (s.size + 1) 0 s.size (by omega) (by omega) (by omega) (by omega) rfl (fun p h h' => by omega)
  unfold placeS
  generalize placeF s bare (s.size + 1) 0 s.size = r at a b c d
  rcases Int.lt_trichotomy r i with h | h | h
  · rw [d i h h1] at hg; exact absurd hg (by simp)
  · exact h
  · have := run_mono bare (bytesOf s) (i := (i + 1).toNat) (j := r.toNat) (by omega) c
    rw [hb (by omega)] at this
    exact absurd this (by simp)
/-- The program's reading of a description: from i on, in state (a, p). -/
def scanF (s : ByteArray) (bare : Bool) : Nat → Int → Nat → Nat → Bool × Int
  | 0, i, _, _ => (false, i)
  | n + 1, i, a, p => if i < (s.size : Int) then (match nextA bare a p (bt s i) with | none => (false, i) | some (a', p') => scanF s bare n (i + 1) a' p') else (wholeB a p, (s.size : Int))
def scanS (s : ByteArray) (bare : Bool) : Bool × Int := scanF s bare (s.size + 1) 0 0 0
theorem runA_snoc (bare : Bool) (l : List Int) (x : Int) {a p a' p' : Nat} (h : runA bare a p l = some (a', p')) : runA bare a p (l ++ [x]) = nextA bare a' p' x := by
  rw [runA_append, h]
  simp only [runA]
  cases nextA bare a' p' x <;> rfl
theorem scanF_spec (s : ByteArray) (bare : Bool) : ∀ (n : Nat) (i : Int) (a p : Nat), 0 ≤ i → i ≤ (s.size : Int) → (s.size : Int) - i < n → runA bare 0 0 ((bytesOf s).take i.toNat) = some (a, p) →
    scanF s bare n i a p = (isXB s bare, if isXB s bare = true then (s.size : Int) else placeS s bare) := by
  intro n
  induction n with
  | zero => intro i a p h0 h1 h2; omega
  | succ n ih =>
    intro i a p h0 h1 h2 hr
    simp only [scanF]
    by_cases hi : i < (s.size : Int)
    · rw [if_pos hi]
      have hs := runA_snoc bare _ (bt s i) hr
      rw [← take_bt s h0 hi] at hs
      cases hn : nextA bare a p (bt s i) with
      | none =>
        rw [hn] at hs
        have hp : placeS s bare = i := placeS_is s bare i h0 h1 (by rw [hr]; rfl) (fun _ => by rw [hs]; rfl)
        have hx : isXB s bare = false := by
          rw [isXB_eq, ← accA_eq]
          have e : bytesOf s = (bytesOf s).take (i + 1).toNat ++ (bytesOf s).drop (i + 1).toNat := (List.take_append_drop _ _).symm
          rw [e]
          unfold accA
          rw [runA_append, hs]
        rw [hx, hp]
        rfl
      | some q =>
        rw [hn] at hs
        exact ih _ _ _ (by omega) (by omega) (by omega) hs
    · rw [if_neg hi]
      have e : i = (s.size : Int) := by omega
      have e2 : (bytesOf s).take i.toNat = bytesOf s := List.take_of_length_le (by rw [bytesOf_length]; omega)
      have hx : isXB s bare = wholeB a p := by
        rw [isXB_eq, ← accA_eq]
        unfold accA
        rw [← e2, hr]
      rw [hx]
      cases hw : wholeB a p with
      | true => simp
      | false =>
        have hp : placeS s bare = i := placeS_is s bare i h0 h1 (by rw [hr]; rfl) (fun q => absurd q hi)
        rw [hp, e]
        rfl
theorem scanS_eq (s : ByteArray) (bare : Bool) : scanS s bare = (isXB s bare, if isXB s bare = true then (s.size : Int) else placeS s bare) :=
  scanF_spec s bare _ 0 0 0 (by omega) (by omega) (by omega) rfl
end Go.Proofs.YtieolphpgjpcmaaDoor

namespace Go.Proofs.YtieolphpgjpcmaaDoor
open Go.RowKit Go.Proofs.YtieolphpgjpcmaaDoorW.PrintWords

set_option maxHeartbeats 1000000 in
set_option maxRecDepth 100000 in
theorem aletter_any (c : Int) (w : World) (hb : 0 ≤ c ∧ c ≤ 255) :
    Calls Tryd.prog 68 #[.int .u8 c] w fun e w' => e = .returned (.bool (letB c)) ∧ Dr w w' := by
  have q : (c < 65) ∨ (65 ≤ c ∧ c ≤ 90) ∨ (91 ≤ c ∧ c ≤ 96) ∨ (97 ≤ c ∧ c ≤ 122) ∨ 123 ≤ c := by omega
  obtain ⟨R, hR⟩ : ∃ R, letB c = R := ⟨_, rfl⟩
  rw [hR]
  have HR := hd hR
  clear hR
  rcases q with q | q | q | q | q
  all_goals
    first | (have e := HR.out.symm.trans (show letB c = true by simp [letB]; omega); subst e) | (have e := HR.out.symm.trans (show letB c = false by simp [letB]; omega); subst e)
    first | (have t0 : decide (97 ≤ c) = true := decide_eq_true (by omega)) | (have t0 : decide (97 ≤ c) = false := decide_eq_false (by omega))
    first | (have t1 : decide (c ≤ 122) = true := decide_eq_true (by omega)) | (have t1 : decide (c ≤ 122) = false := decide_eq_false (by omega))
    first | (have t2 : decide (65 ≤ c) = true := decide_eq_true (by omega)) | (have t2 : decide (65 ≤ c) = false := decide_eq_false (by omega))
    first | (have t3 : decide (c ≤ 90) = true := decide_eq_true (by omega)) | (have t3 : decide (c ≤ 90) = false := decide_eq_false (by omega))
    go_enter Tryd.func68, Tryd.ntmps68
    go_wp2
    repeat (go_quiet (fail); try go_wp2)
    go_ret
    exact ⟨rfl, by repeat (first | exact Dr.refl _ | apply Dr.drewN)⟩

set_option maxHeartbeats 1000000 in
set_option maxRecDepth 100000 in
theorem adigit_any (c : Int) (w : World) (hb : 0 ≤ c ∧ c ≤ 255) :
    Calls Tryd.prog 70 #[.int .u8 c] w fun e w' => e = .returned (.bool (digB c)) ∧ Dr w w' := by
  have q : (c < 48) ∨ (48 ≤ c ∧ c ≤ 57) ∨ 58 ≤ c := by omega
  obtain ⟨R, hR⟩ : ∃ R, digB c = R := ⟨_, rfl⟩
  rw [hR]
  have HR := hd hR
  clear hR
  rcases q with q | q | q
  all_goals
    first | (have e := HR.out.symm.trans (show digB c = true by simp [digB]; omega); subst e) | (have e := HR.out.symm.trans (show digB c = false by simp [digB]; omega); subst e)
    first | (have t4 : decide (48 ≤ c) = true := decide_eq_true (by omega)) | (have t4 : decide (48 ≤ c) = false := decide_eq_false (by omega))
    first | (have t5 : decide (c ≤ 57) = true := decide_eq_true (by omega)) | (have t5 : decide (c ≤ 57) = false := decide_eq_false (by omega))
    go_enter Tryd.func70, Tryd.ntmps70
    go_wp2
    repeat (go_quiet (fail); try go_wp2)
    go_ret
    exact ⟨rfl, by repeat (first | exact Dr.refl _ | apply Dr.drewN)⟩

theorem key_split (c : Int) : keyB c = (letB c || digB c || c == 45) := rfl
set_option maxHeartbeats 1000000 in
set_option maxRecDepth 100000 in
theorem akey_any (c : Int) (w : World) (hb : 0 ≤ c ∧ c ≤ 255) :
    Calls Tryd.prog 69 #[.int .u8 c] w fun e w' => e = .returned (.bool (keyB c)) ∧ Dr w w' := by
  obtain ⟨R, hR⟩ : ∃ R, keyB c = R := ⟨_, rfl⟩
  rw [hR]
  have HR := hd ((key_split c).symm.trans hR)
  clear hR
  have cL := hd (fun W => aletter_any c W hb)
  have cD := hd (fun W => adigit_any c W hb)
  obtain ⟨l, hl⟩ : ∃ l, letB c = l := ⟨_, rfl⟩
  obtain ⟨d, hdd⟩ : ∃ d, digB c = d := ⟨_, rfl⟩
  obtain ⟨m, hm⟩ : ∃ m, (c == 45) = m := ⟨_, rfl⟩
  rw [hl] at HR cL
  rw [hdd] at HR cD
  rw [hm] at HR
  clear hl hdd
  cases l <;> cases d <;> cases m
  all_goals
    obtain rfl := HR.out
    go_enter Tryd.func69, Tryd.ntmps69
    go_wp2_with (first | (go_at_call 68; refine (cL.out _).mono ?_; rintro e w' ⟨rfl, n, rfl⟩) | (go_at_call 70; refine (cD.out _).mono ?_; rintro e w' ⟨rfl, n, rfl⟩))
    repeat (go_quiet (fail); try go_wp2)
    go_ret
    exact ⟨rfl, by repeat (first | exact Dr.refl _ | apply Dr.drewN)⟩
end Go.Proofs.YtieolphpgjpcmaaDoor
