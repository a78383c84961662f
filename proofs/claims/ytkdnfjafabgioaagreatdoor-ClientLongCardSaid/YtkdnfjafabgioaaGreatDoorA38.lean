import Derived.Test.YtkdnfjafabgioaaGreatDoorA37
import Derived.Lib.IndexMore
set_option linter.unusedVariables false
set_option linter.unusedSimpArgs false
namespace Go.Proofs.YtkdnfjafabgioaaGreatDoor.Own
open Go.RowKit Go.Shelf

/-- What a command writes behind its verb. -/
def partsOf2 (c : Cmd) : List (List UInt8) :=
  if c.kind = 5 then [boxOf c.box]
  else if c.kind = 6 then parts6 c
  else if c.kind = 7 then [sqPrint c.set, itemsOf c.items.toNat]
  else if c.kind = 8 then [sqPrint c.set, modeOf c.mode.toNat c.silent, flagList c.flags]
  else []
/-- A command's words. -/
def wordsOf (c : Cmd) : List (List UInt8) := [c.tag, verbOf c.kind] ++ partsOf2 c
/-- A command's text, without its end. -/
def textOf (c : Cmd) : List UInt8 := Lib.join (wordsOf c) [32]
/-- May this text be sent? -/
def sendB (t : List UInt8) : Bool :=
  decide ((framesS (t ++ [13, 10]) 0 0).2 = 0) && ((framesS (t ++ [13, 10]) 0 0).1.getLast? == some (1, t))
/-- What Print tells. -/
def printOf (c : Cmd) : Option (List UInt8) := if validOf c then (if sendB (textOf c) then some (textOf c ++ [13, 10]) else none) else none
/-- How many frames say 'go on'. -/
def readyN (fs : List (Nat × List UInt8)) : Nat := (fs.filter fun f => f.1 == 2).length
def literalsOf (c : Cmd) : Nat := match printOf c with
  | some b => readyN (framesS b 0 0).1
  | none => 0

/-! ClientLong, without the program. -/
theorem index_crlf (r : List UInt8) : ∀ p : List UInt8, (∀ c ∈ p, c ≠ 13) → Lib.index (p ++ 13 :: 10 :: r) [13, 10] = p.length
  | [], _ => by
    show Lib.index (13 :: 10 :: r) [13, 10] = 0
    unfold Lib.index
    simp
  | c :: p, h => by
    have ih := index_crlf r p (fun x hx => h x (by simp [hx]))
    have hc : c ≠ 13 := h c (by simp)
    show Lib.index (c :: (p ++ 13 :: 10 :: r)) [13, 10] = _
    unfold Lib.index
    rw [ih]
    have e1 : List.isPrefixOf [13, 10] (c :: (p ++ 13 :: 10 :: r)) = false := by
      simp [List.isPrefixOf, Ne.symm hc]
    have e2 : ((p.length : Int) == -1) = false := by rw [beq_eq_false_iff_ne]; omega
    rw [e1, e2]
    simp
theorem endAt_crlf (q p r : List UInt8) (h : ∀ c ∈ p, c ≠ 13) : endAt (q ++ (p ++ 13 :: 10 :: r)) q.length = p.length := by
  unfold endAt
  rw [List.drop_left]
  exact index_crlf r p h

theorem next_nil : nextS [] 0 0 = none := by
  have h : endAt [] 0 < 0 := by decide
  unfold nextS
  rw [if_pos (by simp), if_pos h]
theorem frames_nil : framesS [] 0 0 = ([], 0) := framesS_none next_nil

/-- One line without 13, not announced. -/
theorem frames_line (t : List UInt8) (h : ∀ c ∈ t, c ≠ 13) (ha : announcedOf t = none) :
    framesS (t ++ [13, 10]) 0 0 = if 8192 < t.length then ([(3, t.take 8192)], 0) else ([(1, t)], 0) := by
  have he : endAt (t ++ [13, 10]) 0 = t.length := endAt_crlf [] t [] h
  have hn : nextS (t ++ [13, 10]) 0 0 = if 8192 < t.length then some ((3, t.take 8192), ([], 0, 0)) else some ((1, t), ([], 0, 0)) := by
    unfold nextS
    have h1 : ¬ endAt (t ++ [13, 10]) (0 + 0) < 0 := by rw [Nat.zero_add, he]; omega
    rw [if_pos (by simp), if_neg h1, Nat.zero_add, he]
    simp only [Int.toNat_natCast, List.drop_zero, Nat.zero_add]
    have h2 : List.drop (t.length + 2) (t ++ [13, 10]) = [] := by simp
    have h3 : List.take t.length (t ++ [13, 10]) = t := by simp
    rw [h2, h3, ha]
    by_cases hl : 8192 < t.length
    · rw [if_pos hl, if_pos hl, List.take_append_of_le_length (by omega)]
    · rw [if_neg hl, if_neg hl]
  by_cases hl : 8192 < t.length
  · rw [if_pos hl] at hn ⊢
    rw [framesS_some hn, frames_nil]
  · rw [if_neg hl] at hn ⊢
    rw [framesS_some hn, frames_nil]

def longA (m : Nat) : Cmd := ⟨[97], 5, List.replicate m 120, [], 0, 0, false, 0, []⟩
def longD (n : Nat) : Cmd := ⟨[97], 5, List.replicate n 0, [], 0, 0, false, 0, []⟩
def headA : List UInt8 := [97, 32, 83, 69, 76, 69, 67, 84, 32]

theorem allL_rep (f : UInt8 → Bool) (m : Nat) (c : UInt8) (h : f c = true) : allL f (List.replicate m c) = true := by
  unfold allL
  rw [List.all_replicate]
  simp [h]
theorem box_x (m : Nat) (h : 0 < m) : boxOf (List.replicate m 120) = List.replicate m 120 := by
  have h1 : allB atomB (List.replicate m 120) = true := by
    unfold allB
    rw [allL_rep atomB m 120 (by decide)]
    cases m with
    | zero => omega
    | succ m => rfl
  unfold boxOf
  rw [if_pos h1]
theorem box_0 (n : Nat) (h : 0 < n) : boxOf (List.replicate n 0) = litOf (List.replicate n 0) := by
  have h1 : allB atomB (List.replicate n 0) = false := by
    unfold allB allL
    cases n with
    | zero => omega
    | succ m =>
      rw [List.replicate_succ, List.all_cons, show atomB 0 = false by decide]
      simp
  have h2 : quotedOf (List.replicate n 0) = none := by
    unfold quotedOf allL
    cases n with
    | zero => omega
    | succ m =>
      rw [List.replicate_succ, List.all_cons, show textB 0 = false by decide]
      simp
  unfold boxOf
  rw [h1]
  unfold bestOf
  rw [h2]
  rfl
theorem verb5 : verbOf 5 = [83, 69, 76, 69, 67, 84] := by decide
theorem valid_long (l : List UInt8) (h : l.length ≤ 65536) : validOf ⟨[97], 5, l, [], 0, 0, false, 0, []⟩ = true := by
  have h1 : okHead ⟨[97], 5, l, [], 0, 0, false, 0, []⟩ = true := by
    unfold okHead
    simp only
    rw [decide_eq_true h, show allB tagB [97] = true by decide]
    simp
  unfold validOf
  rw [h1]
  simp [okKind, restOf, zeroC]
theorem textOf_sel (l : List UInt8) : textOf ⟨[97], 5, l, [], 0, 0, false, 0, []⟩ = headA ++ boxOf l := by
  unfold textOf wordsOf partsOf2
  simp only
  rw [verb5]
  simp only [if_true]
  simp [Lib.join, List.intercalate, headA]
theorem text_x (m : Nat) (h : 0 < m) : textOf (longA m) = headA ++ List.replicate m 120 := by
  unfold longA
  rw [textOf_sel, box_x m h]

theorem ann_x (m : Nat) (h : 0 < m) : announcedOf (headA ++ List.replicate m 120) = none := by
  have h1 : Lib.hasSuffix (headA ++ List.replicate m 120) [125] = false := by
    obtain ⟨k, rfl⟩ : ∃ k, m = k + 1 := ⟨m - 1, by omega⟩
    rw [List.replicate_succ', ← List.append_assoc]
    unfold Lib.hasSuffix
    simp [List.isSuffixOf, List.isPrefixOf]
  unfold announcedOf
  rw [h1]
  rfl
theorem print_x (m : Nat) (h : 0 < m) (h2 : m ≤ 60000) : printOf (longA m) = if m + 9 ≤ 8192 then some (headA ++ List.replicate m 120 ++ [13, 10]) else none := by
  have hv : validOf (longA m) = true := valid_long _ (by simp; omega)
  have hc : ∀ c ∈ headA ++ List.replicate m 120, c ≠ 13 := by
    intro c hc
    rcases List.mem_append.1 hc with hc | hc
    · have key : ∀ c ∈ headA, c ≠ 13 := by decide
      exact key c hc
    · rw [List.eq_of_mem_replicate hc]; decide
  have hf := frames_line _ hc (ann_x m h)
  have hl : (headA ++ List.replicate m 120).length = m + 9 := by simp [headA]
  rw [hl] at hf
  unfold printOf sendB
  rw [if_pos hv, text_x m h, hf]
  by_cases hm : m + 9 ≤ 8192
  · rw [if_neg (show ¬ 8192 < m + 9 by omega), if_pos hm]
    simp
  · rw [if_pos (show 8192 < m + 9 by omega), if_neg hm]
    simp

/-- A line that announces n bytes, then a literal of zeros. -/
theorem frames_lit (t : List UInt8) (n : Nat) (h : ∀ c ∈ t, c ≠ 13) (hl : t.length ≤ 8192) (ha : announcedOf t = some n) (hn : n ≤ 65536) (z : List UInt8) (hz : z.length = n) :
    framesS (t ++ 13 :: 10 :: (z ++ [13, 10])) 0 0 = ([(2, []), (1, t ++ 13 :: 10 :: z)], 0) := by
  have he : endAt (t ++ 13 :: 10 :: (z ++ [13, 10])) 0 = t.length := endAt_crlf [] t _ h
  have hn1 : nextS (t ++ 13 :: 10 :: (z ++ [13, 10])) 0 0 = some ((2, []), (t ++ 13 :: 10 :: (z ++ [13, 10]), t.length + 2, n)) := by
    unfold nextS
    have h1 : ¬ endAt (t ++ 13 :: 10 :: (z ++ [13, 10])) (0 + 0) < 0 := by rw [Nat.zero_add, he]; omega
    rw [if_pos (by simp), if_neg h1, Nat.zero_add, he]
    simp only [Int.toNat_natCast, List.drop_zero, Nat.zero_add]
    have h3 : List.take t.length (t ++ 13 :: 10 :: (z ++ [13, 10])) = t := by simp
    rw [h3, ha, if_neg (by omega)]
    simp only
    rw [if_neg (by omega)]
  obtain ⟨q, hq⟩ : ∃ q, q = t ++ 13 :: 10 :: z := ⟨_, rfl⟩
  have hql : q.length = t.length + 2 + n := by rw [hq, List.length_append, List.length_cons, List.length_cons, hz]; omega
  have hb : t ++ 13 :: 10 :: (z ++ [13, 10]) = q ++ ([] ++ [13, 10]) := by rw [hq]; simp
  have he2 : endAt (q ++ ([] ++ [13, 10])) q.length = 0 := endAt_crlf q [] [] (by simp)
  have hn2 : nextS (t ++ 13 :: 10 :: (z ++ [13, 10])) (t.length + 2) n = some ((1, q), ([], 0, 0)) := by
    rw [hb]
    unfold nextS
    rw [← hql, he2, if_pos (by simp), if_neg (by omega), if_neg (by simp)]
    simp only [Int.toNat_zero, List.take_zero, Nat.add_zero]
    have e : announcedOf [] = none := by decide
    rw [e]
    simp
  rw [framesS_some hn1, framesS_some hn2, frames_nil, hq]

theorem dec3 : Lib.decDigits 8191 = [56, 49, 57, 49] ∧ Lib.decDigits 8192 = [56, 49, 57, 50] ∧ Lib.decDigits 8193 = [56, 49, 57, 51] := by decide +kernel
def lineD (n : Nat) : List UInt8 := headA ++ 123 :: (Lib.decDigits n ++ [125])
theorem lineD_ok : ∀ i : Fin 3, announcedOf (lineD (8191 + i.val)) = some (8191 + i.val) ∧ (∀ c ∈ lineD (8191 + i.val), c ≠ 13) ∧ (lineD (8191 + i.val)).length ≤ 8192 := by decide +kernel
theorem text_0 (n : Nat) (h : 0 < n) : textOf (longD n) = lineD n ++ 13 :: 10 :: List.replicate n 0 := by
  unfold longD
  rw [textOf_sel, box_0 n h]
  simp [litOf, litHead, lineD]
theorem long_0 (i : Nat) (hi : i < 3) : printOf (longD (8191 + i)) = some (textOf (longD (8191 + i)) ++ [13, 10]) ∧ 8191 + i < (textOf (longD (8191 + i)) ++ [13, 10]).length ∧ literalsOf (longD (8191 + i)) = 1 := by
  obtain ⟨h1, h2, h3⟩ := lineD_ok ⟨i, hi⟩
  simp only at h1 h2 h3
  have hv : validOf (longD (8191 + i)) = true := valid_long _ (by simp; omega)
  have ht := text_0 (8191 + i) (by omega)
  have hf := frames_lit (lineD (8191 + i)) (8191 + i) h2 h3 h1 (by omega) (List.replicate (8191 + i) 0) (by simp)
  have hb : lineD (8191 + i) ++ 13 :: 10 :: List.replicate (8191 + i) 0 ++ [13, 10] = lineD (8191 + i) ++ 13 :: 10 :: (List.replicate (8191 + i) 0 ++ [13, 10]) := by simp
  have hp : printOf (longD (8191 + i)) = some (textOf (longD (8191 + i)) ++ [13, 10]) := by
    unfold printOf sendB
    rw [if_pos hv, ht, hb, hf]
    simp
  refine ⟨hp, ?_, ?_⟩
  · rw [ht]
    simp
    omega
  · unfold literalsOf
    rw [hp]
    simp only
    rw [ht, hb, hf]
    rfl
end Go.Proofs.YtkdnfjafabgioaaGreatDoor.Own
