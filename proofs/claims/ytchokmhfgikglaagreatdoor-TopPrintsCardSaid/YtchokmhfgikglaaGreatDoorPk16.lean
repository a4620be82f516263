/- Several texts in one: TopRow, TopSess, TopLib, RefRun, Ref16A, Ref16B. Condition: each says its own. -/
import Derived.Lib.SplitLaws
import Derived.Lib.Join
import Derived.Test.YtchokmhfgikglaaGreatDoorPk3
import Derived.Test.YtchokmhfgikglaaGreatDoorPk4
import Derived.Test.YtchokmhfgikglaaGreatDoorPk5
import Derived.Test.YtchokmhfgikglaaGreatDoorPk8
import Derived.Test.YtchokmhfgikglaaGreatDoorPk9
import Derived.Test.YtchokmhfgikglaaGreatDoorPk15
namespace Go.Proofs.YtchokmhfgikglaaGreatDoor

/-- A number by a power of ten. -/
def powT (q : Rat) (n : Int) : Rat := if n < 0 then q / ((10 ^ (-n).toNat : Nat) : Rat) else q * ((10 ^ n.toNat : Nat) : Rat)

/-- A word as a number, and what error it is; 0: none. -/
def numV (l : List Nat) : Rat × Nat :=
  if 60 < l.length then (0, 3)
  else if 101 ∈ l then
    match wayB (strp (l.takeWhile (· != 101))).1 (strp (l.takeWhile (· != 101))).2, expG (l.dropWhile (· != 101)).tail with
    | some (s, n, d), some e => if 47 ∈ l then (0, 2) else (powT (qv s n d) e, 0)
    | _, _ => (0, 2)
  else match wayB (strp l).1 (strp l).2 with
    | some (s, n, d) => (qv s n d, 0)
    | none => (0, 2)

/-- Words as numbers: the first error, or 0 and all of them. -/
def rowV : List (List Nat) → Nat × List Rat
  | [] => (0, [])
  | w :: r => if (numV w).2 = 0 then ((rowV r).1, (numV w).1 :: (rowV r).2) else ((numV w).2, [])

/-- A text as numbers. -/
def textV (l : List Nat) : Nat × List Rat := rowV (wordsG (plainG false l))

theorem rowV_bad {w : List Nat} {r : List (List Nat)} (h : (numV w).2 ≠ 0) : rowV (w :: r) = ((numV w).2, []) := by
  rw [rowV, if_neg h]
theorem rowV_good {w : List Nat} {r : List (List Nat)} (h : (numV w).2 = 0) : rowV (w :: r) = ((rowV r).1, (numV w).1 :: (rowV r).2) := by
  rw [rowV, if_pos h]
theorem rowV_len (ws : List (List Nat)) : (rowV ws).2.length ≤ ws.length := by
  induction ws with
  | nil => exact Nat.le_refl _
  | cons w r ih =>
    by_cases h : (numV w).2 = 0
    · rw [rowV_good h]; simp only [List.length_cons]; omega
    · rw [rowV_bad h]; simp
theorem wordsA_len (cur l : List Nat) : (wordsA cur l).length ≤ l.length + (if cur = [] then 0 else 1) := by
  induction l generalizing cur with
  | nil => rw [wordsA]; split <;> simp
  | cons c r ih =>
    by_cases hc : isG c = true
    · by_cases h : cur = []
      · subst h
        rw [wordsA_gap hc]
        have := ih []
        simp only [List.length_cons, if_true] at this ⊢
        omega
      · rw [wordsA_stop h hc, if_neg h]
        have := ih []
        simp only [List.length_cons, if_true] at this ⊢
        omega
    · rw [wordsA_more (by simpa using hc)]
      have := ih (cur ++ [c])
      rw [if_neg (by simp)] at this
      simp only [List.length_cons]
      split <;> omega
/-- So many numbers at most. -/
theorem textV_len (l : List Nat) : (textV l).2.length ≤ l.length := by
  have h1 := rowV_len (wordsG (plainG false l))
  have h2 := wordsA_len [] (plainG false l)
  have h3 := plainG_len false l
  rw [if_pos rfl] at h2
  unfold textV
  unfold wordsG at *
  omega
/-- Is it a name? -/
def nameG (l : List Nat) : Bool := match l with
  | [] => false
  | c :: r => decide ((c :: r).length ≤ 12) && (decide (97 ≤ c) && decide (c ≤ 122)) && (c :: r).all fun x => (decide (97 ≤ x) && decide (x ≤ 122)) || (decide (48 ≤ x) && decide (x ≤ 57))

/-- A text less than another, byte by byte. -/
def lessG : List Nat → List Nat → Bool
  | [], [] => false
  | [], _ :: _ => true
  | _ :: _, [] => false
  | a :: r, b :: t => if a < b then true else if b < a then false else lessG r t

theorem lessG_irrefl (a : List Nat) : lessG a a = false := by
  induction a with
  | nil => rfl
  | cons x r ih => rw [lessG, if_neg (by omega), if_neg (by omega), ih]
theorem lessG_trans {a b c : List Nat} (h1 : lessG a b = true) (h2 : lessG b c = true) : lessG a c = true := by
  induction a generalizing b c with
  | nil => cases c with
    | nil => cases b <;> simp [lessG] at h1 h2
    | cons => rfl
  | cons x r ih => cases b with
    | nil => simp [lessG] at h1
    | cons y s => cases c with
      | nil => simp [lessG] at h2
      | cons z t =>
        rw [lessG] at h1 h2 ⊢
        by_cases a1 : x < y
        · by_cases a2 : y < z
          · rw [if_pos (by omega)]
          · rw [if_neg a2] at h2
            by_cases a3 : z < y
            · rw [if_pos a3] at h2; cases h2
            · rw [if_pos (by omega)]
        · rw [if_neg a1] at h1
          by_cases a4 : y < x
          · rw [if_pos a4] at h1; cases h1
          · rw [if_neg a4] at h1
            by_cases a2 : y < z
            · rw [if_pos (by omega)]
            · rw [if_neg a2] at h2
              by_cases a3 : z < y
              · rw [if_pos a3] at h2; cases h2
              · rw [if_neg a3] at h2
                rw [if_neg (by omega), if_neg (by omega)]
                exact ih h1 h2
theorem lessG_total {a b : List Nat} (h1 : lessG a b = false) (h2 : lessG b a = false) : a = b := by
  induction a generalizing b with
  | nil => cases b with
    | nil => rfl
    | cons => simp [lessG] at h1
  | cons x r ih => cases b with
    | nil => simp [lessG] at h2
    | cons y s =>
      rw [lessG] at h1 h2
      by_cases a1 : x < y
      · rw [if_pos a1] at h1; cases h1
      · by_cases a2 : y < x
        · rw [if_pos a2] at h2; cases h2
        · rw [if_neg a1, if_neg a2] at h1
          rw [if_neg a2, if_neg a1] at h2
          rw [ih h1 h2]
          congr 1
          omega
end Go.Proofs.YtchokmhfgikglaaGreatDoor

namespace Go.Proofs.YtchokmhfgikglaaGreatDoor

/-- Where a name stands, or would. -/
def atG (ns : List (List Nat)) (n : List Nat) : Nat := (ns.takeWhile fun x => lessG x n).length

theorem atG_le (ns : List (List Nat)) (n : List Nat) : atG ns n ≤ ns.length := (List.takeWhile_sublist _).length_le
theorem atG_less {ns : List (List Nat)} {n : List Nat} {k : Nat} (h : k < atG ns n) : ∃ x, ns[k]? = some x ∧ lessG x n = true := by
  unfold atG at h
  induction ns generalizing k with
  | nil => simp at h
  | cons a r ih =>
    by_cases ha : lessG a n = true
    · rw [List.takeWhile_cons, if_pos ha, List.length_cons] at h
      cases k with
      | zero => exact ⟨a, rfl, ha⟩
      | succ k => simpa using ih (show k < _ by omega)
    · rw [List.takeWhile_cons, if_neg ha] at h
      simp at h
theorem atG_stop {ns : List (List Nat)} {n : List Nat} {x : List Nat} (h : ns[atG ns n]? = some x) : lessG x n = false := by
  unfold atG at h
  induction ns with
  | nil => simp at h
  | cons a r ih =>
    by_cases ha : lessG a n = true
    · rw [List.takeWhile_cons, if_pos ha, List.length_cons] at h
      exact ih (by simpa using h)
    · rw [List.takeWhile_cons, if_neg ha] at h
      simp at h
      subst h
      simpa using ha
/-- It is found by whatever search ends where all before are less and the next is not. -/
theorem atG_of {ns : List (List Nat)} {n : List Nat} {i : Nat} (hi : i ≤ ns.length) (h1 : ∀ k, k < i → ∃ x, ns[k]? = some x ∧ lessG x n = true) (h2 : ∀ x, ns[i]? = some x → lessG x n = false) : atG ns n = i := by
  unfold atG
  induction ns generalizing i with
  | nil => simp at hi; subst hi; rfl
  | cons a r ih =>
    cases i with
    | zero =>
      have := h2 a rfl
      rw [List.takeWhile_cons, if_neg (by rw [this]; simp)]
      rfl
    | succ i =>
      obtain ⟨x, hx, hl⟩ := h1 0 (by omega)
      simp at hx
      subst hx
      rw [List.takeWhile_cons, if_pos hl, List.length_cons, ih (i := i) (by simp at hi; omega) (fun k hk => by simpa using h1 (k + 1) (by omega)) (fun x hx => h2 x (by simpa using hx))]

/-- Rising. -/
def Rises (ns : List (List Nat)) : Prop := ns.Pairwise fun a b => lessG a b = true

/-- Of rising names those before one that is less are less. -/
theorem Rises.down {ns : List (List Nat)} {n x y : List Nat} {k h : Nat} (hr : Rises ns) (hk : ns[k]? = some x) (hh : ns[h]? = some y) (hkh : k ≤ h) (hl : lessG y n = true) : lessG x n = true := by
  rcases Nat.lt_or_eq_of_le hkh with h1 | rfl
  · obtain ⟨lk, ek⟩ := List.getElem?_eq_some_iff.1 hk
    obtain ⟨lh, eh⟩ := List.getElem?_eq_some_iff.1 hh
    have := (List.pairwise_iff_getElem.1 hr) k h lk lh h1
    rw [ek, eh] at this
    exact lessG_trans this hl
  · rw [hk] at hh
    cases hh
    exact hl

/-- Is the name there? -/
def hasG (ns : List (List Nat)) (n : List Nat) : Bool := decide (ns[atG ns n]? = some n)

/-- A row under a name. -/
def putN (ns : List (List Nat)) (n : List Nat) : List (List Nat) := if hasG ns n = true then ns else ns.take (atG ns n) ++ n :: ns.drop (atG ns n)
def putR {α : Type} (ns : List (List Nat)) (n : List Nat) (rs : List α) (r : α) : List α := if hasG ns n = true then rs.set (atG ns n) r else rs.take (atG ns n) ++ r :: rs.drop (atG ns n)

theorem putN_rises {ns : List (List Nat)} {n : List Nat} (hr : Rises ns) : Rises (putN ns n) := by
  unfold putN
  split
  · exact hr
  · rename_i hn
    have hlt : ∀ x ∈ ns.take (atG ns n), lessG x n = true := by
      intro x hx
      obtain ⟨k, hk, rfl⟩ := List.getElem_of_mem hx
      rw [List.length_take] at hk
      obtain ⟨y, hy, hl⟩ := atG_less (show k < atG ns n by omega)
      rw [List.getElem_take]
      obtain ⟨_, e⟩ := List.getElem?_eq_some_iff.1 hy
      rw [e]
      exact hl
    have hgt : ∀ x ∈ ns.drop (atG ns n), lessG n x = true := by
      intro x hx
      obtain ⟨k, hk, rfl⟩ := List.getElem_of_mem hx
      rw [List.length_drop] at hk
      rw [List.getElem_drop]
      have h0 : ns[atG ns n]? = some (ns[atG ns n]'(by omega)) := List.getElem?_eq_getElem _
      have hs := atG_stop h0
      have hne : ns[atG ns n]'(by omega) ≠ n := fun hc => hn (by unfold hasG; rw [h0, hc]; simp)
      have h1 : lessG n (ns[atG ns n]'(by omega)) = true := by
        cases h : lessG n (ns[atG ns n]'(by omega))
        · exact absurd (lessG_total hs h) hne
        · rfl
      by_cases hk0 : k = 0
      · subst hk0
        simpa using h1
      · exact lessG_trans h1 ((List.pairwise_iff_getElem.1 hr) _ _ (by omega) (by omega) (by omega))
    unfold Rises
    rw [List.pairwise_append]
    refine ⟨List.Pairwise.sublist (List.take_sublist _ _) hr, ?_, ?_⟩
    · rw [List.pairwise_cons]
      exact ⟨hgt, List.Pairwise.sublist (List.drop_sublist _ _) hr⟩
    · intro a ha b hb
      rcases List.mem_cons.1 hb with rfl | hb
      · exact hlt a ha
      · exact lessG_trans (hlt a ha) (hgt b hb)

theorem putN_len (ns : List (List Nat)) (n : List Nat) : (putN ns n).length = ns.length + (if hasG ns n = true then 0 else 1) := by
  unfold putN
  split
  · rfl
  · have := atG_le ns n
    simp only [List.length_append, List.length_take, List.length_cons, List.length_drop]
    omega
/-- What 'Let' answers, and the names and rows behind it. -/
def letE (ns : List (List Nat)) (n t : List Nat) : Nat :=
  if nameG n = false then 6 else if (textV t).1 ≠ 0 then (textV t).1 else if hasG ns n = false ∧ 16 ≤ ns.length then 7 else 0
def letN (ns : List (List Nat)) (n t : List Nat) : List (List Nat) := if letE ns n t = 0 then putN ns n else ns
def letR (ns : List (List Nat)) (rs : List (List Rat)) (n t : List Nat) : List (List Rat) := if letE ns n t = 0 then putR ns n rs (textV t).2 else rs
theorem letN_rises {ns : List (List Nat)} {n t : List Nat} (hr : Rises ns) : Rises (letN ns n t) := by
  unfold letN
  split
  · exact putN_rises hr
  · exact hr
theorem letN_len {ns : List (List Nat)} {n t : List Nat} (h : ns.length ≤ 16) : (letN ns n t).length ≤ 16 := by
  unfold letN
  split
  · rename_i he
    rw [putN_len]
    unfold letE at he
    split at he
    · omega
    · split at he
      · rename_i h1; exact absurd he h1
      · split at he
        · omega
        · rename_i h3
          split
          · omega
          · rename_i h4
            have : hasG ns n = false := by simpa using h4
            rcases Nat.lt_or_ge ns.length 16 with h5 | h5
            · omega
            · exact absurd ⟨this, h5⟩ h3
  · exact h
end Go.Proofs.YtchokmhfgikglaaGreatDoor

namespace Go.Proofs.YtchokmhfgikglaaGreatDoor
open Go.Lib

/-- As the machine's bytes. -/
def u8 (l : List Nat) : List UInt8 := l.map UInt8.ofNat
theorem u8_data (l : List Nat) : (strN l).data.toList = u8 l := by unfold strN u8; simp
theorem u8_len (l : List Nat) : (u8 l).length = l.length := by unfold u8; rw [List.length_map]
theorem u8_append (a b : List Nat) : u8 (a ++ b) = u8 a ++ u8 b := by unfold u8; rw [List.map_append]
theorem strN_u8 (l : List Nat) : strN l = ⟨(u8 l).toArray⟩ := rfl
theorem strN_inj {a b : List Nat} (ha : Byt a) (hb : Byt b) (h : strN a = strN b) : a = b := by
  rw [← byts_of a ha, ← byts_of b hb, h]
theorem occ_one (s : List UInt8) (c : UInt8) (i : Nat) : occAt s [c] i = (s[i]? == some c) := by
  unfold occAt
  cases h : s.drop i with
  | nil =>
    rw [List.drop_eq_nil_iff] at h
    rw [List.getElem?_eq_none h]
    rfl
  | cons a t =>
    have : s[i]? = some a := by
      have h1 : (s.drop i)[0]? = some a := by rw [h]; rfl
      rw [List.getElem?_drop] at h1
      simpa using h1
    rw [this]
    show ((c == a) && _) = _
    rw [Bool.eq_iff_iff]
    simp
    exact eq_comm

theorem index_one' (s : List UInt8) (c : UInt8) : index s [c] = indexByte s c := by
  have hge := indexByte_ge s c
  by_cases h : indexByte s c = -1
  · rw [h]
    refine index_none fun j _ => ?_
    rw [occ_one]
    have := indexByte_none h j
    simpa using this
  · obtain ⟨o, ho⟩ : ∃ o : Nat, indexByte s c = o := ⟨(indexByte s c).toNat, by omega⟩
    obtain ⟨h1, h2⟩ := indexByte_some ho
    rw [ho]
    have hlt : o < s.length := (List.getElem?_eq_some_iff.1 h1).1
    refine index_first (by omega) ?_ fun j hj => ?_
    · rw [occ_one, h1]; simp
    · rw [occ_one]
      have := h2 j hj
      simpa using this

theorem index_u8 {l : List Nat} (hl : Byt l) {c : Nat} (hc : c < 256) : index (u8 l) [UInt8.ofNat c] = if l.contains c = true then ((l.takeWhile (· != c)).length : Int) else -1 := by
  rw [index_one']
  exact index_of c hc l hl

theorem linesG_none {l : List Nat} (h : 10 ∉ l) : linesG l = [l] := by
  induction l with
  | nil => rfl
  | cons a r ih =>
    rw [linesG, if_neg (fun e => h (by simp [e])), ih (fun hr => h (by simp [hr]))]
theorem linesG_cut {w r : List Nat} (h : 10 ∉ w) : linesG (w ++ 10 :: r) = w :: linesG r := by
  induction w with
  | nil => show linesG (10 :: r) = _; rw [linesG, if_pos rfl]
  | cons a t ih =>
    show linesG (a :: (t ++ 10 :: r)) = _
    rw [linesG, if_neg (fun e => h (by simp [e])), ih (fun hr => h (by simp [hr]))]
theorem tw_not_mem (c : Nat) (l : List Nat) : c ∉ l.takeWhile (· != c) := fun h => by
  have := mem_tw _ h
  simp at this
theorem tw_split {c : Nat} {l : List Nat} (h : c ∈ l) : l = l.takeWhile (· != c) ++ c :: (l.dropWhile (· != c)).tail := by
  have e := List.takeWhile_append_dropWhile (p := (· != c)) (l := l)
  have hlt := tw_lt l h
  cases hd : l.dropWhile (· != c) with
  | nil =>
    rw [hd, List.append_nil] at e
    rw [e] at hlt
    omega
  | cons a t =>
    have := dw_head _ hd
    have ha : a = c := by simpa using this
    subst ha
    rw [hd] at e
    exact e.symm

/-- What 'Split' at a line's end gives. -/
theorem split_lines : ∀ (k : Nat) (l : List Nat), Byt l → count (u8 l) [10] = k → splitK [10] 0 k (u8 l) = (linesG l).map u8
  | k, l, hl, hk => by
    by_cases h : 10 ∈ l
    · have hix := index_u8 hl (c := 10) (by decide)
      rw [if_pos (by simpa using h)] at hix
      have hix' : index (u8 l) [10] = ((l.takeWhile (· != 10)).length : Int) := hix
      have h1 := count_hit (sub := [10]) (by simp) hix'
      rw [hk] at h1
      obtain ⟨j, rfl⟩ : ∃ j, k = j + 1 := ⟨k - 1, by omega⟩
      have hdrop : (u8 l).drop ((l.takeWhile (· != 10)).length + 1) = u8 (l.dropWhile (· != 10)).tail := by
        unfold u8
        rw [← List.map_drop]
        congr 1
        rw [← List.drop_drop, drop_tw, List.drop_one]
      have hcnt : count (u8 (l.dropWhile (· != 10)).tail) [10] = j := by
        have e2 : (u8 l).drop ((l.takeWhile (· != 10)).length + ([10] : List UInt8).length) = u8 (l.dropWhile (· != 10)).tail := hdrop
        rw [e2] at h1
        omega
      have hb : Byt (l.dropWhile (· != 10)).tail := fun x hx => hl x ((List.dropWhile_sublist _).subset (List.mem_of_mem_tail hx))
      have ih := split_lines j _ hb hcnt
      rw [splitK, if_neg (by rw [hix']; simp <;> omega), hix']
      have e3 : ((((l.takeWhile (· != 10)).length : Nat) : Int)).toNat = (l.takeWhile (· != 10)).length := by omega
      rw [e3, show ([10] : List UInt8).length = 1 from rfl, hdrop, ih]
      conv => rhs; rw [tw_split h, linesG_cut (tw_not_mem 10 l), List.map_cons]
      congr 1
      unfold u8
      rw [← List.map_take, Nat.add_zero, take_tw]
    · have hix := index_u8 hl (c := 10) (by decide)
      rw [if_neg (by simpa using h)] at hix
      have hix' : index (u8 l) [10] = -1 := hix
      have h0 : k = 0 := by rw [← hk]; exact count_miss hix'
      subst h0
      rw [linesG_none h]
      rfl
termination_by k => k
decreasing_by omega

theorem strN_of_data (b : ByteArray) (l : List Nat) (h : b.data.toList = u8 l) : b = strN l := by
  rw [strN_u8, ← h]

theorem map_data_inj {xs : List ByteArray} {ls : List (List Nat)} (h : xs.map (·.data.toList) = ls.map u8) : xs = ls.map strN := by
  induction xs generalizing ls with
  | nil => cases ls with
    | nil => rfl
    | cons => simp at h
  | cons b r ih => cases ls with
    | nil => simp at h
    | cons a t =>
      simp only [List.map_cons, List.cons.injEq] at h ⊢
      exact ⟨strN_of_data b a h.1, ih h.2⟩

/-- 'Split' at a line's end, as the shelf says it. -/
theorem splitB_lines {l : List Nat} (hl : Byt l) : splitB ⟨#[10]⟩ 0 (countB (strN l) ⟨#[10]⟩) (strN l) = (linesG l).map strN := by
  refine map_data_inj ?_
  rw [splitB_data, u8_data]
  refine split_lines _ l hl ?_
  unfold countB
  rw [u8_data]

theorem countB_lines {l : List Nat} (hl : Byt l) : countB (strN l) ⟨#[10]⟩ + 1 = (linesG l).length := by
  have h := splitB_all ⟨#[10]⟩ (by decide) 0 _ (strN l) rfl
  rw [splitB_lines hl, List.length_map] at h
  omega

theorem joinTail_u8 (xs : List (List Nat)) : joinTail [10] (xs.map u8) = u8 ((xs.map (10 :: ·)).flatten) := by
  unfold joinTail
  induction xs with
  | nil => rfl
  | cons a t ih =>
    simp only [List.map_cons, List.flatten_cons] at ih ⊢
    rw [ih, u8_append]
    rfl

theorem unlinesG_eq (x : List Nat) (xs : List (List Nat)) : unlinesG (x :: xs) = x ++ (xs.map (10 :: ·)).flatten := by
  induction xs generalizing x with
  | nil => show x = _; simp
  | cons y r ih =>
    rw [unlinesG_cons (by simp), ih y]
    simp

/-- 'Join' by a line's end, as the shelf says it. -/
theorem join_lines (ls : List (List Nat)) (h : ls ≠ []) : (⟨(Lib.join ((ls.map strN).map (·.data.toList)) (ByteArray.mk #[10]).data.toList).toArray⟩ : ByteArray) = strN (unlinesG ls) := by
  cases ls with
  | nil => exact absurd rfl h
  | cons a t =>
    have e1 : ((a :: t).map strN).map (·.data.toList) = u8 a :: t.map u8 := by
      simp only [List.map_cons, List.map_map]
      rw [u8_data a]
      exact congrArg (u8 a :: ·) (List.map_congr_left fun x _ => u8_data x)
    rw [e1, join_cons]
    have e2 : (ByteArray.mk #[10]).data.toList = [10] := rfl
    rw [e2, joinTail_u8, ← u8_append, strN_u8, unlinesG_eq]

theorem linesG_byt {l : List Nat} (h : Byt l) : ∀ x ∈ linesG l, Byt x := by
  induction l with
  | nil => intro x hx; simp [linesG] at hx; subst hx; intro y hy; simp at hy
  | cons a r ih =>
    have hr : Byt r := fun x hx => h x (by simp [hx])
    have ih := ih hr
    intro x hx
    rw [linesG] at hx
    split at hx
    · rcases List.mem_cons.1 hx with rfl | hx
      · intro y hy; simp at hy
      · exact ih x hx
    · obtain ⟨y, ys, hy⟩ := List.exists_cons_of_ne_nil (linesG_ne r)
      rw [hy] at hx ih
      rcases List.mem_cons.1 hx with rfl | hx
      · intro z hz
        rcases List.mem_cons.1 hz with rfl | hz
        · exact h _ (by simp)
        · exact ih y (by simp) z hz
      · exact ih x (by simp [hx])

theorem linesG_len (l : List Nat) : (linesG l).length ≤ l.length + 1 := by
  induction l with
  | nil => exact Nat.le_refl _
  | cons a r ih =>
    rw [linesG]
    split
    · simp only [List.length_cons]; omega
    · obtain ⟨y, ys, hy⟩ := List.exists_cons_of_ne_nil (linesG_ne r)
      rw [hy] at ih ⊢
      simp only [List.length_cons] at ih ⊢
      omega
theorem linesG_size (l : List Nat) : ∀ x ∈ linesG l, x.length ≤ l.length := by
  induction l with
  | nil => intro x hx; simp [linesG] at hx; subst hx; exact Nat.le_refl _
  | cons a r ih =>
    intro x hx
    rw [linesG] at hx
    split at hx
    · rcases List.mem_cons.1 hx with rfl | hx
      · exact Nat.zero_le _
      · have := ih x hx; simp only [List.length_cons]; omega
    · obtain ⟨y, ys, hy⟩ := List.exists_cons_of_ne_nil (linesG_ne r)
      rw [hy] at hx ih
      rcases List.mem_cons.1 hx with rfl | hx
      · have := ih y (by simp); simp only [List.length_cons]; omega
      · have := ih x (by simp [hx]); simp only [List.length_cons]; omega
/-- 'Compare' and less. -/
theorem ofNat_lt {a b : Nat} (ha : a < 256) (hb : b < 256) : UInt8.ofNat a < UInt8.ofNat b ↔ a < b := by
  rw [UInt8.lt_iff_toNat_lt, UInt8.toNat_ofNat', UInt8.toNat_ofNat', Nat.mod_eq_of_lt ha, Nat.mod_eq_of_lt hb]

theorem compare_less {a b : List Nat} (ha : Byt a) (hb : Byt b) : compareBytes (u8 a) (u8 b) = if lessG a b = true then -1 else if lessG b a = true then 1 else 0 := by
  induction a generalizing b with
  | nil => cases b with
    | nil => rfl
    | cons y t => rfl
  | cons x r ih => cases b with
    | nil => rfl
    | cons y t =>
      have hx := ha x (by simp)
      have hy := hb y (by simp)
      show (if UInt8.ofNat x < UInt8.ofNat y then (-1 : Int) else if UInt8.ofNat y < UInt8.ofNat x then 1 else compareBytes (u8 r) (u8 t)) = _
      rw [lessG, lessG]
      simp only [ofNat_lt hx hy, ofNat_lt hy hx]
      by_cases h1 : x < y
      · rw [if_pos h1, if_pos h1, if_pos rfl]
      · by_cases h2 : y < x
        · rw [if_neg h1, if_pos h2, if_neg h1, if_pos h2, if_neg (by simp), if_pos h2, if_pos rfl]
        · rw [if_neg h1, if_neg h2, if_neg h1, if_neg h2, if_neg h2, if_neg h1]
          exact ih (fun z hz => ha z (by simp [hz])) (fun z hz => hb z (by simp [hz]))

end Go.Proofs.YtchokmhfgikglaaGreatDoor

namespace Go.Proofs.YtchokmhfgikglaaGreatDoor
set_option maxRecDepth 100000
open Go.RowKit Go.Shelf

theorem tw_get {p : Nat → Bool} : ∀ (l : List Nat) (k : Nat) (_ : k < (l.takeWhile p).length) (h' : k < l.length), p l[k] = true
  | a :: l, 0, h, _ => by
    by_cases ha : p a = true
    · exact ha
    · rw [List.takeWhile_cons, if_neg ha] at h; simp at h
  | a :: l, k + 1, h, h' => by
    by_cases ha : p a = true
    · rw [List.takeWhile_cons, if_pos ha, List.length_cons] at h
      exact tw_get l k (by omega) (by simpa using h')
    · rw [List.takeWhile_cons, if_neg ha] at h; simp at h
theorem tw_end {p : Nat → Bool} : ∀ (l : List Nat) (h' : (l.takeWhile p).length < l.length), p (l[(l.takeWhile p).length]'h') = false
  | a :: l, h' => by
    by_cases ha : p a = true
    · simp only [List.takeWhile_cons, if_pos ha, List.length_cons] at h' ⊢
      exact tw_end l (by omega)
    · simp only [List.takeWhile_cons, if_neg ha] at h' ⊢
      simpa using ha
theorem tw_le (p : Nat → Bool) (l : List Nat) : (l.takeWhile p).length ≤ l.length := by
  have := (List.takeWhile_sublist p (l := l)).length_le
  exact this

theorem strN_get (l : List Nat) (hl : Byt l) (k : Nat) (h : k < (strN l).size) (h' : k < l.length) : ((strN l)[k]'h).toNat = l[k] := by
  rw [← byts_get _ k h]
  have e := byts_of l hl
  have : (byts (strN l))[k]? = l[k]? := by rw [e]
  rw [List.getElem?_eq_getElem (by rw [byts_length]; exact h), List.getElem?_eq_getElem h'] at this
  exact Option.some.inj this

set_option maxHeartbeats 3200000 in
theorem run_any (l : List Nat) (hl : Byt l) (h9 : l.length ≤ 1000000) (w : World) :
    Calls Tryz.prog 147 #[.string (strN l)] w fun e w' => e = .returned (.int .i64 ((l.takeWhile isD).length : Int)) ∧ w = w' := by
  obtain ⟨K, hK⟩ : ∃ K, (l.takeWhile isD).length = K := ⟨_, rfl⟩
  have hKl : K ≤ l.length := by rw [← hK]; exact tw_le _ _
  have hs := strN_size l
  have hget : ∀ k (h : k < (strN l).size), ((strN l)[k]'h).toNat = l[k]'(by rw [hs] at h; exact h) := fun k h => strN_get l hl k h _
  have hin : ∀ k (h : k < K) (h' : k < (strN l).size), 48 ≤ ((strN l)[k]'h').toNat ∧ ((strN l)[k]'h').toNat ≤ 57 := fun k h h' => by
    rw [hget k h']
    have := tw_get (p := isD) l k (by omega) (by omega)
    unfold isD at this
    exact of_decide_eq_true this
  have hout : ∀ (h' : K < (strN l).size), ¬ (48 ≤ ((strN l)[K]'h').toNat ∧ ((strN l)[K]'h').toNat ≤ 57) := fun h' => by
    rw [hget K h']
    have h2 : (l.takeWhile isD).length < l.length := by omega
    have := tw_end (p := isD) l h2
    simp only [hK] at this
    unfold isD at this
    exact of_decide_eq_false this
  rw [hK]
  clear hget hK
  rw [← hs] at hKl h9
  generalize strN l = t at *
  have HIN := Lib.hid hin
  have HOUT := Lib.hid hout
  clear hin hout hl hs
  go_enter Tryz.func147, Tryz.ntmps147
  go_wp2_with fail
  go_loop [3] (fun n => ∃ k : Nat, k ≤ K ∧ n = .int .i64 (k : Int)) (fun n => K - (RowKit.intOf n).toNat)
  case atStart => exact ⟨0, Nat.zero_le _, rfl⟩
  case round =>
    obtain ⟨k, hk, rfl⟩ := hrel
    by_cases hlt : k < K
    · have hkt : k < t.size := by omega
      obtain ⟨x1, x2⟩ := HIN.out k hlt hkt
      have y0 : (k : Int) < (t.size : Int) := by omega
      have y1 : (48 : Int) ≤ ((t[k]'hkt).toNat : Int) := by omega
      have y2 : ((t[k]'hkt).toNat : Int) ≤ 57 := by omega
      go_wp2_with fail
      go_round
      case rel => exact ⟨k + 1, by omega, by go_num⟩
      case measure => simp [RowKit.intOf]; omega
    · obtain rfl : k = K := by omega
      by_cases hkt : k < t.size
      · have hn := HOUT.out hkt
        have y0 : (k : Int) < (t.size : Int) := by omega
        by_cases z1 : 48 ≤ (t[k]'hkt).toNat
        · have y1 : (48 : Int) ≤ ((t[k]'hkt).toNat : Int) := by omega
          have y2 : ¬ ((t[k]'hkt).toNat : Int) ≤ 57 := by omega
          clear hn
          go_wp2_with fail
          go_ret
          exact ⟨rfl, rfl⟩
        · have y1 : ¬ (48 : Int) ≤ ((t[k]'hkt).toNat : Int) := by omega
          clear hn
          go_wp2_with fail
          go_ret
          exact ⟨rfl, rfl⟩
      · have y0 : ¬ (k : Int) < (t.size : Int) := by omega
        go_wp2_with fail
        go_ret
        exact ⟨rfl, rfl⟩

end Go.Proofs.YtchokmhfgikglaaGreatDoor

namespace Go.Proofs.YtchokmhfgikglaaGreatDoor
set_option maxRecDepth 100000
open Go.RowKit Go.Shelf

/-- Where a byte stands; -1: nowhere. -/
def findG (l : List Nat) (c : Nat) : Int := if c ∈ l then ((l.takeWhile (· != c)).length : Int) else -1

theorem findG_len {l : List Nat} {c : Nat} : c ∈ l ↔ (l.takeWhile (· != c)).length < l.length := by
  constructor
  · intro h
    rcases Nat.lt_or_ge (l.takeWhile (· != c)).length l.length with h1 | h1
    · exact h1
    · have e : l.takeWhile (· != c) = l := (List.takeWhile_sublist _).eq_of_length (Nat.le_antisymm (tw_le _ _) h1)
      rw [← e] at h
      have := mem_tw _ h
      simp at this
  · intro h
    have := tw_end (p := (· != c)) l h
    have e : l[(l.takeWhile (· != c)).length]'h = c := by simpa using this
    rw [← e]
    exact List.getElem_mem _

set_option maxHeartbeats 3200000 in
theorem find16_any (l : List Nat) (hl : Byt l) (h9 : l.length ≤ 1000000) (c : Nat) (w : World) :
    Calls Tryz.prog 88 #[.string (strN l), .int .u8 (c : Int)] w fun e w' => e = .returned (.int .i64 (findG l c)) ∧ w = w' := by
  obtain ⟨K, hK⟩ : ∃ K, (l.takeWhile (· != c)).length = K := ⟨_, rfl⟩
  have hKl : K ≤ l.length := by rw [← hK]; exact tw_le _ _
  have hs := strN_size l
  have hget : ∀ k (h : k < (strN l).size), ((strN l)[k]'h).toNat = l[k]'(by rw [hs] at h; exact h) := fun k h => strN_get l hl k h _
  have hin : ∀ k (h : k < K) (h' : k < (strN l).size), ((strN l)[k]'h').toNat ≠ c := fun k h h' => by
    rw [hget k h']
    have := tw_get (p := (· != c)) l k (by omega) (by omega)
    simpa using this
  have hout : ∀ (h' : K < (strN l).size), ((strN l)[K]'h').toNat = c := fun h' => by
    rw [hget K h']
    have h2 : (l.takeWhile (· != c)).length < l.length := by omega
    have := tw_end (p := (· != c)) l h2
    simp only [hK] at this
    simpa using this
  have hf : findG l c = if K < (strN l).size then (K : Int) else -1 := by
    unfold findG
    rw [hs, ← hK]
    by_cases h : c ∈ l
    · rw [if_pos h, if_pos (findG_len.1 h)]
    · rw [if_neg h, if_neg (fun h2 => h (findG_len.2 h2))]
  obtain ⟨F, hF⟩ : ∃ z, findG l c = z := ⟨_, rfl⟩
  rw [hF] at hf ⊢
  have HF1 : Hid (K < (strN l).size → F = (K : Int)) := fun h => by rw [hf, if_pos h]
  have HF2 : Hid (¬ K < (strN l).size → F = -1) := fun h => by rw [hf, if_neg h]
  clear hget hK hf hF
  rw [← hs] at hKl h9
  generalize strN l = t at *
  have HIN := Lib.hid hin
  have HOUT := Lib.hid hout
  clear hin hout hl hs
  go_enter Tryz.func88, Tryz.ntmps88
  go_wp2_with fail
  go_loop [5] (fun n => ∃ k : Nat, k ≤ K ∧ n = .int .i64 (k : Int)) (fun n => K + 1 - (RowKit.intOf n).toNat)
  case atStart => exact ⟨0, Nat.zero_le _, rfl⟩
  case round =>
    obtain ⟨k, hk, rfl⟩ := hrel
    by_cases hkt : k < t.size
    · have y0 : (k : Int) < (t.size : Int) := by omega
      by_cases hlt : k < K
      · have x1 := HIN.out k hlt hkt
        have y1 : ¬ ((t[k]'hkt).toNat : Int) = (c : Int) := by omega
        go_wp2_with fail
        go_round
        case rel => exact ⟨k + 1, by omega, by go_num⟩
        case measure => simp [RowKit.intOf]; omega
      · obtain rfl : k = K := by omega
        have x1 := HOUT.out hkt
        have y1 : ((t[k]'hkt).toNat : Int) = (c : Int) := by omega
        go_wp2_with fail
        go_ret
        exact ⟨by rw [HF1.out hkt]; rfl, rfl⟩
    · have y0 : ¬ (k : Int) < (t.size : Int) := by omega
      go_wp2_with fail
      go_ret
      exact ⟨by rw [HF2.out (by omega)]; rfl, rfl⟩

theorem digit16_any (c : Nat) (w : World) :
    Calls Tryz.prog 152 #[.int .u8 (c : Int)] w fun e w' => e = .returned (.bool (isD c)) ∧ w = w' := by
  by_cases h1 : 48 ≤ c
  · have y1 : (48 : Int) ≤ (c : Int) := by omega
    by_cases h2 : c ≤ 57
    · have y2 : (c : Int) ≤ 57 := by omega
      have e : isD c = true := by unfold isD; exact decide_eq_true ⟨h1, h2⟩
      rw [e]
      go_enter Tryz.func152, Tryz.ntmps152
      go_wp2_with fail
      go_ret
      exact ⟨rfl, rfl⟩
    · have y2 : ¬ (c : Int) ≤ 57 := by omega
      have e : isD c = false := by unfold isD; exact decide_eq_false (by omega)
      rw [e]
      go_enter Tryz.func152, Tryz.ntmps152
      go_wp2_with fail
      go_ret
      exact ⟨rfl, rfl⟩
  · have y1 : ¬ (48 : Int) ≤ (c : Int) := by omega
    have e : isD c = false := by unfold isD; exact decide_eq_false (by omega)
    rw [e]
    go_enter Tryz.func152, Tryz.ntmps152
    go_wp2_with fail
    go_ret
    exact ⟨rfl, rfl⟩

theorem gap16_any (c : Nat) (w : World) :
    Calls Tryz.prog 40 #[.int .u8 (c : Int)] w fun e w' => e = .returned (.bool (isG c)) ∧ w = w' := by
  have e : ((c : Int) == 32 || (c : Int) == 44 || (c : Int) == 10) = isG c := by
    unfold isG
    rw [show ((c : Int) == 32) = (c == 32) from beq_cast c 32, show ((c : Int) == 44) = (c == 44) from beq_cast c 44, show ((c : Int) == 10) = (c == 10) from beq_cast c 10]
  have E := Lib.hid e
  clear e
  go_enter Tryz.func40, Tryz.ntmps40
  go_wp2_with fail
  all_goals go_ret
  · obtain rfl : c = 32 := by omega
    exact ⟨rfl, rfl⟩
  · obtain rfl : c = 44 := by omega
    exact ⟨rfl, rfl⟩
  · exact ⟨congrArg (fun b => Ending.returned (.bool b)) E.out, rfl⟩
end Go.Proofs.YtchokmhfgikglaaGreatDoor

namespace Go.Proofs.YtchokmhfgikglaaGreatDoor
set_option maxRecDepth 100000
open Go.RowKit Go.Shelf

/-- What is to be known behind a sign. -/
def ExpoPost (neg : Bool) (r : List Nat) (z : Int) (b : Bool) : Prop :=
  b = decide (1 ≤ r.length ∧ r.length ≤ 2 ∧ r.all isD = true ∧ numD r ≤ 30) ∧ (b = true → z = if neg = true then -(numD r : Int) else (numD r : Int))

theorem expo_post {l : List Nat} {z : Int} {b : Bool} (h : ExpoPost (signG l).1 (signG l).2 z b) : expG l = if b = true then some z else none := by
  obtain ⟨h1, h2⟩ := h
  unfold expG
  by_cases hb : b = true
  · have h3 := h1.symm.trans hb
    rw [if_pos hb, if_pos (of_decide_eq_true h3), h2 hb]
  · have h3 : b = false := by simpa using hb
    rw [if_neg hb, if_neg (of_decide_eq_false (h1.symm.trans h3))]

theorem numD_take (l : List Nat) (k : Nat) (h : k < l.length) : numD (l.take (k + 1)) = numD (l.take k) * 10 + (l[k] - 48) := by
  rw [List.take_succ_eq_append_getElem h, numD_append]
  simp [numD, undec]

theorem wrap_digit (a c : Nat) (ha : a < 100) (h1 : 48 ≤ c) (h2 : c ≤ 57) : wrap64 (wrap64 (10 * (a : Int) + wrap64 (c : Int)) - 48) = ((a * 10 + (c - 48) : Nat) : Int) := by
  rw [wrap_small (c : Int) (by omega) (by omega), wrap_small (10 * (a : Int) + (c : Int)) (by omega) (by omega), wrap_small _ (by omega) (by omega)]
  omega

/-- What an exponent's reading hands back. -/
def ExpoGives (l : List Nat) (w : World) (e : Ending) (w' : World) : Prop := w = w' ∧ ∃ z b, e = .returned (.tuple #[.int .i64 z, .bool b]) ∧ expG l = if b = true then some z else none

set_option maxHeartbeats 6400000 in
theorem expo16_any (l : List Nat) (hl : Byt l) (h9 : l.length ≤ 1000000) (w : World) :
    Calls Tryz.prog 90 #[.string (strN l)] w (ExpoGives l w) := by
  have HP : Hid (∀ z b, ExpoPost (signG l).1 (signG l).2 z b → expG l = if b = true then some z else none) := fun z b h => expo_post h
  obtain ⟨neg, hneg⟩ : ∃ b, (signG l).1 = b := ⟨_, rfl⟩
  obtain ⟨r, hr⟩ : ∃ r, (signG l).2 = r := ⟨_, rfl⟩
  rw [hneg, hr] at HP
  have hrl : r.length ≤ l.length ∧ Byt r := by
    cases l with
    | nil => subst hr; exact ⟨Nat.le_refl _, hl⟩
    | cons c t =>
      rw [signG_cons] at hr
      have ht : Byt t := fun x hx => hl x (by simp [hx])
      split at hr
      · subst hr; exact ⟨by simp, ht⟩
      · split at hr
        · subst hr; exact ⟨by simp, ht⟩
        · subst hr; exact ⟨Nat.le_refl _, hl⟩
  have hstart : (l = [] ∧ neg = false ∧ r = []) ∨ (∃ h0 : 0 < (strN l).size, neg = true ∧ ((strN l)[0]'h0).toNat = 45 ∧ (strN l).extract 1 (strN l).size = strN r) ∨
      (∃ h0 : 0 < (strN l).size, neg = false ∧ ((strN l)[0]'h0).toNat = 43 ∧ (strN l).extract 1 (strN l).size = strN r) ∨ (∃ h0 : 0 < (strN l).size, neg = false ∧ ((strN l)[0]'h0).toNat ≠ 45 ∧ ((strN l)[0]'h0).toNat ≠ 43 ∧ r = l) := by
    have hs := strN_size l
    cases l with
    | nil => exact Or.inl ⟨rfl, by rw [← hneg]; rfl, by rw [← hr]; rfl⟩
    | cons c t =>
      have h0 : 0 < (strN (c :: t)).size := by rw [hs]; simp
      have hg := strN_get (c :: t) hl 0 h0 (by simp)
      have hx : (strN (c :: t)).extract 1 (strN (c :: t)).size = strN t := strN_drop (c :: t) 1 _ (by rw [hs]; exact Nat.le_refl _)
      rw [signG_cons] at hneg hr
      by_cases hc : c = 45
      · rw [if_pos hc] at hneg hr
        refine Or.inr (Or.inl ⟨h0, hneg.symm, by rw [hg]; exact hc, by rw [hx, ← hr]⟩)
      · by_cases hc2 : c = 43
        · rw [if_neg hc, if_pos hc2] at hneg hr
          refine Or.inr (Or.inr (Or.inl ⟨h0, hneg.symm, by rw [hg]; exact hc2, by rw [hx, ← hr]⟩))
        · rw [if_neg hc, if_neg hc2] at hneg hr
          refine Or.inr (Or.inr (Or.inr ⟨h0, hneg.symm, by rw [hg]; exact hc, by rw [hg]; exact hc2, hr.symm⟩))
  have hempty : ∀ h0 : 0 < (strN l).size, (strN l).toList.isEmpty = false ∧ ¬ (strN l).toList = [] := fun h0 => by
    have hem : (strN l).toList.isEmpty = false := by rw [isEmpty_size, decide_eq_false (by omega)]
    exact ⟨hem, fun h => by rw [h] at hem; cases hem⟩
  have HEMP := Lib.hid hempty
  have HD : Hid (∀ c W, Calls Tryz.prog 152 #[.int .u8 ((c : Nat) : Int)] W fun e w' => e = .returned (.bool (isD c)) ∧ W = w') := fun c W => digit16_any c W
  have hsz := strN_size r
  have hget : ∀ k (h : k < (strN r).size), ((strN r)[k]'h).toNat = r[k]'(by rw [hsz] at h; exact h) := fun k h => strN_get r hrl.2 k h _
  have HGET := Lib.hid hget
  obtain ⟨hrl, hrb⟩ := hrl
  have HSL := Lib.hid (strN_size l)
  have hl9 : (strN l).size ≤ 1000000 := by rw [strN_size]; exact h9
  clear hempty hget hneg hr hl h9
  rcases (by omega : r.length < 1 ∨ 2 < r.length ∨ (1 ≤ r.length ∧ r.length ≤ 2)) with hlen | hlen | hlen
  · have z1 : ((strN r).size : Int) < 1 := by omega
    rcases hstart with ⟨rfl, rfl, rfl⟩ | ⟨h0, rfl, h45, hx⟩ | ⟨h0, rfl, h43, hx⟩ | ⟨h0, rfl, h45, h43, rfl⟩
    · have e : strN [] = ⟨#[]⟩ := rfl
      rw [e] at *
      clear HEMP
      clear HD HGET
      go_enter Tryz.func90, Tryz.ntmps90
      go_wp2_with fail
      go_ret2
      exact ⟨rfl, 0, false, rfl, HP.out _ _ ⟨(decide_eq_false (by simp)).symm, fun h => (by cases h)⟩⟩
    · obtain ⟨e1, e2⟩ := HEMP.out h0
      have y0 : (((strN l)[0]'h0).toNat : Int) = 45 := by omega
      have y1 : ((1 : Int) ≤ ((strN l).size : Int)) := by omega
      clear HEMP h45
      clear HD HGET
      go_enter Tryz.func90, Tryz.ntmps90
      go_wp2_with fail
      go_ret2
      exact ⟨rfl, 0, false, rfl, HP.out _ _ ⟨(decide_eq_false (by omega)).symm, fun h => (by cases h)⟩⟩
    · obtain ⟨e1, e2⟩ := HEMP.out h0
      have y0 : (((strN l)[0]'h0).toNat : Int) = 43 := by omega
      have y2 : ¬ (((strN l)[0]'h0).toNat : Int) = 45 := by omega
      have y1 : ((1 : Int) ≤ ((strN l).size : Int)) := by omega
      clear HEMP h43
      clear HD HGET
      go_enter Tryz.func90, Tryz.ntmps90
      go_wp2_with fail
      go_ret2
      exact ⟨rfl, 0, false, rfl, HP.out _ _ ⟨(decide_eq_false (by omega)).symm, fun h => (by cases h)⟩⟩
    · obtain ⟨e1, e2⟩ := HEMP.out h0
      have y0 : ¬ (((strN r)[0]'h0).toNat : Int) = 45 := by omega
      have y2 : ¬ (((strN r)[0]'h0).toNat : Int) = 43 := by omega
      have b0 := beq_false y0
      have b2 := beq_false y2
      clear HEMP h45 h43
      exact absurd h0 (by rw [hsz]; omega)
  · have z1 : ¬ ((strN r).size : Int) < 1 := by omega
    have z2 : (2 : Int) < ((strN r).size : Int) := by omega
    rcases hstart with ⟨rfl, rfl, rfl⟩ | ⟨h0, rfl, h45, hx⟩ | ⟨h0, rfl, h43, hx⟩ | ⟨h0, rfl, h45, h43, rfl⟩
    · have e : strN [] = ⟨#[]⟩ := rfl
      rw [e] at *
      clear HEMP
      all_goals exact absurd hlen (by simp)
    · obtain ⟨e1, e2⟩ := HEMP.out h0
      have y0 : (((strN l)[0]'h0).toNat : Int) = 45 := by omega
      have y1 : ((1 : Int) ≤ ((strN l).size : Int)) := by omega
      clear HEMP h45
      clear HD HGET
      go_enter Tryz.func90, Tryz.ntmps90
      go_wp2_with fail
      go_ret2
      exact ⟨rfl, 0, false, rfl, HP.out _ _ ⟨(decide_eq_false (by omega)).symm, fun h => (by cases h)⟩⟩
    · obtain ⟨e1, e2⟩ := HEMP.out h0
      have y0 : (((strN l)[0]'h0).toNat : Int) = 43 := by omega
      have y2 : ¬ (((strN l)[0]'h0).toNat : Int) = 45 := by omega
      have y1 : ((1 : Int) ≤ ((strN l).size : Int)) := by omega
      clear HEMP h43
      clear HD HGET
      go_enter Tryz.func90, Tryz.ntmps90
      go_wp2_with fail
      go_ret2
      exact ⟨rfl, 0, false, rfl, HP.out _ _ ⟨(decide_eq_false (by omega)).symm, fun h => (by cases h)⟩⟩
    · obtain ⟨e1, e2⟩ := HEMP.out h0
      have y0 : ¬ (((strN r)[0]'h0).toNat : Int) = 45 := by omega
      have y2 : ¬ (((strN r)[0]'h0).toNat : Int) = 43 := by omega
      have b0 := beq_false y0
      have b2 := beq_false y2
      clear HEMP h45 h43
      clear HD HGET
      go_enter Tryz.func90, Tryz.ntmps90
      go_wp2_with fail
      go_ret2
      exact ⟨rfl, 0, false, rfl, HP.out _ _ ⟨(decide_eq_false (by omega)).symm, fun h => (by cases h)⟩⟩
  · have z1 : ¬ ((strN r).size : Int) < 1 := by omega
    have z2 : ¬ (2 : Int) < ((strN r).size : Int) := by omega
    rcases hstart with ⟨rfl, rfl, rfl⟩ | ⟨h0, rfl, h45, hx⟩ | ⟨h0, rfl, h43, hx⟩ | ⟨h0, rfl, h45, h43, rfl⟩
    · have e : strN [] = ⟨#[]⟩ := rfl
      rw [e] at *
      clear HEMP
      all_goals exact absurd hlen.1 (by simp)
    · obtain ⟨e1, e2⟩ := HEMP.out h0
      have y0 : (((strN l)[0]'h0).toNat : Int) = 45 := by omega
      have y1 : ((1 : Int) ≤ ((strN l).size : Int)) := by omega
      clear HEMP h45
      go_enter Tryz.func90, Tryz.ntmps90
      go_wp2_with fail
      clear y0
      go_loop [5, 6] (fun s n => ∃ k : Nat, k ≤ r.length ∧ s = .int .i64 ((numD (r.take k) : Nat) : Int) ∧ n = .int .i64 (k : Int) ∧ (r.take k).all isD = true) (fun _ n => r.length + 1 - (RowKit.intOf n).toNat)
      case atStart => exact ⟨0, Nat.zero_le _, rfl, rfl, rfl⟩
      case round =>
        obtain ⟨k, hk, rfl, rfl, hall⟩ := hrel
        have hb9 : numD (r.take k) < 100 := numD_two (by rw [List.length_take]; omega) hall
        by_cases hkt : k < r.length
        · have hks : k < (strN r).size := by rw [hsz]; exact hkt
          have g1 := HGET.out k hks
          have tk := numD_take r k hkt
          rw [← g1] at tk
          have ha2 : (r.take (k + 1)).all isD = ((r.take k).all isD && isD (((strN r)[k]'hks).toNat)) := by
            rw [g1, List.take_succ_eq_append_getElem hkt, List.all_append]
            simp
          rw [hall, Bool.true_and] at ha2
          have HTK := Lib.hid tk
          have HA2 := Lib.hid ha2
          have HALL := Lib.hid hall
          have y3 : (k : Int) < ((strN r).size : Int) := by omega
          have hd := HD.out (((strN r)[k]'hks).toNat)
          clear tk ha2 hall g1
          obtain ⟨d, hdd⟩ : ∃ d, isD (((strN r)[k]'hks).toNat) = d := ⟨_, rfl⟩
          rw [hdd] at hd
          have HDD := Lib.hid hdd
          have HH := Lib.hid hd
          clear hdd hd
          cases d with
          | true =>
            go_wp2_with (go_fit (HH.out _); rintro e w9 ⟨rfl, rfl⟩)
            go_round
            case rel =>
              have h48 : 48 ≤ (((strN r)[k]'hks).toNat) ∧ (((strN r)[k]'hks).toNat) ≤ 57 := of_decide_eq_true HDD.out
              refine ⟨k + 1, by omega, ?_, by go_num, by rw [HA2.out, HDD.out]⟩
              rw [HTK.out, wrap_digit _ _ hb9 h48.1 h48.2]
            case measure => simp [RowKit.intOf]; omega
          | false =>
            go_wp2_with (go_fit (HH.out _); rintro e w9 ⟨rfl, rfl⟩)
            go_ret2
            refine ⟨rfl, 0, false, rfl, HP.out _ _ ⟨(decide_eq_false ?_).symm, fun h => (by cases h)⟩⟩
            intro hc
            have h1 := HA2.out
            rw [HDD.out] at h1
            have h2 : (r.take (k + 1)).all isD = true := by
              rw [List.all_eq_true]
              exact fun x hx => List.all_eq_true.1 hc.2.2.1 x (List.mem_of_mem_take hx)
            rw [h1] at h2
            cases h2
        · obtain rfl : k = r.length := by omega
          have y3 : ¬ ((r.length : Nat) : Int) < ((strN r).size : Int) := by omega
          rw [List.take_length] at hall hb9 ⊢
          have HALL := Lib.hid hall
          clear hall
          by_cases h30 : numD r ≤ 30
          · have y4 : ((numD r : Nat) : Int) ≤ 30 := by omega
            go_wp2_with fail
            go_ret2
            refine ⟨rfl, _, true, rfl, HP.out _ _ ⟨(decide_eq_true ⟨hlen.1, hlen.2, HALL.out, h30⟩).symm, fun _ => ?_⟩⟩
            rw [if_pos rfl]
          · have y4 : ¬ ((numD r : Nat) : Int) ≤ 30 := by omega
            go_wp2_with fail
            go_ret2
            exact ⟨rfl, _, false, rfl, HP.out _ _ ⟨(decide_eq_false (fun hc => h30 hc.2.2.2)).symm, fun h => (by cases h)⟩⟩
    · obtain ⟨e1, e2⟩ := HEMP.out h0
      have y0 : (((strN l)[0]'h0).toNat : Int) = 43 := by omega
      have y2 : ¬ (((strN l)[0]'h0).toNat : Int) = 45 := by omega
      have y1 : ((1 : Int) ≤ ((strN l).size : Int)) := by omega
      clear HEMP h43
      go_enter Tryz.func90, Tryz.ntmps90
      go_wp2_with fail
      clear y0
      go_loop [5, 6] (fun s n => ∃ k : Nat, k ≤ r.length ∧ s = .int .i64 ((numD (r.take k) : Nat) : Int) ∧ n = .int .i64 (k : Int) ∧ (r.take k).all isD = true) (fun _ n => r.length + 1 - (RowKit.intOf n).toNat)
      case atStart => exact ⟨0, Nat.zero_le _, rfl, rfl, rfl⟩
      case round =>
        obtain ⟨k, hk, rfl, rfl, hall⟩ := hrel
        have hb9 : numD (r.take k) < 100 := numD_two (by rw [List.length_take]; omega) hall
        by_cases hkt : k < r.length
        · have hks : k < (strN r).size := by rw [hsz]; exact hkt
          have g1 := HGET.out k hks
          have tk := numD_take r k hkt
          rw [← g1] at tk
          have ha2 : (r.take (k + 1)).all isD = ((r.take k).all isD && isD (((strN r)[k]'hks).toNat)) := by
            rw [g1, List.take_succ_eq_append_getElem hkt, List.all_append]
            simp
          rw [hall, Bool.true_and] at ha2
          have HTK := Lib.hid tk
          have HA2 := Lib.hid ha2
          have HALL := Lib.hid hall
          have y3 : (k : Int) < ((strN r).size : Int) := by omega
          have hd := HD.out (((strN r)[k]'hks).toNat)
          clear tk ha2 hall g1
          obtain ⟨d, hdd⟩ : ∃ d, isD (((strN r)[k]'hks).toNat) = d := ⟨_, rfl⟩
          rw [hdd] at hd
          have HDD := Lib.hid hdd
          have HH := Lib.hid hd
          clear hdd hd
          cases d with
          | true =>
            go_wp2_with (go_fit (HH.out _); rintro e w9 ⟨rfl, rfl⟩)
            go_round
            case rel =>
              have h48 : 48 ≤ (((strN r)[k]'hks).toNat) ∧ (((strN r)[k]'hks).toNat) ≤ 57 := of_decide_eq_true HDD.out
              refine ⟨k + 1, by omega, ?_, by go_num, by rw [HA2.out, HDD.out]⟩
              rw [HTK.out, wrap_digit _ _ hb9 h48.1 h48.2]
            case measure => simp [RowKit.intOf]; omega
          | false =>
            go_wp2_with (go_fit (HH.out _); rintro e w9 ⟨rfl, rfl⟩)
            go_ret2
            refine ⟨rfl, 0, false, rfl, HP.out _ _ ⟨(decide_eq_false ?_).symm, fun h => (by cases h)⟩⟩
            intro hc
            have h1 := HA2.out
            rw [HDD.out] at h1
            have h2 : (r.take (k + 1)).all isD = true := by
              rw [List.all_eq_true]
              exact fun x hx => List.all_eq_true.1 hc.2.2.1 x (List.mem_of_mem_take hx)
            rw [h1] at h2
            cases h2
        · obtain rfl : k = r.length := by omega
          have y3 : ¬ ((r.length : Nat) : Int) < ((strN r).size : Int) := by omega
          rw [List.take_length] at hall hb9 ⊢
          have HALL := Lib.hid hall
          clear hall
          by_cases h30 : numD r ≤ 30
          · have y4 : ((numD r : Nat) : Int) ≤ 30 := by omega
            go_wp2_with fail
            go_ret2
            refine ⟨rfl, _, true, rfl, HP.out _ _ ⟨(decide_eq_true ⟨hlen.1, hlen.2, HALL.out, h30⟩).symm, fun _ => ?_⟩⟩
            rw [if_neg (by simp)]
          · have y4 : ¬ ((numD r : Nat) : Int) ≤ 30 := by omega
            go_wp2_with fail
            go_ret2
            exact ⟨rfl, _, false, rfl, HP.out _ _ ⟨(decide_eq_false (fun hc => h30 hc.2.2.2)).symm, fun h => (by cases h)⟩⟩
    · obtain ⟨e1, e2⟩ := HEMP.out h0
      have y0 : ¬ (((strN r)[0]'h0).toNat : Int) = 45 := by omega
      have y2 : ¬ (((strN r)[0]'h0).toNat : Int) = 43 := by omega
      have b0 := beq_false y0
      have b2 := beq_false y2
      clear HEMP h45 h43
      go_enter Tryz.func90, Tryz.ntmps90
      go_wp2_with fail
      clear y0
      go_loop [5, 6] (fun s n => ∃ k : Nat, k ≤ r.length ∧ s = .int .i64 ((numD (r.take k) : Nat) : Int) ∧ n = .int .i64 (k : Int) ∧ (r.take k).all isD = true) (fun _ n => r.length + 1 - (RowKit.intOf n).toNat)
      case atStart => exact ⟨0, Nat.zero_le _, rfl, rfl, rfl⟩
      case round =>
        obtain ⟨k, hk, rfl, rfl, hall⟩ := hrel
        have hb9 : numD (r.take k) < 100 := numD_two (by rw [List.length_take]; omega) hall
        by_cases hkt : k < r.length
        · have hks : k < (strN r).size := by rw [hsz]; exact hkt
          have g1 := HGET.out k hks
          have tk := numD_take r k hkt
          rw [← g1] at tk
          have ha2 : (r.take (k + 1)).all isD = ((r.take k).all isD && isD (((strN r)[k]'hks).toNat)) := by
            rw [g1, List.take_succ_eq_append_getElem hkt, List.all_append]
            simp
          rw [hall, Bool.true_and] at ha2
          have HTK := Lib.hid tk
          have HA2 := Lib.hid ha2
          have HALL := Lib.hid hall
          have y3 : (k : Int) < ((strN r).size : Int) := by omega
          have hd := HD.out (((strN r)[k]'hks).toNat)
          clear tk ha2 hall g1
          obtain ⟨d, hdd⟩ : ∃ d, isD (((strN r)[k]'hks).toNat) = d := ⟨_, rfl⟩
          rw [hdd] at hd
          have HDD := Lib.hid hdd
          have HH := Lib.hid hd
          clear hdd hd
          cases d with
          | true =>
            go_wp2_with (go_fit (HH.out _); rintro e w9 ⟨rfl, rfl⟩)
            go_round
            case rel =>
              have h48 : 48 ≤ (((strN r)[k]'hks).toNat) ∧ (((strN r)[k]'hks).toNat) ≤ 57 := of_decide_eq_true HDD.out
              refine ⟨k + 1, by omega, ?_, by go_num, by rw [HA2.out, HDD.out]⟩
              rw [HTK.out, wrap_digit _ _ hb9 h48.1 h48.2]
            case measure => simp [RowKit.intOf]; omega
          | false =>
            go_wp2_with (go_fit (HH.out _); rintro e w9 ⟨rfl, rfl⟩)
            go_ret2
            refine ⟨rfl, 0, false, rfl, HP.out _ _ ⟨(decide_eq_false ?_).symm, fun h => (by cases h)⟩⟩
            intro hc
            have h1 := HA2.out
            rw [HDD.out] at h1
            have h2 : (r.take (k + 1)).all isD = true := by
              rw [List.all_eq_true]
              exact fun x hx => List.all_eq_true.1 hc.2.2.1 x (List.mem_of_mem_take hx)
            rw [h1] at h2
            cases h2
        · obtain rfl : k = r.length := by omega
          have y3 : ¬ ((r.length : Nat) : Int) < ((strN r).size : Int) := by omega
          rw [List.take_length] at hall hb9 ⊢
          have HALL := Lib.hid hall
          clear hall
          by_cases h30 : numD r ≤ 30
          · have y4 : ((numD r : Nat) : Int) ≤ 30 := by omega
            go_wp2_with fail
            go_ret2
            refine ⟨rfl, _, true, rfl, HP.out _ _ ⟨(decide_eq_true ⟨hlen.1, hlen.2, HALL.out, h30⟩).symm, fun _ => ?_⟩⟩
            rw [if_neg (by simp)]
          · have y4 : ¬ ((numD r : Nat) : Int) ≤ 30 := by omega
            go_wp2_with fail
            go_ret2
            exact ⟨rfl, _, false, rfl, HP.out _ _ ⟨(decide_eq_false (fun hc => h30 hc.2.2.2)).symm, fun h => (by cases h)⟩⟩
end Go.Proofs.YtchokmhfgikglaaGreatDoor
