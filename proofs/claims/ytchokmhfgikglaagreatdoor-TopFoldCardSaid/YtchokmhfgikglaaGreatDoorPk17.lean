/- Several texts in one: DataA, DecParse. Condition: each says its own. -/
import Derived.Lib.AtoiTie
import Derived.Lib.AtoiErrMem
import Derived.Test.YtchokmhfgikglaaGreatDoorPk9
import Derived.Test.YtchokmhfgikglaaGreatDoorPk12
import Derived.Test.YtchokmhfgikglaaGreatDoorPk14
import Derived.Test.YtchokmhfgikglaaGreatDoorPk15
import Derived.Test.YtchokmhfgikglaaGreatDoorPk16
set_option linter.unusedVariables false
set_option linter.unusedSimpArgs false
namespace Go.Proofs.YtchokmhfgikglaaGreatDoor
set_option maxRecDepth 100000
open Go.RowKit Go.Shelf Go.Lib

theorem sign_in (n : Nat) (h : n < 256) : ([43, 45] : List UInt8).contains (UInt8.ofNat n) = isS n := by
  have h' : ∀ n : Fin 256, ([43, 45] : List UInt8).contains (UInt8.ofNat n.val) = isS n.val := by decide +kernel
  exact h' ⟨n, h⟩

theorem trimL_signs (l : List Nat) (hl : Byt l) : Lib.trimLeftS (u8 l) [43, 45] = u8 (l.dropWhile isS) := by
  unfold Lib.trimLeftS
  induction l with
  | nil => rfl
  | cons a r ih =>
    have ha := sign_in a (hl a (by simp))
    have hr : Byt r := fun x hx => hl x (by simp [hx])
    show List.dropWhile _ (UInt8.ofNat a :: u8 r) = _
    rw [List.dropWhile_cons, List.dropWhile_cons, ha]
    split
    · exact ih hr
    · rfl

theorem expG_none {l : List Nat} (h : ¬ (l.length - (l.dropWhile isS).length ≤ 1 ∧ 1 ≤ (l.dropWhile isS).length ∧ (l.dropWhile isS).length ≤ 2 ∧ (l.dropWhile isS).all isD = true)) : expG l = none := by
  rw [sign_ways] at h
  unfold expG
  rw [if_neg]
  rintro ⟨h1, h2, h3, _⟩
  exact h ⟨h1, h2, h3⟩

theorem decFrom_u8 (r : List Nat) (hd : r.all isD = true) : ∀ acc, decFrom acc (u8 r) = some (acc * 10 ^ r.length + numD r) := by
  induction r with
  | nil => intro acc; simp [u8, decFrom, numD, undec]
  | cons c t ih =>
    intro acc
    have hc : isD c = true := List.all_eq_true.1 hd c (by simp)
    have ht : t.all isD = true := List.all_eq_true.2 fun x hx => List.all_eq_true.1 hd x (by simp [hx])
    unfold isD at hc
    obtain ⟨h1, h2⟩ := of_decide_eq_true hc
    have e1 : (UInt8.ofNat c).toNat = c := by rw [UInt8.toNat_ofNat', Nat.mod_eq_of_lt (by omega)]
    show decFrom acc (UInt8.ofNat c :: u8 t) = _
    unfold decFrom digitVal
    rw [e1, if_pos ⟨h1, h2⟩]
    show decFrom (acc * 10 + (c - 48)) (u8 t) = _
    rw [ih ht]
    have e2 : numD (c :: t) = (c - 48) * 10 ^ t.length + numD t := by
      have := numD_append [c] t
      have e3 : numD [c] = c - 48 := by simp [numD, undec]
      rw [e3] at this
      exact this
    rw [e2, List.length_cons, Nat.pow_succ]
    congr 1
    rw [Nat.add_mul, Nat.mul_assoc acc 10, Nat.mul_comm 10, Nat.add_assoc]

theorem decNat_u8 (r : List Nat) (hd : r.all isD = true) (h : 1 ≤ r.length) : decNat (u8 r) = some (numD r) := by
  unfold decNat
  rw [if_neg, decFrom_u8 r hd, Nat.zero_mul, Nat.zero_add]
  cases r with
  | nil => simp at h
  | cons c t => simp [u8]

theorem atoi_cons (b : UInt8) (r : List UInt8) : atoi (b :: r) = if b == 45 then (decNat r).map fun (m : Nat) => -(m : Int) else if b == 43 then (decNat r).map fun (m : Nat) => (m : Int) else (decNat (b :: r)).map fun (m : Nat) => (m : Int) := rfl

theorem atoi_exp {l : List Nat} (hl : Byt l) (h1 : 1 ≤ (signG l).2.length) (h3 : (signG l).2.all isD = true) :
    atoi (u8 l) = some (if (signG l).1 = true then -(numD (signG l).2 : Int) else (numD (signG l).2 : Int)) := by
  have hd := decNat_u8 _ h3 h1
  rcases sign_text h3 with ⟨e1, e2⟩ | ⟨e1, e2⟩ | ⟨e1, e2⟩
  · rw [e2, if_neg (by simp)]
    conv => lhs; rw [e1]
    cases hr : (signG l).2 with
    | nil => rw [hr] at h1; simp at h1
    | cons c t =>
      rw [hr] at h3 hd
      have hc : isD c = true := List.all_eq_true.1 h3 c (by simp)
      unfold isD at hc
      obtain ⟨g1, g2⟩ := of_decide_eq_true hc
      have n1 : ¬ UInt8.ofNat c = 45 := fun e => by have := congrArg UInt8.toNat e; rw [UInt8.toNat_ofNat', Nat.mod_eq_of_lt (by omega)] at this; simp at this; omega
      have n2 : ¬ UInt8.ofNat c = 43 := fun e => by have := congrArg UInt8.toNat e; rw [UInt8.toNat_ofNat', Nat.mod_eq_of_lt (by omega)] at this; simp at this; omega
      show atoi (UInt8.ofNat c :: u8 t) = _
      rw [atoi_cons]
      rw [if_neg (by simpa using n1), if_neg (by simpa using n2)]
      have : decNat (UInt8.ofNat c :: u8 t) = some (numD (c :: t)) := hd
      rw [this]
      rfl
  · rw [e2, if_neg (by simp)]
    conv => lhs; rw [e1]
    show atoi (UInt8.ofNat 43 :: u8 (signG l).2) = _
    rw [atoi_cons, if_neg (by decide), if_pos (by decide), hd]
    rfl
  · rw [e2, if_pos rfl]
    conv => lhs; rw [e1]
    show atoi (UInt8.ofNat 45 :: u8 (signG l).2) = _
    rw [atoi_cons, if_pos (by decide), hd]
    rfl

/-- What reading an exponent hands back. -/
def ExpB (l : List Nat) (w : World) (e : Ending) (w' : World) : Prop := Below w.heap.size w w' ∧ ∃ z b, e = .returned (.tuple #[.int .i64 z, .bool b]) ∧ expG l = if b = true then some z else none

set_option maxHeartbeats 3200000 in
theorem dataExp_any (l : List Nat) (hl : Byt l) (h9 : l.length ≤ 300) (w : World) :
    Calls Tryz.prog 73 #[.string (strN l)] w (ExpB l w) := by
  have hT := Any.strings_TrimLeft_laid Tryz.lays161 (by kernel_rfl) (strN l) ⟨#[43, 45]⟩ w (by decide) (ascii_of_all (by decide))
  rw [u8_data, show (⟨#[43, 45]⟩ : ByteArray).data.toList = [43, 45] from rfl, trimL_signs l hl] at hT
  have HTL : Hid (Calls Tryz.prog 138 #[.string (strN l), .string ⟨#[43, 45]⟩] w fun e w' => e = .returned (.string (strN (l.dropWhile isS))) ∧ Below w.heap.size w w') := hT
  clear hT
  obtain ⟨D, hD⟩ : ∃ D, l.dropWhile isS = D := ⟨_, rfl⟩
  have hDl : D.length ≤ l.length := by rw [← hD]; exact (List.dropWhile_sublist _).length_le
  have hDb : Byt D := fun x hx => hl x ((List.dropWhile_sublist _).subset (by rw [hD]; exact hx))
  have HNO : Hid (¬ (l.length - D.length ≤ 1 ∧ 1 ≤ D.length ∧ D.length ≤ 2 ∧ D.all isD = true) → expG l = none) := fun h => expG_none (by rw [hD]; exact h)
  have HYES : Hid (l.length - D.length ≤ 1 ∧ 1 ≤ D.length ∧ D.length ≤ 2 ∧ D.all isD = true → ∃ (m : Nat) (neg : Bool), m < 100 ∧ atoi (u8 l) = some (if neg = true then -(m : Int) else (m : Int)) ∧ expG l = if m ≤ 30 then some (if neg = true then -(m : Int) else (m : Int)) else none) := fun h => by
    rw [← hD] at h
    obtain ⟨g1, g2, g3⟩ := sign_ways l |>.1 h
    refine ⟨numD (signG l).2, (signG l).1, numD_two g2 g3, atoi_exp hl g1 g3, ?_⟩
    unfold expG
    by_cases h30 : numD (signG l).2 ≤ 30
    · rw [if_pos ⟨g1, g2, g3, h30⟩, if_pos h30]
    · rw [if_neg (fun h => h30 h.2.2.2), if_neg h30]
  rw [hD] at HTL
  have hs1 := strN_size l
  have hs2 := strN_size D
  have HTR : Hid (∀ W, Calls Tryz.prog 37 #[.string (strN D), .string ⟨#[48, 49, 50, 51, 52, 53, 54, 55, 56, 57]⟩] W fun e w' => e = .returned (.string ⟨(Lib.trimS (strN D).data.toList [48, 49, 50, 51, 52, 53, 54, 55, 56, 57]).toArray⟩) ∧ Below W.heap.size W w') := fun W => trimAll (strN D) W (by omega)
  have HDG : Hid (Lib.trimS (strN D).data.toList [48, 49, 50, 51, 52, 53, 54, 55, 56, 57] = [] ↔ D.all isD = true) := by
    show _ ↔ _
    rw [trim_digits]
    have e : (strN D).data.toList.map (·.toNat) = D := byts_of D hDb
    rw [e, List.all_eq_true]
    constructor
    · intro h x hx
      unfold isD
      exact decide_eq_true (h x hx)
    · intro h x hx
      have := h x hx
      unfold isD at this
      exact of_decide_eq_true this
  have HAT : Hid (∀ W v, l.length ≤ 18 → atoi (u8 l) = some v → Calls Tryz.prog 139 #[.string (strN l)] W fun e w' => e = .returned (.tuple #[.int .i64 v, .nilIface]) ∧ (w' = W ∨ ∃ t, w' = Lib.bytesWorld W 5 t)) := fun W v hl18 h =>
    Any.strconv_Atoi_ok Tryz.laysC172 (strN l) (by omega) v (by rw [u8_data, atoiAll_short _ (by rw [u8_len]; exact hl18), h]; rfl) W
  clear hl hDb hD
  have hs3 : (strN D).size ≤ (strN l).size := by omega
  have hs4 : (strN l).size ≤ 300 := by omega
  by_cases c1 : 1 < l.length - D.length
  · have HE := Lib.hid (HNO.out (fun h => by omega))
    have y1 : (1 : Int) < ((strN l).size : Int) - ((strN D).size : Int) := by omega
    clear HNO HYES HTR HDG HAT hs1 hs2 c1 h9 hDl
    generalize strN l = t at *
    generalize strN D = u at *
    go_enter Tryz.func73, Tryz.ntmps73
    go_wp2_with fail
    go_fit HTL.out
    rintro e w1 ⟨rfl, hb1⟩
    go_wp2_with fail
    go_ret2
    exact ⟨hb1, 0, false, rfl, HE.out⟩
  · have y1 : ¬ (1 : Int) < ((strN l).size : Int) - ((strN D).size : Int) := by omega
    by_cases c2 : D.length < 1
    · have HE := Lib.hid (HNO.out (fun h => by omega))
      have y2 : ((strN D).size : Int) < 1 := by omega
      clear HNO HYES HTR HDG HAT hs1 hs2 c1 c2 h9 hDl
      generalize strN l = t at *
      generalize strN D = u at *
      go_enter Tryz.func73, Tryz.ntmps73
      go_wp2_with fail
      go_fit HTL.out
      rintro e w1 ⟨rfl, hb1⟩
      go_wp2_with fail
      go_ret2
      exact ⟨hb1, 0, false, rfl, HE.out⟩
    · have y2 : ¬ ((strN D).size : Int) < 1 := by omega
      by_cases c3 : 2 < D.length
      · have HE := Lib.hid (HNO.out (fun h => by omega))
        have y3 : (2 : Int) < ((strN D).size : Int) := by omega
        clear HNO HYES HTR HDG HAT hs1 hs2 c1 c2 c3 h9 hDl
        generalize strN l = t at *
        generalize strN D = u at *
        go_enter Tryz.func73, Tryz.ntmps73
        go_wp2_with fail
        go_fit HTL.out
        rintro e w1 ⟨rfl, hb1⟩
        go_wp2_with fail
        go_ret2
        exact ⟨hb1, 0, false, rfl, HE.out⟩
      · have y3 : ¬ (2 : Int) < ((strN D).size : Int) := by omega
        by_cases c4 : D.all isD = true
        · obtain ⟨m, neg, hm, hat, hex⟩ := HYES.out ⟨by omega, by omega, by omega, c4⟩
          have HE := Lib.hid hex
          have HA2 : Hid (∀ W, Calls Tryz.prog 139 #[.string (strN l)] W fun e w' => e = .returned (.tuple #[.int .i64 (if neg = true then -(m : Int) else (m : Int)), .nilIface]) ∧ (w' = W ∨ ∃ t, w' = Lib.bytesWorld W 5 t)) := fun W => HAT.out W _ (by omega) hat
          have hT2 := HDG.out.2 c4
          rw [hT2] at HTR
          have HTR2 : Hid (∀ W, Calls Tryz.prog 37 #[.string (strN D), .string ⟨#[48, 49, 50, 51, 52, 53, 54, 55, 56, 57]⟩] W fun e w' => e = .returned (.string ⟨#[]⟩) ∧ Below W.heap.size W w') := HTR
          clear HNO HYES HTR HDG HAT hs1 hs2 c1 c2 c3 c4 h9 hDl hat hex hT2
          generalize strN l = t at *
          generalize strN D = u at *
          have hm30 : m ≤ 30 ∨ 30 < m := by omega
          cases neg with
          | false =>
            go_enter Tryz.func73, Tryz.ntmps73
            go_wp2_with fail
            go_fit HTL.out
            rintro e w1 ⟨rfl, hb1⟩
            go_wp2_with fail
            go_fit (HTR2.out _)
            rintro e w2 ⟨rfl, hb2⟩
            go_wp2_with fail
            go_fit (HA2.out _)
            rintro e w3 ⟨rfl, hw3⟩
            have hb3 : Below w2.heap.size w2 w3 := by
              rcases hw3 with rfl | ⟨b, rfl⟩
              · exact Below.refl _ _
              · exact Lib.bytesWorld_below _ _ _
            have hB := (hb1.trans (hb2.mono hb1.size)).trans (hb3.mono (Nat.le_trans hb1.size hb2.size))
            clear hw3 hb1 hb2 hb3
            simp only [Bool.false_eq_true, if_false] at *
            have hmx : max (m : Int) (-(m : Int)) = (m : Int) := by omega
            rcases hm30 with h30 | h30
            · have z1 : (m : Int) ≤ 30 := by omega
              have HE2 := Lib.hid (HE.out.trans (if_pos h30))
              clear HE h30
              go_wp2_with fail
              go_ret2
              exact ⟨hB, _, _, rfl, HE2.out⟩
            · have z1 : ¬ (m : Int) ≤ 30 := by omega
              have HE2 := Lib.hid (HE.out.trans (if_neg (by omega)))
              clear HE h30
              go_wp2_with fail
              go_ret2
              exact ⟨hB, _, _, rfl, HE2.out⟩
          | true =>
            go_enter Tryz.func73, Tryz.ntmps73
            go_wp2_with fail
            go_fit HTL.out
            rintro e w1 ⟨rfl, hb1⟩
            go_wp2_with fail
            go_fit (HTR2.out _)
            rintro e w2 ⟨rfl, hb2⟩
            go_wp2_with fail
            go_fit (HA2.out _)
            rintro e w3 ⟨rfl, hw3⟩
            have hb3 : Below w2.heap.size w2 w3 := by
              rcases hw3 with rfl | ⟨b, rfl⟩
              · exact Below.refl _ _
              · exact Lib.bytesWorld_below _ _ _
            have hB := (hb1.trans (hb2.mono hb1.size)).trans (hb3.mono (Nat.le_trans hb1.size hb2.size))
            clear hw3 hb1 hb2 hb3
            simp only [if_true] at *
            have hmx : max (-(m : Int)) (m : Int) = (m : Int) := by omega
            rcases hm30 with h30 | h30
            · have z1 : (m : Int) ≤ 30 := by omega
              have HE2 := Lib.hid (HE.out.trans (if_pos h30))
              clear HE h30
              go_wp2_with fail
              go_ret2
              exact ⟨hB, _, _, rfl, HE2.out⟩
            · have z1 : ¬ (m : Int) ≤ 30 := by omega
              have HE2 := Lib.hid (HE.out.trans (if_neg (by omega)))
              clear HE h30
              go_wp2_with fail
              go_ret2
              exact ⟨hB, _, _, rfl, HE2.out⟩
        · have hne : Lib.trimS (strN D).data.toList [48, 49, 50, 51, 52, 53, 54, 55, 56, 57] ≠ [] := fun h => c4 (HDG.out.1 h)
          have hte : (⟨(Lib.trimS (strN D).data.toList [48, 49, 50, 51, 52, 53, 54, 55, 56, 57]).toArray⟩ : ByteArray).toList.isEmpty = false := by
            rw [ByteArray.toList_mk]
            cases h : Lib.trimS (strN D).data.toList [48, 49, 50, 51, 52, 53, 54, 55, 56, 57] with
            | nil => exact absurd h hne
            | cons => rfl
          have HE := Lib.hid (HNO.out (fun h => c4 h.2.2.2))
          generalize (⟨(Lib.trimS (strN D).data.toList [48, 49, 50, 51, 52, 53, 54, 55, 56, 57]).toArray⟩ : ByteArray) = v at *
          clear HNO HYES HDG HAT hs1 hs2 c1 c2 c3 c4 h9 hDl hne
          generalize strN l = t at *
          generalize strN D = u at *
          go_enter Tryz.func73, Tryz.ntmps73
          go_wp2_with fail
          go_fit HTL.out
          rintro e w1 ⟨rfl, hb1⟩
          go_wp2_with fail
          go_fit (HTR.out _)
          rintro e w2 ⟨rfl, hb2⟩
          go_wp2_with fail
          go_ret2
          exact ⟨hb1.trans (hb2.mono hb1.size), 0, false, rfl, HE.out⟩
end Go.Proofs.YtchokmhfgikglaaGreatDoor

namespace Go.Proofs.YtchokmhfgikglaaGreatDoor
set_option maxRecDepth 100000
open Go.RowKit Go.Shelf Go.Lib

/-- What hands back a new number and no error. -/
def GivesP (q : Rat) (w : World) (e : Ending) (w' : World) : Prop :=
  ∃ v', e = .returned (.tuple #[v', .int .i64 0]) ∧ Rt w' w.heap.size w'.heap.size v' (qS q) (lim (qN q)) (lim q.den) ∧ Below w.heap.size w w'

theorem strp_len (l : List Nat) : (strp l).2.length ≤ l.length := by
  unfold strp
  cases l with
  | nil => simp
  | cons x r => simp only; split <;> simp
theorem strp_byt {l : List Nat} (h : Byt l) : Byt (strp l).2 := by
  unfold strp
  cases l with
  | nil => exact h
  | cons x r =>
    simp only
    split
    · exact fun y hy => h y (by simp [hy])
    · exact h

theorem dw_mem {p : Nat → Bool} {x : Nat} (l : List Nat) (h : x ∈ (l.dropWhile p).drop 1) : x ∈ l := (List.dropWhile_sublist p (l := l)).subset (List.mem_of_mem_drop h)
theorem dw_len (p : Nat → Bool) (l : List Nat) : ((l.dropWhile p).drop 1).length ≤ l.length := by
  have := (List.dropWhile_sublist p (l := l)).length_le
  rw [List.length_drop]
  omega
theorem tw_mem {p : Nat → Bool} {x : Nat} (l : List Nat) (h : x ∈ l.takeWhile p) : x ∈ l := (List.takeWhile_sublist p (l := l)).subset h
theorem tw_len (p : Nat → Bool) (l : List Nat) : (l.takeWhile p).length ≤ l.length := (List.takeWhile_sublist p (l := l)).length_le

theorem isEmpty_strN (a : List Nat) : (strN a).toList.isEmpty = decide (a.length = 0) := by rw [isEmpty_size, strN_size]

/-- What dec.Parse hands back. -/
def PostP (o : Option (Bool × Nat × Nat)) (w : World) (e : Ending) (w' : World) : Prop := match o with
  | some (neg, n, d) => GivesP (qv neg n d) w e w'
  | none => e = .returned (.tuple #[.agg #[.bool false, .slice none 0 0, .slice none 0 0], .int .i64 2]) ∧ Below w.heap.size w w'

theorem numD_len {b : List Nat} (h : okD b = true) : (lim (numD b)).length ≤ 400 := by
  unfold okD at h
  simp only [Bool.and_eq_true, decide_eq_true_eq] at h
  unfold numD
  have h1 : undec (b.map (· - 48)) < 10 ^ (b.map (· - 48)).length := undec_lt fun x hx => by
    obtain ⟨y, hy, rfl⟩ := List.mem_map.1 hx
    have := List.all_eq_true.1 h.2.2 y hy
    unfold isD at this
    have := of_decide_eq_true this
    omega
  exact lim_ten h1 (by rw [List.length_map]; exact h.2.1)

theorem prOf_q (s : Bool) (vn vd : Value) (n d : List Nat) (w : World) (dn : Dig n) (dd : Dig d) (hn : Nt w 0 w.heap.size vn n) (hd : Nt w 0 w.heap.size vd d) (ln : n.length ≤ 1000) (ld : d.length ≤ 1000) :
    Calls Tryz.prog 98 #[.bool s, vn, vd] w (GivesF (qv s (val n) (val d)) w) := by
  have := prOf_any s vn vd n d w dn dd hn hd ln ld
  obtain ⟨e1, e2, e3⟩ := nr_q s (val n) (val d)
  rw [e1, e2, e3] at this
  exact this

set_option maxHeartbeats 6400000 in
theorem decParse_any (l : List Nat) (hl : Byt l) (h4 : l.length ≤ 400) (o : Option (Bool × Nat × Nat)) (ho : wayA (strp l).1 (strp l).2 = o) (w : World) :
    Calls Tryz.prog 72 #[.string (strN l)] w (PostP o w) := by
  have hs := strN_size l
  have hcp := fun w => cutPrefix_any l hl w
  have hrb := strp_byt hl
  have hr4 := Nat.le_trans (strp_len l) h4
  obtain ⟨neg, hneg⟩ : ∃ b, (strp l).1 = b := ⟨_, rfl⟩
  obtain ⟨r, hr⟩ : ∃ r, (strp l).2 = r := ⟨_, rfl⟩
  rw [hneg, hr] at ho
  rw [hr] at hrb hr4
  rw [hneg, hr] at hcp
  have HCP := Lib.hid hcp
  have hct := fun w => cut_any r hrb 46 (by omega) (by omega) w
  have HCT := Lib.hid hct
  have hct7 := fun w => cut_any r hrb 47 (by omega) (by omega) w
  have HCT7 := Lib.hid hct7
  generalize strN l = t at *
  have hbig : ¬ (400 : Int) < (t.size : Int) := by omega
  have HRB := Lib.hid hrb
  clear hcp hneg hr hs h4 hl hct hct7 hrb
  have b0 := (Blk.new w 60 #[.bool false, .slice none 0 0, .slice none 0 0]).alloc (.cells #[.bool false, .slice none 0 0, .slice none 0 0] 60)
  have b1 := Blk.new (w.alloc (.cells #[.bool false, .slice none 0 0, .slice none 0 0] 60)) 60 #[.bool false, .slice none 0 0, .slice none 0 0]
  have hB : Below w.heap.size w ((w.alloc (.cells #[.bool false, .slice none 0 0, .slice none 0 0] 60)).alloc (.cells #[.bool false, .slice none 0 0, .slice none 0 0] 60)) := ((Below.refl _ _).alloc (Nat.le_refl _) _).alloc (by simp) _
  have es : (w.alloc (.cells #[.bool false, .slice none 0 0, .slice none 0 0] 60)).heap.size = w.heap.size + 1 := by simp
  rw [es] at b1
  clear es
  by_cases h46 : r.contains 46 = true
  · obtain ⟨a, ha⟩ : ∃ a, r.takeWhile (· != 46) = a := ⟨_, rfl⟩
    obtain ⟨b, hb⟩ : ∃ b, (r.dropWhile (· != 46)).drop 1 = b := ⟨_, rfl⟩
    have hW : o = if a.length ≠ 0 ∧ okD b = true ∧ okD (a ++ b) = true then some (neg, numD (a ++ b), 10 ^ b.length) else none := by
      rw [← ho]
      unfold wayA
      rw [if_pos h46, ha, hb]
    have hab : Byt a := fun x hx => HRB.out x (tw_mem r (ha ▸ hx))
    have hbb : Byt b := fun x hx => HRB.out x (dw_mem r (hb ▸ hx))
    have hlb : b.length ≤ 400 := by rw [← hb]; exact Nat.le_trans (dw_len _ _) hr4
    have hla : a.length ≤ 400 := by rw [← ha]; exact Nat.le_trans (tw_len _ _) hr4
    have HC : Hid (∀ w, Calls Tryz.prog 69 #[.string (strN r), .string ⟨#[46]⟩] w fun e w' => e = .returned (.tuple #[.string (strN a), .string (strN b), .bool true]) ∧ Below w.heap.size w w') := fun w => by
      have := HCT.out w
      rw [ha, hb, h46] at this
      exact this
    have HPB : Hid (∀ w, Calls Tryz.prog 136 #[.string (strN b)] w (GivesB (if okD b = true then lim (numD b) else []) (okD b) w)) := fun w => parse_l b hbb w
    have HPA : Hid (∀ w, Calls Tryz.prog 136 #[.string (strN (a ++ b))] w (GivesB (if okD (a ++ b) = true then lim (numD (a ++ b)) else []) (okD (a ++ b)) w)) := fun w => parse_l (a ++ b) (fun x hx => (List.mem_append.1 hx).elim (hab x) (hbb x)) w
    have hadd : ∀ W : World, (Op.stringOp .add (strN a) (strN b)).run Tryz.prog W = .ok (.string (strN (a ++ b))) W := fun W => add_str a b (by omega) W
    have hem := isEmpty_strN a
    have hsb := strN_size b
    have HTB : Hid (∀ w, Calls Tryz.prog 137 #[.int .i64 (b.length : Int)] w (Gives (lim (10 ^ b.length)) w)) := fun w => ten_big b.length w (by omega)
    have ltb : (lim (10 ^ b.length)).length ≤ 1000 := lim_ten (Nat.pow_lt_pow_right (by omega) (Nat.lt_succ_self b.length)) (by omega)
    have HLN : Hid (okD (a ++ b) = true → (lim (numD (a ++ b))).length ≤ 400) := fun h => numD_len h
    have HW := Lib.hid hW
    obtain ⟨q, hq⟩ : ∃ q, qv neg (numD (a ++ b)) (10 ^ b.length) = q := ⟨_, rfl⟩
    have HQ := Lib.hid hq
    have HOF : Hid (∀ (vn vd : Value) (w : World), okD (a ++ b) = true → Nt w 0 w.heap.size vn (lim (numD (a ++ b))) → Nt w 0 w.heap.size vd (lim (10 ^ b.length)) → Calls Tryz.prog 98 #[.bool neg, vn, vd] w (GivesF q w)) := fun vn vd w hk h1 h2 => by
      have := prOf_q neg vn vd (lim (numD (a ++ b))) (lim (10 ^ b.length)) w (dig_lim _) (dig_lim _) h1 h2 (Nat.le_trans (HLN.out hk) (by omega)) ltb
      rw [val_lim, val_lim, HQ.out] at this
      exact this
    clear ho hW ha hb h46 hab hbb HRB HCT HCT7 hr4 hq ltb HLN
    obtain ⟨za, hza⟩ : ∃ z, decide (a.length = 0) = z := ⟨_, rfl⟩
    rw [hza] at hem
    have HZA := Lib.hid hza
    clear hza
    generalize strN a = ta at *
    generalize strN (a ++ b) = tab at *
    rw [← hsb] at hlb
    rw [show ((b.length : Nat) : Int) = (((strN b).size : Nat) : Int) by rw [hsb]] at HTB
    generalize strN b = tb at *
    generalize strN r = tr at *
    clear hsb
    go_enter Tryz.func72, Tryz.ntmps72
    go_wp2_with fail
    generalize ((w.alloc (.cells #[.bool false, .slice none 0 0, .slice none 0 0] 60)).alloc (.cells #[.bool false, .slice none 0 0, .slice none 0 0] 60)) = w2 at *
    refine (HCP.out _).mono ?_
    rintro e w3 ⟨rfl, rfl⟩
    clear HCP
    go_wp2_with fail
    refine (HC.out _).mono ?_
    rintro e w4 ⟨rfl, hb⟩
    replace hB := hB.trans (hb.mono hB.size)
    replace b0 := b0.below hb b0.lt
    replace b1 := b1.below hb b1.lt
    clear hb
    clear HC
    go_wp2_with fail
    refine (HPB.out _).mono ?_
    rintro e w5 ⟨v5, rfl, h5, hb⟩
    replace hB := hB.trans (hb.mono hB.size)
    replace b0 := b0.below hb b0.lt
    replace b1 := b1.below hb b1.lt
    clear hb
    clear HPB h5
    go_wp2_with fail
    refine (HPA.out _).mono ?_
    rintro e w6 ⟨v6, rfl, h6, hb⟩
    replace h6 := h6.low (Nat.zero_le _)
    replace hB := hB.trans (hb.mono hB.size)
    replace b0 := b0.below hb b0.lt
    replace b1 := b1.below hb b1.lt
    clear hb
    clear HPA hadd
    by_cases c1 : za = true
    · have HO : Hid (o = none) := by
        show _ = _
        rw [HW.out, if_neg]
        rintro ⟨h, _⟩
        exact h (of_decide_eq_true (HZA.out.trans c1))
      rw [c1] at hem
      clear HW HZA c1 h6 HTB HOF
      have c0 := b1.cell 0
      have c1 := b1.cell 1
      have c2 := b1.cell 2
      have r0 := b0.cell 0
      have r1 := b0.cell 1
      have r2 := b0.cell 2
      have f0 := b0.free 0
      have f1 := b0.free 1
      have f2 := b0.free 2
      obtain ⟨e0, e1, e2, _, hBf⟩ := store3 b0 hB (Nat.le_refl _) false (.slice none 0 0) (.slice none 0 0) (Nt.nil w6 (w.heap.size + 1) w6.heap.size) (Nt.nil w6 (w.heap.size + 1) w6.heap.size)
      have HBF := Lib.hid hBf
      clear hBf b0 b1 hB
      unfold St3 at *
      go_wp2_with fail
      clear r0 r1 r2 f0 f1 f2 c0 c1 c2
      generalize ((World.setCell w6 ⟨w.heap.size, 0, none⟩ (.bool false)).setCell ⟨w.heap.size, 1, none⟩ (.slice none 0 0)).setCell ⟨w.heap.size, 2, none⟩ (.slice none 0 0) = wz at *
      refine bodyPost_ret (v := .tuple #[.agg #[.bool false, .slice none 0 0, .slice none 0 0], .int .i64 2]) ?_ rfl (by rw [HO.out]; exact ⟨rfl, HBF.out⟩)
      simp [results, Tryz.results72, go_sem, e0, e1, e2]
    · have c1' : za = false := by simpa using c1
      rw [c1'] at hem
      have hz0 : Hid (a.length ≠ 0) := of_decide_eq_false (HZA.out.trans c1')
      clear HZA c1 c1'
      by_cases c2 : okD b = true
      · rw [c2]
        by_cases c3 : okD (a ++ b) = true
        · have HO : Hid (o = some (neg, numD (a ++ b), 10 ^ b.length)) := by
            show _ = _
            rw [HW.out, if_pos ⟨hz0.out, c2, c3⟩]
          rw [if_pos c3] at h6
          rw [c3]
          have HOF2 : Hid (∀ (vn vd : Value) (w : World), Nt w 0 w.heap.size vn (lim (numD (a ++ b))) → Nt w 0 w.heap.size vd (lim (10 ^ b.length)) → Calls Tryz.prog 98 #[.bool neg, vn, vd] w (GivesF q w)) := fun vn vd w h1 h2 => HOF.out vn vd w c3 h1 h2
          clear HW hz0 c2 c3 HOF
          go_wp2_with fail
          refine (HTB.out _).mono ?_
          rintro e w7 ⟨v7, rfl, h7, hb⟩
          replace h7 := h7.low (Nat.zero_le _)
          replace h6 := h6.after hb
          replace hB := hB.trans (hb.mono hB.size)
          replace b0 := b0.below hb b0.lt
          replace b1 := b1.below hb b1.lt
          clear hb
          clear HTB
          go_wp2_with fail
          refine (HOF2.out _ _ _ h6 h7).mono ?_
          rintro e w8 ⟨v8, rfl, ⟨an, ad, rfl, han, had⟩, hb⟩
          have lw := b1.lt
          replace hB := hB.trans (hb.mono hB.size)
          replace b0 := b0.below hb b0.lt
          replace han := han.low (Nat.le_of_lt lw)
          replace had := had.low (Nat.le_of_lt lw)
          have han2 := han
          have had2 := had
          obtain ⟨A8, c8, rfl, m8⟩ := nt_len han2
          obtain ⟨A9, c9, rfl, m9⟩ := nt_len had2
          obtain ⟨e0, e1, e2, hR, hBf⟩ := store3 b0 hB (Nat.le_refl _) (qS q) (.slice A8 (lim (qN q)).length c8) (.slice A9 (lim q.den).length c9) han had
          have r0 := b0.cell 0
          have r1 := b0.cell 1
          have r2 := b0.cell 2
          have f0 := b0.free 0
          have f1 := b0.free 1
          have f2 := b0.free 2
          have HR := Lib.hid hR
          have HBF := Lib.hid hBf
          clear han had han2 had2 hR hBf hb hB b0 b1
          unfold St3 at *
          go_wp2_with fail
          clear r0 r1 r2 f0 f1 f2
          generalize ((World.setCell w8 ⟨w.heap.size, 0, none⟩ (.bool (qS q))).setCell ⟨w.heap.size, 1, none⟩ (.slice A8 (lim (qN q)).length c8)).setCell ⟨w.heap.size, 2, none⟩ (.slice A9 (lim q.den).length c9) = wz at *
          refine bodyPost_ret (v := .tuple #[.agg #[.bool (qS q), .slice A8 (lim (qN q)).length c8, .slice A9 (lim q.den).length c9], .int .i64 0]) ?_ rfl (by rw [HO.out]; show GivesP (qv _ _ _) _ _ _; rw [HQ.out]; exact ⟨_, rfl, HR.out, HBF.out⟩)
          simp [results, Tryz.results72, go_sem, e0, e1, e2]
        · have HO : Hid (o = none) := by
            show _ = _
            rw [HW.out, if_neg]
            rintro ⟨_, _, h⟩
            exact c3 h
          have c3' : okD (a ++ b) = false := by simpa using c3
          rw [c3']
          clear HW hz0 c2 c3 c3' h6 HTB HOF
          have c0 := b1.cell 0
          have c1 := b1.cell 1
          have c2 := b1.cell 2
          have r0 := b0.cell 0
          have r1 := b0.cell 1
          have r2 := b0.cell 2
          have f0 := b0.free 0
          have f1 := b0.free 1
          have f2 := b0.free 2
          obtain ⟨e0, e1, e2, _, hBf⟩ := store3 b0 hB (Nat.le_refl _) false (.slice none 0 0) (.slice none 0 0) (Nt.nil w6 (w.heap.size + 1) w6.heap.size) (Nt.nil w6 (w.heap.size + 1) w6.heap.size)
          have HBF := Lib.hid hBf
          clear hBf b0 b1 hB
          unfold St3 at *
          go_wp2_with fail
          clear r0 r1 r2 f0 f1 f2 c0 c1 c2
          generalize ((World.setCell w6 ⟨w.heap.size, 0, none⟩ (.bool false)).setCell ⟨w.heap.size, 1, none⟩ (.slice none 0 0)).setCell ⟨w.heap.size, 2, none⟩ (.slice none 0 0) = wz at *
          refine bodyPost_ret (v := .tuple #[.agg #[.bool false, .slice none 0 0, .slice none 0 0], .int .i64 2]) ?_ rfl (by rw [HO.out]; exact ⟨rfl, HBF.out⟩)
          simp [results, Tryz.results72, go_sem, e0, e1, e2]
      · have HO : Hid (o = none) := by
          show _ = _
          rw [HW.out, if_neg]
          rintro ⟨_, h, _⟩
          exact c2 h
        have c2' : okD b = false := by simpa using c2
        rw [c2']
        clear HW hz0 c2 c2' h6 HTB HOF
        have c0 := b1.cell 0
        have c1 := b1.cell 1
        have c2 := b1.cell 2
        have r0 := b0.cell 0
        have r1 := b0.cell 1
        have r2 := b0.cell 2
        have f0 := b0.free 0
        have f1 := b0.free 1
        have f2 := b0.free 2
        obtain ⟨e0, e1, e2, _, hBf⟩ := store3 b0 hB (Nat.le_refl _) false (.slice none 0 0) (.slice none 0 0) (Nt.nil w6 (w.heap.size + 1) w6.heap.size) (Nt.nil w6 (w.heap.size + 1) w6.heap.size)
        have HBF := Lib.hid hBf
        clear hBf b0 b1 hB
        unfold St3 at *
        go_wp2_with fail
        clear r0 r1 r2 f0 f1 f2 c0 c1 c2
        generalize ((World.setCell w6 ⟨w.heap.size, 0, none⟩ (.bool false)).setCell ⟨w.heap.size, 1, none⟩ (.slice none 0 0)).setCell ⟨w.heap.size, 2, none⟩ (.slice none 0 0) = wz at *
        refine bodyPost_ret (v := .tuple #[.agg #[.bool false, .slice none 0 0, .slice none 0 0], .int .i64 2]) ?_ rfl (by rw [HO.out]; exact ⟨rfl, HBF.out⟩)
        simp [results, Tryz.results72, go_sem, e0, e1, e2]
  · have hc46 : r.contains 46 = false := by simpa using h46
    obtain ⟨y1, y2⟩ := tw_none (c := 46) r (by simpa using hc46)
    have HC : Hid (∀ w, Calls Tryz.prog 69 #[.string (strN r), .string ⟨#[46]⟩] w fun e w' => e = .returned (.tuple #[.string (strN r), .string ⟨#[]⟩, .bool false]) ∧ Below w.heap.size w w') := fun w => by
      have := HCT.out w
      rw [y1, y2, hc46] at this
      exact this
    clear HCT hc46 y1 y2
    by_cases h47 : r.contains 47 = true
    · obtain ⟨a, ha⟩ : ∃ a, r.takeWhile (· != 47) = a := ⟨_, rfl⟩
      obtain ⟨b, hb⟩ : ∃ b, (r.dropWhile (· != 47)).drop 1 = b := ⟨_, rfl⟩
      have hW : o = if okD a = true ∧ okD b = true ∧ numD b ≠ 0 then some (neg, numD a, numD b) else none := by
        rw [← ho]
        unfold wayA
        rw [if_neg h46, if_pos h47, ha, hb]
      have hab : Byt a := fun x hx => HRB.out x (tw_mem r (ha ▸ hx))
      have hbb : Byt b := fun x hx => HRB.out x (dw_mem r (hb ▸ hx))
      have HC7 : Hid (∀ w, Calls Tryz.prog 69 #[.string (strN r), .string ⟨#[47]⟩] w fun e w' => e = .returned (.tuple #[.string (strN a), .string (strN b), .bool true]) ∧ Below w.heap.size w w') := fun w => by
        have := HCT7.out w
        rw [ha, hb, h47] at this
        exact this
      have HPA : Hid (∀ w, Calls Tryz.prog 136 #[.string (strN a)] w (GivesB (if okD a = true then lim (numD a) else []) (okD a) w)) := fun w => parse_l a hab w
      have HPB : Hid (∀ w, Calls Tryz.prog 136 #[.string (strN b)] w (GivesB (if okD b = true then lim (numD b) else []) (okD b) w)) := fun w => parse_l b hbb w
      have HW := Lib.hid hW
      obtain ⟨q, hq⟩ : ∃ q, qv neg (numD a) (numD b) = q := ⟨_, rfl⟩
      have HQ := Lib.hid hq
      have HOF : Hid (∀ (vn vd : Value) (w : World), okD a = true → okD b = true → Nt w 0 w.heap.size vn (lim (numD a)) → Nt w 0 w.heap.size vd (lim (numD b)) → Calls Tryz.prog 98 #[.bool neg, vn, vd] w (GivesF q w)) := fun vn vd w hk hk2 h1 h2 => by
        have := prOf_q neg vn vd (lim (numD a)) (lim (numD b)) w (dig_lim _) (dig_lim _) h1 h2 (Nat.le_trans (numD_len hk) (by omega)) (Nat.le_trans (numD_len hk2) (by omega))
        rw [val_lim, val_lim, HQ.out] at this
        exact this
      clear ho hW ha hb h46 h47 hab hbb HRB HCT7 hr4 hq
      generalize strN a = ta at *
      generalize strN b = tb at *
      generalize strN r = tr at *
      go_enter Tryz.func72, Tryz.ntmps72
      go_wp2_with fail
      generalize ((w.alloc (.cells #[.bool false, .slice none 0 0, .slice none 0 0] 60)).alloc (.cells #[.bool false, .slice none 0 0, .slice none 0 0] 60)) = w2 at *
      refine (HCP.out _).mono ?_
      rintro e w3 ⟨rfl, rfl⟩
      clear HCP
      go_wp2_with fail
      refine (HC.out _).mono ?_
      rintro e w4 ⟨rfl, hb⟩
      replace hB := hB.trans (hb.mono hB.size)
      replace b0 := b0.below hb b0.lt
      replace b1 := b1.below hb b1.lt
      clear hb
      clear HC
      go_wp2_with fail
      refine (HC7.out _).mono ?_
      rintro e w5 ⟨rfl, hb⟩
      replace hB := hB.trans (hb.mono hB.size)
      replace b0 := b0.below hb b0.lt
      replace b1 := b1.below hb b1.lt
      clear hb
      clear HC7
      go_wp2_with fail
      refine (HPA.out _).mono ?_
      rintro e w6 ⟨v5, rfl, h5, hb⟩
      replace h5 := h5.low (Nat.zero_le _)
      replace hB := hB.trans (hb.mono hB.size)
      replace b0 := b0.below hb b0.lt
      replace b1 := b1.below hb b1.lt
      clear hb
      clear HPA
      go_wp2_with fail
      refine (HPB.out _).mono ?_
      rintro e w7 ⟨v6, rfl, h6, hb⟩
      replace h6 := h6.low (Nat.zero_le _)
      replace h5 := h5.after hb
      replace hB := hB.trans (hb.mono hB.size)
      replace b0 := b0.below hb b0.lt
      replace b1 := b1.below hb b1.lt
      clear hb
      clear HPB
      by_cases c2 : okD a = true
      · rw [if_pos c2] at h5
        rw [c2]
        by_cases c3 : okD b = true
        · rw [if_pos c3] at h6
          rw [c3]
          have h62 := h6
          obtain ⟨A6, k6, rfl, m6⟩ := nt_len h62
          clear h62
          by_cases c4 : numD b = 0
          · have HO : Hid (o = none) := by
              show _ = _
              rw [HW.out, if_neg]
              rintro ⟨_, _, h⟩
              exact h c4
            have hz : (((lim (numD b)).length : Nat) : Int) = 0 := by rw [c4, lim_zero]; rfl
            generalize (lim (numD b)).length = N6 at *
            clear HW c2 c3 c4 HOF h5 h6 HQ
            have c0 := b1.cell 0
            have c1 := b1.cell 1
            have c2 := b1.cell 2
            have r0 := b0.cell 0
            have r1 := b0.cell 1
            have r2 := b0.cell 2
            have f0 := b0.free 0
            have f1 := b0.free 1
            have f2 := b0.free 2
            obtain ⟨e0, e1, e2, _, hBf⟩ := store3 b0 hB (Nat.le_refl _) false (.slice none 0 0) (.slice none 0 0) (Nt.nil w7 (w.heap.size + 1) w7.heap.size) (Nt.nil w7 (w.heap.size + 1) w7.heap.size)
            have HBF := Lib.hid hBf
            clear hBf b0 b1 hB
            unfold St3 at *
            go_wp2_with fail
            clear r0 r1 r2 f0 f1 f2 c0 c1 c2
            generalize ((World.setCell w7 ⟨w.heap.size, 0, none⟩ (.bool false)).setCell ⟨w.heap.size, 1, none⟩ (.slice none 0 0)).setCell ⟨w.heap.size, 2, none⟩ (.slice none 0 0) = wz at *
            refine bodyPost_ret (v := .tuple #[.agg #[.bool false, .slice none 0 0, .slice none 0 0], .int .i64 2]) ?_ rfl (by rw [HO.out]; exact ⟨rfl, HBF.out⟩)
            simp [results, Tryz.results72, go_sem, e0, e1, e2]
          · have HO : Hid (o = some (neg, numD a, numD b)) := by
              show _ = _
              rw [HW.out, if_pos ⟨c2, c3, c4⟩]
            have hz : ¬ (((lim (numD b)).length : Nat) : Int) = 0 := by
              intro h
              have : (lim (numD b)).length = 0 := by omega
              exact c4 (lim_eq_nil.1 (List.length_eq_zero_iff.1 this))
            have HOF2 : Hid (∀ (vn vd : Value) (w : World), Nt w 0 w.heap.size vn (lim (numD a)) → Nt w 0 w.heap.size vd (lim (numD b)) → Calls Tryz.prog 98 #[.bool neg, vn, vd] w (GivesF q w)) := fun vn vd w h1 h2 => HOF.out vn vd w c2 c3 h1 h2
            clear HW c2 c3 c4 HOF
            go_wp2_with fail
            refine (HOF2.out _ _ _ h5 h6).mono ?_
            rintro e w8 ⟨v8, rfl, ⟨an, ad, rfl, han, had⟩, hb⟩
            have lw := b1.lt
            replace hB := hB.trans (hb.mono hB.size)
            replace b0 := b0.below hb b0.lt
            replace han := han.low (Nat.le_of_lt lw)
            replace had := had.low (Nat.le_of_lt lw)
            have han2 := han
            have had2 := had
            obtain ⟨A8, c8, rfl, m8⟩ := nt_len han2
            obtain ⟨A9, c9, rfl, m9⟩ := nt_len had2
            obtain ⟨e0, e1, e2, hR, hBf⟩ := store3 b0 hB (Nat.le_refl _) (qS q) (.slice A8 (lim (qN q)).length c8) (.slice A9 (lim q.den).length c9) han had
            have r0 := b0.cell 0
            have r1 := b0.cell 1
            have r2 := b0.cell 2
            have f0 := b0.free 0
            have f1 := b0.free 1
            have f2 := b0.free 2
            have HR := Lib.hid hR
            have HBF := Lib.hid hBf
            clear han had han2 had2 hR hBf hb hB b0 b1
            unfold St3 at *
            go_wp2_with fail
            clear r0 r1 r2 f0 f1 f2
            generalize ((World.setCell w8 ⟨w.heap.size, 0, none⟩ (.bool (qS q))).setCell ⟨w.heap.size, 1, none⟩ (.slice A8 (lim (qN q)).length c8)).setCell ⟨w.heap.size, 2, none⟩ (.slice A9 (lim q.den).length c9) = wz at *
            refine bodyPost_ret (v := .tuple #[.agg #[.bool (qS q), .slice A8 (lim (qN q)).length c8, .slice A9 (lim q.den).length c9], .int .i64 0]) ?_ rfl (by rw [HO.out]; show GivesP (qv _ _ _) _ _ _; rw [HQ.out]; exact ⟨_, rfl, HR.out, HBF.out⟩)
            simp [results, Tryz.results72, go_sem, e0, e1, e2]
        · have HO : Hid (o = none) := by
            show _ = _
            rw [HW.out, if_neg]
            rintro ⟨_, h, _⟩
            exact c3 h
          have c3' : okD b = false := by simpa using c3
          rw [c3']
          clear HW c2 c3 c3' h5 h6 HOF
          have c0 := b1.cell 0
          have c1 := b1.cell 1
          have c2 := b1.cell 2
          have r0 := b0.cell 0
          have r1 := b0.cell 1
          have r2 := b0.cell 2
          have f0 := b0.free 0
          have f1 := b0.free 1
          have f2 := b0.free 2
          obtain ⟨e0, e1, e2, _, hBf⟩ := store3 b0 hB (Nat.le_refl _) false (.slice none 0 0) (.slice none 0 0) (Nt.nil w7 (w.heap.size + 1) w7.heap.size) (Nt.nil w7 (w.heap.size + 1) w7.heap.size)
          have HBF := Lib.hid hBf
          clear hBf b0 b1 hB
          unfold St3 at *
          go_wp2_with fail
          clear r0 r1 r2 f0 f1 f2 c0 c1 c2
          generalize ((World.setCell w7 ⟨w.heap.size, 0, none⟩ (.bool false)).setCell ⟨w.heap.size, 1, none⟩ (.slice none 0 0)).setCell ⟨w.heap.size, 2, none⟩ (.slice none 0 0) = wz at *
          refine bodyPost_ret (v := .tuple #[.agg #[.bool false, .slice none 0 0, .slice none 0 0], .int .i64 2]) ?_ rfl (by rw [HO.out]; exact ⟨rfl, HBF.out⟩)
          simp [results, Tryz.results72, go_sem, e0, e1, e2]
      · have HO : Hid (o = none) := by
          show _ = _
          rw [HW.out, if_neg]
          rintro ⟨h, _⟩
          exact c2 h
        have c2' : okD a = false := by simpa using c2
        rw [c2']
        clear HW c2 c2' h5 h6 HOF
        have c0 := b1.cell 0
        have c1 := b1.cell 1
        have c2 := b1.cell 2
        have r0 := b0.cell 0
        have r1 := b0.cell 1
        have r2 := b0.cell 2
        have f0 := b0.free 0
        have f1 := b0.free 1
        have f2 := b0.free 2
        obtain ⟨e0, e1, e2, _, hBf⟩ := store3 b0 hB (Nat.le_refl _) false (.slice none 0 0) (.slice none 0 0) (Nt.nil w7 (w.heap.size + 1) w7.heap.size) (Nt.nil w7 (w.heap.size + 1) w7.heap.size)
        have HBF := Lib.hid hBf
        clear hBf b0 b1 hB
        unfold St3 at *
        go_wp2_with fail
        clear r0 r1 r2 f0 f1 f2 c0 c1 c2
        generalize ((World.setCell w7 ⟨w.heap.size, 0, none⟩ (.bool false)).setCell ⟨w.heap.size, 1, none⟩ (.slice none 0 0)).setCell ⟨w.heap.size, 2, none⟩ (.slice none 0 0) = wz at *
        refine bodyPost_ret (v := .tuple #[.agg #[.bool false, .slice none 0 0, .slice none 0 0], .int .i64 2]) ?_ rfl (by rw [HO.out]; exact ⟨rfl, HBF.out⟩)
        simp [results, Tryz.results72, go_sem, e0, e1, e2]
    · have hc47 : r.contains 47 = false := by simpa using h47
      obtain ⟨y1, y2⟩ := tw_none (c := 47) r (by simpa using hc47)
      have hW : o = if okD r = true then some (neg, numD r, 1) else none := by
        rw [← ho]
        unfold wayA
        rw [if_neg h46, if_neg h47]
      have HC7 : Hid (∀ w, Calls Tryz.prog 69 #[.string (strN r), .string ⟨#[47]⟩] w fun e w' => e = .returned (.tuple #[.string (strN r), .string ⟨#[]⟩, .bool false]) ∧ Below w.heap.size w w') := fun w => by
        have := HCT7.out w
        rw [y1, y2, hc47] at this
        exact this
      have HPA : Hid (∀ w, Calls Tryz.prog 136 #[.string (strN r)] w (GivesB (if okD r = true then lim (numD r) else []) (okD r) w)) := fun w => parse_l r HRB.out w
      have HPB : Hid (∀ w, Calls Tryz.prog 136 #[.string ⟨#[49]⟩] w (GivesB (lim 1) true w)) := fun w => by
        have := parse_l [49] (fun x hx => by rw [List.mem_singleton] at hx; omega) w
        have e1 : okD [49] = true := by decide
        have e2 : numD [49] = 1 := by decide
        rw [e1, if_pos rfl, e2] at this
        exact this
      have HW := Lib.hid hW
      obtain ⟨q, hq⟩ : ∃ q, qv neg (numD r) 1 = q := ⟨_, rfl⟩
      have HQ := Lib.hid hq
      have HOF : Hid (∀ (vn vd : Value) (w : World), okD r = true → True → Nt w 0 w.heap.size vn (lim (numD r)) → Nt w 0 w.heap.size vd (lim 1) → Calls Tryz.prog 98 #[.bool neg, vn, vd] w (GivesF q w)) := fun vn vd w hk hk2 h1 h2 => by
        have := prOf_q neg vn vd (lim (numD r)) (lim 1) w (dig_lim _) (dig_lim _) h1 h2 (Nat.le_trans (numD_len hk) (by omega)) (Nat.le_trans (lim_length_le (k := 1) (by omega)) (by omega))
        rw [val_lim, val_lim, HQ.out] at this
        exact this
      clear ho hW h46 h47 hc47 y1 y2 HRB HCT7 hr4 hq
      generalize strN r = tr at *
      go_enter Tryz.func72, Tryz.ntmps72
      go_wp2_with fail
      generalize ((w.alloc (.cells #[.bool false, .slice none 0 0, .slice none 0 0] 60)).alloc (.cells #[.bool false, .slice none 0 0, .slice none 0 0] 60)) = w2 at *
      refine (HCP.out _).mono ?_
      rintro e w3 ⟨rfl, rfl⟩
      clear HCP
      go_wp2_with fail
      refine (HC.out _).mono ?_
      rintro e w4 ⟨rfl, hb⟩
      replace hB := hB.trans (hb.mono hB.size)
      replace b0 := b0.below hb b0.lt
      replace b1 := b1.below hb b1.lt
      clear hb
      clear HC
      go_wp2_with fail
      refine (HC7.out _).mono ?_
      rintro e w5 ⟨rfl, hb⟩
      replace hB := hB.trans (hb.mono hB.size)
      replace b0 := b0.below hb b0.lt
      replace b1 := b1.below hb b1.lt
      clear hb
      clear HC7
      go_wp2_with fail
      refine (HPA.out _).mono ?_
      rintro e w6 ⟨v5, rfl, h5, hb⟩
      replace h5 := h5.low (Nat.zero_le _)
      replace hB := hB.trans (hb.mono hB.size)
      replace b0 := b0.below hb b0.lt
      replace b1 := b1.below hb b1.lt
      clear hb
      clear HPA
      go_wp2_with fail
      refine (HPB.out _).mono ?_
      rintro e w7 ⟨v6, rfl, h6, hb⟩
      replace h6 := h6.low (Nat.zero_le _)
      replace h5 := h5.after hb
      replace hB := hB.trans (hb.mono hB.size)
      replace b0 := b0.below hb b0.lt
      replace b1 := b1.below hb b1.lt
      clear hb
      clear HPB
      have h62 := h6
      obtain ⟨A6, k6, rfl, m6⟩ := nt_len h62
      clear h62
      have hz : ¬ (((lim 1).length : Nat) : Int) = 0 := by
        intro h
        have : (lim 1).length = 0 := by omega
        exact absurd (lim_eq_nil.1 (List.length_eq_zero_iff.1 this)) (by omega)
      by_cases c2 : okD r = true
      · rw [if_pos c2] at h5
        rw [c2]
        have HO : Hid (o = some (neg, numD r, 1)) := by
          show _ = _
          rw [HW.out, if_pos c2]
        have HOF2 : Hid (∀ (vn vd : Value) (w : World), Nt w 0 w.heap.size vn (lim (numD r)) → Nt w 0 w.heap.size vd (lim 1) → Calls Tryz.prog 98 #[.bool neg, vn, vd] w (GivesF q w)) := fun vn vd w h1 h2 => HOF.out vn vd w c2 trivial h1 h2
        clear HW c2 HOF
        go_wp2_with fail
        refine (HOF2.out _ _ _ h5 h6).mono ?_
        rintro e w8 ⟨v8, rfl, ⟨an, ad, rfl, han, had⟩, hb⟩
        have lw := b1.lt
        replace hB := hB.trans (hb.mono hB.size)
        replace b0 := b0.below hb b0.lt
        replace han := han.low (Nat.le_of_lt lw)
        replace had := had.low (Nat.le_of_lt lw)
        have han2 := han
        have had2 := had
        obtain ⟨A8, c8, rfl, m8⟩ := nt_len han2
        obtain ⟨A9, c9, rfl, m9⟩ := nt_len had2
        obtain ⟨e0, e1, e2, hR, hBf⟩ := store3 b0 hB (Nat.le_refl _) (qS q) (.slice A8 (lim (qN q)).length c8) (.slice A9 (lim q.den).length c9) han had
        have r0 := b0.cell 0
        have r1 := b0.cell 1
        have r2 := b0.cell 2
        have f0 := b0.free 0
        have f1 := b0.free 1
        have f2 := b0.free 2
        have HR := Lib.hid hR
        have HBF := Lib.hid hBf
        clear han had han2 had2 hR hBf hb hB b0 b1
        unfold St3 at *
        go_wp2_with fail
        clear r0 r1 r2 f0 f1 f2
        generalize ((World.setCell w8 ⟨w.heap.size, 0, none⟩ (.bool (qS q))).setCell ⟨w.heap.size, 1, none⟩ (.slice A8 (lim (qN q)).length c8)).setCell ⟨w.heap.size, 2, none⟩ (.slice A9 (lim q.den).length c9) = wz at *
        refine bodyPost_ret (v := .tuple #[.agg #[.bool (qS q), .slice A8 (lim (qN q)).length c8, .slice A9 (lim q.den).length c9], .int .i64 0]) ?_ rfl (by rw [HO.out]; show GivesP (qv _ _ _) _ _ _; rw [HQ.out]; exact ⟨_, rfl, HR.out, HBF.out⟩)
        simp [results, Tryz.results72, go_sem, e0, e1, e2]
      · have HO : Hid (o = none) := by
          show _ = _
          rw [HW.out, if_neg c2]
        have c2' : okD r = false := by simpa using c2
        rw [c2']
        clear HW c2 c2' h5 h6 HOF
        have c0 := b1.cell 0
        have c1 := b1.cell 1
        have c2 := b1.cell 2
        have r0 := b0.cell 0
        have r1 := b0.cell 1
        have r2 := b0.cell 2
        have f0 := b0.free 0
        have f1 := b0.free 1
        have f2 := b0.free 2
        obtain ⟨e0, e1, e2, _, hBf⟩ := store3 b0 hB (Nat.le_refl _) false (.slice none 0 0) (.slice none 0 0) (Nt.nil w7 (w.heap.size + 1) w7.heap.size) (Nt.nil w7 (w.heap.size + 1) w7.heap.size)
        have HBF := Lib.hid hBf
        clear hBf b0 b1 hB
        unfold St3 at *
        go_wp2_with fail
        clear r0 r1 r2 f0 f1 f2 c0 c1 c2
        generalize ((World.setCell w7 ⟨w.heap.size, 0, none⟩ (.bool false)).setCell ⟨w.heap.size, 1, none⟩ (.slice none 0 0)).setCell ⟨w.heap.size, 2, none⟩ (.slice none 0 0) = wz at *
        refine bodyPost_ret (v := .tuple #[.agg #[.bool false, .slice none 0 0, .slice none 0 0], .int .i64 2]) ?_ rfl (by rw [HO.out]; exact ⟨rfl, HBF.out⟩)
        simp [results, Tryz.results72, go_sem, e0, e1, e2]
end Go.Proofs.YtchokmhfgikglaaGreatDoor
