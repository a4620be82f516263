/- Long division: the guess of a digit, and what is taken away, in plain Lean. No condition on a program. -/
import Derived.Test.YtkpgjidmngecpaaNumSub
import Derived.Test.YtkpgjidmngecpaaNumLong
namespace Go.Proofs.Ytkpgjidmngecpaa

/-- The guess of a digit, at most one too many. -/
def guessN (B u low b1 b2 : Nat) : Nat := min ((u * B + low) / (b1 * B + b2)) (B - 1)

theorem guessN_lt {B u low b1 b2 : Nat} (hB : 0 < B) : guessN B u low b1 b2 < B := by
  unfold guessN
  omega

/-- The guess so far: it is not below the digit. -/
def GuessAt (B u low b1 b2 q r : Nat) : Prop := q * b1 + r = u ∧ guessN B u low b1 b2 ≤ q ∧ r < B

theorem guess_times {B q b1 b2 r low u : Nat} (h : q * b1 + r = u) : q * (b1 * B + b2) + (r * B + low) = (u * B + low) + q * b2 := by
  subst h
  grind

theorem guess_fit {B q b1 b2 r low u : Nat} (hd : 0 < b1 * B + b2) (h : q * b1 + r = u) (hle : q * b2 ≤ r * B + low) : q ≤ (u * B + low) / (b1 * B + b2) := by
  rw [Nat.le_div_iff_mul_le hd]
  have e := guess_times (B := B) (b2 := b2) (low := low) h
  omega

theorem guess_over {B q b1 b2 r low u : Nat} (hd : 0 < b1 * B + b2) (h : q * b1 + r = u) (hlt : r * B + low < q * b2) : (u * B + low) / (b1 * B + b2) < q := by
  rw [Nat.div_lt_iff_lt_mul hd]
  have e := guess_times (B := B) (b2 := b2) (low := low) h
  omega

theorem guessAt_start {B u low b1 b2 : Nat} (hb : 0 < b1) (hb1 : b1 < B) (hl : low < B) : GuessAt B u low b1 b2 (u / b1) (u % b1) := by
  refine ⟨Nat.div_add_mod' u b1, ?_, Nat.lt_trans (Nat.mod_lt _ hb) hb1⟩
  refine Nat.le_trans (Nat.min_le_left _ _) ?_
  have hd : 0 < b1 * B + b2 := by
    have : 0 < b1 * B := Nat.mul_pos hb (by omega)
    omega
  have hr := Nat.mod_lt u hb
  have e := Nat.div_add_mod' u b1
  generalize u / b1 = q at *
  generalize u % b1 = r at *
  have h1 : (u * B + low) / (b1 * B + b2) < q + 1 := by
    rw [Nat.div_lt_iff_lt_mul hd]
    have e2 : (q + 1) * (b1 * B + b2) = q * b1 * B + b1 * B + (q + 1) * b2 := by grind
    have e3 : u * B = q * b1 * B + r * B := by rw [← e]; grind
    have e4 : (r + 1) * B ≤ b1 * B := Nat.mul_le_mul_right _ hr
    have e5 : (r + 1) * B = r * B + B := by grind
    rw [e2, e3]
    omega
  omega

/-- The guess that is not too many is the one. -/
theorem guessAt_end {B u low b1 b2 q r : Nat} (hb : 0 < b1) (hB : 0 < B) (h : GuessAt B u low b1 b2 q r) (hq : q < B) (hle : q * b2 ≤ r * B + low) : q = guessN B u low b1 b2 := by
  have hd : 0 < b1 * B + b2 := by
    have : 0 < b1 * B := Nat.mul_pos hb hB
    omega
  have h1 := guess_fit (B := B) hd h.1 hle
  have h2 := h.2.1
  unfold guessN at h2 ⊢
  omega

theorem guessAt_less {B u low b1 b2 q r : Nat} (hb : 0 < b1) (hB : 0 < B) (h : GuessAt B u low b1 b2 q r) (hq : B ≤ q ∨ r * B + low < q * b2) :
    0 < q ∧ (q - 1) * b1 + (r + b1) = u ∧ guessN B u low b1 b2 ≤ q - 1 := by
  have hd : 0 < b1 * B + b2 := by
    have : 0 < b1 * B := Nat.mul_pos hb hB
    omega
  obtain ⟨h1, h2, h3⟩ := h
  have hq0 : 0 < q := by
    rcases hq with h | h
    · omega
    · refine Nat.pos_of_ne_zero fun e => ?_
      rw [e, Nat.zero_mul] at h
      omega
  refine ⟨hq0, ?_, ?_⟩
  · obtain ⟨p, rfl⟩ : ∃ p, q = p + 1 := ⟨q - 1, by omega⟩
    rw [Nat.add_sub_cancel, ← h1]
    grind
  · unfold guessN at h2 ⊢
    rcases hq with h | h
    · omega
    · have := guess_over (B := B) hd h1 h
      omega

/-- Where the rest is a whole limb, the guess is the one. -/
theorem guessAt_break {B u low b1 b2 q r : Nat} (hb : 0 < b1) (hb2 : b2 < B) (hu : u < (b1 + 1) * B) (h1 : q * b1 + r = u) (h2 : guessN B u low b1 b2 ≤ q) (hr : B ≤ r) : q = guessN B u low b1 b2 := by
  have hB : 0 < B := by omega
  have hd : 0 < b1 * B + b2 := by
    have : 0 < b1 * B := Nat.mul_pos hb hB
    omega
  have hq : q < B := by
    refine Nat.lt_of_not_le fun hle => ?_
    have e1 : B * b1 ≤ q * b1 := Nat.mul_le_mul_right _ hle
    have e2 : (b1 + 1) * B = B * b1 + B := by grind
    omega
  have e3 : q * b2 ≤ r * B + low := by
    have a1 : q * b2 ≤ B * B := Nat.mul_le_mul (by omega) (by omega)
    have a2 : B * B ≤ r * B := Nat.mul_le_mul_right _ hr
    omega
  have h3 := guess_fit (B := B) hd h1 e3
  unfold guessN at h2 ⊢
  omega

/-- The guess is the digit, or one more. -/
theorem guess_near {B P U D u low b1 b2 Q lo dl : Nat} (hU : U = (u * B + low) * P + lo) (hlo : lo < P) (hD : D = (b1 * B + b2) * P + dl) (hdl : dl < P)
    (hb : B ≤ b1 * B) (hQ1 : Q * D ≤ U) (hQ2 : U < (Q + 1) * D) (hQB : Q < B) : Q ≤ guessN B u low b1 b2 ∧ guessN B u low b1 b2 ≤ Q + 1 := by
  have hd : 0 < b1 * B + b2 := by omega
  generalize hX : u * B + low = X at *
  generalize hY : b1 * B + b2 = Y at *
  have h1 : Q ≤ X / Y := by
    rw [Nat.le_div_iff_mul_le hd]
    have e1 : Q * Y * P ≤ Q * D := by
      rw [hD, Nat.mul_add, Nat.mul_assoc]
      exact Nat.le_add_right _ _
    have e2 : Q * Y * P < (X + 1) * P := by
      have : (X + 1) * P = X * P + P := by grind
      omega
    have := Nat.lt_of_mul_lt_mul_right e2
    omega
  have h2 : X / Y < Q + 2 := by
    rw [Nat.div_lt_iff_lt_mul hd]
    have e1 : (Q + 1) * D ≤ (Q + 1) * (Y + 1) * P := by
      rw [Nat.mul_assoc]
      refine Nat.mul_le_mul_left _ ?_
      have : (Y + 1) * P = Y * P + P := by grind
      omega
    have e2 : X * P < (Q + 1) * (Y + 1) * P := by omega
    have e3 := Nat.lt_of_mul_lt_mul_right e2
    have e4 : (Q + 1) * (Y + 1) = Q * Y + Y + Q + 1 := by grind
    have e5 : (Q + 2) * Y = Q * Y + 2 * Y := by grind
    omega
  unfold guessN
  rw [hX, hY]
  omega
end Go.Proofs.Ytkpgjidmngecpaa
