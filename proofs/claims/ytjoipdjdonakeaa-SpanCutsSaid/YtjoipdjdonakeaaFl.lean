/- Facts on float64 words that stand for whole numbers and halves below 2^53 in magnitude: how they read, compare, add and subtract. No condition. -/
import Derived.Laws.ComplexArith
namespace Go.Proofs.Ytjoipdjdonakeaa
open Ieee

/-- the word of 'n * 2 ^ p' -/
def enc (n p : Int) : Nat := double.write (.number (n < 0) n.natAbs p)

theorem cut_exact (s : Bool) (n d : Nat) (h : d ≤ n.log2 + 2) (hd : n % 2 ^ d = 0) : Toward.even.cut s n d = n / 2 ^ d := by
  unfold Toward.cut
  have e : min d (n.log2 + 2) = d := by omega
  have hp : 0 < 2 ^ d := Nat.two_pow_pos d
  simp only [e, Nat.one_shiftLeft, hd, Nat.mul_zero]
  have h1 : decide (2 ^ d < 0) = false := by simp
  have h2 : (2 ^ d == 0) = false := by simp
  simp [h2]

theorem log2_mul_pow (m k : Nat) (hm : m ≠ 0) : (m * 2 ^ k).log2 = m.log2 + k := by
  have h0 : m * 2 ^ k ≠ 0 := Nat.mul_ne_zero hm (by have := Nat.two_pow_pos k; omega)
  rw [Nat.log2_eq_iff h0]
  have h1 := Nat.log2_self_le hm
  have h2 := @Nat.lt_log2_self m
  constructor
  · rw [Nat.pow_add]; exact Nat.mul_le_mul_right _ h1
  · rw [show m.log2 + k + 1 = (m.log2 + 1) + k from by omega, Nat.pow_add]
    exact Nat.mul_lt_mul_of_pos_right h2 (Nat.two_pow_pos k)

theorem log2_lt53 (m : Nat) (h : m < 9007199254740992) (hm : m ≠ 0) : m.log2 ≤ 52 := by
  have := (Nat.log2_lt hm (k := 53)).2 (by omega)
  omega

theorem leastPlace_double : double.leastPlace = -1074 := by decide
theorem binade_double : double.binade = 4503599627370496 := by decide
theorem infRung_double : double.infRung = 9218868437227405312 := by decide
theorem signWeight_double : double.signWeight = 9223372036854775808 := by decide

/-- The nearest word, of a number that the format has. -/
theorem nearest_exact (s : Bool) (m k : Nat) (q : Int) (hm : m ≠ 0) (hq : -1000 ≤ q) (hb : m < 9007199254740992) :
    double.nearest s (m * 2 ^ k) (q - k) = double.word s (((q + m.log2 - 52) + 1074).toNat * 4503599627370496 + m * 2 ^ (52 - m.log2)) ∨ 0 < q := by
  by_cases hq0 : 0 < q
  · exact .inr hq0
  left
  have hL := log2_lt53 m hb hm
  have h0 : m * 2 ^ k ≠ 0 := Nat.mul_ne_zero hm (by have := Nat.two_pow_pos k; omega)
  have hlast : max (q - k + ((m * 2 ^ k).log2 : Int) - (double.fractionBits : Int)) double.leastPlace = q + m.log2 - 52 := by
    rw [log2_mul_pow m k hm, leastPlace_double]
    show max (q - k + ((m.log2 + k : Nat) : Int) - ((52 : Nat) : Int)) (-1074) = _
    omega
  have hl1 := Nat.log2_self_le hm
  have hl2 := @Nat.lt_log2_self m
  have hkept : Toward.even.cut s ((m * 2 ^ k) <<< ((q - k) - (q + m.log2 - 52)).toNat) ((q + m.log2 - 52) - (q - k)).toNat = m * 2 ^ (52 - m.log2) := by
    rw [Nat.shiftLeft_eq]
    by_cases hc : k ≤ 52 - m.log2
    · have e1 : ((q - k) - (q + m.log2 - 52)).toNat = 52 - m.log2 - k := by omega
      have e2 : ((q + m.log2 - 52) - (q - k)).toNat = 0 := by omega
      rw [e1, e2, cut_exact _ _ _ (by omega) (by simp [Nat.mod_one])]
      rw [Nat.pow_zero, Nat.div_one, Nat.mul_assoc, ← Nat.pow_add]
      congr 2; omega
    · have e1 : ((q - k) - (q + m.log2 - 52)).toNat = 0 := by omega
      have e2 : ((q + m.log2 - 52) - (q - k)).toNat = k - (52 - m.log2) := by omega
      rw [e1, e2, Nat.pow_zero, Nat.mul_one]
      have e3 : m * 2 ^ k = (m * 2 ^ (52 - m.log2)) * 2 ^ (k - (52 - m.log2)) := by
        rw [Nat.mul_assoc, ← Nat.pow_add]; congr 2; omega
      rw [cut_exact _ _ _ (by rw [log2_mul_pow m k hm]; omega) (by rw [e3]; exact Nat.mul_mod_left _ _), e3]
      exact Nat.mul_div_cancel _ (Nat.two_pow_pos _)
  unfold Format.nearest
  rw [if_neg h0]
  simp only [hlast, hkept]
  have hlt : m * 2 ^ (52 - m.log2) < 9007199254740992 := by
    calc m * 2 ^ (52 - m.log2) < 2 ^ (m.log2 + 1) * 2 ^ (52 - m.log2) := Nat.mul_lt_mul_of_pos_right hl2 (Nat.two_pow_pos _)
      _ = 2 ^ 53 := by rw [← Nat.pow_add]; congr 1; omega
      _ = 9007199254740992 := by decide
  rw [leastPlace_double, binade_double, infRung_double]
  congr 1
  rw [show (q + (m.log2 : Int) - 52 - -1074) = (q + (m.log2 : Int) - 52 + 1074) from by omega]
  apply Nat.min_eq_left
  have : (q + (m.log2 : Int) - 52 + 1074).toNat ≤ 1074 := by omega
  omega


theorem enc_zero (p : Int) : enc 0 p = 0 := by simp [enc, Format.write, Format.nearest, Format.word]

/-- How such a word reads. -/
theorem read_enc (n p : Int) (hp : p = 0 ∨ p = -1) (h1 : -9007199254740992 < n) (h2 : n < 9007199254740992) :
    ∃ m i, double.read (enc n p) = .number (decide (n < 0)) m i ∧ i ≤ p ∧ -1074 ≤ i ∧ (m : Int) = n.natAbs * 2 ^ (p - i).toNat := by
  by_cases hn : n = 0
  · subst hn
    refine ⟨0, -1074, ?_, by omega, by omega, by simp⟩
    rw [enc_zero]
    decide
  have hm : n.natAbs ≠ 0 := by omega
  have hb : n.natAbs < 9007199254740992 := by omega
  have hL := log2_lt53 _ hb hm
  have hl1 := Nat.log2_self_le hm
  have hl2 := @Nat.lt_log2_self n.natAbs
  generalize hmm : n.natAbs = m at *
  have hw : enc n p = double.word (decide (n < 0)) (((p + m.log2 - 52) + 1074).toNat * 4503599627370496 + m * 2 ^ (52 - m.log2)) := by
    have := nearest_exact (decide (n < 0)) m 0 p hm (by omega) hb
    rcases this with this | this
    · rw [← this]
      simp [enc, Format.write, hmm]
    · omega
  have hlt : m * 2 ^ (52 - m.log2) < 9007199254740992 := by
    calc m * 2 ^ (52 - m.log2) < 2 ^ (m.log2 + 1) * 2 ^ (52 - m.log2) := Nat.mul_lt_mul_of_pos_right hl2 (Nat.two_pow_pos _)
      _ = 2 ^ 53 := by rw [← Nat.pow_add]; congr 1; omega
      _ = 9007199254740992 := by decide
  have hge : 4503599627370496 ≤ m * 2 ^ (52 - m.log2) := by
    calc 4503599627370496 = 2 ^ 52 := by decide
      _ = 2 ^ m.log2 * 2 ^ (52 - m.log2) := by rw [← Nat.pow_add]; congr 1; omega
      _ ≤ m * 2 ^ (52 - m.log2) := Nat.mul_le_mul_right _ hl1
  refine ⟨m * 2 ^ (52 - m.log2), p + m.log2 - 52, ?_, by omega, by omega, ?_⟩
  · rw [hw]
    generalize hK : m * 2 ^ (52 - m.log2) = K at *
    have hq : ∃ q : Nat, (p + (m.log2 : Int) - 52 + 1074).toNat = q ∧ (q : Int) = p + m.log2 - 52 + 1074 ∧ q ≤ 1074 := ⟨_, rfl, by omega, by omega⟩
    obtain ⟨q, hq1, hq2, hq3⟩ := hq
    rw [hq1]
    unfold Format.read
    have hneg : (double.word (decide (n < 0)) (q * 4503599627370496 + K) / double.signWeight % 2 == 1) = decide (n < 0) := by
      rw [signWeight_double]
      unfold Format.word
      rw [signWeight_double]
      by_cases hs : n < 0
      · simp only [hs, decide_true, if_true, beq_iff_eq]; omega
      · simp only [hs, decide_false, Bool.false_eq_true, if_false, beq_eq_false_iff_ne]; omega
    have hr : double.word (decide (n < 0)) (q * 4503599627370496 + K) % double.signWeight = q * 4503599627370496 + K := by
      rw [signWeight_double]
      unfold Format.word
      rw [signWeight_double]
      by_cases hs : n < 0
      · simp only [hs, decide_true, if_true]; omega
      · simp only [hs, decide_false, Bool.false_eq_true, if_false]; omega
    simp only [hneg, hr, binade_double, infRung_double, leastPlace_double]
    rw [if_neg (by omega), if_pos (by omega)]
    have e1 : 4503599627370496 + (q * 4503599627370496 + K) % 4503599627370496 = K := by omega
    have e2 : (-1074 : Int) + (((q * 4503599627370496 + K) / 4503599627370496 - 1 : Nat) : Int) = p + m.log2 - 52 := by omega
    rw [e1, e2]
  · rw [show (p - (p + (m.log2 : Int) - 52)).toNat = 52 - m.log2 from by omega]
    simp

theorem signed_read (n p i : Int) (m : Nat) (b : Int) (hm : (m : Int) = n.natAbs * 2 ^ (p - i).toNat) (hi : i ≤ p) (hb : b ≤ i) :
    signed (decide (n < 0)) m (i - b).toNat = n * 2 ^ (p - b).toNat := by
  have e : m = n.natAbs * 2 ^ (p - i).toNat := by exact_mod_cast hm
  have e2 : ((m <<< (i - b).toNat : Nat) : Int) = (n.natAbs : Int) * 2 ^ (p - b).toNat := by
    rw [Nat.shiftLeft_eq, e, Nat.mul_assoc, ← Nat.pow_add, show (p - i).toNat + (i - b).toNat = (p - b).toNat from by omega]
    push_cast; rfl
  unfold signed
  rw [e2]
  by_cases h : n < 0
  · simp only [h, decide_true, if_true]
    rw [show ((n.natAbs : Nat) : Int) = -n from by omega, Int.neg_mul, Int.neg_neg]
  · simp only [h, decide_false, Bool.false_eq_true, if_false]
    rw [show ((n.natAbs : Nat) : Int) = n from by omega]

theorem compare_mul (a b : Int) (k : Nat) : compare (a * 2 ^ k) (b * 2 ^ k) = compare a b := by
  have hp : (0 : Int) < 2 ^ k := by exact_mod_cast Nat.two_pow_pos k
  have h1 : a * 2 ^ k < b * 2 ^ k ↔ a < b := Int.mul_lt_mul_right hp
  have h2 : a * 2 ^ k = b * 2 ^ k ↔ a = b := Int.mul_eq_mul_right_iff (by omega)
  simp only [compare, compareOfLessAndEq, h1, h2]

/-- the number in halves -/
def twice (n p : Int) : Int := if p = 0 then 2 * n else n

theorem order_enc (n p n' p' : Int) (hp : p = 0 ∨ p = -1) (hp' : p' = 0 ∨ p' = -1) (h1 : -9007199254740992 < n) (h2 : n < 9007199254740992) (h1' : -9007199254740992 < n') (h2' : n' < 9007199254740992) :
    double.order (enc n p) (enc n' p') = some (compare (twice n p) (twice n' p')) := by
  obtain ⟨m, i, hr, hi, hl, hm⟩ := read_enc n p hp h1 h2
  obtain ⟨m', i', hr', hi', hl', hm'⟩ := read_enc n' p' hp' h1' h2'
  unfold Format.order
  rw [hr, hr']
  simp only [Datum.order]
  rw [signed_read n p i m _ hm hi (Int.min_le_left _ _), signed_read n' p' i' m' _ hm' hi' (Int.min_le_right _ _)]
  by_cases hb : min i i' ≤ -1
  · rw [← compare_mul (twice n p) (twice n' p') ((-1) - min i i').toNat]
    have key : ∀ x y : Int, (y = 0 ∨ y = -1) → x * 2 ^ (y - min i i').toNat = twice x y * 2 ^ ((-1) - min i i').toNat := by
      intro x y hy
      unfold twice
      rcases hy with rfl | rfl
      · rw [if_pos rfl, show (0 - min i i').toNat = ((-1) - min i i').toNat + 1 from by omega, Int.pow_succ]
        rw [Int.mul_comm 2 x, Int.mul_assoc, Int.mul_comm 2]
      · rw [if_neg (by omega)]
    rw [key n p hp, key n' p' hp']
  · have hpz : p = 0 := by omega
    have hpz' : p' = 0 := by omega
    have hmin : min i i' = 0 := by omega
    subst hpz; subst hpz'
    rw [hmin]
    simp only [twice, if_true, Int.sub_self, Int.toNat_zero, Int.pow_zero, Int.mul_one]
    rw [← compare_mul n n' 1, Int.pow_one, Int.mul_comm n 2, Int.mul_comm n' 2]

theorem enc_shift (r q b T : Int) (hq : q = 0 ∨ q = -1) (hb : b ≤ q) (h1 : -9007199254740992 < r) (h2 : r < 9007199254740992) (hr : r ≠ 0) (hT : T = r * 2 ^ (q - b).toNat) :
    double.write (.number (decide (T < 0)) T.natAbs b) = enc r q := by
  have hp : (0 : Int) < 2 ^ (q - b).toNat := by exact_mod_cast Nat.two_pow_pos (q - b).toNat
  have hs : decide (T < 0) = decide (r < 0) := by
    rw [hT]
    congr 1
    rw [eq_iff_iff]
    constructor
    · intro h
      by_cases hc : 0 ≤ r
      · have := Int.mul_nonneg hc (Int.le_of_lt hp); omega
      · omega
    · intro h
      exact Int.mul_neg_of_neg_of_pos h hp
  have ha : T.natAbs = r.natAbs * 2 ^ (q - b).toNat := by
    rw [hT, Int.natAbs_mul, Int.natAbs_pow]; rfl
  have e1 := nearest_exact (decide (r < 0)) r.natAbs (q - b).toNat q (by omega) (by omega) (by omega)
  have e2 := nearest_exact (decide (r < 0)) r.natAbs 0 q (by omega) (by omega) (by omega)
  rw [hs, ha]
  unfold enc Format.write
  simp only
  rcases e1 with e1 | e1 <;> rcases e2 with e2 | e2 <;> try omega
  rw [show q - (((q - b).toNat : Nat) : Int) = b from by omega] at e1
  rw [Nat.pow_zero, Nat.mul_one, Int.natCast_zero, Int.sub_zero] at e2
  rw [e1, e2]

theorem scale_twice (n p b : Int) (hp : p = 0 ∨ p = -1) (hb : b ≤ p) : 2 * (n * 2 ^ (p - b).toNat) = twice n p * 2 ^ (0 - b).toNat := by
  unfold twice
  rcases hp with rfl | rfl
  · rw [if_pos rfl, Int.mul_assoc]
  · rw [if_neg (by omega), show (0 - b).toNat = ((-1) - b).toNat + 1 from by omega, Int.pow_succ, Int.mul_comm 2, Int.mul_assoc]

theorem sum_number (n n' p p' i i' : Int) (m m' : Nat) (s t : Bool) (hp : p = 0 ∨ p = -1) (hp' : p' = 0 ∨ p' = -1) (r q : Int) (hq : q = 0 ∨ q = -1) (hqm : min p p' ≤ q)
    (hr : twice r q = twice n p + twice n' p') (h1 : -9007199254740992 < r) (h2 : r < 9007199254740992)
    (hi : i ≤ p) (hi' : i' ≤ p')
    (hm : ∀ b, b ≤ i → signed s m (i - b).toNat = n * 2 ^ (p - b).toNat) (hm' : ∀ b, b ≤ i' → signed t m' (i' - b).toNat = n' * 2 ^ (p' - b).toNat)
    (hz : r = 0 → (s && t) = false) :
    ((Datum.number s m i).sum (.number t m' i')).map double.write = some (enc r q) := by
  have hT : n * 2 ^ (p - min i i').toNat + n' * 2 ^ (p' - min i i').toNat = r * 2 ^ (q - min i i').toNat := by
    have a := scale_twice n p (min i i') hp (by omega)
    have b := scale_twice n' p' (min i i') hp' (by omega)
    have c := scale_twice r q (min i i') hq (by omega)
    rw [hr, Int.add_mul, ← a, ← b] at c
    omega
  simp only [Datum.sum, Option.map_some, Option.some.injEq]
  rw [hm _ (Int.min_le_left _ _), hm' _ (Int.min_le_right _ _), hT]
  by_cases h0 : r = 0
  · subst h0
    simp only [Int.zero_mul, if_true, hz rfl, Int.natAbs_zero]
    rw [enc_zero]
    simp [Format.write, Format.nearest, Format.word]
  · have hp : (0 : Int) < 2 ^ (q - min i i').toNat := by exact_mod_cast Nat.two_pow_pos (q - min i i').toNat
    have hne : r * 2 ^ (q - min i i').toNat ≠ 0 := Int.mul_ne_zero h0 (by omega)
    rw [if_neg hne]
    exact enc_shift r q (min i i') _ hq (by omega) h1 h2 h0 rfl

theorem add_enc (n n' p p' r q : Int) (hp : p = 0 ∨ p = -1) (hp' : p' = 0 ∨ p' = -1) (hq : q = 0 ∨ q = -1) (hqm : min p p' ≤ q)
    (hr : twice r q = twice n p + twice n' p') (h1 : -9007199254740992 < r) (h2 : r < 9007199254740992)
    (a1 : -9007199254740992 < n) (a2 : n < 9007199254740992) (b1 : -9007199254740992 < n') (b2 : n' < 9007199254740992) :
    double.add (enc n p) (enc n' p') = some (enc r q) := by
  obtain ⟨m, i, hre, hi, hl, hm⟩ := read_enc n p hp a1 a2
  obtain ⟨m', i', hre', hi', hl', hm'⟩ := read_enc n' p' hp' b1 b2
  unfold Format.add
  rw [hre, hre']
  refine sum_number n n' p p' i i' m m' _ _ hp hp' r q hq hqm hr h1 h2 hi hi' (fun b hb => signed_read n p i m b hm hi hb) (fun b hb => signed_read n' p' i' m' b hm' hi' hb) ?_
  intro h0
  subst h0
  have : twice 0 q = 0 := by unfold twice; split <;> rfl
  rw [this] at hr
  unfold twice at hr
  by_cases hn : n < 0 <;> by_cases hn' : n' < 0 <;> simp [hn, hn'] <;> (split at hr <;> split at hr <;> omega)

theorem signed_not (s : Bool) (m k : Nat) : signed (!s) m k = - signed s m k := by cases s <;> simp [signed]

theorem sub_enc (n n' p p' r q : Int) (hp : p = 0 ∨ p = -1) (hp' : p' = 0 ∨ p' = -1) (hq : q = 0 ∨ q = -1) (hqm : min p p' ≤ q)
    (hr : twice r q = twice n p - twice n' p') (h1 : -9007199254740992 < r) (h2 : r < 9007199254740992)
    (a1 : -9007199254740992 < n) (a2 : n < 9007199254740992) (b1 : -9007199254740992 < n') (b2 : n' < 9007199254740992) :
    double.sub (enc n p) (enc n' p') = some (enc r q) := by
  obtain ⟨m, i, hre, hi, hl, hm⟩ := read_enc n p hp a1 a2
  obtain ⟨m', i', hre', hi', hl', hm'⟩ := read_enc n' p' hp' b1 b2
  unfold Format.sub
  rw [hre, hre']
  have htw : twice (-n') p' = - twice n' p' := by unfold twice; split <;> omega
  refine sum_number n (-n') p p' i i' m m' _ _ hp hp' r q hq hqm (by rw [htw]; omega) h1 h2 hi hi' (fun b hb => signed_read n p i m b hm hi hb) (fun b hb => ?_) ?_
  · rw [signed_not, signed_read n' p' i' m' b hm' hi' hb, Int.neg_mul]
  intro h0
  subst h0
  have : twice 0 q = 0 := by unfold twice; split <;> rfl
  rw [this] at hr
  unfold twice at hr
  by_cases hn : n < 0 <;> by_cases hn' : n' < 0 <;> simp [hn, hn'] <;> (split at hr <;> split at hr <;> omega)

/-- the word of a whole number -/
def fb (n : Int) : Nat := enc n 0
theorem fb_eq (n : Int) : floatOfInt .f64 n = fb n := rfl
theorem fb_nearest (n : Int) : FloatKind.f64.nearest n = fb n := rfl
/-- bounds within which all is exact -/
abbrev Ok (n : Int) : Prop := -4503599627370496 < n ∧ n < 4503599627370496

theorem order_fb (a b : Int) (ha : Ok a) (hb : Ok b) : double.order (fb a) (fb b) = some (compare a b) := by
  unfold fb
  rw [order_enc a 0 b 0 (.inl rfl) (.inl rfl) (by omega) (by omega) (by omega) (by omega)]
  have := compare_mul a b 1
  simp only [twice, if_true]
  rw [Int.pow_one, Int.mul_comm a, Int.mul_comm b] at this
  rw [this]
theorem add_fb (a b : Int) (ha : Ok a) (hb : Ok b) : double.add (fb a) (fb b) = some (fb (a + b)) :=
  add_enc a b 0 0 (a + b) 0 (.inl rfl) (.inl rfl) (.inl rfl) (by omega) (by simp only [twice, if_true]; omega) (by omega) (by omega) (by omega) (by omega) (by omega) (by omega)
theorem sub_fb (a b : Int) (ha : Ok a) (hb : Ok b) : double.sub (fb a) (fb b) = some (fb (a - b)) :=
  sub_enc a b 0 0 (a - b) 0 (.inl rfl) (.inl rfl) (.inl rfl) (by omega) (by simp only [twice, if_true]; omega) (by omega) (by omega) (by omega) (by omega) (by omega) (by omega)
/-- a half more -/
def fh (n : Int) : Nat := enc (2 * n + 1) (-1)
theorem half_fb (a : Int) (ha : Ok a) : double.add (fb a) 4602678819172646912 = some (fh a) := by
  have e : (4602678819172646912 : Nat) = enc 1 (-1) := by decide
  rw [e]
  exact add_enc a 1 0 (-1) (2 * a + 1) (-1) (.inl rfl) (.inr rfl) (.inr rfl) (by omega) (by simp [twice]) (by omega) (by omega) (by omega) (by omega) (by omega) (by omega)
theorem one_fb : (4607182418800017408 : Nat) = fb 1 := by decide
theorem zero_fb : fb 0 = 0 := enc_zero 0
theorem max_fb : (4787326403894837248 : Nat) = fb 1099511627776 := by decide
theorem fb_inj (a b : Int) (ha : Ok a) (hb : Ok b) (h : fb a = fb b) : a = b := by
  have h1 := order_fb a b ha hb
  have h2 := order_fb b b hb hb
  rw [h, h2] at h1
  have h3 : compare b b = compare a b := Option.some.inj h1
  by_cases e : a = b
  · exact e
  · have h4 : compare b b = Ordering.eq := by simp [compare, compareOfLessAndEq]
    rw [h4] at h3
    simp only [compare, compareOfLessAndEq] at h3
    split at h3
    · cases h3
    · cases h3

theorem order_fb_zero_left (b : Int) (hb : Ok b) : double.order 0 (fb b) = some (compare 0 b) := by rw [← zero_fb]; exact order_fb 0 b ⟨by omega, by omega⟩ hb
theorem order_fh_zero_left (b : Int) (hb : Ok b) : double.order 0 (fh b) = some (compare 0 (2 * b + 1)) := by
  rw [← enc_zero 0]
  unfold fh
  rw [order_enc 0 0 (2 * b + 1) (-1) (.inl rfl) (.inr rfl) (by omega) (by omega) (by omega) (by omega)]
  simp [twice]

theorem cut_zero (s : Bool) (n d : Nat) : Toward.zero.cut s n d = n / 2 ^ d := by
  unfold Toward.cut
  simp only [Nat.one_shiftLeft, Bool.toNat_false, Nat.add_zero]
  by_cases h : d ≤ n.log2 + 2
  · rw [Nat.min_eq_left h]
  · rw [Nat.min_eq_right (by omega)]
    have h2 := @Nat.lt_log2_self n
    have h3 : 2 ^ (n.log2 + 1) ≤ 2 ^ (n.log2 + 2) := Nat.pow_le_pow_right (by omega) (by omega)
    have h4 : 2 ^ (n.log2 + 1) ≤ 2 ^ d := Nat.pow_le_pow_right (by omega) (by omega)
    rw [Nat.div_eq_of_lt (by omega), Nat.div_eq_of_lt (by omega)]

theorem integral_enc (a n p : Int) (hp : p = 0 ∨ p = -1) (h0 : 0 ≤ n) (h1 : n < 9007199254740992) (ha : a = if p = 0 then n else n / 2) :
    (double.read (enc n p)).integral .zero = .number false a.toNat 0 := by
  obtain ⟨m, i, hr, hi, hl, hm⟩ := read_enc n p hp (by omega) h1
  rw [hr]
  have hd : decide (n < 0) = false := by simp; omega
  simp only [Datum.integral, hd, cut_zero]
  congr 1
  have e : m = n.toNat * 2 ^ (p - i).toNat := by
    have : m = n.natAbs * 2 ^ (p - i).toNat := by exact_mod_cast hm
    rw [this]; congr 1; omega
  rw [show i.toNat = 0 from by omega, Nat.shiftLeft_zero, e]
  rcases hp with rfl | rfl
  · rw [if_pos rfl] at ha
    subst ha
    rw [show (0 - i).toNat = (-i).toNat from by omega, Nat.mul_div_cancel _ (Nat.two_pow_pos _)]
  · rw [if_neg (by omega)] at ha
    have e2 : (-i).toNat = (-1 - i).toNat + 1 := by omega
    rw [e2, Nat.pow_succ, Nat.mul_comm (2 ^ (-1 - i).toNat) 2, Nat.mul_div_mul_right _ _ (Nat.two_pow_pos _)]
    omega

/-- cut towards zero -/
theorem trunc_fb (a : Int) (h0 : 0 ≤ a) (ha : Ok a) : FloatKind.f64.encode ((FloatKind.f64.decode (fb a)).integral .zero) = fb a := by
  show double.write ((double.read (enc a 0)).integral .zero) = _
  rw [integral_enc a a 0 (.inl rfl) h0 (by omega) rfl]
  unfold fb enc
  rw [show decide (a < 0) = false from by simp; omega, show a.natAbs = a.toNat from by omega]
theorem toInt_fb (a : Int) (h0 : 0 ≤ a) (ha : Ok a) : (FloatKind.f64.decode (fb a)).toInt .zero = some a := by
  show Datum.toInt .zero (double.read (enc a 0)) = _
  unfold Datum.toInt
  rw [integral_enc a a 0 (.inl rfl) h0 (by omega) rfl]
  simp [signed]
  omega
theorem trunc_fh (a : Int) (h0 : 0 ≤ a) (ha : Ok a) : FloatKind.f64.encode ((FloatKind.f64.decode (fh a)).integral .zero) = fb a := by
  show double.write ((double.read (enc (2 * a + 1) (-1))).integral .zero) = _
  rw [integral_enc a (2 * a + 1) (-1) (.inr rfl) (by omega) (by omega) (by rw [if_neg (by omega)]; omega)]
  unfold fb enc
  rw [show decide (a < 0) = false from by simp; omega, show a.natAbs = a.toNat from by omega]
theorem order_fh_fb (a b : Int) (ha : Ok a) (hb : Ok b) : double.order (fh a) (fb b) = some (compare (2 * a + 1) (2 * b)) := by
  unfold fh fb
  rw [order_enc (2 * a + 1) (-1) b 0 (.inr rfl) (.inl rfl) (by omega) (by omega) (by omega) (by omega)]
  simp [twice]
/-- no such word is a NaN, so none is cut by the tape -/
theorem decode_fb (a : Int) (ha : Ok a) : ∃ s m i, FloatKind.f64.decode (fb a) = .number s m i := by
  obtain ⟨m, i, hr, _⟩ := read_enc a 0 (.inl rfl) (by omega) (by omega)
  exact ⟨_, _, _, hr⟩
theorem decode_fh (a : Int) (ha : Ok a) : ∃ s m i, FloatKind.f64.decode (fh a) = .number s m i := by
  obtain ⟨m, i, hr, _⟩ := read_enc (2 * a + 1) (-1) (.inr rfl) (by omega) (by omega)
  exact ⟨_, _, _, hr⟩

theorem read_lt (x : Nat) (hx : x < 9223372036854775808) : double.read (x + 9223372036854775808) = (double.read x).opposite := by
  unfold Format.read
  rw [signWeight_double, binade_double, infRung_double]
  have e1 : ((x + 9223372036854775808) / 9223372036854775808 % 2 == 1) = true := by simp; omega
  have e2 : (x / 9223372036854775808 % 2 == 1) = false := by simp; omega
  have e3 : (x + 9223372036854775808) % 9223372036854775808 = x % 9223372036854775808 := by omega
  simp only [e1, e2, e3]
  split <;> try split <;> try split
  all_goals simp [Datum.opposite]

theorem enc_lt (n : Int) (h0 : 0 ≤ n) (h1 : n < 4503599627370496) : fb n < 9223372036854775808 := by
  by_cases hn : n = 0
  · subst hn; rw [zero_fb]; omega
  unfold fb enc Format.write
  have := nearest_exact (decide (n < 0)) n.natAbs 0 0 (by omega) (by omega) (by omega)
  simp only
  rcases this with this | this
  · simp only [Nat.pow_zero, Nat.mul_one, Int.natCast_zero, Int.sub_zero] at this
    rw [this]
    have hd : decide (n < 0) = false := by simp; omega
    rw [hd]
    unfold Format.word
    have hL := log2_lt53 n.natAbs (by omega) (by omega)
    have hl2 := @Nat.lt_log2_self n.natAbs
    have hlt : n.natAbs * 2 ^ (52 - n.natAbs.log2) < 9007199254740992 := by
      calc n.natAbs * 2 ^ (52 - n.natAbs.log2) < 2 ^ (n.natAbs.log2 + 1) * 2 ^ (52 - n.natAbs.log2) := Nat.mul_lt_mul_of_pos_right hl2 (Nat.two_pow_pos _)
        _ = 2 ^ 53 := by rw [← Nat.pow_add]; congr 1; omega
        _ = 9007199254740992 := by decide
    simp only [Bool.false_eq_true, if_false]
    omega
  · omega

theorem xor_top (x : Nat) (h : x < 9223372036854775808) : x ^^^ 2 ^ 63 = x + 9223372036854775808 := by
  have h1 : 2 ^ 63 + x = 2 ^ 63 ||| x := by
    have := Nat.two_pow_add_eq_or_of_lt (i := 63) (b := x) (by omega) 1
    simpa using this
  have h2 : x &&& 2 ^ 63 = 0 := by
    rw [Nat.and_comm]
    apply Nat.eq_of_testBit_eq
    intro j
    rw [Nat.testBit_and, Nat.testBit_two_pow]
    by_cases hj : 63 = j
    · subst hj
      have : x.testBit 63 = false := Nat.testBit_lt_two_pow (by omega)
      simp [this]
    · simp [hj]
  have h3 : x ^^^ 2 ^ 63 = x ||| 2 ^ 63 := by
    apply Nat.eq_of_testBit_eq
    intro j
    have hj := congrArg (fun y => Nat.testBit y j) h2
    simp only [Nat.testBit_and, Nat.zero_testBit] at hj
    rw [Nat.testBit_xor, Nat.testBit_or]
    cases hx : x.testBit j <;> cases hy : (2 ^ 63).testBit j <;> simp_all
  rw [h3, Nat.or_comm, ← h1]
  omega

/-- '-float64(b)' and a comparison with it -/
theorem neg_fb (b : Int) (h0 : 0 ≤ b) (hb : Ok b) : Op.negFloat .f64 (fb b) = fb b + 9223372036854775808 := by
  unfold Op.negFloat
  exact xor_top _ (enc_lt b h0 hb.2)
theorem order_neg (a b : Int) (ha : Ok a) (h0 : 0 ≤ b) (hb : Ok b) : double.order (fb a) (fb b + 9223372036854775808) = some (compare a (-b)) := by
  obtain ⟨m, i, hr, hi, hl, hm⟩ := read_enc a 0 (.inl rfl) (by omega) (by omega)
  obtain ⟨m', i', hr', hi', hl', hm'⟩ := read_enc b 0 (.inl rfl) (by omega) (by omega)
  unfold Format.order
  rw [read_lt _ (enc_lt b h0 hb.2)]
  unfold fb
  rw [hr, hr']
  simp only [Datum.order, Datum.opposite]
  rw [signed_read a 0 i m _ hm hi (Int.min_le_left _ _), signed_not, signed_read b 0 i' m' _ hm' hi' (Int.min_le_right _ _), ← Int.neg_mul, compare_mul]
end Go.Proofs.Ytjoipdjdonakeaa
