/- The plain law of the sums: a table of 256 numbers gives the same as bit by bit; one bit turned turns the sum. No program in sight. -/
import Derived.RowKit
namespace Go.Proofs.Ytmeoiennniknlaa.Sums

/-- One bit. -/
def stp (x : Nat) : Nat := if x % 2 = 1 then (x / 2) ^^^ 2197175160 else x / 2
def iter : Nat → Nat → Nat
  | 0, x => x
  | k + 1, x => stp (iter k x)
def tab (i : Nat) : Nat := iter 8 i
/-- One byte. -/
def byt (x c : Nat) : Nat := iter 8 (x ^^^ c)
def crc (x : Nat) (l : List Nat) : Nat := l.foldl byt x
def bsum (l : List Nat) : Nat := crc 4294967295 l ^^^ 4294967295
def wbytes (w : Nat) : List Nat := [w % 256, w / 256 % 256, w / 65536 % 256, w / 16777216 % 256, w / 4294967296 % 256, w / 1099511627776 % 256, w / 281474976710656 % 256, w / 72057594037927936 % 256]
def wsum (l : List Nat) : Nat := bsum (l.flatMap wbytes)
def mark (k n : Nat) (l : List Nat) : Nat := k * 72057594037927936 + n * 4294967296 + wsum (k :: n :: l)

theorem stp_lt {x : Nat} (h : x < 4294967296) : stp x < 4294967296 := by
  unfold stp
  split
  · exact Nat.xor_lt_two_pow (n := 32) (by omega) (by omega)
  · omega
theorem iter_lt {x : Nat} (h : x < 4294967296) : ∀ k, iter k x < 4294967296
  | 0 => h
  | k + 1 => stp_lt (iter_lt h k)
theorem tab_lt {i : Nat} (h : i < 256) : tab i < 4294967296 := iter_lt (by omega) 8
theorem byt_lt {x c : Nat} (h : x < 4294967296) (hc : c < 256) : byt x c < 4294967296 := iter_lt (Nat.xor_lt_two_pow (n := 32) h (by omega)) 8
theorem crc_lt {x : Nat} (l : List Nat) (h : x < 4294967296) (hl : ∀ c ∈ l, c < 256) : crc x l < 4294967296 := by
  induction l generalizing x with
  | nil => exact h
  | cons c l ih => exact ih (byt_lt h (hl c (by simp))) (fun d hd => hl d (by simp [hd]))
theorem bsum_lt (l : List Nat) (hl : ∀ c ∈ l, c < 256) : bsum l < 4294967296 := Nat.xor_lt_two_pow (n := 32) (crc_lt l (by omega) hl) (by omega)
theorem wbytes_lt (w : Nat) : ∀ c ∈ wbytes w, c < 256 := by
  intro c hc
  simp only [wbytes, List.mem_cons, List.not_mem_nil, or_false] at hc
  omega
theorem flat_lt (l : List Nat) : ∀ c ∈ l.flatMap wbytes, c < 256 := by
  intro c hc
  obtain ⟨w, _, hw⟩ := List.mem_flatMap.1 hc
  exact wbytes_lt w c hw
theorem wsum_lt (l : List Nat) : wsum l < 4294967296 := bsum_lt _ (flat_lt l)
theorem crc_append (x : Nat) (a b : List Nat) : crc x (a ++ b) = crc (crc x a) b := by simp [crc]
theorem crc_cons (x c : Nat) (l : List Nat) : crc x (c :: l) = crc (byt x c) l := by simp only [crc, List.foldl_cons]

theorem xor_half (a b : Nat) : (a ^^^ b) / 2 = a / 2 ^^^ b / 2 := by
  have := Nat.shiftRight_xor_distrib (a := a) (b := b) (i := 1)
  simpa [Nat.shiftRight_succ] using this
theorem xor_odd (a b : Nat) : (a ^^^ b) % 2 = (a % 2 + b % 2) % 2 := by
  have h := Nat.xor_mod_two_pow (a := a) (b := b) (n := 1)
  simp only [Nat.pow_one] at h
  rw [h]
  have ha : a % 2 = 0 ∨ a % 2 = 1 := by omega
  have hb : b % 2 = 0 ∨ b % 2 = 1 := by omega
  rcases ha with ha | ha <;> rcases hb with hb | hb <;> rw [ha, hb] <;> rfl
theorem stp_xor (a b : Nat) : stp (a ^^^ b) = stp a ^^^ stp b := by
  unfold stp
  rw [xor_odd, xor_half]
  have ha : a % 2 = 0 ∨ a % 2 = 1 := by omega
  have hb : b % 2 = 0 ∨ b % 2 = 1 := by omega
  rcases ha with ha | ha <;> rcases hb with hb | hb <;> simp [ha, hb]
  · rw [Nat.xor_assoc]
  · rw [Nat.xor_assoc, Nat.xor_assoc, Nat.xor_comm 2197175160 (b / 2)]
  · rw [Nat.xor_assoc, Nat.xor_comm 2197175160 (b / 2 ^^^ 2197175160), Nat.xor_assoc, Nat.xor_self, Nat.xor_zero]
theorem iter_xor (k a b : Nat) : iter k (a ^^^ b) = iter k a ^^^ iter k b := by
  induction k with
  | zero => rfl
  | succ k ih => simp only [iter, ih, stp_xor]
theorem iter_high (y : Nat) : ∀ j, y % 2 ^ j = 0 → iter j y = y / 2 ^ j
  | 0, _ => by simp [iter]
  | j + 1, h => by
    have hp : 2 ^ (j + 1) = 2 ^ j * 2 := Nat.pow_succ ..
    have h1 : y % 2 ^ j = 0 := by
      have := Nat.mod_mod_of_dvd y (show 2 ^ j ∣ 2 ^ (j + 1) from ⟨2, hp⟩)
      rw [h] at this
      simpa using this.symm
    have h2 : y / 2 ^ j % 2 = 0 := by
      rw [hp, Nat.mod_mul] at h
      have := Nat.two_pow_pos j
      rcases Nat.mod_two_eq_zero_or_one (y / 2 ^ j) with h3 | h3
      · exact h3
      · rw [h3] at h; omega
    simp only [iter, iter_high y j h1, stp, h2, Nat.zero_ne_one, if_false, Nat.div_div_eq_div_mul, hp]
theorem iter_zero : ∀ k, iter k 0 = 0
  | 0 => rfl
  | k + 1 => by simp [iter, iter_zero k, stp]
theorem split_byte (x : Nat) : x = (x % 256) ^^^ (x / 256 * 256) := by
  apply Nat.eq_of_testBit_eq
  intro i
  rw [Nat.testBit_xor, show (256 : Nat) = 2 ^ 8 from rfl, Nat.testBit_mod_two_pow, Nat.mul_comm, Nat.testBit_two_pow_mul, Nat.testBit_div_two_pow]
  by_cases h : i < 8
  · have : ¬ i ≥ 8 := by omega
    simp [h, this]
  · have h' : i ≥ 8 := by omega
    simp [h, h', Nat.sub_add_cancel h']
/-- The table does it. -/
theorem byt_tab {x c : Nat} (_hc : c < 256) : tab ((x % 256) ^^^ c) ^^^ x / 256 = byt x c := by
  unfold byt tab
  conv => rhs; rw [split_byte x]
  rw [Nat.xor_assoc, Nat.xor_comm (x / 256 * 256) c, ← Nat.xor_assoc, iter_xor 8 (x % 256 ^^^ c), iter_high (x / 256 * 256) 8 (by simp)]
  rw [show (2 : Nat) ^ 8 = 256 from rfl, Nat.mul_div_cancel _ (by decide)]

/-! One bit turned. -/
theorem stp_zero {z : Nat} (hz : z < 4294967296) (h : stp z = 0) : z = 0 := by
  unfold stp at h
  split at h
  · have h2 : z / 2 = 2197175160 := by
      have := congrArg (· ^^^ 2197175160) h
      simpa [Nat.xor_assoc] using this
    omega
  · omega
theorem iter_zero_of {z : Nat} (hz : z < 4294967296) : ∀ k, iter k z = 0 → z = 0
  | 0, h => h
  | k + 1, h => iter_zero_of hz k (stp_zero (iter_lt hz k) h)
theorem xor_eq_zero {a b : Nat} (h : a ^^^ b = 0) : a = b := by
  have := congrArg (· ^^^ b) h
  simpa [Nat.xor_assoc] using this
theorem iter_inj {a b : Nat} (ha : a < 4294967296) (hb : b < 4294967296) (k : Nat) (h : iter k a = iter k b) : a = b := by
  refine xor_eq_zero (iter_zero_of (Nat.xor_lt_two_pow (n := 32) ha hb) k ?_)
  rw [iter_xor, h, Nat.xor_self]
theorem xor_inj_left {x a b : Nat} (h : x ^^^ a = x ^^^ b) : a = b := by
  have := congrArg (x ^^^ ·) h
  simpa [← Nat.xor_assoc] using this
theorem xor_inj_right {x a b : Nat} (h : a ^^^ x = b ^^^ x) : a = b := xor_inj_left (x := x) (by rw [Nat.xor_comm x a, Nat.xor_comm x b]; exact h)
theorem byt_inj {x y c : Nat} (hx : x < 4294967296) (hy : y < 4294967296) (hc : c < 256) (h : byt x c = byt y c) : x = y :=
  xor_inj_right (iter_inj (Nat.xor_lt_two_pow (n := 32) hx (by omega)) (Nat.xor_lt_two_pow (n := 32) hy (by omega)) 8 h)
theorem byt_ne {x c d : Nat} (hx : x < 4294967296) (hc : c < 256) (hd : d < 256) (h : byt x c = byt x d) : c = d :=
  xor_inj_left (iter_inj (Nat.xor_lt_two_pow (n := 32) hx (by omega)) (Nat.xor_lt_two_pow (n := 32) hx (by omega)) 8 h)
theorem crc_inj {l : List Nat} : ∀ {x y : Nat}, x < 4294967296 → y < 4294967296 → (∀ c ∈ l, c < 256) → crc x l = crc y l → x = y := by
  induction l with
  | nil => intro x y _ _ _ h; exact h
  | cons c l ih =>
    intro x y hx hy hl h
    have hc := hl c (by simp)
    exact byt_inj hx hy hc (ih (byt_lt hx hc) (byt_lt hy hc) (fun d hd => hl d (by simp [hd])) h)
/-- Of lists of bytes that part in one place the sums part. -/
theorem crc_one {p s : List Nat} {c d x : Nat} (hx : x < 4294967296) (hp : ∀ c ∈ p, c < 256) (hs : ∀ c ∈ s, c < 256) (hc : c < 256) (hd : d < 256)
    (h : crc x (p ++ c :: s) = crc x (p ++ d :: s)) : c = d := by
  rw [crc_append, crc_append, crc_cons, crc_cons] at h
  have h1 := crc_lt p hx hp
  exact byt_ne h1 hc hd (crc_inj (byt_lt h1 hc) (byt_lt h1 hd) hs h)
theorem bsum_one {p s : List Nat} {c d : Nat} (hp : ∀ c ∈ p, c < 256) (hs : ∀ c ∈ s, c < 256) (hc : c < 256) (hd : d < 256)
    (h : bsum (p ++ c :: s) = bsum (p ++ d :: s)) : c = d := crc_one (by omega) hp hs hc hd (xor_inj_right h)

/-- The i-th byte. -/
def nth (w i : Nat) : Nat := w / 256 ^ i % 256
theorem wbytes_eq (w : Nat) : wbytes w = (List.range 8).map (nth w) := by
  simp [wbytes, List.range_succ, nth]
theorem nth_xor (w v i : Nat) : nth (w ^^^ v) i = nth w i ^^^ nth v i := by
  unfold nth
  have h : (256 : Nat) ^ i = 2 ^ (8 * i) := by rw [Nat.pow_mul]
  rw [h, show (256 : Nat) = 2 ^ 8 from rfl, ← Nat.shiftRight_eq_div_pow, ← Nat.shiftRight_eq_div_pow, ← Nat.shiftRight_eq_div_pow, Nat.shiftRight_xor_distrib, Nat.xor_mod_two_pow]
theorem nth_bit_other {b i : Nat} (h : i ≠ b / 8) : nth (2 ^ b) i = 0 := by
  unfold nth
  have h2 : (256 : Nat) ^ i = 2 ^ (8 * i) := by rw [Nat.pow_mul]
  rw [h2]
  rcases Nat.lt_or_ge b (8 * i) with hb | hb
  · rw [Nat.div_eq_of_lt (Nat.pow_lt_pow_right (by decide) hb)]
  · rw [Nat.pow_div hb (by decide)]
    have : b - 8 * i = 8 + (b - 8 * i - 8) := by omega
    rw [this, Nat.pow_add, show (2 : Nat) ^ 8 = 256 from rfl, Nat.mul_mod_right]
theorem nth_bit_same (b : Nat) : nth (2 ^ b) (b / 8) ≠ 0 := by
  unfold nth
  have h2 : (256 : Nat) ^ (b / 8) = 2 ^ (8 * (b / 8)) := by rw [Nat.pow_mul]
  rw [h2, Nat.pow_div (by omega) (by decide)]
  have h3 : (2 : Nat) ^ (b - 8 * (b / 8)) < 2 ^ 8 := Nat.pow_lt_pow_right (by decide) (by omega)
  rw [Nat.mod_eq_of_lt h3]
  exact Nat.ne_of_gt (Nat.two_pow_pos _)
theorem nth_lt (w i : Nat) : nth w i < 256 := Nat.mod_lt _ (by decide)
theorem wbytes_split (w i : Nat) (h : i < 8) : wbytes w = (List.range i).map (nth w) ++ nth w i :: ((List.range (7 - i)).map fun j => nth w (i + 1 + j)) := by
  rw [wbytes_eq]
  apply List.ext_getElem
  · simp; omega
  · intro k h1 h2
    simp at h1
    rcases Nat.lt_trichotomy k i with hk | hk | hk
    · rw [List.getElem_append_left (by simpa using hk)]; simp
    · subst hk; rw [List.getElem_append_right (by simp)]; simp
    · rw [List.getElem_append_right (by simp; omega)]
      simp only [List.length_map, List.length_range, List.getElem_map, List.getElem_range]
      obtain ⟨m, rfl⟩ : ∃ m, k = i + 1 + m := ⟨k - i - 1, by omega⟩
      have e : i + 1 + m - i = m + 1 := by omega
      simp only [e, List.getElem_cons_succ, List.getElem_map, List.getElem_range]
/-- One bit of one word turned: another sum. -/
theorem wsum_turned (p s : List Nat) (w b : Nat) (hb : b < 64) : wsum (p ++ (w ^^^ 2 ^ b) :: s) ≠ wsum (p ++ w :: s) := by
  intro h
  unfold wsum at h
  have hi : b / 8 < 8 := by omega
  simp only [List.flatMap_append, List.flatMap_cons] at h
  rw [wbytes_split (w ^^^ 2 ^ b) (b / 8) hi, wbytes_split w (b / 8) hi] at h
  have e1 : (List.range (b / 8)).map (nth (w ^^^ 2 ^ b)) = (List.range (b / 8)).map (nth w) := by
    apply List.map_congr_left
    intro i h1
    have : i < b / 8 := List.mem_range.1 h1
    rw [nth_xor, nth_bit_other (by omega), Nat.xor_zero]
  have e2 : ((List.range (7 - b / 8)).map fun j => nth (w ^^^ 2 ^ b) (b / 8 + 1 + j)) = ((List.range (7 - b / 8)).map fun j => nth w (b / 8 + 1 + j)) := by
    apply List.map_congr_left
    intro i h1
    rw [nth_xor, nth_bit_other (by omega), Nat.xor_zero]
  rw [e1, e2] at h
  simp only [List.append_assoc, List.cons_append] at h
  rw [← List.append_assoc, ← List.append_assoc] at h
  have lt1 : ∀ (f : Nat → Nat) (n : Nat), ∀ c ∈ (List.range n).map (fun j => nth w (f j)), c < 256 := by
    intro f n c hc
    obtain ⟨j, _, rfl⟩ := List.mem_map.1 hc
    exact nth_lt _ _
  have h1 := bsum_one (p := p.flatMap wbytes ++ (List.range (b / 8)).map (nth w)) (s := ((List.range (7 - b / 8)).map fun j => nth w (b / 8 + 1 + j)) ++ s.flatMap wbytes) ?_ ?_ (nth_lt _ _) (nth_lt _ _) h
  · rw [nth_xor] at h1
    have h2 : nth w (b / 8) ^^^ nth (2 ^ b) (b / 8) = nth w (b / 8) ^^^ 0 := by rw [h1, Nat.xor_zero]
    exact nth_bit_same b (xor_inj_left h2)
  · intro c hc
    rcases List.mem_append.1 hc with hc | hc
    · exact flat_lt p c hc
    · exact lt1 (fun j => j) _ c hc
  · intro c hc
    rcases List.mem_append.1 hc with hc | hc
    · exact lt1 (fun j => b / 8 + 1 + j) _ c hc
    · exact flat_lt s c hc

/-! Marks. -/
theorem mark_open {k n : Nat} (hk : k < 256) (hn : n < 16777216) (l : List Nat) : mark k n l / 72057594037927936 = k ∧ mark k n l / 4294967296 % 16777216 = n ∧ mark k n l % 4294967296 = wsum (k :: n :: l) ∧ mark k n l < 18446744073709551616 := by
  have h := wsum_lt (k :: n :: l)
  unfold mark
  omega

end Go.Proofs.Ytmeoiennniknlaa.Sums
