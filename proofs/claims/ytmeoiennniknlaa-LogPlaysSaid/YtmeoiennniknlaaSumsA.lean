/- The plain law of the sums: a table of 256 numbers gives the same as bit by bit; one bit turned turns the sum. No program in sight. The walks of the sums: what the code of package sums computes. The two iterators of package sums: the bytes of a list of bytes, and of a list of words, one behind the other. The fold of package sums: of whatever bytes an iterator yields, the sum. The contracts of package sums: Bytes, Of, Mark, Open, Fits. -/
import Derived.RowKit
import Derived.Test.YtmeoiennniknlaaProg
import Derived.Test.YtmeoiennniknlaaWWords
import Derived.WalkKit
import Derived.WalkSpells
import Derived.WalkLawsBesides
import Derived.Lib.Hide
import Derived.Test.YtmeoiennniknlaaLib0
import Derived.RangeFuncNested
import Derived.RangeFuncBound
import Derived.RangeFuncCalls
import Derived.RangeFuncLeaves
import Derived.RangeFuncFrom
import Derived.RangeFuncBox
import Derived.Shelf.Abstract
import Derived.Shelf.RegionOpen
import Derived.OwnWalkIn
import Derived.TacticsInMore
import Derived.LoopNIn
import Derived.LoopIn
namespace Go.Proofs.Ytmeoiennniknlaa.Sums

/-- One bit. -/
def stp (x : Nat) : Nat := if x % 2 = 1 then (x / 2) ^^^ 2197175160 else x / 2
def iter : Nat → Nat → Nat
  | 0, x => x
  | k + 1, x => stp (iter k x)
def tab (i : Nat) : Nat := iter 8 i
/-- One byte. -/
def byt (x c : Nat) : Nat := iter 8 (x ^^^ c)
def crc (x : Nat) (l : List Nat) : Nat := l.foldl byt x
def bsum (l : List Nat) : Nat := crc 4294967295 l ^^^ 4294967295
def wbytes (w : Nat) : List Nat := [w % 256, w / 256 % 256, w / 65536 % 256, w / 16777216 % 256, w / 4294967296 % 256, w / 1099511627776 % 256, w / 281474976710656 % 256, w / 72057594037927936 % 256]
def wsum (l : List Nat) : Nat := bsum (l.flatMap wbytes)
def mark (k n : Nat) (l : List Nat) : Nat := k * 72057594037927936 + n * 4294967296 + wsum (k :: n :: l)

theorem stp_lt {x : Nat} (h : x < 4294967296) : stp x < 4294967296 := by
  unfold stp
  split
  · exact Nat.xor_lt_two_pow (n := 32) (by omega) (by omega)
  · omega
theorem iter_lt {x : Nat} (h : x < 4294967296) : ∀ k, iter k x < 4294967296
  | 0 => h
  | k + 1 => stp_lt (iter_lt h k)
theorem tab_lt {i : Nat} (h : i < 256) : tab i < 4294967296 := iter_lt (by omega) 8
theorem byt_lt {x c : Nat} (h : x < 4294967296) (hc : c < 256) : byt x c < 4294967296 := iter_lt (Nat.xor_lt_two_pow (n := 32) h (by omega)) 8
theorem crc_lt {x : Nat} (l : List Nat) (h : x < 4294967296) (hl : ∀ c ∈ l, c < 256) : crc x l < 4294967296 := by
  induction l generalizing x with
  | nil => exact h
  | cons c l ih => exact ih (byt_lt h (hl c (by simp))) (fun d hd => hl d (by simp [hd]))
theorem bsum_lt (l : List Nat) (hl : ∀ c ∈ l, c < 256) : bsum l < 4294967296 := Nat.xor_lt_two_pow (n := 32) (crc_lt l (by omega) hl) (by omega)
theorem wbytes_lt (w : Nat) : ∀ c ∈ wbytes w, c < 256 := by
  intro c hc
  simp only [wbytes, List.mem_cons, List.not_mem_nil, or_false] at hc
  omega
theorem flat_lt (l : List Nat) : ∀ c ∈ l.flatMap wbytes, c < 256 := by
  intro c hc
  obtain ⟨w, _, hw⟩ := List.mem_flatMap.1 hc
  exact wbytes_lt w c hw
theorem wsum_lt (l : List Nat) : wsum l < 4294967296 := bsum_lt _ (flat_lt l)
theorem crc_append (x : Nat) (a b : List Nat) : crc x (a ++ b) = crc (crc x a) b := by simp [crc]
theorem crc_cons (x c : Nat) (l : List Nat) : crc x (c :: l) = crc (byt x c) l := by simp only [crc, List.foldl_cons]

theorem xor_half (a b : Nat) : (a ^^^ b) / 2 = a / 2 ^^^ b / 2 := by
  have := Nat.shiftRight_xor_distrib (a := a) (b := b) (i := 1)
  simpa [Nat.shiftRight_succ] using this
theorem xor_odd (a b : Nat) : (a ^^^ b) % 2 = (a % 2 + b % 2) % 2 := by
  have h := Nat.xor_mod_two_pow (a := a) (b := b) (n := 1)
  simp only [Nat.pow_one] at h
  rw [h]
  have ha : a % 2 = 0 ∨ a % 2 = 1 := by omega
  have hb : b % 2 = 0 ∨ b % 2 = 1 := by omega
  rcases ha with ha | ha <;> rcases hb with hb | hb <;> rw [ha, hb] <;> rfl
theorem stp_xor (a b : Nat) : stp (a ^^^ b) = stp a ^^^ stp b := by
  unfold stp
  rw [xor_odd, xor_half]
  have ha : a % 2 = 0 ∨ a % 2 = 1 := by omega
  have hb : b % 2 = 0 ∨ b % 2 = 1 := by omega
  rcases ha with ha | ha <;> rcases hb with hb | hb <;> simp [ha, hb]
  · rw [Nat.xor_assoc]
  · rw [Nat.xor_assoc, Nat.xor_assoc, Nat.xor_comm 2197175160 (b / 2)]
  · rw [Nat.xor_assoc, Nat.xor_comm 2197175160 (b / 2 ^^^ 2197175160), Nat.xor_assoc, Nat.xor_self, Nat.xor_zero]
theorem iter_xor (k a b : Nat) : iter k (a ^^^ b) = iter k a ^^^ iter k b := by
  induction k with
  | zero => rfl
  | succ k ih => simp only [iter, ih, stp_xor]
theorem iter_high (y : Nat) : ∀ j, y % 2 ^ j = 0 → iter j y = y / 2 ^ j
  | 0, _ => by simp [iter]
  | j + 1, h => by
    have hp : 2 ^ (j + 1) = 2 ^ j * 2 := Nat.pow_succ ..
    have h1 : y % 2 ^ j = 0 := by
      have := Nat.mod_mod_of_dvd y (show 2 ^ j ∣ 2 ^ (j + 1) from ⟨2, hp⟩)
      rw [h] at this
      simpa using this.symm
    have h2 : y / 2 ^ j % 2 = 0 := by
      rw [hp, Nat.mod_mul] at h
      have := Nat.two_pow_pos j
      rcases Nat.mod_two_eq_zero_or_one (y / 2 ^ j) with h3 | h3
      · exact h3
      · rw [h3] at h; omega
    simp only [iter, iter_high y j h1, stp, h2, Nat.zero_ne_one, if_false, Nat.div_div_eq_div_mul, hp]
theorem iter_zero : ∀ k, iter k 0 = 0
  | 0 => rfl
  | k + 1 => by simp [iter, iter_zero k, stp]
theorem split_byte (x : Nat) : x = (x % 256) ^^^ (x / 256 * 256) := by
  apply Nat.eq_of_testBit_eq
  intro i
  rw [Nat.testBit_xor, show (256 : Nat) = 2 ^ 8 from rfl, Nat.testBit_mod_two_pow, Nat.mul_comm, Nat.testBit_two_pow_mul, Nat.testBit_div_two_pow]
  by_cases h : i < 8
  · have : ¬ i ≥ 8 := by omega
    simp [h, this]
  · have h' : i ≥ 8 := by omega
    simp [h, h', Nat.sub_add_cancel h']
/-- The table does it. -/
theorem byt_tab {x c : Nat} (_hc : c < 256) : tab ((x % 256) ^^^ c) ^^^ x / 256 = byt x c := by
  unfold byt tab
  conv => rhs; rw [split_byte x]
  rw [Nat.xor_assoc, Nat.xor_comm (x / 256 * 256) c, ← Nat.xor_assoc, iter_xor 8 (x % 256 ^^^ c), iter_high (x / 256 * 256) 8 (by simp)]
  rw [show (2 : Nat) ^ 8 = 256 from rfl, Nat.mul_div_cancel _ (by decide)]

/-! One bit turned. -/
theorem stp_zero {z : Nat} (hz : z < 4294967296) (h : stp z = 0) : z = 0 := by
  unfold stp at h
  split at h
  · have h2 : z / 2 = 2197175160 := by
      have := congrArg (· ^^^ 2197175160) h
      simpa [Nat.xor_assoc] using this
    omega
  · omega
theorem iter_zero_of {z : Nat} (hz : z < 4294967296) : ∀ k, iter k z = 0 → z = 0
  | 0, h => h
  | k + 1, h => iter_zero_of hz k (stp_zero (iter_lt hz k) h)
theorem xor_eq_zero {a b : Nat} (h : a ^^^ b = 0) : a = b := by
  have := congrArg (· ^^^ b) h
  simpa [Nat.xor_assoc] using this
theorem iter_inj {a b : Nat} (ha : a < 4294967296) (hb : b < 4294967296) (k : Nat) (h : iter k a = iter k b) : a = b := by
  refine xor_eq_zero (iter_zero_of (Nat.xor_lt_two_pow (n := 32) ha hb) k ?_)
  rw [iter_xor, h, Nat.xor_self]
theorem xor_inj_left {x a b : Nat} (h : x ^^^ a = x ^^^ b) : a = b := by
  have := congrArg (x ^^^ ·) h
  simpa [← Nat.xor_assoc] using this
theorem xor_inj_right {x a b : Nat} (h : a ^^^ x = b ^^^ x) : a = b := xor_inj_left (x := x) (by rw [Nat.xor_comm x a, Nat.xor_comm x b]; exact h)
theorem byt_inj {x y c : Nat} (hx : x < 4294967296) (hy : y < 4294967296) (hc : c < 256) (h : byt x c = byt y c) : x = y :=
  xor_inj_right (iter_inj (Nat.xor_lt_two_pow (n := 32) hx (by omega)) (Nat.xor_lt_two_pow (n := 32) hy (by omega)) 8 h)
theorem byt_ne {x c d : Nat} (hx : x < 4294967296) (hc : c < 256) (hd : d < 256) (h : byt x c = byt x d) : c = d :=
  xor_inj_left (iter_inj (Nat.xor_lt_two_pow (n := 32) hx (by omega)) (Nat.xor_lt_two_pow (n := 32) hx (by omega)) 8 h)
theorem crc_inj {l : List Nat} : ∀ {x y : Nat}, x < 4294967296 → y < 4294967296 → (∀ c ∈ l, c < 256) → crc x l = crc y l → x = y := by
  induction l with
  | nil => intro x y _ _ _ h; exact h
  | cons c l ih =>
    intro x y hx hy hl h
    have hc := hl c (by simp)
    exact byt_inj hx hy hc (ih (byt_lt hx hc) (byt_lt hy hc) (fun d hd => hl d (by simp [hd])) h)
/-- Of lists of bytes that part in one place the sums part. -/
theorem crc_one {p s : List Nat} {c d x : Nat} (hx : x < 4294967296) (hp : ∀ c ∈ p, c < 256) (hs : ∀ c ∈ s, c < 256) (hc : c < 256) (hd : d < 256)
    (h : crc x (p ++ c :: s) = crc x (p ++ d :: s)) : c = d := by
  rw [crc_append, crc_append, crc_cons, crc_cons] at h
  have h1 := crc_lt p hx hp
  exact byt_ne h1 hc hd (crc_inj (byt_lt h1 hc) (byt_lt h1 hd) hs h)
theorem bsum_one {p s : List Nat} {c d : Nat} (hp : ∀ c ∈ p, c < 256) (hs : ∀ c ∈ s, c < 256) (hc : c < 256) (hd : d < 256)
    (h : bsum (p ++ c :: s) = bsum (p ++ d :: s)) : c = d := crc_one (by omega) hp hs hc hd (xor_inj_right h)

/-- The i-th byte. -/
def nth (w i : Nat) : Nat := w / 256 ^ i % 256
theorem wbytes_eq (w : Nat) : wbytes w = (List.range 8).map (nth w) := by
  simp [wbytes, List.range_succ, nth]
theorem nth_xor (w v i : Nat) : nth (w ^^^ v) i = nth w i ^^^ nth v i := by
  unfold nth
  have h : (256 : Nat) ^ i = 2 ^ (8 * i) := by rw [Nat.pow_mul]
  rw [h, show (256 : Nat) = 2 ^ 8 from rfl, ← Nat.shiftRight_eq_div_pow, ← Nat.shiftRight_eq_div_pow, ← Nat.shiftRight_eq_div_pow, Nat.shiftRight_xor_distrib, Nat.xor_mod_two_pow]
theorem nth_bit_other {b i : Nat} (h : i ≠ b / 8) : nth (2 ^ b) i = 0 := by
  unfold nth
  have h2 : (256 : Nat) ^ i = 2 ^ (8 * i) := by rw [Nat.pow_mul]
  rw [h2]
  rcases Nat.lt_or_ge b (8 * i) with hb | hb
  · rw [Nat.div_eq_of_lt (Nat.pow_lt_pow_right (by decide) hb)]
  · rw [Nat.pow_div hb (by decide)]
    have : b - 8 * i = 8 + (b - 8 * i - 8) := by omega
    rw [this, Nat.pow_add, show (2 : Nat) ^ 8 = 256 from rfl, Nat.mul_mod_right]
theorem nth_bit_same (b : Nat) : nth (2 ^ b) (b / 8) ≠ 0 := by
  unfold nth
  have h2 : (256 : Nat) ^ (b / 8) = 2 ^ (8 * (b / 8)) := by rw [Nat.pow_mul]
  rw [h2, Nat.pow_div (by omega) (by decide)]
  have h3 : (2 : Nat) ^ (b - 8 * (b / 8)) < 2 ^ 8 := Nat.pow_lt_pow_right (by decide) (by omega)
  rw [Nat.mod_eq_of_lt h3]
  exact Nat.ne_of_gt (Nat.two_pow_pos _)
theorem nth_lt (w i : Nat) : nth w i < 256 := Nat.mod_lt _ (by decide)
theorem wbytes_split (w i : Nat) (h : i < 8) : wbytes w = (List.range i).map (nth w) ++ nth w i :: ((List.range (7 - i)).map fun j => nth w (i + 1 + j)) := by
  rw [wbytes_eq]
  apply List.ext_getElem
  · simp; omega
  · intro k h1 h2
    simp at h1
    rcases Nat.lt_trichotomy k i with hk | hk | hk
    · rw [List.getElem_append_left (by simpa using hk)]; simp
    · subst hk; rw [List.getElem_append_right (by simp)]; simp
    · rw [List.getElem_append_right (by simp; omega)]
      simp only [List.length_map, List.length_range, List.getElem_map, List.getElem_range]
      obtain ⟨m, rfl⟩ : ∃ m, k = i + 1 + m := ⟨k - i - 1, by omega⟩
      have e : i + 1 + m - i = m + 1 := by omega
      simp only [e, List.getElem_cons_succ, List.getElem_map, List.getElem_range]
/-- One bit of one word turned: another sum. -/
theorem wsum_turned (p s : List Nat) (w b : Nat) (hb : b < 64) : wsum (p ++ (w ^^^ 2 ^ b) :: s) ≠ wsum (p ++ w :: s) := by
  intro h
  unfold wsum at h
  have hi : b / 8 < 8 := by omega
  simp only [List.flatMap_append, List.flatMap_cons] at h
  rw [wbytes_split (w ^^^ 2 ^ b) (b / 8) hi, wbytes_split w (b / 8) hi] at h
  have e1 : (List.range (b / 8)).map (nth (w ^^^ 2 ^ b)) = (List.range (b / 8)).map (nth w) := by
    apply List.map_congr_left
    intro i h1
    have : i < b / 8 := List.mem_range.1 h1
    rw [nth_xor, nth_bit_other (by omega), Nat.xor_zero]
  have e2 : ((List.range (7 - b / 8)).map fun j => nth (w ^^^ 2 ^ b) (b / 8 + 1 + j)) = ((List.range (7 - b / 8)).map fun j => nth w (b / 8 + 1 + j)) := by
    apply List.map_congr_left
    intro i h1
    rw [nth_xor, nth_bit_other (by omega), Nat.xor_zero]
  rw [e1, e2] at h
  simp only [List.append_assoc, List.cons_append] at h
  rw [← List.append_assoc, ← List.append_assoc] at h
  have lt1 : ∀ (f : Nat → Nat) (n : Nat), ∀ c ∈ (List.range n).map (fun j => nth w (f j)), c < 256 := by
    intro f n c hc
    obtain ⟨j, _, rfl⟩ := List.mem_map.1 hc
    exact nth_lt _ _
  have h1 := bsum_one (p := p.flatMap wbytes ++ (List.range (b / 8)).map (nth w)) (s := ((List.range (7 - b / 8)).map fun j => nth w (b / 8 + 1 + j)) ++ s.flatMap wbytes) ?_ ?_ (nth_lt _ _) (nth_lt _ _) h
  · rw [nth_xor] at h1
    have h2 : nth w (b / 8) ^^^ nth (2 ^ b) (b / 8) = nth w (b / 8) ^^^ 0 := by rw [h1, Nat.xor_zero]
    exact nth_bit_same b (xor_inj_left h2)
  · intro c hc
    rcases List.mem_append.1 hc with hc | hc
    · exact flat_lt p c hc
    · exact lt1 (fun j => j) _ c hc
  · intro c hc
    rcases List.mem_append.1 hc with hc | hc
    · exact lt1 (fun j => b / 8 + 1 + j) _ c hc
    · exact flat_lt s c hc

/-! Marks. -/
theorem mark_open {k n : Nat} (hk : k < 256) (hn : n < 16777216) (l : List Nat) : mark k n l / 72057594037927936 = k ∧ mark k n l / 4294967296 % 16777216 = n ∧ mark k n l % 4294967296 = wsum (k :: n :: l) ∧ mark k n l < 18446744073709551616 := by
  have h := wsum_lt (k :: n :: l)
  unfold mark
  omega

end Go.Proofs.Ytmeoiennniknlaa.Sums

namespace Go.Proofs.Ytmeoiennniknlaa.Sums
open Go.RowKit Go.Proofs.YtmeoiennniknlaaW.PrintWords

theorem u32_step (m : Nat) (hm : m < 4294967296) :
    bits .xor .u32 ((m : Int) / 2) (2197175160 * bits .and .u32 (m : Int) 1 % 4294967296) = ((stp m : Nat) : Int) := by
  have ha : bits .and .u32 (m : Int) 1 = (m : Int) % 2 := by
    have := u32_and_nat m 1 hm (by omega)
    rw [Nat.and_one_is_mod] at this
    simpa using this
  rw [ha]
  unfold stp
  rcases Nat.mod_two_eq_zero_or_one m with h | h
  · have e : ((m : Int) % 2) = 0 := by omega
    rw [e, h]
    simp only [Int.mul_zero, Int.zero_emod, Nat.zero_ne_one, if_false]
    have := u32_xor_nat (m / 2) 0 (by omega) (by omega)
    simpa using this
  · have e : ((m : Int) % 2) = 1 := by omega
    rw [e, h]
    have := u32_xor_nat (m / 2) 2197175160 (by omega) (by omega)
    simpa using this

def Tab (A : Array Value) (k : Nat) : Prop := A.size = 256 ∧ ∀ i, i < 256 → A[i]? = some (.int .u32 (if i < k then ((tab i : Nat) : Int) else 0))
theorem tab_set {A : Array Value} {k : Nat} (h : Tab A k) (_hk : k < 256) : Tab (A.setIfInBounds k (.int .u32 ((tab k : Nat) : Int))) (k + 1) := by
  refine ⟨by simp [h.1], fun i hi => ?_⟩
  rw [Array.getElem?_setIfInBounds]
  by_cases e : k = i
  · subst e; simp [h.1, hi]
  · rw [if_neg e, h.2 i hi]
    by_cases h2 : i < k
    · simp [h2, Nat.lt_succ_of_lt h2]
    · have : ¬ i < k + 1 := by omega
      simp [h2, this]

set_option maxRecDepth 100000 in
theorem tab0 : Tab Try.zeroCells142 0 := by
  refine ⟨by kernel_rfl, fun i hi => ?_⟩
  have h : ∀ i : Fin 256, Try.zeroCells142[i.1]? = some (.int .u32 0) := by
    intro i
    have h2 : Try.zeroCells142 = Array.replicate 256 (.int .u32 0) := by kernel_rfl
    rw [h2]; simp
  simpa using h ⟨i, hi⟩

set_option maxRecDepth 100000 in
set_option maxHeartbeats 400000 in
theorem made_any (w : World) :
    Calls Try.prog 98 #[] w fun e w' => e = .returned (.pointer (some ⟨w.heap.size, 0, none⟩)) ∧ ∃ A, Tab A 256 ∧ w' = w.alloc (.cells A 142) := by
  go_enter Try.func98, Try.ntmps98
  go_wp2
  go_loopw [4] (fun i wr => ∃ k : Nat, k ≤ 256 ∧ i = .int .i64 k ∧ ∃ A, Tab A k ∧ wr = w.alloc (.cells A 142)) (fun i _ => 256 - (intOf i).toNat)
  case atStart => exact ⟨0, by omega, rfl, _, tab0, rfl⟩
  case round =>
    obtain ⟨k, hk, rfl, A, hA, hW⟩ := hrel
    by_cases hlt : k < 256
    · have hc : wr.cell? ⟨w.heap.size, k, none⟩ = some (.int .u32 0) := by rw [hW, World.cell?_alloc_new, hA.2 k hlt]; simp
      have hf : wr.frozen? ⟨w.heap.size, k, none⟩ = false := by rw [hW]; exact World.frozen?_alloc_new _ _ _ _
      have HW := Lib.hid hW
      have HA := Lib.hid hA
      clear hW hA
      go_wp2
      go_loop [3, 9] (fun x i => ∃ j : Nat, j ≤ 8 ∧ i = .int .i64 j ∧ x = .int .u32 ((iter j k : Nat) : Int)) (fun _ i => 8 - (intOf i).toNat)
      case atStart => exact ⟨0, by omega, rfl, rfl⟩
      case round =>
        obtain ⟨j, hj, rfl, rfl⟩ := hrel
        by_cases hj8 : j < 8
        · have hb : iter j k < 4294967296 := iter_lt (by omega) j
          obtain ⟨m, hm⟩ : ∃ m, m = iter j k := ⟨_, rfl⟩
          have hm' : iter (j + 1) k = stp m := by rw [hm]; rfl
          rw [← hm] at hb ⊢
          have Hm := Lib.hid hm'
          clear hm hm'
          go_wp2
          go_round
          case rel => exact ⟨j + 1, by omega, by go_num, by rw [Hm.out, ← u32_step m hb]⟩
          case measure => simp [intOf]; omega
        · obtain rfl : j = 8 := by omega
          obtain ⟨m, hm⟩ : ∃ m, m = iter 8 k := ⟨_, rfl⟩
          rw [← hm]
          have Hm := Lib.hid hm
          clear hm
          go_wp2
          go_roundw
          case rel => exact ⟨k + 1, by omega, by go_num, _, tab_set HA.out hlt, by rw [HW.out, Hm.out]; exact World.setCell_alloc_new ..⟩
          case measure => simp [intOf]; omega
    · obtain rfl : k = 256 := by omega
      go_wp2
      go_ret
      exact ⟨rfl, A, hA, rfl⟩
end Go.Proofs.Ytmeoiennniknlaa.Sums

namespace Go.Proofs.Ytmeoiennniknlaa.Sums
open Go.RowKit Go.Shelf Go.Proofs.YtmeoiennniknlaaW.PrintWords Go.Proofs.Ytmeoiennniknlaa.Lb
attribute [local go_sem] Oper.semAt_some

abbrev Byt := Fin 256
def ib (xs : List Byt) : List Int := il (xs.map (·.val))
theorem rd_ib (xs : List Byt) (k : Nat) (h : k < xs.length) : rd (ib xs) (k : Int) = ((xs[k].val : Nat) : Int) := by
  unfold ib; rw [rd_il _ _ (by simpa using h)]; simp
theorem take_snoc' {α : Type} (xs : List α) (k : Nat) (h : k < xs.length) : xs.take (k + 1) = xs.take k ++ [xs[k]] := List.take_succ_eq_append_getElem h

set_option maxRecDepth 100000 in
set_option maxHeartbeats 400000 in
theorem bytes1_in (n : Nat) (hn : 1 ≤ n) (l Bs : Nat) (w0 : World) (A : Option Addr) (c : Nat) (xs : List Byt) (hreach : xs.length ≤ 140737488351232) (hC : (Kd.int .u8).C w0 A xs.length (ib xs)) (J Jx : List Byt → World → Prop)
    (hY : ∀ pre (x : Byt) W, J pre W → pre.length < xs.length → YieldAt Fence.wide (n - 1) Try.prog l #[.int .u8 ((x.val : Nat) : Int)] W fun e W' =>
      (e = .returned (.bool true) ∧ J (pre ++ [x]) W' ∧ Below w0.heap.size W W') ∨ (e = .returned (.bool false) ∧ Jx (pre ++ [x]) W'))
    (W : World) (hB : Below w0.heap.size w0 W) (hBs : W.cell? ⟨Bs, 0, none⟩ = some (.slice A xs.length c)) (h0 : J [] W) :
    CallsIn Fence.wide n Try.prog 70 #[.func (.yield l) #[] #[], .pointer (some ⟨Bs, 0, none⟩)] W fun e W' => (∃ v, e = .returned v) ∧
      ((∃ ys, ys = xs ∧ J ys W') ∨ (∃ pre, pre <+: xs ∧ Jx pre W')) := by
  refine callsIn_of_wp Try.func70 rfl trivial ?_ rfl
  simp only [Try.ntmps70, List.size_toArray, List.length_cons, List.length_nil, Nat.reduceAdd, Nat.reduceSub, Array.replicate_succ, Array.replicate_zero, List.push_toArray, List.append_toArray, List.nil_append, List.cons_append]
  have HC := Lib.hid hC
  clear hC
  gi_wp2
  gi_loopw [7] (fun i wr => ∃ k : Nat, k ≤ xs.length ∧ i = .int .i64 k ∧ J (xs.take k) wr ∧ Below w0.heap.size w0 wr)
    (fun i _ => xs.length - (intOf i).toNat)
  case atStart => exact ⟨0, Nat.zero_le _, rfl, h0, hB⟩
  case round =>
    obtain ⟨k, hk, rfl, hJs, hnx⟩ := hrel
    by_cases hlt : k < xs.length
    · obtain ⟨ad, e, hc⟩ := Kd.at_int (Kd.C_below HC.out hnx) (k : Int) (by omega) (by omega)
      rw [rd_ib xs k hlt] at hc
      simp only [Int.toNat_natCast] at hc
      cases e
      obtain ⟨fn, tmps, assign, body, hy, hR⟩ := hY _ xs[k] wr hJs (by simp; omega)
      obtain ⟨x, hx⟩ : ∃ x, x = xs[k] := ⟨_, rfl⟩
      rw [← hx] at hc hy hR
      have Hx := Lib.hid hx
      clear hx
      gi_wp2
      refine hR.mono ?_
      rintro e W3 (⟨rfl, hJ3, hk3⟩ | ⟨rfl, hJx3⟩)
      · gi_wp2
        go_roundw
        case rel => exact ⟨k + 1, by omega, by simp, by rw [take_snoc' xs k hlt, ← Hx.out]; exact hJ3, hnx.trans hk3⟩
        case measure => simp [intOf]; omega
      · gi_wp2
        refine bodyPost_ret (results_none rfl _ _ _) rfl ?_
        exact ⟨⟨_, rfl⟩, .inr ⟨_, by rw [Hx.out, ← take_snoc' xs k hlt]; exact List.take_prefix _ _, hJx3⟩⟩
    · obtain rfl : k = xs.length := by omega
      gi_wp2
      go_end0
      exact ⟨⟨_, rfl⟩, .inl ⟨_, rfl, by rwa [List.take_length] at hJs⟩⟩

/-- A word's j-th byte. -/
def wb1 (w j : Nat) : Byt := ⟨nth w j, nth_lt w j⟩
def wb (w : Nat) : List Byt := (List.range 8).map (wb1 w)
theorem wb_length (w : Nat) : (wb w).length = 8 := by simp [wb]
theorem wb_vals (w : Nat) : (wb w).map (·.val) = wbytes w := by rw [wbytes_eq]; simp [wb, wb1]
def wbs (ws : List Nat) : List Byt := ws.flatMap wb
theorem wbs_vals (ws : List Nat) : (wbs ws).map (·.val) = ws.flatMap wbytes := by
  simp only [wbs, List.map_flatMap, wb_vals]
theorem wbs_length (ws : List Nat) : (wbs ws).length = 8 * ws.length := by
  induction ws with
  | nil => rfl
  | cons w ws ih => simp only [wbs, List.flatMap_cons, List.length_append, wb_length, List.length_cons] at ih ⊢; omega
theorem getD_at (ws : List Nat) (k : Nat) (h : k < ws.length) : ws.getD k 0 = ws[k] := by simp [List.getD_eq_getElem?_getD, h]
def part (ws : List Nat) (k j : Nat) : List Byt := wbs (ws.take k) ++ (wb (ws.getD k 0)).take j
theorem part_byte (ws : List Nat) (k j : Nat) (hj : j < 8) : part ws k (j + 1) = part ws k j ++ [wb1 (ws.getD k 0) j] := by
  unfold part
  rw [List.append_assoc, take_snoc' _ j (by rw [wb_length]; exact hj)]
  simp [wb]
theorem part_word (ws : List Nat) (k : Nat) (h : k < ws.length) : part ws k 8 = part ws (k + 1) 0 := by
  unfold part
  have e1 : (wb (ws.getD k 0)).take 8 = wb (ws.getD k 0) := List.take_of_length_le (by rw [wb_length]; omega)
  rw [e1, take_snoc' ws k h, getD_at ws k h]
  simp only [wbs, List.flatMap_append, List.flatMap_cons, List.flatMap_nil, List.append_nil, List.take_zero]
theorem part_length (ws : List Nat) (k j : Nat) (hk : k ≤ ws.length) (hj : j ≤ 8) : (part ws k j).length = 8 * k + j := by
  unfold part
  rw [List.length_append, wbs_length, List.length_take, List.length_take, wb_length]
  omega
theorem part_prefix (ws : List Nat) (k j : Nat) (h : k < ws.length) : part ws k j <+: wbs ws := by
  unfold part
  have e : wbs ws = wbs (ws.take k) ++ (wb (ws.getD k 0) ++ wbs (ws.drop (k + 1))) := by
    conv => lhs; rw [← List.take_append_drop k ws, List.drop_eq_getElem_cons h]
    rw [getD_at ws k h]
    simp only [wbs, List.flatMap_append, List.flatMap_cons]
  rw [e]
  exact (List.prefix_append_right_inj _).2 ((List.take_prefix _ _).trans (List.prefix_append _ _))
theorem wb1_val (w j : Nat) (_hj : j < 8) : (w : Int) / 2 ^ (8 * j) % 256 = (((wb1 w j).val : Nat) : Int) := by
  show _ = ((nth w j : Nat) : Int)
  unfold nth
  rw [show (256 : Nat) ^ j = 2 ^ (8 * j) by rw [Nat.pow_mul]]
  rw [Int.natCast_emod, Int.natCast_ediv, Int.natCast_pow]
  rfl

set_option maxRecDepth 100000 in
set_option maxHeartbeats 400000 in
theorem of1_in (n : Nat) (hn : 1 ≤ n) (l Bs : Nat) (w0 : World) (A : Option Addr) (c : Nat) (ws : List Nat) (hreach : ws.length * 8 ≤ 140737488351232) (hC : (Kd.int .u64).C w0 A ws.length (il ws)) (J Jx : List Byt → World → Prop)
    (hY : ∀ pre (x : Byt) W, J pre W → pre.length < 8 * ws.length → YieldAt Fence.wide (n - 1) Try.prog l #[.int .u8 ((x.val : Nat) : Int)] W fun e W' =>
      (e = .returned (.bool true) ∧ J (pre ++ [x]) W' ∧ Below w0.heap.size W W') ∨ (e = .returned (.bool false) ∧ Jx (pre ++ [x]) W'))
    (W : World) (hB : Below w0.heap.size w0 W) (hBs : W.cell? ⟨Bs, 0, none⟩ = some (.slice A ws.length c)) (h0 : J [] W) :
    CallsIn Fence.wide n Try.prog 71 #[.func (.yield l) #[] #[], .pointer (some ⟨Bs, 0, none⟩)] W fun e W' => (∃ v, e = .returned v) ∧
      ((∃ ys, ys = wbs ws ∧ J ys W') ∨ (∃ pre, pre <+: wbs ws ∧ Jx pre W')) := by
  refine callsIn_of_wp Try.func71 rfl trivial ?_ rfl
  simp only [Try.ntmps71, List.size_toArray, List.length_cons, List.length_nil, Nat.reduceAdd, Nat.reduceSub, Array.replicate_succ, Array.replicate_zero, List.push_toArray, List.append_toArray, List.nil_append, List.cons_append]
  have HC := Lib.hid hC
  clear hC
  gi_wp2
  gi_loopw [8] (fun i wr => ∃ k : Nat, k ≤ ws.length ∧ i = .int .i64 k ∧ J (part ws k 0) wr ∧ Below w0.heap.size w0 wr)
    (fun i _ => ws.length - (intOf i).toNat)
  case atStart => exact ⟨0, Nat.zero_le _, rfl, h0, hB⟩
  case round =>
    obtain ⟨k, hk, rfl, hJs, hnx⟩ := hrel
    by_cases hlt : k < ws.length
    · obtain ⟨ad, e, hc⟩ := Kd.at_int (Kd.C_below HC.out hnx) (k : Int) (by omega) (by omega)
      rw [rd_il ws k hlt] at hc
      simp only [Int.toNat_natCast] at hc
      cases e
      obtain ⟨wd, hwd⟩ : ∃ wd, wd = ws[k] := ⟨_, rfl⟩
      rw [← hwd] at hc
      have Hwd := Lib.hid (show ws.getD k 0 = wd by rw [hwd]; exact getD_at ws k hlt)
      clear hwd
      obtain ⟨wo, rfl⟩ : ∃ wo : World, wo = wr := ⟨_, rfl⟩
      gi_wp2
      gi_loopw [5] (fun i wr => ∃ j : Nat, j ≤ 8 ∧ i = .int .i64 ((8 * j : Nat) : Int) ∧ J (part ws k j) wr ∧ Below w0.heap.size w0 wr)
        (fun i _ => 64 - (intOf i).toNat)
      case atStart => exact ⟨0, Nat.zero_le _, rfl, hJs, hnx⟩
      case round =>
        obtain ⟨j, hj, rfl, hJ2, hnx2⟩ := hrel
        by_cases hj8 : j < 8
        · obtain ⟨fn, tmps, assign, body, hy, hR⟩ := hY _ (wb1 (ws.getD k 0) j) wr hJ2 (by rw [part_length ws k j hk hj]; omega)
          rw [Hwd.out] at hy hR
          have hval := wb1_val wd j hj8
          obtain ⟨x, hx⟩ : ∃ x, x = wb1 wd j := ⟨_, rfl⟩
          rw [← hx] at hval hy hR
          have Hx := Lib.hid (show part ws k (j + 1) = part ws k j ++ [x] by rw [hx, ← Hwd.out]; exact part_byte ws k j hj8)
          clear hx
          gi_wp2
          refine hR.mono ?_
          rintro e W3 (⟨rfl, hJ3, hk3⟩ | ⟨rfl, hJx3⟩)
          · gi_wp2
            go_roundw
            case rel => exact ⟨j + 1, by omega, by go_num, by rw [Hx.out]; exact hJ3, hnx2.trans hk3⟩
            case measure => simp [intOf]; omega
          · gi_wp2
            refine bodyPost_ret (results_none rfl _ _ _) rfl ?_
            exact ⟨⟨_, rfl⟩, .inr ⟨_, by rw [← Hx.out]; exact part_prefix _ _ _ hlt, hJx3⟩⟩
        · obtain rfl : j = 8 := by omega
          gi_wp2
          go_roundw
          case rel => exact ⟨k + 1, by omega, by simp, by rw [← part_word ws k hlt]; exact hJ2, hnx2⟩
          case measure => simp [intOf]; omega
    · obtain rfl : k = ws.length := by omega
      gi_wp2
      go_end0
      exact ⟨⟨_, rfl⟩, .inl ⟨_, rfl, by simpa [part, List.take_length] using hJs⟩⟩
end Go.Proofs.Ytmeoiennniknlaa.Sums

namespace Go.Proofs.Ytmeoiennniknlaa.Sums
open Go.RowKit Go.Shelf Go.Proofs.YtmeoiennniknlaaW.PrintWords Go.Proofs.Ytmeoiennniknlaa.Lb
attribute [local go_sem] Oper.semAt_some

def vals (xs : List Byt) : List Nat := xs.map (·.val)
theorem vals_lt (xs : List Byt) : ∀ c ∈ vals xs, c < 256 := by
  intro c hc
  obtain ⟨x, _, rfl⟩ := List.mem_map.1 hc
  exact x.isLt
def cur (xs : List Byt) : Nat := crc 4294967295 (vals xs)
theorem cur_lt (xs : List Byt) : cur xs < 4294967296 := crc_lt _ (by omega) (vals_lt xs)
theorem cur_snoc (xs : List Byt) (x : Byt) : cur (xs ++ [x]) = byt (cur xs) x.val := by
  simp [cur, vals, crc_append, crc_cons]
  rfl

/-- What lies in the fold's own memory. -/
def FoldI (b : Nat) (pre : List Byt) (W : World) : Prop :=
  (∃ A, Tab A 256 ∧ W.heap[b]? = some (.cells A 142)) ∧ W.cell? ⟨b + 1, 0, none⟩ = some (.pointer (some ⟨b, 0, none⟩)) ∧
    W.cell? ⟨b + 1 + 1, 0, none⟩ = some (.int .u32 ((cur pre : Nat) : Int)) ∧ W.frozen? ⟨b + 1 + 1, 0, none⟩ = false
theorem FoldI.entry {b : Nat} {pre : List Byt} {W : World} (h : FoldI b pre W) (i : Nat) (hi : i < 256) : W.cell? ⟨b, i, none⟩ = some (.int .u32 ((tab i : Nat) : Int)) := by
  obtain ⟨⟨A, hA, hh⟩, _⟩ := h
  simp [World.cell?, hh, hA.2 i hi, hi]
theorem FoldI.step {b : Nat} {pre : List Byt} {W : World} (h : FoldI b pre W) (x : Byt) {y : Nat} (hy : y = byt (cur pre) x.val) : FoldI b (pre ++ [x]) (W.setCell ⟨b + 1 + 1, 0, none⟩ (.int .u32 (y : Int))).drew := by
  obtain ⟨⟨A, hA, hh⟩, h1, h2, h3⟩ := h
  refine ⟨⟨A, hA, ?_⟩, ?_, ?_, ?_⟩
  · rw [← hh]; exact Below.heap_setCell W ⟨b + 1 + 1, 0, none⟩ _ b (show b ≠ b + 1 + 1 by omega)
  · rw [← h1]; exact World.cell?_setCell_other W ⟨b + 1 + 1, 0, none⟩ ⟨b + 1, 0, none⟩ _ (by simp)
  · rw [cur_snoc, ← hy]; exact World.cell?_setCell_same' _ _ _ (by rw [h2]; rfl)
  · rw [← h3]; exact World.frozen?_setCell _ _ _ _
theorem FoldI.own (b : Nat) : Own (FoldI b) := by
  intro s W W' row hs hg hr
  obtain ⟨⟨A, hA, hh⟩, h1, h2, h3⟩ := hs
  refine ⟨⟨A, hA, ?_⟩, cell_kept h1 hg hr, cell_kept h2 hg hr, (frozen_kept h2 hg hr).trans h3⟩
  rw [hg.block b (Array.getElem?_eq_some_iff.1 hh).1 ?_]
  · exact hh
  · intro e
    obtain ⟨o, ho, hc⟩ := hr b e.symm
    rw [hh] at ho
    cases ho
    simp [Obj.isCells] at hc

set_option maxRecDepth 100000 in
set_option maxHeartbeats 1000000 in
theorem fold_in (n : Nat) (hn : 3 ≤ n) (gf : Nat) (lb : Array Value) (eg : ∀ args w, (callFunc gf args).run Try.prog w = .ok (.enter gf args) w) (xs : List Byt) (N : Nat) (w : World)
    (hseq : SeqStopsK Fence.wide (n - 1) Try.prog gf lb (fun x : Byt => #[.int .u8 ((x.val : Nat) : Int)]) (Below w.heap.size) (fun ys => ys = xs) (fun _ => True) N w) :
    CallsIn Fence.wide n Try.prog 69 #[.func (.func gf) #[] lb] w fun e w' => e = .returned (.int .u32 ((bsum (vals xs) : Nat) : Int)) ∧ Below w.heap.size w w' := by
  have h1 : 1 ≤ n := by omega
  refine callsIn_of_wp_marks Try.func69 rfl trivial ?_ rfl
  simp only [Try.ntmps69, List.size_toArray, List.length_cons, List.length_nil, Nat.reduceAdd, Nat.reduceSub, Array.replicate_succ, Array.replicate_zero, List.push_toArray, List.append_toArray, List.nil_append, List.cons_append]
  gi_wp2_with (first | (refine ⟨trivial, ?_⟩; gi_at_call 98; refine (callsIn_wide.2 (made_any w)).mono ?_; rintro e w' ⟨rfl, A, hA, rfl⟩) | (gi_at_call 98; refine (callsIn_wide.2 (made_any w)).mono ?_; rintro e w' ⟨rfl, A, hA, rfl⟩))
  obtain ⟨W3, hW3⟩ : ∃ W3, W3 = ((w.alloc (.cells A 142)).alloc (.cells #[.pointer (some ⟨w.heap.size, 0, none⟩)] 134)).alloc (.cells #[.int .u32 4294967295] 25) := ⟨_, rfl⟩
  have hB0 : Below w.heap.size w W3 := by
    rw [hW3]
    exact (((Below.refl _ w).alloc (Nat.le_refl _) _).alloc (by simp) _).alloc (by simp; omega) _
  have hsz : W3.heap.size = w.heap.size + 3 := by rw [hW3]; simp
  have hI0 : FoldI w.heap.size [] W3 := by
    rw [hW3]
    refine ⟨⟨A, hA, ?_⟩, ?_, ?_, ?_⟩
    · rw [Below.heap_alloc _ _ _ (by simp; omega), Below.heap_alloc _ _ _ (by simp)]; exact World.alloc_heap_new _ _
    · simp [go_sem]
    · simp [go_sem, cur, vals, crc]
    · simp [go_sem]
  rw [← hW3]
  clear hW3
  refine wpIn_rangeFunc_ownF (F := Fence.wide) rfl h1 (gf := gf) (lb := lb) rfl trivial eg hseq belowK_t (belowK_b (w := W3) (by omega)) hB0 (fun _ => rfl)
    (fun pre W => FoldI w.heap.size pre W ∧ Below w.heap.size w W)
    (fun _ _ _ => False)
    (OwnFrom.and (Own.from (FoldI.own _) _) (ownFrom_below (Nat.le_refl _) (by omega)))
    (fun _ _ _ _ _ hs _ _ => hs)
    ⟨hI0, hB0⟩
    (fun x => { tmps := #[.func (.func gf) #[] lb, undef, .int .u32 0, .pointer (some ⟨w.heap.size + 1, 0, none⟩), .pointer (some ⟨w.heap.size + 1 + 1, 0, none⟩), .int .u8 ((x.val : Nat) : Int), .pointer (some ⟨w.heap.size, 0, none⟩), .func (.func gf) #[] lb, .int .u8 ((x.val : Nat) : Int), undef, undef, undef, undef, undef, undef, undef, undef, undef, undef, undef, undef, undef], defers := [] }) ?assign ?body ?done ?stop
  case assign =>
    intro l x W K hK
    gi_wp2
    exact hK
  case body =>
    rintro l pre x W ⟨hI, hB⟩ _
    obtain ⟨m, hm⟩ : ∃ m, m = cur pre := ⟨_, rfl⟩
    have hml : m < 4294967296 := by rw [hm]; exact cur_lt pre
    have hxl := x.isLt
    obtain ⟨c, hcx⟩ : ∃ c : Nat, c = x.val := ⟨_, rfl⟩
    rw [← hcx] at hxl
    obtain ⟨j, hj⟩ : ∃ j, j = (m % 256) ^^^ c := ⟨_, rfl⟩
    have hjl : j < 256 := by rw [hj]; exact Nat.xor_lt_two_pow (n := 8) (by omega) hxl
    have hx8 : bits .xor .u8 ((m : Int) % 256) (c : Int) = (j : Int) := by
      rw [hj]; exact u8_xor_nat (m % 256) c (by omega) hxl
    have hce := hI.entry j hjl
    obtain ⟨T, hT⟩ : ∃ T, T = tab j := ⟨_, rfl⟩
    rw [← hT] at hce
    have hTl : T < 4294967296 := by rw [hT]; exact tab_lt hjl
    have hx32 : bits .xor .u32 (T : Int) ((m : Int) / 256) = ((byt m c : Nat) : Int) := by
      rw [← byt_tab hxl, ← hj, ← hT]
      exact u32_xor_nat T (m / 256) hTl (by omega)
    obtain ⟨_, hc1, hc2, hf2⟩ := id hI
    rw [← hm] at hc2
    obtain ⟨y, hy⟩ : ∃ y, y = byt m c := ⟨_, rfl⟩
    rw [← hy] at hx32
    have HI := Lib.hid hI
    have Hy := Lib.hid hy
    have Hm := Lib.hid hm
    have HT := Lib.hid hT
    have Hj := Lib.hid hj
    have Hc := Lib.hid hcx
    rw [← hcx]
    clear hI hy hm hT hj hcx
    have hx8w : bits .xor .u8 (IntKind.u8.wrap (m : Int)) (c : Int) = (j : Int) := by rw [IntKind.wrap_u8]; exact hx8
    have hji : (j : Int) < 256 := by omega
    have hmix : Try.prog.follows .mixedOrders = true := by kernel_rfl
    gi_wp2
    refine StillIn.wpIn_region_still_tail (StillIn.wideRound l) 11 hmix (by kernel_rfl) ?_
    simp only [List.take_succ_cons, List.take_zero, List.drop_succ_cons, List.drop_zero]
    repeat still_step
    refine wpStill_nil ?_
    gi_wp2
    have hst := HI.out.step x (y := y) (by rw [Hy.out, Hm.out, Hc.out])
    exact ⟨(KeepsOthers.setCell _ _ _).trans (KeepsOthers.drew _), ((Below.refl w.heap.size W).setCell (p := ⟨w.heap.size + 1 + 1, 0, none⟩) (by simp; omega) _).drew, hst, (hB.setCell (p := ⟨w.heap.size + 1 + 1, 0, none⟩) (by simp; omega) _).drew⟩
  case done =>
    rintro D ys W hD rfl ⟨hI, hB⟩ hK
    have hc2 := hI.2.2.1
    obtain ⟨m, hm⟩ : ∃ m, m = cur ys := ⟨_, rfl⟩
    have hml : m < 4294967296 := by rw [hm]; exact cur_lt ys
    have hbs : bits .xor .u32 (IntKind.u32.max) (m : Int) = ((bsum (vals ys) : Nat) : Int) := by
      have h := u32_xor_nat 4294967295 m (by omega) hml
      rw [Nat.xor_comm] at h
      rw [hm] at h ⊢
      exact h
    rw [← hm] at hc2
    have Hbs := Lib.hid hbs
    have Hm := Lib.hid hm
    clear hm hbs hI
    gi_wp2
    refine ⟨by simp, .inl ⟨_, _, rfl, run_takeDeferred hK, ?_⟩⟩
    exact ⟨_, results_tmp (t := 2) rfl _ _ _, congrArg (fun q => Ending.returned (.int .u32 q)) Hbs.out, hB.trans (belowK_b (w := W3) (by omega) W D _ _ (by omega) hK rfl rfl)⟩
  case stop =>
    rintro D c pre W _ _ h _
    exact h.elim
end Go.Proofs.Ytmeoiennniknlaa.Sums

namespace Go.Proofs.Ytmeoiennniknlaa.Sums
open Go.RowKit Go.Shelf Go.Proofs.YtmeoiennniknlaaW.PrintWords Go.Proofs.Ytmeoiennniknlaa.Lb

theorem bytes_stops (w : World) (A : Option Addr) (c : Nat) (xs : List Byt) (hreach : xs.length ≤ 140737488351232) (hC : (Kd.int .u8).C w A xs.length (ib xs)) (t : Nat) :
    SeqStopsK Fence.wide 2 Try.prog 70 #[.pointer (some ⟨w.heap.size, 0, none⟩)] (fun x : Byt => #[.int .u8 ((x.val : Nat) : Int)]) (Below (w.alloc (.cells #[.slice A xs.length c] t)).heap.size) (fun ys => ys = xs) (fun _ => True) xs.length (w.alloc (.cells #[.slice A xs.length c] t)) := by
  intro l J Jx W hW _ _ hY h0
  have hB0 : Below w.heap.size w (w.alloc (.cells #[.slice A xs.length c] t)) := (Below.refl _ w).alloc (Nat.le_refl _) _
  have hcell : W.cell? ⟨w.heap.size, 0, none⟩ = some (.slice A xs.length c) := by
    rw [hW.cell (p := ⟨w.heap.size, 0, none⟩) (by simp)]
    simp [go_sem]
  refine (bytes1_in 2 (by omega) l w.heap.size (w.alloc (.cells #[.slice A xs.length c] t)) A c xs hreach (Kd.C_below hC hB0) J Jx hY W hW hcell h0).mono ?_
  rintro e W' ⟨hv, h⟩
  exact ⟨hv, h.imp id (fun ⟨p, _, hp⟩ => ⟨p, trivial, hp⟩)⟩

theorem of_stops (w : World) (A : Option Addr) (c : Nat) (ws : List Nat) (hreach : ws.length * 8 ≤ 140737488351232) (hC : (Kd.int .u64).C w A ws.length (il ws)) (t : Nat) :
    SeqStopsK Fence.wide 2 Try.prog 71 #[.pointer (some ⟨w.heap.size, 0, none⟩)] (fun x : Byt => #[.int .u8 ((x.val : Nat) : Int)]) (Below (w.alloc (.cells #[.slice A ws.length c] t)).heap.size) (fun ys => ys = wbs ws) (fun _ => True) (8 * ws.length) (w.alloc (.cells #[.slice A ws.length c] t)) := by
  intro l J Jx W hW _ _ hY h0
  have hB0 : Below w.heap.size w (w.alloc (.cells #[.slice A ws.length c] t)) := (Below.refl _ w).alloc (Nat.le_refl _) _
  have hcell : W.cell? ⟨w.heap.size, 0, none⟩ = some (.slice A ws.length c) := by
    rw [hW.cell (p := ⟨w.heap.size, 0, none⟩) (by simp)]
    simp [go_sem]
  refine (of1_in 2 (by omega) l w.heap.size (w.alloc (.cells #[.slice A ws.length c] t)) A c ws hreach (Kd.C_below hC hB0) J Jx hY W hW hcell h0).mono ?_
  rintro e W' ⟨hv, h⟩
  exact ⟨hv, h.imp id (fun ⟨p, _, hp⟩ => ⟨p, trivial, hp⟩)⟩

set_option maxRecDepth 100000 in
set_option maxHeartbeats 400000 in
theorem bytes_any (w : World) (A : Option Addr) (c : Nat) (xs : List Byt) (hreach : xs.length ≤ 140737488351232) (hC : (Kd.int .u8).C w A xs.length (ib xs)) :
    Calls Try.prog 17 #[.slice A xs.length c] w fun e w' => e = .returned (.int .u32 ((bsum (vals xs) : Nat) : Int)) ∧ Below w.heap.size w w' := by
  have hs := bytes_stops w A c xs hreach hC 22
  have HS := Lib.hid hs
  clear hs hC
  go_enter Try.func17, Try.ntmps17
  go_wp2_with (go_at_call 69; refine (callsIn_wide.1 (fold_in 3 (by omega) 70 _ (enters_of Try.func70 (by kernel_rfl) rfl) xs _ _ HS.out)).mono ?_; rintro e w' ⟨rfl, hb⟩)
  go_ret
  exact ⟨rfl, ((Below.refl _ w).alloc (Nat.le_refl _) _).trans (hb.mono (by simp))⟩

set_option maxRecDepth 100000 in
set_option maxHeartbeats 400000 in
theorem of_any' (w : World) (A : Option Addr) (c : Nat) (ws : List Nat) (hreach : ws.length * 8 ≤ 140737488351232) (hC : (Kd.int .u64).C w A ws.length (il ws)) :
    Calls Try.prog 19 #[.slice A ws.length c] w fun e w' => e = .returned (.int .u32 ((bsum (vals (wbs ws)) : Nat) : Int)) ∧ Below w.heap.size w w' := by
  have hs := of_stops w A c ws hreach hC 23
  have HS := Lib.hid hs
  clear hs hC
  go_enter Try.func19, Try.ntmps19
  go_wp2_with (go_at_call 69; refine (callsIn_wide.1 (fold_in 3 (by omega) 71 _ (enters_of Try.func71 (by kernel_rfl) rfl) (wbs ws) _ _ HS.out)).mono ?_; rintro e w' ⟨rfl, hb⟩)
  go_ret
  exact ⟨rfl, ((Below.refl _ w).alloc (Nat.le_refl _) _).trans (hb.mono (by simp))⟩
theorem of_any (w : World) (A : Option Addr) (c : Nat) (ws : List Nat) (hreach : ws.length * 8 ≤ 140737488351232) (hC : (Kd.int .u64).C w A ws.length (il ws)) :
    Calls Try.prog 19 #[.slice A ws.length c] w fun e w' => e = .returned (.int .u32 ((wsum ws : Nat) : Int)) ∧ Below w.heap.size w w' := by
  have h := of_any' w A c ws hreach hC
  rw [show bsum (vals (wbs ws)) = wsum ws by unfold vals wsum; rw [wbs_vals]] at h
  exact h
end Go.Proofs.Ytmeoiennniknlaa.Sums
