/- What the reference of the sums computes, as the print has it: the same sums and marks. -/
import Derived.Test.YtmeoiennniknlaaPFramesGetx2
import Derived.Test.YtmeoiennniknlaaSumsPure
import Derived.Test.YtmeoiennniknlaaLib
namespace Go.Proofs.Ytmeoiennniknlaa.Sums
set_option linter.unusedVariables false
set_option linter.unusedSimpArgs false
open Go.RowKit Go.Proofs.YtmeoiennniknlaaW.PrintWords Go.Proofs.Ytmeoiennniknlaa.PFramesGet Go.Proofs.Ytmeoiennniknlaa.Lb

theorem iter_front (k x : Nat) : iter k (stp x) = iter (k + 1) x := by
  induction k with
  | zero => rfl
  | succ k ih => simp only [iter] at ih ⊢; rw [ih]
theorem wrap_small {i : Int} (h0 : 0 ≤ i) (h : i < 9223372036854775808) : wrap64 i = i := by unfold wrap64; omega
theorem tmod2 (m : Nat) : Int.tmod (m : Int) 2 = ((m % 2 : Nat) : Int) := by rw [Int.tmod_eq_emod_of_nonneg (by omega)]; omega
theorem tdiv2 (m : Nat) (_h : m < 4294967296) : Int.tdiv (m : Int) 2 % 4294967296 = ((m / 2 : Nat) : Int) := by rw [Int.tdiv_eq_ediv_of_nonneg (by omega)]; omega

theorem ref_bits (x0 : List Int) (i : Int) (d : Nat) : ∀ (k m j : Nat), j + d = 8 → m < 4294967296 →
    gimmalref02_Bytes.l1 (k + d + 1) x0 (m : Int) i (j : Int) = gimmalref02_Bytes.l0 k x0 ((iter d m : Nat) : Int) (wrap64 (i + 1)) := by
  induction d with
  | zero =>
    intro k m j hj _
    obtain rfl : j = 8 := by omega
    simp only [gimmalref02_Bytes.l1, Nat.add_zero]
    rw [if_neg (by omega)]
    rfl
  | succ d ih =>
    intro k m j hj hm
    have hstep := ih k (stp m) (j + 1) (by omega) (stp_lt hm)
    rw [iter_front] at hstep
    rw [← hstep, show k + (d + 1) + 1 = (k + d + 1) + 1 by omega]
    simp only [gimmalref02_Bytes.l1]
    rw [if_pos (by omega), tmod2, tdiv2 m hm, wrap_small (by omega) (by omega)]
    unfold stp
    by_cases h : m % 2 = 1
    · rw [if_pos (by omega), if_pos h]
      have := u32_xor_nat (m / 2) 2197175160 (by omega) (by omega)
      rw [show ((2197175160 : Nat) : Int) = 2197175160 from rfl] at this
      rw [this]
      rfl
    · rw [if_neg (by omega), if_neg h]
      rfl

theorem ref_bytes_from (l : List Nat) (hl : ∀ c ∈ l, c < 256) (hn : l.length ≤ 140737488355328) (d : Nat) : ∀ (k i m : Nat), i + d = l.length → m < 4294967296 →
    gimmalref02_Bytes.l0 (k + 10 * d + 1) (il l) (m : Int) (i : Int) = some (((crc m (l.drop i) ^^^ 4294967295 : Nat)) : Int) := by
  induction d with
  | zero =>
    intro k i m hi hm
    simp only [gimmalref02_Bytes.l0, Nat.mul_zero, Nat.add_zero]
    rw [il_length, if_neg (by omega), List.drop_of_length_le (by omega)]
    exact congrArg some (u32_xor_nat m 4294967295 hm (by omega))
  | succ d ih =>
    intro k i m hi hm
    have hlt : i < l.length := by omega
    have hc : l[i] < 256 := hl _ (List.getElem_mem hlt)
    rw [show k + 10 * (d + 1) + 1 = (k + 10 * d + 1 + 8 + 1) + 1 by omega]
    simp only [gimmalref02_Bytes.l0]
    rw [il_length, if_pos (by omega), if_pos (by omega), rd_il l i hlt]
    have e : ((l[i] : Nat) : Int) % 4294967296 = ((l[i] : Nat) : Int) := by omega
    rw [e, u32_xor_nat m l[i] hm (by omega)]
    have hx : m ^^^ l[i] < 4294967296 := Nat.xor_lt_two_pow (n := 32) hm (by omega)
    have h8 := ref_bits (il l) (i : Int) 8 (k + 10 * d + 1) (m ^^^ l[i]) 0 rfl hx
    rw [show ((0 : Nat) : Int) = 0 from rfl] at h8
    rw [h8, wrap_small (by omega) (by omega)]
    have h2 := ih k (i + 1) (byt m l[i]) (by omega) (byt_lt hm hc)
    rw [show ((i + 1 : Nat) : Int) = (i : Int) + 1 by omega] at h2
    rw [List.drop_eq_getElem_cons hlt, crc_cons]
    exact h2

theorem ref_bytes (l : List Nat) (hl : ∀ c ∈ l, c < 256) (hn : l.length ≤ 140737488355328) : ∃ k, gimmalref02_Bytes.f k (il l) = some ((bsum l : Nat) : Int) :=
  ⟨10 * l.length + 1, by
    have h := ref_bytes_from l hl hn l.length 0 0 4294967295 (by omega) (by omega)
    rw [Nat.zero_add] at h
    exact h⟩

theorem tmod256 (w : Nat) : Int.tmod (w : Int) 256 % 256 = ((w % 256 : Nat) : Int) := by rw [Int.tmod_eq_emod_of_nonneg (by omega)]; omega
theorem tdiv256 (w : Nat) (_h : w < 18446744073709551616) : IntKind.u64.wrap (Int.tdiv (w : Int) 256) = ((w / 256 : Nat) : Int) := by rw [IntKind.wrap_u64, Int.tdiv_eq_ediv_of_nonneg (by omega)]; omega
theorem nth_div (w j : Nat) : nth (w / 256) j = nth w (j + 1) := by
  unfold nth
  rw [Nat.div_div_eq_div_mul, Nat.pow_succ, Nat.mul_comm]
/-- Of a word, d bytes. -/
def bs (w d : Nat) : List Nat := (List.range d).map (nth w)
theorem bs_succ (w d : Nat) : bs w (d + 1) = w % 256 :: bs (w / 256) d := by
  unfold bs
  rw [List.range_succ_eq_map]
  simp only [List.map_cons, List.map_map]
  have h0 : nth w 0 = w % 256 := by simp [nth]
  rw [h0]
  congr 1
  apply List.map_congr_left
  intro j _
  exact (nth_div w j).symm
theorem bs_8 (w : Nat) : bs w 8 = wbytes w := (wbytes_eq w).symm

theorem ref_of_word (x0 : List Int) (i : Int) (d : Nat) : ∀ (k w j : Nat) (acc : List Nat), j + d = 8 → w < 18446744073709551616 → acc.length + d < 140737488355328 →
    gimmalref02_Of.l1 (k + d + 1) x0 (il acc) i (w : Int) (j : Int) = gimmalref02_Of.l0 k x0 (il (acc ++ bs w d)) (wrap64 (i + 1)) := by
  induction d with
  | zero =>
    intro k w j acc hj _ _
    obtain rfl : j = 8 := by omega
    simp only [gimmalref02_Of.l1, Nat.add_zero]
    rw [if_neg (by omega)]
    simp [bs]
  | succ d ih =>
    intro k w j acc hj hw hacc
    have hstep := ih k (w / 256) (j + 1) (acc ++ [w % 256]) (by omega) (by omega) (by simp; omega)
    rw [List.append_assoc, List.singleton_append, ← bs_succ] at hstep
    rw [← hstep, show k + (d + 1) + 1 = (k + d + 1) + 1 by omega]
    simp only [gimmalref02_Of.l1]
    rw [if_pos (by omega), if_pos (by rw [il_length]; omega), tmod256, tdiv256 w hw, wrap_small (by omega) (by omega), il_append]
    rfl

theorem ref_of_from (l : List Nat) (hl : ∀ c ∈ l, c < 18446744073709551616) (hn : l.length * 8 + 8 < 140737488355328) (r : Nat) (K : Nat) (hK : gimmalref02_Bytes.f K (il (l.flatMap wbytes)) = some (r : Int)) (d : Nat) :
    ∀ (k i : Nat), i + d = l.length → K ≤ k →
    gimmalref02_Of.l0 (k + 10 * d + 1) (il l) (il ((l.take i).flatMap wbytes)) (i : Int) = some (r : Int) := by
  have hfl : ∀ l : List Nat, (l.flatMap wbytes).length = 8 * l.length := by
    intro l
    induction l with
    | nil => rfl
    | cons w l ih => simp only [List.flatMap_cons, List.length_append, ih, List.length_cons]; simp [wbytes]; omega
  induction d with
  | zero =>
    intro k i hi hk
    simp only [gimmalref02_Of.l0, Nat.mul_zero, Nat.add_zero]
    rw [il_length, if_neg (by omega), List.take_of_length_le (by omega), at_rounds (g := fun k => gimmalref02_Bytes.f k (il (l.flatMap wbytes))) (gimmalref02_Bytes.mono _) hk hK]
    rfl
  | succ d ih =>
    intro k i hi hk
    have hlt : i < l.length := by omega
    rw [show k + 10 * (d + 1) + 1 = (k + 10 * d + 1 + 8 + 1) + 1 by omega]
    simp only [gimmalref02_Of.l0]
    rw [il_length, if_pos (by omega), if_pos (by omega), rd_il l i hlt]
    have hfl' : ((l.take i).flatMap wbytes).length ≤ 8 * l.length := by rw [hfl, List.length_take]; omega
    have h8 := ref_of_word (il l) (i : Int) 8 (k + 10 * d + 1) l[i] 0 ((l.take i).flatMap wbytes) rfl (hl _ (List.getElem_mem hlt)) (by omega)
    rw [show ((0 : Nat) : Int) = 0 from rfl] at h8
    rw [h8, wrap_small (by omega) (by omega), bs_8]
    have h2 := ih k (i + 1) (by omega) hk
    rw [show ((i + 1 : Nat) : Int) = (i : Int) + 1 by omega] at h2
    rw [← h2, List.take_succ_eq_append_getElem hlt]
    simp only [List.flatMap_append, List.flatMap_cons, List.flatMap_nil, List.append_nil]

theorem flat_length (l : List Nat) : (l.flatMap wbytes).length = 8 * l.length := by
  induction l with
  | nil => rfl
  | cons w l ih => simp only [List.flatMap_cons, List.length_append, ih, List.length_cons]; simp [wbytes]; omega
theorem ref_of (l : List Nat) (hl : ∀ c ∈ l, c < 18446744073709551616) (hn : l.length * 8 + 8 < 140737488355328) : ∃ k, gimmalref02_Of.f k (il l) = some ((wsum l : Nat) : Int) := by
  obtain ⟨K, hK⟩ := ref_bytes (l.flatMap wbytes) (flat_lt l) (by rw [flat_length]; omega)
  refine ⟨K + 10 * l.length + 1, ?_⟩
  have h := ref_of_from l hl hn (wsum l) K hK l.length K 0 (by omega) (Nat.le_refl _)
  exact h

theorem u64_nat (n : Nat) (h : n < 18446744073709551616) : IntKind.u64.wrap (n : Int) = (n : Int) := by rw [IntKind.wrap_u64]; omega

theorem ref_mark (kind n : Nat) (hk : kind < 256) (hn : n < 16777216) (l : List Nat) (hl : ∀ c ∈ l, c < 18446744073709551616) (hlen : l.length * 8 + 24 < 140737488355328) :
    ∃ k, gimmalref02_Mark.f k (kind : Int) (n : Int) (il l) = some (((mark kind n l : Nat) : Int), true) := by
  obtain ⟨K, hK⟩ := ref_of (kind :: n :: l) (by
    intro c hc
    simp only [List.mem_cons] at hc
    rcases hc with rfl | rfl | hc
    · omega
    · omega
    · exact hl c hc) (by simp; omega)
  refine ⟨K, ?_⟩
  unfold gimmalref02_Mark.f
  rw [if_neg (by omega), if_neg (by omega), if_neg (by omega), if_neg (by omega)]
  have hs := wsum_lt (kind :: n :: l)
  rw [u64_nat kind (by omega), u64_nat n (by omega)]
  simp only [Option.bind_some, List.length_cons, List.length_nil]
  rw [if_pos (by rw [il_length]; omega)]
  have e : ([(kind : Int), (n : Int)] : List Int) ++ il l = il (kind :: n :: l) := by simp [il]
  rw [e, hK]
  simp only [Option.bind_some]
  unfold mark
  have e1 : IntKind.u64.wrap ((kind : Int) * 72057594037927936) = ((kind * 72057594037927936 : Nat) : Int) := by rw [IntKind.wrap_u64]; omega
  have e2 : IntKind.u64.wrap ((n : Int) * 4294967296) = ((n * 4294967296 : Nat) : Int) := by rw [IntKind.wrap_u64]; omega
  rw [e1, e2, u64_nat _ (by omega : wsum (kind :: n :: l) < 18446744073709551616)]
  have e3 : IntKind.u64.wrap (((kind * 72057594037927936 : Nat) : Int) + ((n * 4294967296 : Nat) : Int)) = ((kind * 72057594037927936 + n * 4294967296 : Nat) : Int) := by rw [IntKind.wrap_u64]; omega
  rw [e3]
  have e4 : IntKind.u64.wrap (((kind * 72057594037927936 + n * 4294967296 : Nat) : Int) + ((wsum (kind :: n :: l) : Nat) : Int)) = ((kind * 72057594037927936 + n * 4294967296 + wsum (kind :: n :: l) : Nat) : Int) := by rw [IntKind.wrap_u64]; omega
  rw [e4]

theorem ref_mark_none (kind n : Int) (l : List Int) (h : kind < 0 ∨ kind > 255 ∨ n < 0 ∨ n > 16777215) : gimmalref02_Mark.f 0 kind n l = some (0, false) := by
  unfold gimmalref02_Mark.f
  by_cases h1 : kind < 0
  · rw [if_pos h1]
  · rw [if_neg h1]
    by_cases h2 : kind > 255
    · rw [if_pos h2]
    · rw [if_neg h2]
      by_cases h3 : n < 0
      · rw [if_pos h3]
      · rw [if_neg h3, if_pos (by omega)]
end Go.Proofs.Ytmeoiennniknlaa.Sums
