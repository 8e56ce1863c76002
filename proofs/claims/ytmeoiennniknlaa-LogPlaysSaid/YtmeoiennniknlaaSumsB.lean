/- What the reference of the sums computes, as the print has it: the same sums and marks. The contracts of package sums: Mark, Open, Fits; and what the reference's are. The walk of the statement SumsOf. The walks of the statements SumsApart and SumsMarks. The walk of the statement SumsTurned. -/
import Derived.Test.YtmeoiennniknlaaPFramesGetx2
import Derived.Test.YtmeoiennniknlaaSumsA
import Derived.Test.YtmeoiennniknlaaLib0
import Derived.Lib.SlBytesConst
import Derived.OpenShut
import Derived.StillTailTactics
namespace Go.Proofs.Ytmeoiennniknlaa.Sums
set_option linter.unusedVariables false
set_option linter.unusedSimpArgs false
open Go.RowKit Go.Proofs.YtmeoiennniknlaaW.PrintWords Go.Proofs.Ytmeoiennniknlaa.PFramesGet Go.Proofs.Ytmeoiennniknlaa.Lb

theorem iter_front (k x : Nat) : iter k (stp x) = iter (k + 1) x := by
  induction k with
  | zero => rfl
  | succ k ih => simp only [iter] at ih ⊢; rw [ih]
theorem wrap_small {i : Int} (h0 : 0 ≤ i) (h : i < 9223372036854775808) : wrap64 i = i := by unfold wrap64; omega
theorem tmod2 (m : Nat) : Int.tmod (m : Int) 2 = ((m % 2 : Nat) : Int) := by rw [Int.tmod_eq_emod_of_nonneg (by omega)]; omega
theorem tdiv2 (m : Nat) (_h : m < 4294967296) : Int.tdiv (m : Int) 2 % 4294967296 = ((m / 2 : Nat) : Int) := by rw [Int.tdiv_eq_ediv_of_nonneg (by omega)]; omega

theorem ref_bits (x0 : List Int) (i : Int) (d : Nat) : ∀ (k m j : Nat), j + d = 8 → m < 4294967296 →
    gimmalref02_Bytes.l1 (k + d + 1) x0 (m : Int) i (j : Int) = gimmalref02_Bytes.l0 k x0 ((iter d m : Nat) : Int) (wrap64 (i + 1)) := by
  induction d with
  | zero =>
    intro k m j hj _
    obtain rfl : j = 8 := by omega
    simp only [gimmalref02_Bytes.l1, Nat.add_zero]
    rw [if_neg (by omega)]
    rfl
  | succ d ih =>
    intro k m j hj hm
    have hstep := ih k (stp m) (j + 1) (by omega) (stp_lt hm)
    rw [iter_front] at hstep
    rw [← hstep, show k + (d + 1) + 1 = (k + d + 1) + 1 by omega]
    simp only [gimmalref02_Bytes.l1]
    rw [if_pos (by omega), tmod2, tdiv2 m hm, wrap_small (by omega) (by omega)]
    unfold stp
    by_cases h : m % 2 = 1
    · rw [if_pos (by omega), if_pos h]
      have := u32_xor_nat (m / 2) 2197175160 (by omega) (by omega)
      rw [show ((2197175160 : Nat) : Int) = 2197175160 from rfl] at this
      rw [this]
      rfl
    · rw [if_neg (by omega), if_neg h]
      rfl

theorem ref_bytes_from (l : List Nat) (hl : ∀ c ∈ l, c < 256) (hn : l.length ≤ 140737488355328) (d : Nat) : ∀ (k i m : Nat), i + d = l.length → m < 4294967296 →
    gimmalref02_Bytes.l0 (k + 10 * d + 1) (il l) (m : Int) (i : Int) = some (((crc m (l.drop i) ^^^ 4294967295 : Nat)) : Int) := by
  induction d with
  | zero =>
    intro k i m hi hm
    simp only [gimmalref02_Bytes.l0, Nat.mul_zero, Nat.add_zero]
    rw [il_length, if_neg (by omega), List.drop_of_length_le (by omega)]
    exact congrArg some (u32_xor_nat m 4294967295 hm (by omega))
  | succ d ih =>
    intro k i m hi hm
    have hlt : i < l.length := by omega
    have hc : l[i] < 256 := hl _ (List.getElem_mem hlt)
    rw [show k + 10 * (d + 1) + 1 = (k + 10 * d + 1 + 8 + 1) + 1 by omega]
    simp only [gimmalref02_Bytes.l0]
    rw [il_length, if_pos (by omega), if_pos (by omega), rd_il l i hlt]
    have e : ((l[i] : Nat) : Int) % 4294967296 = ((l[i] : Nat) : Int) := by omega
    rw [e, u32_xor_nat m l[i] hm (by omega)]
    have hx : m ^^^ l[i] < 4294967296 := Nat.xor_lt_two_pow (n := 32) hm (by omega)
    have h8 := ref_bits (il l) (i : Int) 8 (k + 10 * d + 1) (m ^^^ l[i]) 0 rfl hx
    rw [show ((0 : Nat) : Int) = 0 from rfl] at h8
    rw [h8, wrap_small (by omega) (by omega)]
    have h2 := ih k (i + 1) (byt m l[i]) (by omega) (byt_lt hm hc)
    rw [show ((i + 1 : Nat) : Int) = (i : Int) + 1 by omega] at h2
    rw [List.drop_eq_getElem_cons hlt, crc_cons]
    exact h2

theorem ref_bytes (l : List Nat) (hl : ∀ c ∈ l, c < 256) (hn : l.length ≤ 140737488355328) : ∃ k, gimmalref02_Bytes.f k (il l) = some ((bsum l : Nat) : Int) :=
  ⟨10 * l.length + 1, by
    have h := ref_bytes_from l hl hn l.length 0 0 4294967295 (by omega) (by omega)
    rw [Nat.zero_add] at h
    exact h⟩

theorem tmod256 (w : Nat) : Int.tmod (w : Int) 256 % 256 = ((w % 256 : Nat) : Int) := by rw [Int.tmod_eq_emod_of_nonneg (by omega)]; omega
theorem tdiv256 (w : Nat) (_h : w < 18446744073709551616) : IntKind.u64.wrap (Int.tdiv (w : Int) 256) = ((w / 256 : Nat) : Int) := by rw [IntKind.wrap_u64, Int.tdiv_eq_ediv_of_nonneg (by omega)]; omega
theorem nth_div (w j : Nat) : nth (w / 256) j = nth w (j + 1) := by
  unfold nth
  rw [Nat.div_div_eq_div_mul, Nat.pow_succ, Nat.mul_comm]
/-- Of a word, d bytes. -/
def bs (w d : Nat) : List Nat := (List.range d).map (nth w)
theorem bs_succ (w d : Nat) : bs w (d + 1) = w % 256 :: bs (w / 256) d := by
  unfold bs
  rw [List.range_succ_eq_map]
  simp only [List.map_cons, List.map_map]
  have h0 : nth w 0 = w % 256 := by simp [nth]
  rw [h0]
  congr 1
  apply List.map_congr_left
  intro j _
  exact (nth_div w j).symm
theorem bs_8 (w : Nat) : bs w 8 = wbytes w := (wbytes_eq w).symm

theorem ref_of_word (x0 : List Int) (i : Int) (d : Nat) : ∀ (k w j : Nat) (acc : List Nat), j + d = 8 → w < 18446744073709551616 → acc.length + d < 140737488355328 →
    gimmalref02_Of.l1 (k + d + 1) x0 (il acc) i (w : Int) (j : Int) = gimmalref02_Of.l0 k x0 (il (acc ++ bs w d)) (wrap64 (i + 1)) := by
  induction d with
  | zero =>
    intro k w j acc hj _ _
    obtain rfl : j = 8 := by omega
    simp only [gimmalref02_Of.l1, Nat.add_zero]
    rw [if_neg (by omega)]
    simp [bs]
  | succ d ih =>
    intro k w j acc hj hw hacc
    have hstep := ih k (w / 256) (j + 1) (acc ++ [w % 256]) (by omega) (by omega) (by simp; omega)
    rw [List.append_assoc, List.singleton_append, ← bs_succ] at hstep
    rw [← hstep, show k + (d + 1) + 1 = (k + d + 1) + 1 by omega]
    simp only [gimmalref02_Of.l1]
    rw [if_pos (by omega), if_pos (by rw [il_length]; omega), tmod256, tdiv256 w hw, wrap_small (by omega) (by omega), il_append]
    rfl

theorem ref_of_from (l : List Nat) (hl : ∀ c ∈ l, c < 18446744073709551616) (hn : l.length * 8 + 8 < 140737488355328) (r : Nat) (K : Nat) (hK : gimmalref02_Bytes.f K (il (l.flatMap wbytes)) = some (r : Int)) (d : Nat) :
    ∀ (k i : Nat), i + d = l.length → K ≤ k →
    gimmalref02_Of.l0 (k + 10 * d + 1) (il l) (il ((l.take i).flatMap wbytes)) (i : Int) = some (r : Int) := by
  have hfl : ∀ l : List Nat, (l.flatMap wbytes).length = 8 * l.length := by
    intro l
    induction l with
    | nil => rfl
    | cons w l ih => simp only [List.flatMap_cons, List.length_append, ih, List.length_cons]; simp [wbytes]; omega
  induction d with
  | zero =>
    intro k i hi hk
    simp only [gimmalref02_Of.l0, Nat.mul_zero, Nat.add_zero]
    rw [il_length, if_neg (by omega), List.take_of_length_le (by omega), at_rounds (g := fun k => gimmalref02_Bytes.f k (il (l.flatMap wbytes))) (gimmalref02_Bytes.mono _) hk hK]
    rfl
  | succ d ih =>
    intro k i hi hk
    have hlt : i < l.length := by omega
    rw [show k + 10 * (d + 1) + 1 = (k + 10 * d + 1 + 8 + 1) + 1 by omega]
    simp only [gimmalref02_Of.l0]
    rw [il_length, if_pos (by omega), if_pos (by omega), rd_il l i hlt]
    have hfl' : ((l.take i).flatMap wbytes).length ≤ 8 * l.length := by rw [hfl, List.length_take]; omega
    have h8 := ref_of_word (il l) (i : Int) 8 (k + 10 * d + 1) l[i] 0 ((l.take i).flatMap wbytes) rfl (hl _ (List.getElem_mem hlt)) (by omega)
    rw [show ((0 : Nat) : Int) = 0 from rfl] at h8
    rw [h8, wrap_small (by omega) (by omega), bs_8]
    have h2 := ih k (i + 1) (by omega) hk
    rw [show ((i + 1 : Nat) : Int) = (i : Int) + 1 by omega] at h2
    rw [← h2, List.take_succ_eq_append_getElem hlt]
    simp only [List.flatMap_append, List.flatMap_cons, List.flatMap_nil, List.append_nil]

theorem flat_length (l : List Nat) : (l.flatMap wbytes).length = 8 * l.length := by
  induction l with
  | nil => rfl
  | cons w l ih => simp only [List.flatMap_cons, List.length_append, ih, List.length_cons]; simp [wbytes]; omega
theorem ref_of (l : List Nat) (hl : ∀ c ∈ l, c < 18446744073709551616) (hn : l.length * 8 + 8 < 140737488355328) : ∃ k, gimmalref02_Of.f k (il l) = some ((wsum l : Nat) : Int) := by
  obtain ⟨K, hK⟩ := ref_bytes (l.flatMap wbytes) (flat_lt l) (by rw [flat_length]; omega)
  refine ⟨K + 10 * l.length + 1, ?_⟩
  have h := ref_of_from l hl hn (wsum l) K hK l.length K 0 (by omega) (Nat.le_refl _)
  exact h

theorem u64_nat (n : Nat) (h : n < 18446744073709551616) : IntKind.u64.wrap (n : Int) = (n : Int) := by rw [IntKind.wrap_u64]; omega

theorem ref_mark (kind n : Nat) (hk : kind < 256) (hn : n < 16777216) (l : List Nat) (hl : ∀ c ∈ l, c < 18446744073709551616) (hlen : l.length * 8 + 24 < 140737488355328) :
    ∃ k, gimmalref02_Mark.f k (kind : Int) (n : Int) (il l) = some (((mark kind n l : Nat) : Int), true) := by
  obtain ⟨K, hK⟩ := ref_of (kind :: n :: l) (by
    intro c hc
    simp only [List.mem_cons] at hc
    rcases hc with rfl | rfl | hc
    · omega
    · omega
    · exact hl c hc) (by simp; omega)
  refine ⟨K, ?_⟩
  unfold gimmalref02_Mark.f
  rw [if_neg (by omega), if_neg (by omega), if_neg (by omega), if_neg (by omega)]
  have hs := wsum_lt (kind :: n :: l)
  rw [u64_nat kind (by omega), u64_nat n (by omega)]
  simp only [Option.bind_some, List.length_cons, List.length_nil]
  rw [if_pos (by rw [il_length]; omega)]
  have e : ([(kind : Int), (n : Int)] : List Int) ++ il l = il (kind :: n :: l) := by simp [il]
  rw [e, hK]
  simp only [Option.bind_some]
  unfold mark
  have e1 : IntKind.u64.wrap ((kind : Int) * 72057594037927936) = ((kind * 72057594037927936 : Nat) : Int) := by rw [IntKind.wrap_u64]; omega
  have e2 : IntKind.u64.wrap ((n : Int) * 4294967296) = ((n * 4294967296 : Nat) : Int) := by rw [IntKind.wrap_u64]; omega
  rw [e1, e2, u64_nat _ (by omega : wsum (kind :: n :: l) < 18446744073709551616)]
  have e3 : IntKind.u64.wrap (((kind * 72057594037927936 : Nat) : Int) + ((n * 4294967296 : Nat) : Int)) = ((kind * 72057594037927936 + n * 4294967296 : Nat) : Int) := by rw [IntKind.wrap_u64]; omega
  rw [e3]
  have e4 : IntKind.u64.wrap (((kind * 72057594037927936 + n * 4294967296 : Nat) : Int) + ((wsum (kind :: n :: l) : Nat) : Int)) = ((kind * 72057594037927936 + n * 4294967296 + wsum (kind :: n :: l) : Nat) : Int) := by rw [IntKind.wrap_u64]; omega
  rw [e4]

theorem ref_mark_none (kind n : Int) (l : List Int) (h : kind < 0 ∨ kind > 255 ∨ n < 0 ∨ n > 16777215) : gimmalref02_Mark.f 0 kind n l = some (0, false) := by
  unfold gimmalref02_Mark.f
  by_cases h1 : kind < 0
  · rw [if_pos h1]
  · rw [if_neg h1]
    by_cases h2 : kind > 255
    · rw [if_pos h2]
    · rw [if_neg h2]
      by_cases h3 : n < 0
      · rw [if_pos h3]
      · rw [if_neg h3, if_pos (by omega)]
end Go.Proofs.Ytmeoiennniknlaa.Sums

namespace Go.Proofs.Ytmeoiennniknlaa.Sums
open Go.RowKit Go.Shelf Go.Proofs.YtmeoiennniknlaaW.PrintWords Go.Proofs.Ytmeoiennniknlaa.Lb
set_option linter.unusedVariables false
set_option linter.unusedSimpArgs false

theorem infoU64 : (Try.prog.info? 30).map (fun i => (i.zero, i.size, i.bytes)) = some (some (.int .u64 0), 1, 8) := by kernel_rfl

theorem mark_or (kind n s : Nat) (hk : kind < 256) (hn : n < 16777216) (hs : s < 4294967296) :
    bits .or .u64 (bits .or .u64 (((kind * 72057594037927936 : Nat)) : Int) ((n * 4294967296 : Nat) : Int)) (s : Int) = ((kind * 72057594037927936 + n * 4294967296 + s : Nat) : Int) := by
  rw [u64_or_nat _ _ (by omega) (by omega)]
  have e1 : kind * 72057594037927936 ||| n * 4294967296 = kind * 72057594037927936 + n * 4294967296 := by
    have := Nat.two_pow_add_eq_or_of_lt (i := 56) (b := n * 4294967296) (by omega) kind
    rw [show (2 : Nat) ^ 56 = 72057594037927936 from rfl, Nat.mul_comm] at this
    exact this.symm
  rw [e1, u64_or_nat _ _ (by omega) (by omega)]
  have e2 : kind * 72057594037927936 + n * 4294967296 ||| s = kind * 72057594037927936 + n * 4294967296 + s := by
    have := Nat.two_pow_add_eq_or_of_lt (i := 32) (b := s) (by omega) (kind * 16777216 + n)
    rw [show (2 : Nat) ^ 32 = 4294967296 from rfl] at this
    rw [show kind * 72057594037927936 + n * 4294967296 = 4294967296 * (kind * 16777216 + n) by omega]
    exact this.symm
  rw [e2]

theorem mark_or' (kind n s : Nat) (hk : kind < 256) (hn : n < 16777216) (hs : s < 4294967296) :
    bits .or .u64 (bits .or .u64 ((kind : Int) * 72057594037927936) ((n : Int) * 4294967296)) (s : Int) = ((kind * 72057594037927936 + n * 4294967296 + s : Nat) : Int) := by
  have h := mark_or kind n s hk hn hs
  rw [Int.natCast_mul, Int.natCast_mul] at h
  exact h

set_option maxRecDepth 100000 in
set_option maxHeartbeats 400000 in
theorem mark_any (w : World) (kind n : Nat) (hk : kind < 256) (hn : n < 16777216) (A : Option Addr) (c : Nat) (ws : List Nat) (hreach : ws.length * 8 + 24 ≤ 140737488351232) (hC : (Kd.int .u64).C w A ws.length (il ws)) :
    Calls Try.prog 21 #[.int .i64 (kind : Int), .int .i64 (n : Int), .slice A ws.length c] w fun e w' => e = .returned (.tuple #[.int .u64 ((mark kind n ws : Nat) : Int), .bool true]) ∧ Below w.heap.size w w' := by
  have HO := Lib.hid (lit_R w w (Below.refl _ _) .u64 30 [(kind : Int), (n : Int)] (by simp))
  have HB : Hid (Below w.heap.size w (w.alloc (.cells #[.int .u64 (kind : Int), .int .u64 (n : Int)] 30))) := (Below.refl _ w).alloc (Nat.le_refl _) _
  have HC := Lib.hid hC
  have Hr := Lib.hid hreach
  clear hC hreach
  obtain ⟨s, hs⟩ : ∃ s, s = wsum (kind :: n :: ws) := ⟨_, rfl⟩
  have hsl : s < 4294967296 := by rw [hs]; exact wsum_lt _
  have hor := mark_or' kind n s hk hn hsl
  obtain ⟨mk, hmk⟩ : ∃ mk, mk = mark kind n ws := ⟨_, rfl⟩
  have hmk' : kind * 72057594037927936 + n * 4294967296 + s = mk := by rw [hmk, hs]; rfl
  rw [← hmk]
  have Hs := Lib.hid hs
  have Hor := Lib.hid hor
  have Hmk := Lib.hid hmk'
  clear hs hor hmk hmk'
  go_enter Try.func21, Try.ntmps21
  go_wp2_with (first
    | (at_builtin; refine app_ints (w0 := w) .u64 23 30 8 Try.underlying23 infoU64 (by omega) rfl _ _ rfl _ [(kind : Int), (n : Int)] (il ws) (il (kind :: n :: ws)) A ws.length c (ws.length + 1 + 1) rfl rfl HO.out (Kd.C_below HC.out HB.out) HB.out ?_ ?_ ?_ ?_; rotate_right; intro A1 c1 w1 hl1 hC1 hR1 hb1; have Hb1 := Lib.hid hb1; have HC1 := Lib.hid hC1; clear hR1 hb1 hC1)
    | (go_at_call 19; refine (of_any _ _ _ (kind :: n :: ws) ?_ HC1.out).mono ?_; rotate_right; rintro e w' ⟨rfl, hb2⟩; have Hb2 := Lib.hid hb2; clear hb2; rw [← Hs.out]))
  case refine_1 => have := Hr.out; simp only [List.length_cons]; omega
  case refine_1 => rfl
  case refine_2 => simp [il]
  case refine_3 => have := Hr.out; omega
  · rw [Hor.out, Hmk.out]
    go_ret2
    exact ⟨rfl, Hb1.out.trans (Hb2.out.mono Hb1.out.size)⟩

set_option maxRecDepth 100000 in
set_option maxHeartbeats 400000 in
theorem mark_none (w : World) (kind n : Int) (sv : Value) (h : kind < 0 ∨ 255 < kind ∨ n < 0 ∨ 16777215 < n) :
    Calls Try.prog 21 #[.int .i64 kind, .int .i64 n, sv] w fun e w' => e = .returned (.tuple #[.int .u64 0, .bool false]) ∧ w = w' := by
  by_cases h1 : kind < 0
  · clear h
    go_enter Try.func21, Try.ntmps21
    go_wp2
    go_ret2
    exact ⟨rfl, rfl⟩
  · by_cases h2 : 255 < kind
    · clear h
      go_enter Try.func21, Try.ntmps21
      go_wp2
      go_ret2
      exact ⟨rfl, rfl⟩
    · by_cases h3 : n < 0
      · clear h
        go_enter Try.func21, Try.ntmps21
        go_wp2
        go_ret2
        exact ⟨rfl, rfl⟩
      · have h4 : 16777215 < n := by omega
        clear h
        go_enter Try.func21, Try.ntmps21
        go_wp2
        go_ret2
        exact ⟨rfl, rfl⟩

theorem nat_beq (r x : Nat) : ((r : Int) == (x : Int)) = decide (r = x) := by
  rw [Bool.eq_iff_iff]; simp; omega
theorem open_and (x : Nat) (hx : x < 18446744073709551616) : bits .and .u64 ((x : Int) / 4294967296) 16777215 = ((x / 4294967296 % 16777216 : Nat) : Int) := by
  have h := u64_and_nat (x / 4294967296) 16777215 (by omega) (by omega)
  rw [show (16777215 : Nat) = 2 ^ 24 - 1 from rfl, Nat.and_two_pow_sub_one_eq_mod] at h
  exact h

set_option maxRecDepth 100000 in
set_option maxHeartbeats 400000 in
theorem open_any (w : World) (x : Nat) (hx : x < 18446744073709551616) :
    Calls Try.prog 23 #[.int .u64 (x : Int)] w fun e w' => e = .returned (.tuple #[.int .i64 ((x / 72057594037927936 : Nat) : Int), .int .i64 ((x / 4294967296 % 16777216 : Nat) : Int), .int .u32 ((x % 4294967296 : Nat) : Int)]) ∧ w = w' := by
  have ha := open_and x hx
  obtain ⟨m, hm⟩ : ∃ m, m = x / 4294967296 % 16777216 := ⟨_, rfl⟩
  have hml : m < 16777216 := by rw [hm]; exact Nat.mod_lt _ (by decide)
  rw [← hm] at ha ⊢
  have Hm := Lib.hid hm
  clear hm
  go_enter Try.func23, Try.ntmps23
  go_wp2
  go_ret3
  exact ⟨rfl, rfl⟩

set_option maxRecDepth 100000 in
set_option maxHeartbeats 400000 in
theorem fits_any (w : World) (x : Nat) (hx : x < 18446744073709551616) (A : Option Addr) (c : Nat) (ws : List Nat) (hreach : ws.length * 8 + 24 ≤ 140737488351232) (hC : (Kd.int .u64).C w A ws.length (il ws)) :
    Calls Try.prog 24 #[.int .u64 (x : Int), .slice A ws.length c] w fun e w' => e = .returned (.bool (decide (mark (x / 72057594037927936) (x / 4294967296 % 16777216) ws = x))) ∧ Below w.heap.size w w' := by
  have HC := Lib.hid hC
  clear hC
  obtain ⟨m, hm⟩ : ∃ m, m = x / 4294967296 % 16777216 := ⟨_, rfl⟩
  have hml : m < 16777216 := by rw [hm]; exact Nat.mod_lt _ (by decide)
  obtain ⟨k, hk⟩ : ∃ k, k = x / 72057594037927936 := ⟨_, rfl⟩
  have hkl : k < 256 := by omega
  obtain ⟨r, hr⟩ : ∃ r, r = mark k m ws := ⟨_, rfl⟩
  have Hopen : Hid (∀ w, Calls Try.prog 23 #[.int .u64 (x : Int)] w fun e w' => e = .returned (.tuple #[.int .i64 (k : Int), .int .i64 (m : Int), .int .u32 ((x % 4294967296 : Nat) : Int)]) ∧ w = w') := by
    intro w; rw [hk, hm]; exact open_any w x hx
  have Hmark : Hid (Calls Try.prog 21 #[.int .i64 (k : Int), .int .i64 (m : Int), .slice A ws.length c] w fun e w' => e = .returned (.tuple #[.int .u64 (r : Int), .bool true]) ∧ Below w.heap.size w w') := by
    rw [hr]; exact mark_any w k m hkl hml A c ws hreach HC.out
  have Hg : Hid (decide (mark (x / 72057594037927936) (x / 4294967296 % 16777216) ws = x) = decide (r = x)) := by
    rw [hr, hk, hm]; rfl
  clear hm hk hr hkl hml hreach
  rw [Hg.out]
  go_enter Try.func24, Try.ntmps24
  go_wp2_with (first
    | (go_at_call 23; refine (Hopen.out _).mono ?_; rintro e w' ⟨rfl, rfl⟩)
    | (go_at_call 21; refine Hmark.out.mono ?_; rintro e w' ⟨rfl, hb⟩))
  rw [nat_beq]
  go_ret
  exact ⟨rfl, hb⟩

/-! The reference's. -/
theorem drawn_below {w w' : World} (h : Drawn0 w w') : Below w.heap.size w w' := h.below
theorem refBytes_any (w : World) (A : Option Addr) (c : Nat) (l : List Nat) (hl : ∀ c ∈ l, c < 256) (hn : l.length ≤ 140737488355328) (hc : l.length ≤ c) (hC : (Kd.int .u8).C w A l.length (il l)) :
    Calls Try.prog 18 #[.slice A l.length c] w fun e w' => e = .returned (.int .u32 ((bsum l : Nat) : Int)) ∧ Below w.heap.size w w' := by
  obtain ⟨k, hk⟩ := ref_bytes l hl hn
  have h := PFramesGet.gimmalref02_Bytes.calls k A c (il l) _ w (by rw [il_length]; exact hC) (by rw [il_length]; exact hc) hk
  rw [il_length] at h
  exact h.mono fun e w' ⟨he, hw⟩ => ⟨he, hw.below⟩
theorem refOf_any (w : World) (A : Option Addr) (c : Nat) (ws : List Nat) (hw : ∀ x ∈ ws, x < 18446744073709551616) (hn : ws.length * 8 + 8 < 140737488355328) (hc : ws.length ≤ c) (hC : (Kd.int .u64).C w A ws.length (il ws)) :
    Calls Try.prog 20 #[.slice A ws.length c] w fun e w' => e = .returned (.int .u32 ((wsum ws : Nat) : Int)) ∧ Below w.heap.size w w' := by
  obtain ⟨k, hk⟩ := ref_of ws hw hn
  have h := PFramesGet.gimmalref02_Of.calls k A c (il ws) _ w (by rw [il_length]; exact hC) (by rw [il_length]; exact hc) hk
  rw [il_length] at h
  exact h.mono fun e w' ⟨he, hw⟩ => ⟨he, by first | exact hw | exact hw.below⟩
theorem refMark_any (w : World) (kind n : Nat) (hk : kind < 256) (hn : n < 16777216) (A : Option Addr) (c : Nat) (ws : List Nat) (hw : ∀ x ∈ ws, x < 18446744073709551616) (hlen : ws.length * 8 + 24 < 140737488355328) (hc : ws.length ≤ c) (hC : (Kd.int .u64).C w A ws.length (il ws)) :
    Calls Try.prog 22 #[.int .i64 (kind : Int), .int .i64 (n : Int), .slice A ws.length c] w fun e w' => e = .returned (.tuple #[.int .u64 ((mark kind n ws : Nat) : Int), .bool true]) ∧ Below w.heap.size w w' := by
  obtain ⟨k, hk⟩ := ref_mark kind n hk hn ws hw hlen
  have h := PFramesGet.gimmalref02_Mark.calls k kind n A c (il ws) _ _ w (by rw [il_length]; exact hC) (by rw [il_length]; exact hc) hk
  rw [il_length] at h
  exact h.mono fun e w' ⟨he, hw⟩ => ⟨he, by first | exact hw | exact hw.below⟩
theorem refMark_none (w : World) (kind n : Int) (A : Option Addr) (c : Nat) (l : List Int) (h : kind < 0 ∨ kind > 255 ∨ n < 0 ∨ n > 16777215) (hc : l.length ≤ c) (hC : (Kd.int .u64).C w A l.length l) :
    Calls Try.prog 22 #[.int .i64 kind, .int .i64 n, .slice A l.length c] w fun e w' => e = .returned (.tuple #[.int .u64 0, .bool false]) ∧ Below w.heap.size w w' := by
  have h := PFramesGet.gimmalref02_Mark.calls 0 kind n A c l _ _ w hC hc (ref_mark_none kind n l h)
  exact h.mono fun e w' ⟨he, hw⟩ => ⟨he, by first | exact hw | exact hw.below⟩
end Go.Proofs.Ytmeoiennniknlaa.Sums

namespace Go.Proofs.Ytmeoiennniknlaa.Sums
open Go.RowKit Go.Shelf Go.Proofs.YtmeoiennniknlaaW.PrintWords Go.Proofs.Ytmeoiennniknlaa.Lb
set_option linter.unusedVariables false
set_option linter.unusedSimpArgs false

/-! The contracts, over a world behind the one in which the lists were read. -/
section
variable {w W : World}
theorem at_ (hB : Below w.heap.size w W) {f : FuncId} {args : Array Value} {p : Ending → Prop} (h : Calls Try.prog f args W fun e w' => p e ∧ Below W.heap.size W w') : Calls Try.prog f args W fun e w' => p e ∧ Below w.heap.size w w' :=
  h.mono fun _ _ ⟨he, hb⟩ => ⟨he, hB.trans (hb.mono hB.size)⟩
theorem bytes_at (hB : Below w.heap.size w W) (A : Option Addr) (c : Nat) (xs : List Byt) (hreach : xs.length ≤ 140737488351232) (hC : (Kd.int .u8).C w A xs.length (ib xs)) :
    Calls Try.prog 17 #[.slice A xs.length c] W fun e w' => e = .returned (.int .u32 ((bsum (vals xs) : Nat) : Int)) ∧ Below w.heap.size w w' := at_ hB (bytes_any W A c xs hreach (Kd.C_below hC hB))
theorem of_at (hB : Below w.heap.size w W) (A : Option Addr) (c : Nat) (ws : List Nat) (hreach : ws.length * 8 ≤ 140737488351232) (hC : (Kd.int .u64).C w A ws.length (il ws)) :
    Calls Try.prog 19 #[.slice A ws.length c] W fun e w' => e = .returned (.int .u32 ((wsum ws : Nat) : Int)) ∧ Below w.heap.size w w' := at_ hB (of_any W A c ws hreach (Kd.C_below hC hB))
theorem refBytes_at (hB : Below w.heap.size w W) (A : Option Addr) (c : Nat) (l : List Nat) (hl : ∀ c ∈ l, c < 256) (hn : l.length ≤ 140737488355328) (hc : l.length ≤ c) (hC : (Kd.int .u8).C w A l.length (il l)) :
    Calls Try.prog 18 #[.slice A l.length c] W fun e w' => e = .returned (.int .u32 ((bsum l : Nat) : Int)) ∧ Below w.heap.size w w' := at_ hB (refBytes_any W A c l hl hn hc (Kd.C_below hC hB))
theorem refOf_at (hB : Below w.heap.size w W) (A : Option Addr) (c : Nat) (ws : List Nat) (hw : ∀ x ∈ ws, x < 18446744073709551616) (hn : ws.length * 8 + 8 < 140737488355328) (hc : ws.length ≤ c) (hC : (Kd.int .u64).C w A ws.length (il ws)) :
    Calls Try.prog 20 #[.slice A ws.length c] W fun e w' => e = .returned (.int .u32 ((wsum ws : Nat) : Int)) ∧ Below w.heap.size w w' := at_ hB (refOf_any W A c ws hw hn hc (Kd.C_below hC hB))
end

def digits : List Byt := [49, 50, 51, 52, 53, 54, 55, 56, 57]
theorem digits_sum : bsum (vals digits) = 3808858755 := by decide +kernel
theorem none_sum : wsum [] = 0 := by decide +kernel
set_option maxRecDepth 100000 in
set_option maxHeartbeats 400000 in
theorem alive_any (w : World) :
    Calls Try.prog 16 #[] w fun e w' => e = .returned (.bool true) ∧ Below w.heap.size w w' := by
  obtain ⟨W, hW⟩ : ∃ W, W = w.alloc (.cells #[.int .u8 49, .int .u8 50, .int .u8 51, .int .u8 52, .int .u8 53, .int .u8 54, .int .u8 55, .int .u8 56, .int .u8 57] 5 (9, 10)) := ⟨_, rfl⟩
  have HB : Hid (Below w.heap.size w W) := by rw [hW]; exact (Below.refl _ w).alloc (Nat.le_refl _) _
  have hC : (Kd.int .u8).C W (some ⟨w.heap.size, 0, none⟩) 9 (ib digits) := by
    refine C_of_cells .u8 (l := ib digits) (by decide) (fun j hj => ?_)
    rw [hW, add_plain, World.cell?_alloc_mark]
    have hj9 : j < 9 := hj
    match j, hj9 with
    | 0, _ | 1, _ | 2, _ | 3, _ | 4, _ | 5, _ | 6, _ | 7, _ | 8, _ => rfl
  have hby := bytes_any W (some ⟨w.heap.size, 0, none⟩) 9 digits (by decide) hC
  have kc := fun (w : World) (C : Array Value) (n c : Nat) => Lib.run_convert_bytes_const (P := Try.prog) w 22 5 C n c Try.underlying22 Try.underlying5
  rw [digits_sum] at hby
  rw [hW] at hby HB
  have Hby := Lib.hid hby
  have Hof : Hid (∀ w, Calls Try.prog 19 #[.slice none 0 0] w fun e w' => e = .returned (.int .u32 0) ∧ Below w.heap.size w w') := by
    intro w
    have h := of_any w none 0 [] (by decide) (Kd.C_nil _ w)
    rw [none_sum] at h
    exact h
  clear hby hC hW
  go_enter Try.func16, Try.ntmps16
  go_wp2_with (first
    | (go_at_call 17; refine Hby.out.mono ?_; rintro e w' ⟨rfl, hb⟩; have Hb := Lib.hid hb; clear hb)
    | (go_at_call 19; refine (Hof.out _).mono ?_; rintro e w' ⟨rfl, hb⟩; have Hb2 := Lib.hid hb; clear hb))
  go_ret
  exact ⟨rfl, HB.out.trans ((Hb.out.mono (by simp)).trans (Hb2.out.mono (Nat.le_trans HB.out.size Hb.out.size)))⟩

set_option maxRecDepth 100000 in
set_option maxHeartbeats 400000 in
theorem sumsOf_walk (w : World) (A1 : Option Addr) (c1 : Nat) (xs : List Byt) (hx : xs.length ≤ 140737488351232) (hc1 : xs.length ≤ c1) (hC1 : (Kd.int .u8).C w A1 xs.length (ib xs))
    (A2 : Option Addr) (c2 : Nat) (ws : List Nat) (hw : ∀ x ∈ ws, x < 18446744073709551616) (hx2 : ws.length * 8 ≤ 140737488351232) (hc2 : ws.length ≤ c2) (hC2 : (Kd.int .u64).C w A2 ws.length (il ws)) :
    Calls Try.prog 3 #[.slice A1 xs.length c1, .slice A2 ws.length c2] w fun e w' => e = .returned (.bool true) ∧ Below w.heap.size w w' := by
  have HC1 := Lib.hid hC1
  have HC2 := Lib.hid hC2
  have HW := Lib.hid hw
  clear hC1 hC2 hw
  by_cases h1 : 3000 < xs.length
  · go_enter Try.func3, Try.ntmps3
    go_wp2_with (go_at_call 16; refine (alive_any _).mono ?_; rintro e w' ⟨rfl, hb⟩; have Hb := Lib.hid hb; clear hb)
    go_ret
    exact ⟨rfl, Hb.out⟩
  · by_cases h2 : 400 < ws.length
    · go_enter Try.func3, Try.ntmps3
      go_wp2_with (go_at_call 16; refine (alive_any _).mono ?_; rintro e w' ⟨rfl, hb⟩; have Hb := Lib.hid hb; clear hb)
      go_ret
      exact ⟨rfl, Hb.out⟩
    · have hvl : (vals xs).length = xs.length := by simp [vals]
      have hb2 : ∀ W, Below w.heap.size w W → Calls Try.prog 18 #[.slice A1 xs.length c1] W fun e w' => e = .returned (.int .u32 ((bsum (vals xs) : Nat) : Int)) ∧ Below w.heap.size w w' := by
        intro W hW
        have := refBytes_at hW A1 c1 (vals xs) (vals_lt xs) (by omega) (by omega) (by rw [hvl]; exact HC1.out)
        rwa [hvl] at this
      obtain ⟨r1, hr1⟩ : ∃ r, r = bsum (vals xs) := ⟨_, rfl⟩
      obtain ⟨r2, hr2⟩ : ∃ r, r = wsum ws := ⟨_, rfl⟩
      rw [← hr1] at hb2
      have HBr := Lib.hid hb2
      have Hr1 := Lib.hid hr1
      have Hr2 := Lib.hid hr2
      clear hb2 hr1 hr2 hvl
      go_enter Try.func3, Try.ntmps3
      go_wp2_with (first
        | (go_at_call 16; refine (alive_any _).mono ?_; rintro e w' ⟨rfl, hb⟩; have Hb := Lib.hid hb; clear hb)
        | (go_at_call 17; refine (bytes_at Hb.out A1 c1 xs hx HC1.out).mono ?_; rw [← Hr1.out]; rintro e w' ⟨rfl, hb⟩; have Hb1 := Lib.hid hb; clear hb)
        | (go_at_call 18; refine (HBr.out _ Hb1.out).mono ?_; rintro e w' ⟨rfl, hb⟩; have Hb2 := Lib.hid hb; clear hb)
        | (go_at_call 19; refine (of_at Hb2.out A2 c2 ws hx2 HC2.out).mono ?_; rw [← Hr2.out]; rintro e w' ⟨rfl, hb⟩; have Hb3 := Lib.hid hb; clear hb)
        | (go_at_call 20; refine (refOf_at Hb3.out A2 c2 ws HW.out (by omega) hc2 HC2.out).mono ?_; rw [← Hr2.out]; rintro e w' ⟨rfl, hb⟩; have Hb4 := Lib.hid hb; clear hb))
      go_ret
      exact ⟨rfl, Hb4.out⟩

/-! Numbers as they come in. -/
def toB (l : List Int) : List Byt := l.map fun x => ⟨x.toNat % 256, Nat.mod_lt _ (by decide)⟩
theorem ib_toB (l : List Int) (h : ∀ x ∈ l, (Lit.int .u8 x).wf = true) : ib (toB l) = l := by
  unfold ib toB il
  rw [List.map_map, List.map_map]
  conv => rhs; rw [← List.map_id l]
  apply List.map_congr_left
  intro x hx
  have := Go.bounds_u8 (h x hx)
  simp [Function.comp]
  omega
theorem toB_length (l : List Int) : (toB l).length = l.length := by simp [toB]
theorem words_il (l : List Int) (h : ∀ x ∈ l, (Lit.int .u64 x).wf = true) : il (l.map Int.toNat) = l := il_of l (fun x hx => (Go.bounds_u64 (h x hx)).1)
theorem words_lt (l : List Int) (h : ∀ x ∈ l, (Lit.int .u64 x).wf = true) : ∀ x ∈ l.map Int.toNat, x < 18446744073709551616 := by
  intro x hx
  obtain ⟨y, hy, rfl⟩ := List.mem_map.1 hx
  have := Go.bounds_u64 (h y hy)
  omega

theorem sumsOf_law (W : World) {a0 a1 : Option Addr} {cap0 cap1 : Nat} (l0 : List Int) (hm0 : l0.length ≤ maxLen) (y0 : l0.length * 1 ≤ 140737488351232) (hw0 : ∀ x ∈ l0, (Lit.int .u8 x).wf = true) (hc0 : l0.length ≤ cap0) (hr0 : (Kd.int .u8).C W a0 l0.length l0)
    (l1 : List Int) (hm1 : l1.length ≤ maxLen) (y1 : l1.length * 8 ≤ 140737488351232) (hw1 : ∀ x ∈ l1, (Lit.int .u64 x).wf = true) (hc1 : l1.length ≤ cap1) (hr1 : (Kd.int .u64).C W a1 l1.length l1) :
    Calls Try.prog 3 #[.slice a0 l0.length cap0, .slice a1 l1.length cap1] W fun e w' => e = .returned (.bool true) ∧ Below W.heap.size W w' := by
  have h := sumsOf_walk W a0 cap0 (toB l0) (by rw [toB_length]; omega) (by rw [toB_length]; exact hc0) (by rw [toB_length, ib_toB l0 hw0]; exact hr0) a1 cap1 (l1.map Int.toNat) (words_lt l1 hw1) (by rw [List.length_map]; exact y1) (by rw [List.length_map]; exact hc1) (by rw [List.length_map, words_il l1 hw1]; exact hr1)
  rw [toB_length, List.length_map] at h
  exact h
end Go.Proofs.Ytmeoiennniknlaa.Sums

namespace Go.Proofs.Ytmeoiennniknlaa.Sums
open Go.RowKit Go.Shelf Go.Proofs.YtmeoiennniknlaaW.PrintWords Go.Proofs.Ytmeoiennniknlaa.Lb
set_option linter.unusedVariables false
set_option linter.unusedSimpArgs false

section
variable {w W : World}
theorem hB_at {f : FuncId} {args : Array Value} {p : Ending → Prop} (hB : Hid (Below w.heap.size w W)) (h : Calls Try.prog f args W fun e w' => p e ∧ Below W.heap.size W w') : Calls Try.prog f args W fun e w' => p e ∧ Hid (Below w.heap.size w w') :=
  h.mono fun _ _ ⟨he, hb⟩ => ⟨he, Lib.hid (hB.out.trans (hb.mono hB.out.size))⟩
theorem alive_at (hB : Hid (Below w.heap.size w W)) : Calls Try.prog 16 #[] W fun e w' => e = .returned (.bool true) ∧ Hid (Below w.heap.size w w') := hB_at hB (alive_any W)
theorem mark_at {kind n : Nat} {A : Option Addr} {c m : Nat} {ws : List Nat} (hB : Hid (Below w.heap.size w W)) (hC : Hid ((Kd.int .u64).C w A ws.length (il ws))) (hm : m = ws.length) (hk : kind < 256) (hn : n < 16777216) (hreach : ws.length * 8 + 24 ≤ 140737488351232) :
    Calls Try.prog 21 #[.int .i64 (kind : Int), .int .i64 (n : Int), .slice A m c] W fun e w' => e = .returned (.tuple #[.int .u64 ((mark kind n ws : Nat) : Int), .bool true]) ∧ Hid (Below w.heap.size w w') := by
  subst hm; exact hB_at hB (mark_any W kind n hk hn A c ws hreach (Kd.C_below hC.out hB.out))
theorem refMark_at {kind n : Nat} {A : Option Addr} {c m : Nat} {ws : List Nat} (hB : Hid (Below w.heap.size w W)) (hC : Hid ((Kd.int .u64).C w A ws.length (il ws))) (hw : Hid (∀ x ∈ ws, x < 18446744073709551616)) (hm : m = ws.length) (hk : kind < 256) (hn : n < 16777216) (hreach : ws.length * 8 + 24 ≤ 140737488351232) (hc : ws.length ≤ c) :
    Calls Try.prog 22 #[.int .i64 (kind : Int), .int .i64 (n : Int), .slice A m c] W fun e w' => e = .returned (.tuple #[.int .u64 ((mark kind n ws : Nat) : Int), .bool true]) ∧ Hid (Below w.heap.size w w') := by
  subst hm; exact hB_at hB (refMark_any W kind n hk hn A c ws hw.out (by omega) hc (Kd.C_below hC.out hB.out))
theorem fits_at {x : Nat} {A : Option Addr} {c m : Nat} {ws : List Nat} {b : Bool} (hB : Hid (Below w.heap.size w W)) (hC : Hid ((Kd.int .u64).C w A ws.length (il ws))) (hm : m = ws.length) (hx : x < 18446744073709551616) (hreach : ws.length * 8 + 24 ≤ 140737488351232) (hb : Hid (decide (mark (x / 72057594037927936) (x / 4294967296 % 16777216) ws = x) = b)) :
    Calls Try.prog 24 #[.int .u64 (x : Int), .slice A m c] W fun e w' => e = .returned (.bool b) ∧ Hid (Below w.heap.size w w') := by
  subst hm; have h := hB_at hB (fits_any W x hx A c ws hreach (Kd.C_below hC.out hB.out)); rw [hb.out] at h; exact h
end

theorem mark_inj {k k' n n' : Nat} {l : List Nat} (hk : k < 256) (hk' : k' < 256) (hn : n < 16777216) (hn' : n' < 16777216) (h : mark k n l = mark k' n' l) : k = k' ∧ n = n' := by
  have h1 := mark_open hk hn l
  have h2 := mark_open hk' hn' l
  rw [h] at h1
  exact ⟨h1.1.symm.trans h2.1, h1.2.1.symm.trans h2.2.1⟩

set_option maxRecDepth 100000 in
set_option maxHeartbeats 1000000 in
theorem apart_walk (w : World) (k k' n n' : Nat) (hk : k < 256) (hk' : k' < 256) (hn : n < 65536) (hn' : n' < 65536) (A : Option Addr) (c : Nat) (ws : List Nat) (hw : ∀ x ∈ ws, x < 18446744073709551616) (hc : ws.length ≤ c) (hreach : ws.length ≤ 140737488351232) (hC : (Kd.int .u64).C w A ws.length (il ws)) :
    Calls Try.prog 4 #[.int .u8 (k : Int), .int .u8 (k' : Int), .int .u16 (n : Int), .int .u16 (n' : Int), .slice A ws.length c] w fun e w' => e = .returned (.bool true) ∧ Below w.heap.size w w' := by
  have HC := Lib.hid hC
  have HW := Lib.hid hw
  have HB := Lib.hid (Below.refl w.heap.size w)
  clear hC hw
  by_cases h2 : 400 < ws.length
  · go_enter Try.func4, Try.ntmps4
    go_wp2_with (go_at_call 16; refine (alive_at HB).mono ?_; rintro e w' ⟨rfl, Hb⟩)
    go_ret
    exact ⟨rfl, Hb.out⟩
  · by_cases hkk : k = k'
    · subst hkk
      by_cases hnn : n = n'
      · subst hnn
        go_enter Try.func4, Try.ntmps4
        go_wp2_with (first
          | (go_at_call 16; refine (alive_at HB).mono ?_; rintro e w' ⟨rfl, Hb⟩)
          | (go_at_call 21; refine (mark_at (by assumption) HC rfl hk (by omega) (by omega)).mono ?_; rintro e w' ⟨rfl, Hb⟩)
          | (go_at_call 22; refine (refMark_at (by assumption) HC HW rfl hk (by omega) (by omega) hc).mono ?_; rintro e w' ⟨rfl, Hb⟩))
        go_ret
        exact ⟨rfl, Hb.out⟩
      · have hab : ((mark k n ws : Nat) : Int) ≠ ((mark k n' ws : Nat) : Int) := fun h => hnn (mark_inj hk hk (by omega) (by omega) (Int.ofNat_inj.1 h)).2
        have hab1 : (((mark k n ws : Nat) : Int) == ((mark k n' ws : Nat) : Int)) = false := beq_eq_false_iff_ne.2 hab
        have hnn1 : ((n : Int) == (n' : Int)) = false := beq_eq_false_iff_ne.2 (fun h => hnn (Int.ofNat_inj.1 h))
        clear hab hnn
        go_enter Try.func4, Try.ntmps4
        go_wp2_with (first
          | (go_at_call 16; refine (alive_at HB).mono ?_; rintro e w' ⟨rfl, Hb⟩)
          | (go_at_call 21; refine (mark_at (by assumption) HC rfl hk (by omega) (by omega)).mono ?_; rintro e w' ⟨rfl, Hb⟩)
          | (go_at_call 22; refine (refMark_at (by assumption) HC HW rfl hk (by omega) (by omega) hc).mono ?_; rintro e w' ⟨rfl, Hb⟩))
        go_ret
        exact ⟨rfl, Hb.out⟩
    · have hab : ((mark k n ws : Nat) : Int) ≠ ((mark k' n' ws : Nat) : Int) := fun h => hkk (mark_inj hk hk' (by omega) (by omega) (Int.ofNat_inj.1 h)).1
      have hab1 : (((mark k n ws : Nat) : Int) == ((mark k' n' ws : Nat) : Int)) = false := beq_eq_false_iff_ne.2 hab
      have hkk1 : ((k : Int) == (k' : Int)) = false := beq_eq_false_iff_ne.2 (fun h => hkk (Int.ofNat_inj.1 h))
      clear hab hkk
      go_enter Try.func4, Try.ntmps4
      go_wp2_with (first
        | (go_at_call 16; refine (alive_at HB).mono ?_; rintro e w' ⟨rfl, Hb⟩)
        | (go_at_call 21; refine (mark_at (by assumption) HC rfl (by assumption) (by omega) (by omega)).mono ?_; rintro e w' ⟨rfl, Hb⟩)
        | (go_at_call 22; refine (refMark_at (by assumption) HC HW rfl (by assumption) (by omega) (by omega) hc).mono ?_; rintro e w' ⟨rfl, Hb⟩))
      go_ret
      exact ⟨rfl, Hb.out⟩
theorem nat8 {x : Int} (h : (Lit.int .u8 x).wf = true) : ∃ n : Nat, x = n ∧ n < 256 := by
  have := bounds_u8 h
  exact ⟨x.toNat, by omega, by omega⟩
theorem nat16 {x : Int} (h : (Lit.int .u16 x).wf = true) : ∃ n : Nat, x = n ∧ n < 65536 := by
  have := bounds_u16 h
  exact ⟨x.toNat, by omega, by omega⟩
theorem nat64 {x : Int} (h : (Lit.int .u64 x).wf = true) : ∃ n : Nat, x = n ∧ n < 18446744073709551616 := by
  have := bounds_u64 h
  exact ⟨x.toNat, by omega, by omega⟩

theorem sumsApart_law (W : World) (x0 : Int) (w0 : (Lit.int .u8 x0).wf = true) (x1 : Int) (w1 : (Lit.int .u8 x1).wf = true) (x2 : Int) (w2 : (Lit.int .u16 x2).wf = true) (x3 : Int) (w3 : (Lit.int .u16 x3).wf = true) {a1 : Option Addr} {cap1 : Nat}
    (l1 : List Int) (hm1 : l1.length ≤ maxLen) (y1 : l1.length * 8 ≤ 140737488351232) (hw1 : ∀ x ∈ l1, (Lit.int .u64 x).wf = true) (hc1 : l1.length ≤ cap1) (hr1 : (Kd.int .u64).C W a1 l1.length l1) :
    Calls Try.prog 4 #[.int .u8 x0, .int .u8 x1, .int .u16 x2, .int .u16 x3, .slice a1 l1.length cap1] W fun e w' => e = .returned (.bool true) ∧ Below W.heap.size W w' := by
  obtain ⟨k, rfl, hk⟩ := nat8 w0
  obtain ⟨k', rfl, hk'⟩ := nat8 w1
  obtain ⟨n, rfl, hn⟩ := nat16 w2
  obtain ⟨n', rfl, hn'⟩ := nat16 w3
  have h := apart_walk W k k' n n' hk hk' hn hn' a1 cap1 (l1.map Int.toNat) (words_lt l1 hw1) (by rw [List.length_map]; exact hc1) (by rw [List.length_map]; omega) (by rw [List.length_map, words_il l1 hw1]; exact hr1)
  rw [List.length_map] at h
  exact h

/-! SumsMarks. -/
set_option maxRecDepth 100000 in
set_option maxHeartbeats 1000000 in
theorem marks_great (w : World) (kind n x : Int) (A : Option Addr) (c m : Nat) (h : 400 < m) (hm : m ≤ 140737488351232) :
    Calls Try.prog 5 #[.int .i64 kind, .int .i64 n, .slice A m c, .int .u64 x] w fun e w' => e = .returned (.bool true) ∧ Below w.heap.size w w' := by
  have HB := Lib.hid (Below.refl w.heap.size w)
  go_enter Try.func5, Try.ntmps5
  go_wp2_with (go_at_call 16; (with_reducible refine (alive_at HB).mono ?_); rintro e w' ⟨rfl, Hb⟩)
  go_ret
  exact ⟨rfl, Hb.out⟩
theorem mark_none_at {w W : World} {kind n : Int} {sv : Value} (hB : Hid (Below w.heap.size w W)) (h : Hid (kind < 0 ∨ 255 < kind ∨ n < 0 ∨ 16777215 < n)) :
    Calls Try.prog 21 #[.int .i64 kind, .int .i64 n, sv] W fun e w' => e = .returned (.tuple #[.int .u64 0, .bool false]) ∧ Hid (Below w.heap.size w w') :=
  (mark_none W kind n sv h.out).mono fun e w' ⟨he, hw⟩ => ⟨he, by subst hw; exact hB⟩
theorem refMark_none_at {w W : World} {kind n : Int} {A : Option Addr} {c m : Nat} {ws : List Nat} (hB : Hid (Below w.heap.size w W)) (hC : Hid ((Kd.int .u64).C w A ws.length (il ws))) (hm : m = ws.length) (hc : ws.length ≤ c) (h : Hid (kind < 0 ∨ 255 < kind ∨ n < 0 ∨ 16777215 < n)) :
    Calls Try.prog 22 #[.int .i64 kind, .int .i64 n, .slice A m c] W fun e w' => e = .returned (.tuple #[.int .u64 0, .bool false]) ∧ Hid (Below w.heap.size w w') := by
  subst hm
  have h2 := refMark_none W kind n A c (il ws) h.out (by rw [il_length]; exact hc) (by rw [il_length]; exact Kd.C_below hC.out hB.out)
  rw [il_length] at h2
  exact hB_at hB h2
theorem open_at {w W : World} {x K M S : Nat} (hB : Hid (Below w.heap.size w W)) (hx : x < 18446744073709551616) (hK : Hid (x / 72057594037927936 = K)) (hM : Hid (x / 4294967296 % 16777216 = M)) (hS : Hid (x % 4294967296 = S)) :
    Calls Try.prog 23 #[.int .u64 (x : Int)] W fun e w' => e = .returned (.tuple #[.int .i64 (K : Int), .int .i64 (M : Int), .int .u32 (S : Int)]) ∧ Hid (Below w.heap.size w w') :=
  (open_any W x hx).mono fun e w' ⟨he, hw⟩ => ⟨by rw [he, hK.out, hM.out, hS.out], by subst hw; exact hB⟩

set_option maxRecDepth 100000 in
set_option maxHeartbeats 1000000 in
theorem marks_none (w : World) (kind n : Int) (hno : kind < 0 ∨ 255 < kind ∨ n < 0 ∨ 16777215 < n) (x : Nat) (hx : x < 18446744073709551616) (A : Option Addr) (c : Nat) (ws : List Nat) (hw : ∀ x ∈ ws, x < 18446744073709551616) (hc : ws.length ≤ c) (hreach : ws.length ≤ 400) (hC : (Kd.int .u64).C w A ws.length (il ws)) :
    Calls Try.prog 5 #[.int .i64 kind, .int .i64 n, .slice A ws.length c, .int .u64 (x : Int)] w fun e w' => e = .returned (.bool true) ∧ Below w.heap.size w w' := by
  have HC := Lib.hid hC
  have HW := Lib.hid hw
  have HN := Lib.hid hno
  have HB := Lib.hid (Below.refl w.heap.size w)
  obtain ⟨K, hK⟩ : ∃ K, x / 72057594037927936 = K := ⟨_, rfl⟩
  obtain ⟨M, hM⟩ : ∃ M, x / 4294967296 % 16777216 = M := ⟨_, rfl⟩
  obtain ⟨S, hS⟩ : ∃ S, x % 4294967296 = S := ⟨_, rfl⟩
  have hKl : K < 256 := by omega
  have hMl : M < 16777216 := by omega
  have hSl : S < 4294967296 := by omega
  have hK1 : (x : Int) / 72057594037927936 = (K : Int) := by omega
  have hM1 : (x : Int) / 4294967296 % 16777216 = (M : Int) := by omega
  have hS1 : (x : Int) % 4294967296 = (S : Int) := by omega
  obtain ⟨z, hz⟩ : ∃ z, z = mark K M ws := ⟨_, rfl⟩
  obtain ⟨b, hb⟩ : ∃ b, decide (mark (x / 72057594037927936) (x / 4294967296 % 16777216) ws = x) = b := ⟨_, rfl⟩
  have hzb : ((z : Int) == (x : Int)) = b := by rw [nat_beq, hz, ← hb, hK, hM]
  have Hb0 := Lib.hid hb
  have HK := Lib.hid hK
  have HM := Lib.hid hM
  have HS := Lib.hid hS
  have Hz := Lib.hid hz
  clear hC hw hno hK hM hS hz hb
  go_enter Try.func5, Try.ntmps5
  go_wp2_with (first
    | (go_at_call 16; (with_reducible refine (alive_at HB).mono ?_); rintro e w' ⟨rfl, Hb⟩)
    | (go_at_call 21; (with_reducible refine (mark_none_at (by assumption) HN).mono ?_); rintro e w' ⟨rfl, Hb⟩)
    | (go_at_call 22; (with_reducible refine (refMark_none_at (by assumption) HC rfl hc HN).mono ?_); rintro e w' ⟨rfl, Hb⟩)
    | (go_at_call 22; (with_reducible refine (refMark_at (by assumption) HC HW rfl hKl hMl (by omega) hc).mono ?_); rw [← Hz.out]; rintro e w' ⟨rfl, Hb⟩)
    | (go_at_call 23; (with_reducible refine (open_at (by assumption) hx HK HM HS).mono ?_); rintro e w' ⟨rfl, Hb⟩)
    | (go_at_call 24; (with_reducible refine (fits_at (by assumption) HC rfl hx (by omega) Hb0).mono ?_); rintro e w' ⟨rfl, Hb⟩))
  go_ret
  exact ⟨rfl, Hb.out⟩

set_option maxRecDepth 100000 in
set_option maxHeartbeats 2000000 in
theorem marks_some (w : World) (k n : Nat) (hk : k < 256) (hn : n < 16777216) (x : Nat) (hx : x < 18446744073709551616) (A : Option Addr) (c : Nat) (ws : List Nat) (hw : ∀ x ∈ ws, x < 18446744073709551616) (hc : ws.length ≤ c) (hreach : ws.length ≤ 400) (hC : (Kd.int .u64).C w A ws.length (il ws)) :
    Calls Try.prog 5 #[.int .i64 (k : Int), .int .i64 (n : Int), .slice A ws.length c, .int .u64 (x : Int)] w fun e w' => e = .returned (.bool true) ∧ Below w.heap.size w w' := by
  have HC := Lib.hid hC
  have HW := Lib.hid hw
  have HB := Lib.hid (Below.refl w.heap.size w)
  obtain ⟨K, hK⟩ : ∃ K, x / 72057594037927936 = K := ⟨_, rfl⟩
  obtain ⟨M, hM⟩ : ∃ M, x / 4294967296 % 16777216 = M := ⟨_, rfl⟩
  obtain ⟨S, hS⟩ : ∃ S, x % 4294967296 = S := ⟨_, rfl⟩
  have hKl : K < 256 := by omega
  have hMl : M < 16777216 := by omega
  have hSl : S < 4294967296 := by omega
  have hK1 : (x : Int) / 72057594037927936 = (K : Int) := by omega
  have hM1 : (x : Int) / 4294967296 % 16777216 = (M : Int) := by omega
  have hS1 : (x : Int) % 4294967296 = (S : Int) := by omega
  obtain ⟨z, hz⟩ : ∃ z, z = mark K M ws := ⟨_, rfl⟩
  obtain ⟨b, hb⟩ : ∃ b, decide (mark (x / 72057594037927936) (x / 4294967296 % 16777216) ws = x) = b := ⟨_, rfl⟩
  have hzb : ((z : Int) == (x : Int)) = b := by rw [nat_beq, hz, ← hb, hK, hM]
  have ho := mark_open hk hn ws
  obtain ⟨mk, hmk⟩ : ∃ mk, mk = mark k n ws := ⟨_, rfl⟩
  obtain ⟨s, hs⟩ : ∃ s, wsum (k :: n :: ws) = s := ⟨_, rfl⟩
  rw [← hmk, hs] at ho
  obtain ⟨hmK, hmM, hmS, hml⟩ := ho
  have hfit : decide (mark (mk / 72057594037927936) (mk / 4294967296 % 16777216) ws = mk) = true := by rw [hmK, hmM, hmk]; simp
  have Hf := Lib.hid hfit
  have HmK := Lib.hid hmK
  have HmM := Lib.hid hmM
  have HmS := Lib.hid hmS
  have Hmk := Lib.hid hmk
  have Hb0 := Lib.hid hb
  have HK := Lib.hid hK
  have HM := Lib.hid hM
  have HS := Lib.hid hS
  have Hz := Lib.hid hz
  clear hC hw hK hM hS hz hb hmk hs hmK hmM hmS hfit
  go_enter Try.func5, Try.ntmps5
  go_wp2_with (first
    | (go_at_call 16; (with_reducible refine (alive_at HB).mono ?_); rintro e w' ⟨rfl, Hb⟩)
    | (go_at_call 21; (with_reducible refine (mark_at (by assumption) HC rfl (by assumption) (by assumption) (by omega)).mono ?_); (try rw [← Hmk.out]); rintro e w' ⟨rfl, Hb⟩)
    | (go_at_call 22; (with_reducible refine (refMark_at (by assumption) HC HW rfl (by assumption) (by assumption) (by omega) hc).mono ?_); (try rw [← Hz.out]); (try rw [← Hmk.out]); rintro e w' ⟨rfl, Hb⟩)
    | (go_at_call 23; (with_reducible refine (open_at (by assumption) (by assumption) HK HM HS).mono ?_); rintro e w' ⟨rfl, Hb⟩)
    | (go_at_call 23; (with_reducible refine (open_at (by assumption) (by assumption) HmK HmM HmS).mono ?_); rintro e w' ⟨rfl, Hb⟩)
    | (go_at_call 24; (with_reducible refine (fits_at (by assumption) HC rfl (by assumption) (by omega) Hb0).mono ?_); rintro e w' ⟨rfl, Hb⟩)
    | (go_at_call 24; (with_reducible refine (fits_at (by assumption) HC rfl (by assumption) (by omega) Hf).mono ?_); rintro e w' ⟨rfl, Hb⟩))
  go_ret
  exact ⟨rfl, Hb.out⟩

theorem sumsMarks_law (W : World) (x0 : Int) (w0 : (Lit.int .i64 x0).wf = true) (x1 : Int) (w1 : (Lit.int .i64 x1).wf = true) {a1 : Option Addr} {cap1 : Nat}
    (l1 : List Int) (hm1 : l1.length ≤ maxLen) (y1 : l1.length * 8 ≤ 140737488351232) (hw1 : ∀ x ∈ l1, (Lit.int .u64 x).wf = true) (hc1 : l1.length ≤ cap1) (hr1 : (Kd.int .u64).C W a1 l1.length l1) (x3 : Int) (w3 : (Lit.int .u64 x3).wf = true) :
    Calls Try.prog 5 #[.int .i64 x0, .int .i64 x1, .slice a1 l1.length cap1, .int .u64 x3] W fun e w' => e = .returned (.bool true) ∧ Below W.heap.size W w' := by
  by_cases hg : 400 < l1.length
  · exact marks_great W x0 x1 x3 a1 cap1 _ hg (by omega)
  · obtain ⟨x, rfl, hx⟩ := nat64 w3
    have hl : (l1.map Int.toNat).length = l1.length := List.length_map _
    by_cases hno : x0 < 0 ∨ 255 < x0 ∨ x1 < 0 ∨ 16777215 < x1
    · have h := marks_none W x0 x1 hno x hx a1 cap1 (l1.map Int.toNat) (words_lt l1 hw1) (by omega) (by omega) (by rw [hl, words_il l1 hw1]; exact hr1)
      rw [hl] at h
      exact h
    · obtain ⟨k, rfl⟩ : ∃ k : Nat, x0 = k := ⟨x0.toNat, by omega⟩
      obtain ⟨n, rfl⟩ : ∃ n : Nat, x1 = n := ⟨x1.toNat, by omega⟩
      have h := marks_some W k n (by omega) (by omega) x hx a1 cap1 (l1.map Int.toNat) (words_lt l1 hw1) (by omega) (by omega) (by rw [hl, words_il l1 hw1]; exact hr1)
      rw [hl] at h
      exact h
end Go.Proofs.Ytmeoiennniknlaa.Sums

namespace Go.Proofs.Ytmeoiennniknlaa.Sums
open Go.RowKit Go.Shelf Go.Proofs.YtmeoiennniknlaaW.PrintWords Go.Proofs.Ytmeoiennniknlaa.Lb
set_option linter.unusedVariables false
set_option linter.unusedSimpArgs false

theorem mark_words {k n : Nat} {l l' : List Nat} (h : wsum (k :: n :: l) ≠ wsum (k :: n :: l')) : mark k n l ≠ mark k n l' := by
  unfold mark
  omega
theorem pow_lt {q : Nat} (h : q < 64) : (2 : Nat) ^ q < 18446744073709551616 := by
  have := Nat.pow_lt_pow_right (a := 2) (by decide) h
  simpa using this
theorem wrap_pow {q : Nat} (h : q < 64) : IntKind.u64.wrap ((2 : Int) ^ q) = ((2 ^ q : Nat) : Int) := by
  have h1 := pow_lt h
  have h2 : ((2 ^ q : Nat) : Int) = (2 : Int) ^ q := by rw [Int.natCast_pow]; rfl
  rw [← h2]
  exact u64_nat _ h1
theorem set_turned (k n : Nat) (ws : List Nat) (j q : Nat) (hj : j < ws.length) (hq : q < 64) : mark k n (ws.set j (ws[j] ^^^ 2 ^ q)) ≠ mark k n ws := by
  apply mark_words
  have h := wsum_turned (k :: n :: ws.take j) (ws.drop (j + 1)) ws[j] q hq
  have e1 : ws.set j (ws[j] ^^^ 2 ^ q) = ws.take j ++ (ws[j] ^^^ 2 ^ q) :: ws.drop (j + 1) := List.set_eq_take_append_cons_drop .. |>.trans (by rw [if_pos hj])
  have e2 : ws = ws.take j ++ ws[j] :: ws.drop (j + 1) := by
    conv => lhs; rw [← List.take_append_drop j ws, List.drop_eq_getElem_cons hj]
  rw [e1]
  conv => rhs; rw [e2]
  exact h
theorem turn_low (x r : Nat) (hr : r < 32) : (x ^^^ 2 ^ r) / 4294967296 = x / 4294967296 ∧ x ^^^ 2 ^ r ≠ x := by
  constructor
  · rw [show (4294967296 : Nat) = 2 ^ 32 from rfl, ← Nat.shiftRight_eq_div_pow, ← Nat.shiftRight_eq_div_pow, Nat.shiftRight_xor_distrib, Nat.shiftRight_eq_div_pow (2 ^ r) 32, Nat.div_eq_of_lt (Nat.pow_lt_pow_right (by decide) hr), Nat.xor_zero]
  · intro h
    have h2 := congrArg (x ^^^ ·) h
    simp only [← Nat.xor_assoc, Nat.xor_self, Nat.zero_xor] at h2
    exact absurd h2 (Nat.ne_of_gt (Nat.two_pow_pos r))

set_option maxRecDepth 100000 in
set_option maxHeartbeats 1000000 in
theorem turned_walk (w : World) (k n t b : Nat) (hk : k < 256) (hn : n < 65536) (ht : t < 65536) (hb : b < 256) (A : Option Addr) (c : Nat) (ws : List Nat) (hw : ∀ x ∈ ws, x < 18446744073709551616) (hc : ws.length ≤ c) (h0 : 0 < ws.length) (hreach : ws.length ≤ 400) (hC : (Kd.int .u64).C w A ws.length (il ws)) :
    Calls Try.prog 6 #[.int .u8 (k : Int), .int .u16 (n : Int), .slice A ws.length c, .int .u16 (t : Int), .int .u8 (b : Int)] w fun e w' => e = .returned (.bool true) ∧ Below w.heap.size w w' := by
  have HC := Lib.hid hC
  have hne : ws ≠ [] := by intro e; rw [e] at h0; exact absurd h0 (by simp)
  have HW := Lib.hid hw
  have HB := Lib.hid (Below.refl w.heap.size w)
  clear hC hw
  have hL0 : ((ws.length : Int) == 0) = false := by simp; intro e; rw [e] at h0; exact absurd h0 (by simp)
  go_enter Try.func6, Try.ntmps6
  go_wp2_with (first
    | (go_at_call 16; (with_reducible refine (alive_at HB).mono ?_); rintro e w' ⟨rfl, Hb⟩)
    | (go_at_call 21; (with_reducible refine (mark_at (by assumption) HC rfl (by assumption) (by omega) (by omega)).mono ?_); rintro e w' ⟨rfl, Hb⟩)
    | (at_builtin; refine app_lit_ints (w0 := w) .u64 23 30 8 Try.underlying23 infoU64 (by omega) rfl _ _ rfl [] (il ws) (il ws) A ws.length c ws.length 0 _ rfl rfl rfl rfl HC (by assumption) rfl (il_length ws) (by omega) ?_; intro A1 c1 w1 hl1 HC1 HR1 Hb))
  obtain ⟨g, rfl, hg, hcells, hstore⟩ := R_form HR1.out h0 (il_length ws)
  obtain ⟨j, hj⟩ : ∃ j, j = t % ws.length := ⟨_, rfl⟩
  have hjl : j < ws.length := by rw [hj]; exact Nat.mod_lt _ h0
  obtain ⟨hcell, hfr⟩ := hcells j hjl
  have hst := hstore j
  obtain ⟨wd, hwd⟩ : ∃ wd, wd = ws[j] := ⟨_, rfl⟩
  have hget : (il ws).getD j 0 = (wd : Int) := by
    have h2 := rd_il ws j hjl
    rw [← hwd] at h2
    simpa [rd] using h2
  rw [hget] at hcell
  have hji : (j : Int) < (ws.length : Int) := by omega
  have htm : Int.tmod (t : Int) (ws.length : Int) = (j : Int) := by
    rw [Int.tmod_eq_emod_of_nonneg (by omega), hj]; rfl
  have htm' : (IntKind.i64.wrap (t : Int)).tmod (ws.length : Int) = (j : Int) := by
    rw [show IntKind.i64.wrap (t : Int) = (t : Int) from IntWalk.i64_in _ (by omega)]; exact htm
  obtain ⟨q, hq⟩ : ∃ q, q = b % 64 := ⟨_, rfl⟩
  have hql : q < 64 := by rw [hq]; exact Nat.mod_lt _ (by decide)
  have hbm : Int.tmod (b : Int) 64 = (q : Int) := by rw [Int.tmod_eq_emod_of_nonneg (by omega), hq]; rfl
  have Hq := Lib.hid hq
  clear hq
  have Hst := Lib.hid hst
  have Hj := Lib.hid hj
  have Hwd := Lib.hid hwd
  have hwl : wd < 18446744073709551616 := by rw [hwd]; exact HW.out _ (List.getElem_mem hjl)
  obtain ⟨wd', hwd'⟩ : ∃ wd', wd' = wd ^^^ 2 ^ q := ⟨_, rfl⟩
  have hpq := pow_lt hql
  have hxo : bits .xor .u64 (wd : Int) (IntKind.u64.wrap (2 ^ q)) = (wd' : Int) := by
    rw [wrap_pow hql, hwd']
    exact u64_xor_nat _ _ hwl hpq
  have hwl' : wd' < 18446744073709551616 := by rw [hwd']; exact Nat.xor_lt_two_pow (n := 64) hwl hpq
  have Hwd' := Lib.hid hwd'
  obtain ⟨mk, hmk⟩ : ∃ mk, mk = mark k n ws := ⟨_, rfl⟩
  have ho := mark_open hk (by omega : n < 16777216) ws
  rw [← hmk] at ho ⊢
  have hmkl : mk < 18446744073709551616 := ho.2.2.2
  have HR2 := hst wd' hjl
  rw [show (il ws).set j (wd' : Int) = il (ws.set j wd') by simp [il, List.map_set]] at HR2
  have Hb2 := Lib.hid ((Hb.out.setCell (p := ⟨g, j, none⟩) hg (.int .u64 (wd' : Int))).drew)
  have hC2 : Hid ((Kd.int .u64).C (w1.setCell ⟨g, j, none⟩ (.int .u64 (wd' : Int))).drew (some ⟨g, 0, none⟩) ws.length (il (ws.set j wd'))) := by
    obtain ⟨A2, c2, hv, _, hC⟩ := Kd.R_reads HR2
    simp only [Value.slice.injEq] at hv
    obtain ⟨rfl, _, _⟩ := hv
    have hl : (il (ws.set j wd')).length = ws.length := by rw [il_length, List.length_set]
    rw [hl] at hC
    exact Lib.hid (Kd.C_below hC (Below.refl _ _).drew)
  have HF1 : Hid (Calls Try.prog 24 #[.int .u64 (mk : Int), .slice (some ⟨g, 0, none⟩) ws.length c1] (w1.setCell ⟨g, j, none⟩ (.int .u64 (wd' : Int))).drew fun e w' => e = .returned (.bool false) ∧ Hid (Below w.heap.size w w')) := by
    have hl : (ws.set j wd').length = ws.length := List.length_set ..
    have h := fits_any _ mk hmkl (some ⟨g, 0, none⟩) c1 (ws.set j wd') (by omega) (by rw [hl]; exact hC2.out)
    rw [hl, ho.1, ho.2.1, decide_eq_false (by rw [hmk, hwd', hwd]; exact set_turned k n ws j q hjl hql)] at h
    exact hB_at Hb2 h
  obtain ⟨r, hr⟩ : ∃ r, r = b % 32 := ⟨_, rfl⟩
  have hrl : r < 32 := by rw [hr]; exact Nat.mod_lt _ (by decide)
  have hrm : (b : Int) % 32 = (r : Int) := by rw [hr]; rfl
  obtain ⟨mk', hmk'⟩ : ∃ mk', mk' = mk ^^^ 2 ^ r := ⟨_, rfl⟩
  have hpr := pow_lt (by omega : r < 64)
  have hmkl' : mk' < 18446744073709551616 := by rw [hmk']; exact Nat.xor_lt_two_pow (n := 64) hmkl hpr
  have hxm : bits .xor .u64 (mk : Int) (IntKind.u64.wrap (2 ^ r)) = (mk' : Int) := by
    rw [wrap_pow (by omega : r < 64), hmk']
    exact u64_xor_nat _ _ hmkl hpr
  have hf2 : decide (mark (mk' / 72057594037927936) (mk' / 4294967296 % 16777216) ws = mk') = false := by
    have ht := turn_low mk r hrl
    have e1 : mk' / 72057594037927936 = k := by rw [← ho.1, hmk']; omega
    have e2 : mk' / 4294967296 % 16777216 = n := by rw [← ho.2.1, hmk', ht.1]
    rw [e1, e2, ← hmk, hmk']
    exact decide_eq_false (fun h => ht.2 h.symm)
  have HF2 := Lib.hid hf2
  have Hmk' := Lib.hid hmk'
  have Hmk := Lib.hid hmk
  have Ho := Lib.hid ho
  have Hr := Lib.hid hr
  clear hwd' hmk ho HR2 hf2 hmk' hr hpq hpr
  have Hget := Lib.hid hget
  clear hst hj hwd hget hcells hstore
  refine wp_region_still_tail 19 (by kernel_rfl) (by kernel_rfl) ?_
  simp only [List.take_succ_cons, List.take_zero, List.drop_succ_cons, List.drop_zero]
  iterate 19 still_step
  refine wpStill_nil ?_
  go_wp2_with (first
    | (go_at_call 24; (with_reducible refine HF1.out.mono ?_); rintro e w' ⟨rfl, Hb⟩)
    | (go_at_call 24; (with_reducible refine (fits_at (by assumption) HC rfl hmkl' (by omega) HF2).mono ?_); rintro e w' ⟨rfl, Hb⟩))
  go_ret
  exact ⟨rfl, Hb.out⟩

set_option maxRecDepth 100000 in
set_option maxHeartbeats 1000000 in
theorem turned_out (w : World) (k n t b : Int) (A : Option Addr) (c m : Nat) (h : m = 0 ∨ 400 < m) (hm : m ≤ 140737488351232) :
    Calls Try.prog 6 #[.int .u8 k, .int .u16 n, .slice A m c, .int .u16 t, .int .u8 b] w fun e w' => e = .returned (.bool true) ∧ Below w.heap.size w w' := by
  have HB := Lib.hid (Below.refl w.heap.size w)
  rcases h with h | h
  · subst h
    go_enter Try.func6, Try.ntmps6
    go_wp2_with (go_at_call 16; (with_reducible refine (alive_at HB).mono ?_); rintro e w' ⟨rfl, Hb⟩)
    go_ret
    exact ⟨rfl, Hb.out⟩
  · go_enter Try.func6, Try.ntmps6
    go_wp2_with (go_at_call 16; (with_reducible refine (alive_at HB).mono ?_); rintro e w' ⟨rfl, Hb⟩)
    go_ret
    exact ⟨rfl, Hb.out⟩

theorem sumsTurned_law (W : World) (x0 : Int) (w0 : (Lit.int .u8 x0).wf = true) (x1 : Int) (w1 : (Lit.int .u16 x1).wf = true) {a1 : Option Addr} {cap1 : Nat}
    (l1 : List Int) (hm1 : l1.length ≤ maxLen) (y1 : l1.length * 8 ≤ 140737488351232) (hw1 : ∀ x ∈ l1, (Lit.int .u64 x).wf = true) (hc1 : l1.length ≤ cap1) (hr1 : (Kd.int .u64).C W a1 l1.length l1)
    (x3 : Int) (w3 : (Lit.int .u16 x3).wf = true) (x4 : Int) (w4 : (Lit.int .u8 x4).wf = true) :
    Calls Try.prog 6 #[.int .u8 x0, .int .u16 x1, .slice a1 l1.length cap1, .int .u16 x3, .int .u8 x4] W fun e w' => e = .returned (.bool true) ∧ Below W.heap.size W w' := by
  by_cases hg : l1.length = 0 ∨ 400 < l1.length
  · exact turned_out W x0 x1 x3 x4 a1 cap1 _ hg (by omega)
  · obtain ⟨k, rfl, hk⟩ := nat8 w0
    obtain ⟨n, rfl, hn⟩ := nat16 w1
    obtain ⟨t, rfl, ht⟩ := nat16 w3
    obtain ⟨b, rfl, hb⟩ := nat8 w4
    have hl : (l1.map Int.toNat).length = l1.length := List.length_map _
    have h := turned_walk W k n t b hk hn ht hb a1 cap1 (l1.map Int.toNat) (words_lt l1 hw1) (by omega) (by omega) (by omega) (by rw [hl, words_il l1 hw1]; exact hr1)
    rw [hl] at h
    exact h
end Go.Proofs.Ytmeoiennniknlaa.Sums
