/- The two iterators of package sums: the bytes of a list of bytes, and of a list of words, one behind the other. -/
import Derived.Test.YtmeoiennniknlaaSumsWalk
import Derived.Test.YtmeoiennniknlaaLib
import Derived.RangeFuncNested
import Derived.RangeFuncBound
import Derived.RangeFuncCalls
import Derived.RangeFuncLeaves
import Derived.RangeFuncFrom
import Derived.RangeFuncBox
import Derived.Shelf.Abstract
import Derived.Shelf.RegionOpen
import Derived.OwnWalkIn
import Derived.TacticsInMore
import Derived.LoopNIn
import Derived.LoopIn
namespace Go.Proofs.Ytmeoiennniknlaa.Sums
open Go.RowKit Go.Shelf Go.Proofs.YtmeoiennniknlaaW.PrintWords Go.Proofs.Ytmeoiennniknlaa.Lb
attribute [local go_sem] Oper.semAt_some

abbrev Byt := Fin 256
def ib (xs : List Byt) : List Int := il (xs.map (·.val))
theorem rd_ib (xs : List Byt) (k : Nat) (h : k < xs.length) : rd (ib xs) (k : Int) = ((xs[k].val : Nat) : Int) := by
  unfold ib; rw [rd_il _ _ (by simpa using h)]; simp
theorem take_snoc' {α : Type} (xs : List α) (k : Nat) (h : k < xs.length) : xs.take (k + 1) = xs.take k ++ [xs[k]] := List.take_succ_eq_append_getElem h

set_option maxRecDepth 100000 in
set_option maxHeartbeats 400000 in
theorem bytes1_in (n : Nat) (hn : 1 ≤ n) (l Bs : Nat) (w0 : World) (A : Option Addr) (c : Nat) (xs : List Byt) (hreach : xs.length ≤ 140737488351232) (hC : (Kd.int .u8).C w0 A xs.length (ib xs)) (J Jx : List Byt → World → Prop)
    (hY : ∀ pre (x : Byt) W, J pre W → pre.length < xs.length → YieldAt Fence.wide (n - 1) Try.prog l #[.int .u8 ((x.val : Nat) : Int)] W fun e W' =>
      (e = .returned (.bool true) ∧ J (pre ++ [x]) W' ∧ Below w0.heap.size W W') ∨ (e = .returned (.bool false) ∧ Jx (pre ++ [x]) W'))
    (W : World) (hB : Below w0.heap.size w0 W) (hBs : W.cell? ⟨Bs, 0, none⟩ = some (.slice A xs.length c)) (h0 : J [] W) :
    CallsIn Fence.wide n Try.prog 70 #[.func (.yield l) #[] #[], .pointer (some ⟨Bs, 0, none⟩)] W fun e W' => (∃ v, e = .returned v) ∧
      ((∃ ys, ys = xs ∧ J ys W') ∨ (∃ pre, pre <+: xs ∧ Jx pre W')) := by
  refine callsIn_of_wp Try.func70 rfl trivial ?_ rfl
  simp only [Try.ntmps70, List.size_toArray, List.length_cons, List.length_nil, Nat.reduceAdd, Nat.reduceSub, Array.replicate_succ, Array.replicate_zero, List.push_toArray, List.append_toArray, List.nil_append, List.cons_append]
  have HC := Lib.hid hC
  clear hC
  gi_wp2
  gi_loopw [7] (fun i wr => ∃ k : Nat, k ≤ xs.length ∧ i = .int .i64 k ∧ J (xs.take k) wr ∧ Below w0.heap.size w0 wr)
    (fun i _ => xs.length - (intOf i).toNat)
  case atStart => exact ⟨0, Nat.zero_le _, rfl, h0, hB⟩
  case round =>
    obtain ⟨k, hk, rfl, hJs, hnx⟩ := hrel
    by_cases hlt : k < xs.length
    · obtain ⟨ad, e, hc⟩ := Kd.at_int (Kd.C_below HC.out hnx) (k : Int) (by omega) (by omega)
      rw [rd_ib xs k hlt] at hc
      simp only [Int.toNat_natCast] at hc
      cases e
      obtain ⟨fn, tmps, assign, body, hy, hR⟩ := hY _ xs[k] wr hJs (by simp; omega)
      obtain ⟨x, hx⟩ : ∃ x, x = xs[k] := ⟨_, rfl⟩
      rw [← hx] at hc hy hR
      have Hx := Lib.hid hx
      clear hx
      gi_wp2
      refine hR.mono ?_
      rintro e W3 (⟨rfl, hJ3, hk3⟩ | ⟨rfl, hJx3⟩)
      · gi_wp2
        go_roundw
        case rel => exact ⟨k + 1, by omega, by simp, by rw [take_snoc' xs k hlt, ← Hx.out]; exact hJ3, hnx.trans hk3⟩
        case measure => simp [intOf]; omega
      · gi_wp2
        refine bodyPost_ret (results_none rfl _ _ _) rfl ?_
        exact ⟨⟨_, rfl⟩, .inr ⟨_, by rw [Hx.out, ← take_snoc' xs k hlt]; exact List.take_prefix _ _, hJx3⟩⟩
    · obtain rfl : k = xs.length := by omega
      gi_wp2
      go_end0
      exact ⟨⟨_, rfl⟩, .inl ⟨_, rfl, by rwa [List.take_length] at hJs⟩⟩

/-- A word's j-th byte. -/
def wb1 (w j : Nat) : Byt := ⟨nth w j, nth_lt w j⟩
def wb (w : Nat) : List Byt := (List.range 8).map (wb1 w)
theorem wb_length (w : Nat) : (wb w).length = 8 := by simp [wb]
theorem wb_vals (w : Nat) : (wb w).map (·.val) = wbytes w := by rw [wbytes_eq]; simp [wb, wb1]
def wbs (ws : List Nat) : List Byt := ws.flatMap wb
theorem wbs_vals (ws : List Nat) : (wbs ws).map (·.val) = ws.flatMap wbytes := by
  simp only [wbs, List.map_flatMap, wb_vals]
theorem wbs_length (ws : List Nat) : (wbs ws).length = 8 * ws.length := by
  induction ws with
  | nil => rfl
  | cons w ws ih => simp only [wbs, List.flatMap_cons, List.length_append, wb_length, List.length_cons] at ih ⊢; omega
theorem getD_at (ws : List Nat) (k : Nat) (h : k < ws.length) : ws.getD k 0 = ws[k] := by simp [List.getD_eq_getElem?_getD, h]
def part (ws : List Nat) (k j : Nat) : List Byt := wbs (ws.take k) ++ (wb (ws.getD k 0)).take j
theorem part_byte (ws : List Nat) (k j : Nat) (hj : j < 8) : part ws k (j + 1) = part ws k j ++ [wb1 (ws.getD k 0) j] := by
  unfold part
  rw [List.append_assoc, take_snoc' _ j (by rw [wb_length]; exact hj)]
  simp [wb]
theorem part_word (ws : List Nat) (k : Nat) (h : k < ws.length) : part ws k 8 = part ws (k + 1) 0 := by
  unfold part
  have e1 : (wb (ws.getD k 0)).take 8 = wb (ws.getD k 0) := List.take_of_length_le (by rw [wb_length]; omega)
  rw [e1, take_snoc' ws k h, getD_at ws k h]
  simp only [wbs, List.flatMap_append, List.flatMap_cons, List.flatMap_nil, List.append_nil, List.take_zero]
theorem part_length (ws : List Nat) (k j : Nat) (hk : k ≤ ws.length) (hj : j ≤ 8) : (part ws k j).length = 8 * k + j := by
  unfold part
  rw [List.length_append, wbs_length, List.length_take, List.length_take, wb_length]
  omega
theorem part_prefix (ws : List Nat) (k j : Nat) (h : k < ws.length) : part ws k j <+: wbs ws := by
  unfold part
  have e : wbs ws = wbs (ws.take k) ++ (wb (ws.getD k 0) ++ wbs (ws.drop (k + 1))) := by
    conv => lhs; rw [← List.take_append_drop k ws, List.drop_eq_getElem_cons h]
    rw [getD_at ws k h]
    simp only [wbs, List.flatMap_append, List.flatMap_cons]
  rw [e]
  exact (List.prefix_append_right_inj _).2 ((List.take_prefix _ _).trans (List.prefix_append _ _))
theorem wb1_val (w j : Nat) (_hj : j < 8) : (w : Int) / 2 ^ (8 * j) % 256 = (((wb1 w j).val : Nat) : Int) := by
  show _ = ((nth w j : Nat) : Int)
  unfold nth
  rw [show (256 : Nat) ^ j = 2 ^ (8 * j) by rw [Nat.pow_mul]]
  rw [Int.natCast_emod, Int.natCast_ediv, Int.natCast_pow]
  rfl

set_option maxRecDepth 100000 in
set_option maxHeartbeats 400000 in
theorem of1_in (n : Nat) (hn : 1 ≤ n) (l Bs : Nat) (w0 : World) (A : Option Addr) (c : Nat) (ws : List Nat) (hreach : ws.length * 8 ≤ 140737488351232) (hC : (Kd.int .u64).C w0 A ws.length (il ws)) (J Jx : List Byt → World → Prop)
    (hY : ∀ pre (x : Byt) W, J pre W → pre.length < 8 * ws.length → YieldAt Fence.wide (n - 1) Try.prog l #[.int .u8 ((x.val : Nat) : Int)] W fun e W' =>
      (e = .returned (.bool true) ∧ J (pre ++ [x]) W' ∧ Below w0.heap.size W W') ∨ (e = .returned (.bool false) ∧ Jx (pre ++ [x]) W'))
    (W : World) (hB : Below w0.heap.size w0 W) (hBs : W.cell? ⟨Bs, 0, none⟩ = some (.slice A ws.length c)) (h0 : J [] W) :
    CallsIn Fence.wide n Try.prog 71 #[.func (.yield l) #[] #[], .pointer (some ⟨Bs, 0, none⟩)] W fun e W' => (∃ v, e = .returned v) ∧
      ((∃ ys, ys = wbs ws ∧ J ys W') ∨ (∃ pre, pre <+: wbs ws ∧ Jx pre W')) := by
  refine callsIn_of_wp Try.func71 rfl trivial ?_ rfl
  simp only [Try.ntmps71, List.size_toArray, List.length_cons, List.length_nil, Nat.reduceAdd, Nat.reduceSub, Array.replicate_succ, Array.replicate_zero, List.push_toArray, List.append_toArray, List.nil_append, List.cons_append]
  have HC := Lib.hid hC
  clear hC
  gi_wp2
  gi_loopw [8] (fun i wr => ∃ k : Nat, k ≤ ws.length ∧ i = .int .i64 k ∧ J (part ws k 0) wr ∧ Below w0.heap.size w0 wr)
    (fun i _ => ws.length - (intOf i).toNat)
  case atStart => exact ⟨0, Nat.zero_le _, rfl, h0, hB⟩
  case round =>
    obtain ⟨k, hk, rfl, hJs, hnx⟩ := hrel
    by_cases hlt : k < ws.length
    · obtain ⟨ad, e, hc⟩ := Kd.at_int (Kd.C_below HC.out hnx) (k : Int) (by omega) (by omega)
      rw [rd_il ws k hlt] at hc
      simp only [Int.toNat_natCast] at hc
      cases e
      obtain ⟨wd, hwd⟩ : ∃ wd, wd = ws[k] := ⟨_, rfl⟩
      rw [← hwd] at hc
      have Hwd := Lib.hid (show ws.getD k 0 = wd by rw [hwd]; exact getD_at ws k hlt)
      clear hwd
      obtain ⟨wo, rfl⟩ : ∃ wo : World, wo = wr := ⟨_, rfl⟩
      gi_wp2
      gi_loopw [5] (fun i wr => ∃ j : Nat, j ≤ 8 ∧ i = .int .i64 ((8 * j : Nat) : Int) ∧ J (part ws k j) wr ∧ Below w0.heap.size w0 wr)
        (fun i _ => 64 - (intOf i).toNat)
      case atStart => exact ⟨0, Nat.zero_le _, rfl, hJs, hnx⟩
      case round =>
        obtain ⟨j, hj, rfl, hJ2, hnx2⟩ := hrel
        by_cases hj8 : j < 8
        · obtain ⟨fn, tmps, assign, body, hy, hR⟩ := hY _ (wb1 (ws.getD k 0) j) wr hJ2 (by rw [part_length ws k j hk hj]; omega)
          rw [Hwd.out] at hy hR
          have hval := wb1_val wd j hj8
          obtain ⟨x, hx⟩ : ∃ x, x = wb1 wd j := ⟨_, rfl⟩
          rw [← hx] at hval hy hR
          have Hx := Lib.hid (show part ws k (j + 1) = part ws k j ++ [x] by rw [hx, ← Hwd.out]; exact part_byte ws k j hj8)
          clear hx
          gi_wp2
          refine hR.mono ?_
          rintro e W3 (⟨rfl, hJ3, hk3⟩ | ⟨rfl, hJx3⟩)
          · gi_wp2
            go_roundw
            case rel => exact ⟨j + 1, by omega, by go_num, by rw [Hx.out]; exact hJ3, hnx2.trans hk3⟩
            case measure => simp [intOf]; omega
          · gi_wp2
            refine bodyPost_ret (results_none rfl _ _ _) rfl ?_
            exact ⟨⟨_, rfl⟩, .inr ⟨_, by rw [← Hx.out]; exact part_prefix _ _ _ hlt, hJx3⟩⟩
        · obtain rfl : j = 8 := by omega
          gi_wp2
          go_roundw
          case rel => exact ⟨k + 1, by omega, by simp, by rw [← part_word ws k hlt]; exact hJ2, hnx2⟩
          case measure => simp [intOf]; omega
    · obtain rfl : k = ws.length := by omega
      gi_wp2
      go_end0
      exact ⟨⟨_, rfl⟩, .inl ⟨_, rfl, by simpa [part, List.take_length] using hJs⟩⟩
end Go.Proofs.Ytmeoiennniknlaa.Sums
