/- The device of package disk in memory: what it holds; what a call may turn; disk.New, Len, there. -/
import Derived.Test.YtmeoiennniknlaaAnB
import Derived.Test.YtmeoiennniknlaaWArr
import Derived.Maps.OwnSet
import Derived.StillTailTactics
namespace Go.Proofs.Ytmeoiennniknlaa.Disk
open Go.RowKit Go.Shelf Go.Proofs.YtmeoiennniknlaaW.PrintWords Go.Proofs.Ytmeoiennniknlaa.Lb Go.Proofs.Ytmeoiennniknlaa.Anchor
set_option linter.unusedVariables false
set_option linter.unusedSimpArgs false

/-- Only blocks in S may have turned, of those that were there. -/
structure Chg (S : Nat → Prop) (w w' : World) : Prop where
  os : w'.os = w.os
  tape : w'.tape = w.tape
  output : w'.output = w.output
  size : w.heap.size ≤ w'.heap.size
  block : ∀ k, k < w.heap.size → ¬ S k → w'.heap[k]? = w.heap[k]?
section
variable {S : Nat → Prop} {a b c w : World}
theorem Chg.refl (S : Nat → Prop) (w : World) : Chg S w w := ⟨rfl, rfl, rfl, Nat.le_refl _, fun _ _ _ => rfl⟩
theorem Chg.trans (h : Chg S a b) (k : Chg S b c) : Chg S a c :=
  ⟨k.os.trans h.os, k.tape.trans h.tape, k.output.trans h.output, Nat.le_trans h.size k.size, fun i hi hs => (k.block i (Nat.lt_of_lt_of_le hi h.size) hs).trans (h.block i hi hs)⟩
theorem Chg.of_below (h : Below a.heap.size a b) : Chg S a b := ⟨h.os, h.tape, h.output, h.size, fun k hk _ => h.block k hk⟩
theorem Chg.below (h : Chg S a b) {B : Nat} (hB : B ≤ a.heap.size) (hS : ∀ k, S k → B ≤ k) : Below B a b := ⟨h.os, h.tape, h.output, h.size, fun k hk => h.block k (Nat.lt_of_lt_of_le hk hB) (fun hs => Nat.lt_irrefl _ (Nat.lt_of_lt_of_le hk (hS k hs)))⟩
theorem Chg.mono {S' : Nat → Prop} (h : Chg S a b) (hS : ∀ k, S k → S' k) : Chg S' a b := ⟨h.os, h.tape, h.output, h.size, fun k hk hs => h.block k hk (fun h' => hs (hS k h'))⟩
/-- What is new is no concern of whoever was there before. -/
theorem Chg.mono' {S' : Nat → Prop} (h : Chg S a b) (hS : ∀ k, k < a.heap.size → S k → S' k) : Chg S' a b := ⟨h.os, h.tape, h.output, h.size, fun k hk hs => h.block k hk (fun h' => hs (hS k hk h'))⟩
theorem Chg.set {p : Addr} (hp : S p.block) (w : World) (v : Value) : Chg S w (w.setCell p v) := ⟨rfl, rfl, rfl, by simp [World.setCell], fun k _ hk => Below.heap_setCell w p v k (fun e => hk (by rw [e]; exact hp))⟩
theorem Chg.drew (h : Chg S a b) : Chg S a b.drew := ⟨h.os, h.tape, h.output, h.size, h.block⟩
theorem Chg.drewN (h : Chg S a b) (n : Nat) : Chg S a (b.drewN n) := ⟨h.os, h.tape, h.output, h.size, h.block⟩
theorem Chg.grown {row : Option Nat} (h : a.grownBy b row) (hS : ∀ k, row = some k → S k) : Chg S a b := ⟨h.os, h.tape, h.output, h.size, fun k hk hs => h.block k hk (fun e => hs (hS k e.symm))⟩
theorem Chg.blk (h : Chg S a b) {g : Nat} {cs : List Value} {t : TypeId} (hb : Blk a g cs t) (hg : ¬ S g) : Blk b g cs t := (h.block g hb.lt hg).trans hb
end

/-- A sector: eight words. -/
def Sec (s : List Int) : Prop := s.length = 8 ∧ ∀ x ∈ s, 0 ≤ x ∧ x < 18446744073709551616
theorem Sec.zero : Sec zero8 := ⟨rfl, by intro x hx; simp [zero8] at hx; omega⟩
theorem Sec.open {s : List Int} (h : Sec s) : ∃ s0 s1 s2 s3 s4 s5 s6 s7, s = [s0, s1, s2, s3, s4, s5, s6, s7] := by
  obtain ⟨hl, _⟩ := h
  match s, hl with
  | [s0, s1, s2, s3, s4, s5, s6, s7], _ => exact ⟨s0, s1, s2, s3, s4, s5, s6, s7, rfl⟩
/-- The cells of sectors. -/
def secC (L : List (List Int)) : List Value := L.flatMap (nums .u64)
theorem secC_at : ∀ (L : List (List Int)) (_ : ∀ s ∈ L, s.length = 8) (i j : Nat) (_ : i < L.length) (_ : j < 8), (secC L)[i * 8 + j]? = (nums .u64 (L.getD i []))[j]?
  | [], _, i, j, hi, _ => by simp at hi
  | s :: L, h, 0, j, _, hj => by
    have hs := h s List.mem_cons_self
    simp only [secC, List.flatMap_cons, Nat.zero_mul, Nat.zero_add, List.getD_cons_zero]
    rw [List.getElem?_append_left (by simp [nums, hs]; omega)]
  | s :: L, h, i + 1, j, hi, hj => by
    have hs := h s List.mem_cons_self
    simp only [secC, List.flatMap_cons, List.getD_cons_succ]
    have hl : (nums .u64 s).length = 8 := by simp [nums, hs]
    rw [List.getElem?_append_right (by omega), hl, show (i + 1) * 8 + j - 8 = i * 8 + j by omega]
    exact secC_at L (fun t ht => h t (List.mem_cons_of_mem _ ht)) i j (by simpa using hi) hj
theorem secC_zero (n : Nat) : secC (List.replicate n zero8) = List.replicate (n * 8) (.int .u64 0) := by
  induction n with
  | zero => rfl
  | succ n ih =>
    rw [List.replicate_succ, secC, List.flatMap_cons, show (n + 1) * 8 = 8 + n * 8 by omega, ← List.replicate_append_replicate]
    exact congrArg _ ih

theorem infoSec : (Try.prog.info? 59).map (fun i => (i.zero, i.size, i.bytes)) = some (some (.agg #[.int .u64 0, .int .u64 0, .int .u64 0, .int .u64 0, .int .u64 0, .int .u64 0, .int .u64 0, .int .u64 0]), 8, 64) := by kernel_rfl
theorem made_eq (n : Nat) : madeCells #[.int .u64 0, .int .u64 0, .int .u64 0, .int .u64 0, .int .u64 0, .int .u64 0, .int .u64 0, .int .u64 0] (n * 8) = (secC (List.replicate n zero8)).toArray := by
  rw [secC_zero]
  apply Array.ext
  · simp [madeCells]
  · intro i h1 h2
    have h3 : i % 8 < 8 := Nat.mod_lt _ (by decide)
    simp only [madeCells, Array.getElem_map, Array.getElem_range, List.getElem_toArray, List.getElem_replicate]
    have h4 : ∀ k : Nat, k < 8 → (#[Value.int .u64 0, .int .u64 0, .int .u64 0, .int .u64 0, .int .u64 0, .int .u64 0, .int .u64 0, .int .u64 0] : Array Value)[k]! = .int .u64 0 := by
      intro k hk
      rcases k with _ | _ | _ | _ | _ | _ | _ | _ | k
      all_goals first | rfl | omega
    exact h4 (i % 8) h3
theorem run_sectors (n : Nat) (hn : n ≤ 1000000) (W : World) : (Instr.makeSlice 99 (.int .i64 (n : Int)) (.int .i64 (n : Int))).run Try.prog W = .ok (.slice (some ⟨W.heap.size, 0, none⟩) n n) (W.alloc (.cells (secC (List.replicate n zero8)).toArray 59)) := by
  obtain ⟨i, hi, hz⟩ := Option.map_eq_some_iff.1 infoSec
  simp only [Prod.mk.injEq] at hz
  obtain ⟨hz0, hz1, hz2⟩ := hz
  have h := run_make (P := Try.prog) W 99 59 i _ Try.underlying99 hi hz0 .i64 .i64 (n : Int) (n : Int) (by omega) (Int.le_refl _) (by rw [hz2]; omega) (by omega)
  simp only [Int.toNat_natCast, hz1, Value.cells] at h
  rw [made_eq] at h
  exact h

set_option maxRecDepth 100000 in
set_option maxHeartbeats 400000 in
theorem new_any (W : World) (n : Nat) (h1 : 1 ≤ n) (h2 : n ≤ 4096) :
    Calls Try.prog 45 #[.int .i64 (n : Int)] W fun en W' => en = .returned (.pointer (some ⟨W.heap.size + 1 + 1, 0, none⟩)) ∧
      W' = ((W.alloc (.cells (secC (List.replicate n zero8)).toArray 59)).alloc (.map #[] 0)).alloc (.cells #[.slice (some ⟨W.heap.size, 0, none⟩) n n, .map (some (W.heap.size + 1)), .int .i64 0, .int .i64 0] 118) := by
  have hmk := run_sectors n (by omega)
  have hmm := @run_makeMap Try.prog
  obtain ⟨cs, hcs⟩ : ∃ cs, (secC (List.replicate n zero8)).toArray = cs := ⟨_, rfl⟩
  rw [hcs] at hmk ⊢
  have i1 : (1 : Int) ≤ (n : Int) := by omega
  have i2 : (n : Int) ≤ 4096 := by omega
  clear hcs
  go_enter Try.func45, Try.ntmps45
  go_wp2
  go_ret
  exact ⟨by simp, by simp⟩
end Go.Proofs.Ytmeoiennniknlaa.Disk
