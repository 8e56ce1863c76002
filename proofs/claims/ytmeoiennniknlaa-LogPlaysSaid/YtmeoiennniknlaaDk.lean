/- The device of package disk in memory: what it holds; what a call may turn; disk.New, Len, there. The device: its map of what was written since the last sync; the device as a whole. The device as a whole; disk.Len, there, Write. The contract of (*disk.Disk).Write. The contract of (*disk.Disk).Read. -/
import Derived.Test.YtmeoiennniknlaaAnAB
import Derived.Test.YtmeoiennniknlaaWArr
import Derived.Maps.OwnSet
import Derived.StillTailTactics
import Derived.IntWalk
namespace Go.Proofs.Ytmeoiennniknlaa.Disk
open Go.RowKit Go.Shelf Go.Proofs.YtmeoiennniknlaaW.PrintWords Go.Proofs.Ytmeoiennniknlaa.Lb Go.Proofs.Ytmeoiennniknlaa.Anchor
set_option linter.unusedVariables false
set_option linter.unusedSimpArgs false

/-- Only blocks in S may have turned, of those that were there. -/
structure Chg (S : Nat → Prop) (w w' : World) : Prop where
  os : w'.os = w.os
  tape : w'.tape = w.tape
  output : w'.output = w.output
  size : w.heap.size ≤ w'.heap.size
  block : ∀ k, k < w.heap.size → ¬ S k → w'.heap[k]? = w.heap[k]?
section
variable {S : Nat → Prop} {a b c w : World}
theorem Chg.refl (S : Nat → Prop) (w : World) : Chg S w w := ⟨rfl, rfl, rfl, Nat.le_refl _, fun _ _ _ => rfl⟩
theorem Chg.trans (h : Chg S a b) (k : Chg S b c) : Chg S a c :=
  ⟨k.os.trans h.os, k.tape.trans h.tape, k.output.trans h.output, Nat.le_trans h.size k.size, fun i hi hs => (k.block i (Nat.lt_of_lt_of_le hi h.size) hs).trans (h.block i hi hs)⟩
theorem Chg.of_below (h : Below a.heap.size a b) : Chg S a b := ⟨h.os, h.tape, h.output, h.size, fun k hk _ => h.block k hk⟩
theorem Chg.below (h : Chg S a b) {B : Nat} (hB : B ≤ a.heap.size) (hS : ∀ k, S k → B ≤ k) : Below B a b := ⟨h.os, h.tape, h.output, h.size, fun k hk => h.block k (Nat.lt_of_lt_of_le hk hB) (fun hs => Nat.lt_irrefl _ (Nat.lt_of_lt_of_le hk (hS k hs)))⟩
theorem Chg.mono {S' : Nat → Prop} (h : Chg S a b) (hS : ∀ k, S k → S' k) : Chg S' a b := ⟨h.os, h.tape, h.output, h.size, fun k hk hs => h.block k hk (fun h' => hs (hS k h'))⟩
/-- What is new is no concern of whoever was there before. -/
theorem Chg.mono' {S' : Nat → Prop} (h : Chg S a b) (hS : ∀ k, k < a.heap.size → S k → S' k) : Chg S' a b := ⟨h.os, h.tape, h.output, h.size, fun k hk hs => h.block k hk (fun h' => hs (hS k hk h'))⟩
theorem Chg.set {p : Addr} (hp : S p.block) (w : World) (v : Value) : Chg S w (w.setCell p v) := ⟨rfl, rfl, rfl, by simp [World.setCell], fun k _ hk => Below.heap_setCell w p v k (fun e => hk (by rw [e]; exact hp))⟩
theorem Chg.drew (h : Chg S a b) : Chg S a b.drew := ⟨h.os, h.tape, h.output, h.size, h.block⟩
theorem Chg.drewN (h : Chg S a b) (n : Nat) : Chg S a (b.drewN n) := ⟨h.os, h.tape, h.output, h.size, h.block⟩
theorem Chg.grown {row : Option Nat} (h : a.grownBy b row) (hS : ∀ k, row = some k → S k) : Chg S a b := ⟨h.os, h.tape, h.output, h.size, fun k hk hs => h.block k hk (fun e => hs (hS k e.symm))⟩
theorem Chg.blk (h : Chg S a b) {g : Nat} {cs : List Value} {t : TypeId} (hb : Blk a g cs t) (hg : ¬ S g) : Blk b g cs t := (h.block g hb.lt hg).trans hb
end

/-- A sector: eight words. -/
def Sec (s : List Int) : Prop := s.length = 8 ∧ ∀ x ∈ s, 0 ≤ x ∧ x < 18446744073709551616
theorem Sec.zero : Sec zero8 := ⟨rfl, by intro x hx; simp [zero8] at hx; omega⟩
theorem Sec.open {s : List Int} (h : Sec s) : ∃ s0 s1 s2 s3 s4 s5 s6 s7, s = [s0, s1, s2, s3, s4, s5, s6, s7] := by
  obtain ⟨hl, _⟩ := h
  match s, hl with
  | [s0, s1, s2, s3, s4, s5, s6, s7], _ => exact ⟨s0, s1, s2, s3, s4, s5, s6, s7, rfl⟩
/-- The cells of sectors. -/
def secC (L : List (List Int)) : List Value := L.flatMap (nums .u64)
theorem secC_at : ∀ (L : List (List Int)) (_ : ∀ s ∈ L, s.length = 8) (i j : Nat) (_ : i < L.length) (_ : j < 8), (secC L)[i * 8 + j]? = (nums .u64 (L.getD i []))[j]?
  | [], _, i, j, hi, _ => by simp at hi
  | s :: L, h, 0, j, _, hj => by
    have hs := h s List.mem_cons_self
    simp only [secC, List.flatMap_cons, Nat.zero_mul, Nat.zero_add, List.getD_cons_zero]
    rw [List.getElem?_append_left (by simp [nums, hs]; omega)]
  | s :: L, h, i + 1, j, hi, hj => by
    have hs := h s List.mem_cons_self
    simp only [secC, List.flatMap_cons, List.getD_cons_succ]
    have hl : (nums .u64 s).length = 8 := by simp [nums, hs]
    rw [List.getElem?_append_right (by omega), hl, show (i + 1) * 8 + j - 8 = i * 8 + j by omega]
    exact secC_at L (fun t ht => h t (List.mem_cons_of_mem _ ht)) i j (by simpa using hi) hj
theorem secC_zero (n : Nat) : secC (List.replicate n zero8) = List.replicate (n * 8) (.int .u64 0) := by
  induction n with
  | zero => rfl
  | succ n ih =>
    rw [List.replicate_succ, secC, List.flatMap_cons, show (n + 1) * 8 = 8 + n * 8 by omega, ← List.replicate_append_replicate]
    exact congrArg _ ih

theorem infoSec : (Try.prog.info? 59).map (fun i => (i.zero, i.size, i.bytes)) = some (some (.agg #[.int .u64 0, .int .u64 0, .int .u64 0, .int .u64 0, .int .u64 0, .int .u64 0, .int .u64 0, .int .u64 0]), 8, 64) := by kernel_rfl
theorem made_eq (n : Nat) : madeCells #[.int .u64 0, .int .u64 0, .int .u64 0, .int .u64 0, .int .u64 0, .int .u64 0, .int .u64 0, .int .u64 0] (n * 8) = (secC (List.replicate n zero8)).toArray := by
  rw [secC_zero]
  apply Array.ext
  · simp [madeCells]
  · intro i h1 h2
    have h3 : i % 8 < 8 := Nat.mod_lt _ (by decide)
    simp only [madeCells, Array.getElem_map, Array.getElem_range, List.getElem_toArray, List.getElem_replicate]
    have h4 : ∀ k : Nat, k < 8 → (#[Value.int .u64 0, .int .u64 0, .int .u64 0, .int .u64 0, .int .u64 0, .int .u64 0, .int .u64 0, .int .u64 0] : Array Value)[k]! = .int .u64 0 := by
      intro k hk
      rcases k with _ | _ | _ | _ | _ | _ | _ | _ | k
      all_goals first | rfl | omega
    exact h4 (i % 8) h3
theorem run_sectors (n : Nat) (hn : n ≤ 1000000) (W : World) : (Instr.makeSlice 99 (.int .i64 (n : Int)) (.int .i64 (n : Int))).run Try.prog W = .ok (.slice (some ⟨W.heap.size, 0, none⟩) n n) (W.alloc (.cells (secC (List.replicate n zero8)).toArray 59)) := by
  obtain ⟨i, hi, hz⟩ := Option.map_eq_some_iff.1 infoSec
  simp only [Prod.mk.injEq] at hz
  obtain ⟨hz0, hz1, hz2⟩ := hz
  have h := run_make (P := Try.prog) W 99 59 i _ Try.underlying99 hi hz0 .i64 .i64 (n : Int) (n : Int) (by omega) (Int.le_refl _) (by rw [hz2]; omega) (by omega)
  simp only [Int.toNat_natCast, hz1, Value.cells] at h
  rw [made_eq] at h
  exact h

set_option maxRecDepth 100000 in
set_option maxHeartbeats 400000 in
theorem new_any (W : World) (n : Nat) (h1 : 1 ≤ n) (h2 : n ≤ 4096) :
    Calls Try.prog 45 #[.int .i64 (n : Int)] W fun en W' => en = .returned (.pointer (some ⟨W.heap.size + 1 + 1, 0, none⟩)) ∧
      W' = ((W.alloc (.cells (secC (List.replicate n zero8)).toArray 59)).alloc (.map #[] 0)).alloc (.cells #[.slice (some ⟨W.heap.size, 0, none⟩) n n, .map (some (W.heap.size + 1)), .int .i64 0, .int .i64 0] 118) := by
  have hmk := run_sectors n (by omega)
  have hmm := @run_makeMap Try.prog
  obtain ⟨cs, hcs⟩ : ∃ cs, (secC (List.replicate n zero8)).toArray = cs := ⟨_, rfl⟩
  rw [hcs] at hmk ⊢
  have i1 : (1 : Int) ≤ (n : Int) := by omega
  have i2 : (n : Int) ≤ 4096 := by omega
  clear hcs
  go_enter Try.func45, Try.ntmps45
  go_wp2
  go_ret
  exact ⟨by simp, by simp⟩
end Go.Proofs.Ytmeoiennniknlaa.Disk

namespace Go.Proofs.Ytmeoiennniknlaa.Disk
open Go.RowKit Go.Shelf Go.Proofs.YtmeoiennniknlaaW.PrintWords Go.Proofs.Ytmeoiennniknlaa.Lb Go.Proofs.Ytmeoiennniknlaa.Anchor
set_option linter.unusedVariables false
set_option linter.unusedSimpArgs false

def sv (s : List Int) : Value := .agg (nums .u64 s).toArray
def secR (v : Value) : Option (DataW Value × List MemPlace) := some (.held v, [])
def secD : Option (List Int) → DataW Value
  | none => .nil
  | some s => .held (sv s)
def keyL (i : Nat) : Lit := .int .i64 (i : Int)
theorem keyL_lit (i : Nat) : WideAt.IsKeyLit (keyL i) := by simp [WideAt.IsKeyLit, keyL]
theorem keyL_ne {i j : Nat} (h : i ≠ j) : keyL i ≠ keyL j := by
  intro e
  simp only [keyL, Lit.int.injEq, true_and] at e
  omega
def entries : DataW Value → List (Lit × DataW Value)
  | .map es => es
  | _ => []
/-- The map holds M, at keys below n. -/
structure MapIs (D : DataW Value) (n : Nat) (M : Nat → Option (List Int)) : Prop where
  tidy : Maps.Tidy D
  has : ∀ i : Nat, Maps.has D (keyL i) = (M i).isSome
  val : ∀ i : Nat, D.atKey (keyL i) .nil = secD (M i)
  keys : ∀ p ∈ entries D, ∃ i : Nat, i < n ∧ p.1 = keyL i
  low : ∀ i s, M i = some s → i < n

theorem MapIs.empty (n : Nat) : MapIs (.map []) n (fun _ => none) := ⟨Maps.tidy_empty, fun i => rfl, fun i => rfl, fun p hp => (by cases hp), fun i s h => (by cases h)⟩
theorem mem_insert {x p : Lit × DataW Value} : ∀ l, p ∈ DataW.insert x l → p = x ∨ p ∈ l
  | [], h => by simp [DataW.insert] at h; exact Or.inl h
  | y :: r, h => by
    unfold DataW.insert at h
    split at h
    · rcases List.mem_cons.1 h with h | h
      · exact Or.inl h
      · exact Or.inr h
    · rcases List.mem_cons.1 h with h | h
      · exact Or.inr (h ▸ List.mem_cons_self)
      · rcases mem_insert r h with h | h
        · exact Or.inl h
        · exact Or.inr (List.mem_cons_of_mem _ h)
theorem MapIs.put {D : DataW Value} {n : Nat} {M : Nat → Option (List Int)} (h : MapIs D n M) (i : Nat) (hi : i < n) (s : List Int) : MapIs (D.put (keyL i) (.held (sv s))) n (fun k => if k = i then some s else M k) := by
  refine ⟨h.tidy.put (keyL_lit i) _, fun k => ?_, fun k => ?_, fun p hp => ?_, fun k t ht => ?_⟩
  · by_cases hk : k = i
    · subst hk
      rw [Maps.has_put_same h.tidy.isMap (keyL_lit k), if_pos rfl]; rfl
    · rw [Maps.has_put_other (keyL_ne hk), if_neg hk]; exact h.has k
  · by_cases hk : k = i
    · subst hk
      rw [Maps.atKey_put_same h.tidy.isMap (keyL_lit k), if_pos rfl]; rfl
    · rw [Maps.atKey_put_other (keyL_ne hk), if_neg hk]; exact h.val k
  · obtain ⟨es, rfl, _⟩ := h.tidy
    rcases mem_insert _ hp with rfl | hp
    · exact ⟨i, hi, rfl⟩
    · exact h.keys p ((List.mem_filter.1 hp).1)
  · split at ht
    · rename_i e; rw [e]; exact hi
    · exact h.low k t ht
theorem nodup_le : ∀ (n : Nat) (l : List Nat), l.Nodup → (∀ x ∈ l, x < n) → l.length ≤ n
  | 0, l, _, h => by
    cases l with
    | nil => simp
    | cons x l => exact absurd (h x List.mem_cons_self) (Nat.not_lt_zero _)
  | n + 1, l, hd, h => by
    by_cases hm : n ∈ l
    · have h1 := nodup_le n (l.erase n) (hd.erase n) (fun x hx => by
        have h2 := h x (List.mem_of_mem_erase hx)
        have h3 : x ≠ n := fun e => by rw [e] at hx; exact List.Nodup.not_mem_erase hd hx
        omega)
      rw [List.length_erase_of_mem hm] at h1
      omega
    · have h1 := nodup_le n l hd (fun x hx => by
        have h2 := h x hx
        have h3 : x ≠ n := fun e => hm (e ▸ hx)
        omega)
      omega
def keyN : Lit → Nat
  | .int _ a => a.toNat
  | _ => 0
theorem keyN_L (i : Nat) : keyN (keyL i) = i := by simp [keyN, keyL]
theorem MapIs.size {D : DataW Value} {n : Nat} {M : Nat → Option (List Int)} (h : MapIs D n M) : Maps.size D ≤ n := by
  obtain ⟨es, rfl, hp⟩ := h.tidy
  have h1 := nodup_le n (es.map (fun p => keyN p.1)) ?_ ?_
  · simpa [Maps.size] using h1
  · rw [List.Nodup, List.pairwise_map]
    refine List.Pairwise.imp_of_mem (fun {p q} hp' hq' hne => ?_) hp
    obtain ⟨i, _, e1⟩ := h.keys p hp'
    obtain ⟨j, _, e2⟩ := h.keys q hq'
    rw [e1, e2, keyN_L, keyN_L]
    intro e
    exact hne (by rw [e1, e2, e])
  · intro x hx
    obtain ⟨p, hp', rfl⟩ := List.mem_map.1 hx
    obtain ⟨i, hi, e1⟩ := h.keys p hp'
    rw [e1, keyN_L]; exact hi
end Go.Proofs.Ytmeoiennniknlaa.Disk

namespace Go.Proofs.Ytmeoiennniknlaa.Disk
open Go.RowKit Go.Shelf Go.Proofs.YtmeoiennniknlaaW.PrintWords Go.Proofs.Ytmeoiennniknlaa.Lb Go.Proofs.Ytmeoiennniknlaa.Anchor
set_option linter.unusedVariables false
set_option linter.unusedSimpArgs false

/-- A device at block d: sectors L that last (block lb), M of what was written since (map mb). -/
structure Dsk (w : World) (d lb mb : Nat) (L : List (List Int)) (M : Nat → Option (List Int)) : Prop where
  len : 1 ≤ L.length ∧ L.length ≤ 4096
  secs : ∀ s ∈ L, Sec s
  mse : ∀ i s, M i = some s → Sec s
  obj : ∃ wr sy, Blk w d [.slice (some ⟨lb, 0, none⟩) L.length L.length, .map (some mb), .int .i64 wr, .int .i64 sy] 118
  las : Blk w lb (secC L) 59
  map : ∃ D, MapIs D L.length M ∧ w.ownsMap Try.prog 3 secR mb (Maps.size D) D
section
variable {w w' : World} {d lb mb : Nat} {L : List (List Int)} {M : Nat → Option (List Int)} {S : Nat → Prop}
theorem Dsk.ltd (h : Dsk w d lb mb L M) : d < w.heap.size := by obtain ⟨_, _, hb⟩ := h.obj; exact hb.lt
theorem Dsk.ltl (h : Dsk w d lb mb L M) : lb < w.heap.size := h.las.lt
theorem Dsk.ltm (h : Dsk w d lb mb L M) : mb < w.heap.size := by obtain ⟨_, _, hm⟩ := h.map; exact hm.lt
theorem Dsk.nedl (h : Dsk w d lb mb L M) : d ≠ lb := by
  rintro rfl
  obtain ⟨_, _, hb⟩ := h.obj
  have h2 := (show w.heap[d]? = _ from h.las).symm.trans (show w.heap[d]? = _ from hb)
  simp only [Option.some.injEq, Obj.cells.injEq] at h2
  exact absurd h2.2.1 (by decide)
theorem Dsk.nedm (h : Dsk w d lb mb L M) : d ≠ mb := by
  rintro rfl
  obtain ⟨_, _, hb⟩ := h.obj
  obtain ⟨_, _, es, ck, hm, _⟩ := h.map
  rw [show w.heap[d]? = _ from hb] at hm
  cases hm
theorem Dsk.nelm (h : Dsk w d lb mb L M) : lb ≠ mb := by
  rintro rfl
  obtain ⟨_, _, es, ck, hm, _⟩ := h.map
  rw [show w.heap[lb]? = _ from h.las] at hm
  cases hm
theorem Dsk.kept (h : Dsk w d lb mb L M) (hc : Chg S w w') (h1 : ¬ S d) (h2 : ¬ S lb) (h3 : ¬ S mb) : Dsk w' d lb mb L M := by
  obtain ⟨wr, sy, ho⟩ := h.obj
  obtain ⟨D, hD, hm⟩ := h.map
  refine ⟨h.len, h.secs, h.mse, ⟨wr, sy, hc.blk ho h1⟩, hc.blk h.las h2, ⟨D, hD, ?_⟩⟩
  have hlt := hm.lt
  obtain ⟨es, ck, hb, F, hs, e⟩ := hm
  exact ⟨es, ck, (hc.block mb hlt h3).trans hb, F, hs, e⟩
theorem Dsk.below (h : Dsk w d lb mb L M) (hb : Below w.heap.size w w') : Dsk w' d lb mb L M := h.kept (S := fun _ => False) (Chg.of_below hb) id id id
theorem Dsk.alloc (h : Dsk w d lb mb L M) (o : Obj) : Dsk (w.alloc o) d lb mb L M := h.below ((Below.refl _ w).alloc (Nat.le_refl _) o)
end
/-- Is there a sector? -/
def thB (i : Int) (n : Nat) : Bool := decide (0 ≤ i ∧ i < (n : Int))

set_option maxRecDepth 100000 in
set_option maxHeartbeats 400000 in
theorem len_any {w : World} {d lb mb : Nat} {L : List (List Int)} {M : Nat → Option (List Int)} (h : Dsk w d lb mb L M) :
    Calls Try.prog 90 #[.pointer (some ⟨d, 0, none⟩)] w fun en w' => en = .returned (.int .i64 (L.length : Int)) ∧ w = w' := by
  obtain ⟨wr, sy, ho⟩ := h.obj
  have q := ho.cell
  clear ho h
  go_enter Try.func90, Try.ntmps90
  go_wp2
  go_ret
  exact ⟨rfl, rfl⟩
set_option maxRecDepth 100000 in
set_option maxHeartbeats 400000 in
theorem len_nil (w : World) :
    Calls Try.prog 90 #[.pointer none] w fun en w' => en = .returned (.int .i64 0) ∧ w = w' := by
  go_enter Try.func90, Try.ntmps90
  go_wp2
  go_ret
  exact ⟨rfl, rfl⟩
theorem len_at {w : World} {d lb mb n : Nat} {L : List (List Int)} {M : Nat → Option (List Int)} (h : Hid (Dsk w d lb mb L M)) (hn : Hid (L.length = n)) :
    Calls Try.prog 90 #[.pointer (some ⟨d, 0, none⟩)] w fun en w' => en = .returned (.int .i64 (n : Int)) ∧ w = w' := by
  have e := hn.out
  subst e
  exact len_any h.out
set_option maxRecDepth 100000 in
set_option maxHeartbeats 400000 in
theorem there_any {w : World} {d lb mb : Nat} {L : List (List Int)} {M : Nat → Option (List Int)} (h : Dsk w d lb mb L M) (i : Int) :
    Calls Try.prog 81 #[.pointer (some ⟨d, 0, none⟩), .int .i64 i] w fun en w' => en = .returned (.bool (thB i L.length)) ∧ w = w' := by
  have H := Lib.hid h
  obtain ⟨n, hn⟩ : ∃ n, L.length = n := ⟨_, rfl⟩
  have HN := Lib.hid hn
  rw [hn]
  unfold thB
  clear h hn
  by_cases h0 : 0 ≤ i
  · by_cases h1 : i < (n : Int)
    all_goals
      go_enter Try.func81, Try.ntmps81
      go_wp2_with (go_at_call 90; (with_reducible refine (len_at H HN).mono ?_); rintro en w1 ⟨rfl, rfl⟩)
      go_ret
      exact ⟨by simp [h0, h1], rfl⟩
  · go_enter Try.func81, Try.ntmps81
    go_wp2
    go_ret
    exact ⟨by simp; omega, rfl⟩
set_option maxRecDepth 100000 in
set_option maxHeartbeats 400000 in
theorem there_nil (w : World) (i : Int) :
    Calls Try.prog 81 #[.pointer none, .int .i64 i] w fun en w' => en = .returned (.bool false) ∧ w = w' := by
  by_cases h0 : 0 ≤ i
  · have h1 : ¬ i < 0 := by omega
    go_enter Try.func81, Try.ntmps81
    go_wp2_with (go_at_call 90; (with_reducible refine (len_nil _).mono ?_); rintro en w1 ⟨rfl, rfl⟩)
    go_ret
    exact ⟨by first | (simp; done) | (simp; omega), rfl⟩
  · go_enter Try.func81, Try.ntmps81
    go_wp2
    go_ret
    exact ⟨by first | (simp; done) | (simp; omega), rfl⟩
theorem there_at {w : World} {d lb mb : Nat} {L : List (List Int)} {M : Nat → Option (List Int)} {i : Int} {b : Bool} (h : Hid (Dsk w d lb mb L M)) (hb : Hid (thB i L.length = b)) :
    Calls Try.prog 81 #[.pointer (some ⟨d, 0, none⟩), .int .i64 i] w fun en w' => en = .returned (.bool b) ∧ w = w' := by
  have h2 := there_any h.out i
  rw [hb.out] at h2
  exact h2
end Go.Proofs.Ytmeoiennniknlaa.Disk

namespace Go.Proofs.Ytmeoiennniknlaa.Disk
open Go.RowKit Go.Shelf Go.Proofs.YtmeoiennniknlaaW.PrintWords Go.Proofs.Ytmeoiennniknlaa.Lb Go.Proofs.Ytmeoiennniknlaa.Anchor
set_option linter.unusedVariables false
set_option linter.unusedSimpArgs false

@[reducible] def agg8 (s0 s1 s2 s3 s4 s5 s6 s7 : Int) : Value := .agg #[.int .u64 s0, .int .u64 s1, .int .u64 s2, .int .u64 s3, .int .u64 s4, .int .u64 s5, .int .u64 s6, .int .u64 s7]
def upd (M : Nat → Option (List Int)) (i : Nat) (s : List Int) : Nat → Option (List Int) := fun k => if k = i then some s else M k

theorem ownsMap_size {w : World} {P : Program} {k : TypeId} {R : Value → Option (DataW Value × List MemPlace)} {b n : Nat} {D : DataW Value} (h : w.ownsMap P k R b n D) : w.ownsMap P k R b (Maps.size D) D := by
  obtain ⟨es, ck, hb, F, hs, e⟩ := h
  refine ⟨es, ck, hb, F, ?_, e⟩
  subst e
  simp [Maps.size, length_sorted]

set_option maxRecDepth 100000 in
set_option maxHeartbeats 400000 in
theorem write_out (w : World) (p : Option Addr) (i : Int) (s0 s1 s2 s3 s4 s5 s6 s7 : Int) (h : ∀ W, Hid (Below w.heap.size w W) → Calls Try.prog 81 #[.pointer p, .int .i64 i] W fun en w' => en = .returned (.bool false) ∧ W = w') :
    Calls Try.prog 46 #[.pointer p, .int .i64 i, agg8 s0 s1 s2 s3 s4 s5 s6 s7] w fun en w' => en = .returned (.int .i64 3) ∧ Below w.heap.size w w' := by
  have H := Lib.hid h
  clear h
  have HB := Lib.hid ((Below.refl _ w).alloc (Nat.le_refl _) (.cells (nums .u64 [s0, s1, s2, s3, s4, s5, s6, s7]).toArray 59))
  go_enter Try.func46, Try.ntmps46
  go_wp2_with (go_at_call 81; (with_reducible refine (H.out _ ?_).mono ?_); rotate_right; rintro en w1 ⟨rfl, rfl⟩)
  any_goals exact HB
  go_ret
  exact ⟨rfl, HB.out⟩

set_option maxRecDepth 100000 in
set_option maxHeartbeats 1000000 in
theorem write_in {w : World} {d lb mb : Nat} {L : List (List Int)} {M : Nat → Option (List Int)} (h : Dsk w d lb mb L M) (i : Nat) (hi : i < L.length) (s0 s1 s2 s3 s4 s5 s6 s7 : Int) (hs : Sec [s0, s1, s2, s3, s4, s5, s6, s7]) :
    Calls Try.prog 46 #[.pointer (some ⟨d, 0, none⟩), .int .i64 (i : Int), agg8 s0 s1 s2 s3 s4 s5 s6 s7] w fun en w' => en = .returned (.int .i64 0) ∧ Dsk w' d lb mb L (upd M i [s0, s1, s2, s3, s4, s5, s6, s7]) ∧ Chg (fun k => k = d ∨ k = mb) w w' := by
  have H0 := Lib.hid h
  have H := Lib.hid (h.alloc (.cells #[.int .u64 s0, .int .u64 s1, .int .u64 s2, .int .u64 s3, .int .u64 s4, .int .u64 s5, .int .u64 s6, .int .u64 s7] 59))
  have HT : Hid (thB (i : Int) L.length = true) := Lib.hid (by simp [thB, hi])
  have HS := Lib.hid hs
  have Hi := Lib.hid hi
  obtain ⟨wr, sy, ho⟩ := h.obj
  obtain ⟨D, hD, hm⟩ := h.map
  have HD := Lib.hid hD
  have HM := Lib.hid hm
  have HO := Lib.hid ho
  have hsz := hD.size
  have hll := h.len.2
  have HL : Hid (Maps.size D < maxLen) := Lib.hid (by unfold maxLen; omega)
  have HK : Hid (keyOf Try.prog 3 (.int .i64 (i : Int)) = some (keyL i)) := Lib.hid (Maps.keyOf_int_mk Try.underlying3 (WalkArith.wf_i64 (by omega)))
  have q := ho.cell
  have hdm := h.nedm
  have HB := Lib.hid ((Below.refl _ w).alloc (Nat.le_refl _) (.cells (nums .u64 [s0, s1, s2, s3, s4, s5, s6, s7]).toArray 59))
  have hdl := h.ltd
  clear h hs hi ho hD hm hsz hll
  go_enter Try.func46, Try.ntmps46
  go_wp2_with (go_at_call 81; (with_reducible refine (there_at H HT).mono ?_); rintro en w1 ⟨rfl, rfl⟩)
  obtain ⟨V, hV⟩ : ∃ V, V = w.alloc (.cells #[.int .u64 s0, .int .u64 s1, .int .u64 s2, .int .u64 s3, .int .u64 s4, .int .u64 s5, .int .u64 s6, .int .u64 s7] 59) := ⟨_, rfl⟩
  have BV : Hid (Blk V w.heap.size (nums .u64 [s0, s1, s2, s3, s4, s5, s6, s7]) 59) := by rw [hV]; exact Lib.hid (Blk.new w (nums .u64 [s0, s1, s2, s3, s4, s5, s6, s7]) 59)
  have HOV : Hid (Blk V d [.slice (some ⟨lb, 0, none⟩) L.length L.length, .map (some mb), .int .i64 wr, .int .i64 sy] 118) := by rw [hV]; exact Lib.hid (HO.out.alloc _)
  have HMV : Hid (V.ownsMap Try.prog 3 secR mb (Maps.size D) D) := by rw [hV]; exact Lib.hid (HM.out.alloc _)
  have HHV : Hid (Dsk V d lb mb L M) := by rw [hV]; exact H
  have HBV : Hid (Below w.heap.size w V) := by rw [hV]; exact HB
  rw [← hV]
  clear hV H HB q
  have q0 := HOV.out.cell
  have q5 := BV.out.cell
  simp only [nums, List.map_cons, List.map_nil] at q5
  go_still_tail 6, (by kernel_rfl)
  go_wp2_with (at_mapUpdate; refine wpList_mapUpdate_own _ rfl _ _ _ 116 rfl 3 59 (Maps.int_keyed Try.underlying3) Try.underlying116 secR mb (Maps.size D) D rfl HMV.out.drew HL.out _ _ _ rfl rfl HK.out (.held (sv [s0, s1, s2, s3, s4, s5, s6, s7])) [] rfl ?_; intro w1 hown1 hgrow1; have HW1 := Lib.hid hown1; have HG1 := Lib.hid hgrow1; have hgq := ((Chg.grown hgrow1 (S := fun k => k = mb) (fun k e => (Option.some.inj e).symm)).blk HOV.out.drew hdm); have q1 := hgq.cell; have f1 := hgq.frozen; have HO1 := Lib.hid hgq; clear hown1 hgrow1 hgq)
  go_ret
  have HC1 : Chg (fun k => k = d ∨ k = mb) w w1 := ((Chg.of_below HBV.out).trans ((Chg.refl _ V).drew.trans (Chg.grown HG1.out (fun k e => Or.inr (Option.some.inj e).symm))))
  refine ⟨rfl, ⟨H0.out.len, H0.out.secs, fun k s hk => ?_, ⟨_, _, HO1.out.set 2 _⟩, (HC1.blk H0.out.las ?_).other ?_ _, D.put (keyL i) (.held (sv [s0, s1, s2, s3, s4, s5, s6, s7])), HD.out.put i Hi.out _, ?_⟩, HC1.trans (Chg.set (Or.inl rfl) _ _)⟩
  · unfold upd at hk
    split at hk
    · cases hk; exact HS.out
    · exact H0.out.mse k s hk
  · rintro (e | e)
    · exact H0.out.nedl e.symm
    · exact H0.out.nelm e
  · exact fun e => H0.out.nedl e.symm
  · exact (ownsMap_size HW1.out).setCell (Ne.symm H0.out.nedm) _
end Go.Proofs.Ytmeoiennniknlaa.Disk

namespace Go.Proofs.Ytmeoiennniknlaa.Disk
open Go.RowKit Go.Shelf Go.Proofs.YtmeoiennniknlaaW.PrintWords Go.Proofs.Ytmeoiennniknlaa.Lb Go.Proofs.Ytmeoiennniknlaa.Anchor
set_option linter.unusedVariables false
set_option linter.unusedSimpArgs false

/-- What is read at i. -/
def cur (L : List (List Int)) (M : Nat → Option (List Int)) (i : Nat) : List Int := (M i).getD (L.getD i [])

theorem atKey_has {D : DataW Value} {k : Lit} (h : Maps.has D k = true) (z z' : DataW Value) : D.atKey k z = D.atKey k z' := by
  cases D with
  | map es =>
    rw [Maps.has_eq, List.any_eq_true] at h
    obtain ⟨p, hp, hk⟩ := h
    simp only [DataW.atKey]
    cases hf : es.find? (fun p => p.1.sameKey k) with
    | none => rw [List.find?_eq_none] at hf; exact absurd hk (hf p hp)
    | some q => rfl
  | _ => simp [Maps.has] at h
theorem MapIs.at_some {D : DataW Value} {n : Nat} {M : Nat → Option (List Int)} (h : MapIs D n M) {i : Nat} {s : List Int} (hi : M i = some s) (z : DataW Value) : D.atKey (keyL i) z = .held (sv s) := by
  have h1 := h.has i
  rw [hi] at h1
  rw [atKey_has h1 z .nil, h.val i, hi]; rfl
theorem MapIs.at_none {D : DataW Value} {n : Nat} {M : Nat → Option (List Int)} (h : MapIs D n M) {i : Nat} (hi : M i = none) (z : DataW Value) : D.atKey (keyL i) z = z := by
  have h1 := h.has i
  rw [hi] at h1
  exact Maps.atKey_of_not_has h1 z

/-- v, ok := m[k], where it is known what comes. -/
theorem lookup_sec {P : Program} (w : World) {ops : Array Oper} {rest : List Oper} {o : Oper} {a : Act} {Q : Exit → Act → World → Prop} (hg : o.guard = none) (m x : Operand) (t : TypeId) (hop : o.op = Op.lookup t m x true)
    (k e : TypeId) (K : Maps.Keyed P k) (ht : P.underlying t = some (.map k e)) {z : Value} (hz : (zeroValue e).run P w = .ok z w) (b n : Nat) (D : DataW Value)
    (hm : a.eval m = .map (some b)) (hown : w.ownsMap P k secR b n D) (key : Value) (kl : Lit) (hx : a.eval x = key) (hkey : keyOf P k key = some kl) (v0 : Value) (b0 : Bool) (hat : D.atKey kl (.held z) = .held v0) (hh : Maps.has D kl = b0)
    (hK : wpList P ops Q rest (a.put o.dst (.tuple #[v0, .bool b0])) w) : wpList P ops Q (o :: rest) a w := by
  refine wpList_lookup_own_ok w hg m x t hop k e K ht secR hz (.held z) [] rfl b n D hm hown key kl hx hkey (fun v ps hv => ?_)
  rw [hat] at hv
  simp only [secR, Option.some.injEq, Prod.mk.injEq, DataW.held.injEq] at hv
  rw [hv.1, hh]
  exact hK

set_option maxRecDepth 100000 in
set_option maxHeartbeats 400000 in
theorem read_out (w : World) (p : Option Addr) (i : Int) (h : ∀ W, Hid (Below w.heap.size w W) → Calls Try.prog 81 #[.pointer p, .int .i64 i] W fun en w' => en = .returned (.bool false) ∧ W = w') :
    Calls Try.prog 67 #[.pointer p, .int .i64 i] w fun en w' => en = .returned (.tuple #[agg8 0 0 0 0 0 0 0 0, .int .i64 3]) ∧ Below w.heap.size w w' := by
  have H := Lib.hid h
  clear h
  have HB := Lib.hid ((Below.refl _ w).alloc (Nat.le_refl _) (.cells #[.int .u64 0, .int .u64 0, .int .u64 0, .int .u64 0, .int .u64 0, .int .u64 0, .int .u64 0, .int .u64 0] 59))
  go_enter Try.func67, Try.ntmps67
  go_wp2_with (go_at_call 81; (with_reducible refine (H.out _ ?_).mono ?_); rotate_right; rintro en w1 ⟨rfl, rfl⟩)
  any_goals exact HB
  exact bodyPost_ret (v := .tuple #[agg8 0 0 0 0 0 0 0 0, .int .i64 3]) (by simp [results, Try.results67, go_sem]) rfl ⟨rfl, HB.out⟩

theorem zeroSec (w : World) : (zeroValue 59).run Try.prog w = .ok (agg8 0 0 0 0 0 0 0 0) w := by kernel_rfl

set_option maxRecDepth 100000 in
set_option maxHeartbeats 1000000 in
theorem read_new {w : World} {d lb mb : Nat} {L : List (List Int)} {M : Nat → Option (List Int)} (h : Dsk w d lb mb L M) (i : Nat) (hi : i < L.length) (s0 s1 s2 s3 s4 s5 s6 s7 : Int) (hs : M i = some [s0, s1, s2, s3, s4, s5, s6, s7]) :
    Calls Try.prog 67 #[.pointer (some ⟨d, 0, none⟩), .int .i64 (i : Int)] w fun en w' => en = .returned (.tuple #[agg8 s0 s1 s2 s3 s4 s5 s6 s7, .int .i64 0]) ∧ Below w.heap.size w w' := by
  have H := Lib.hid (h.alloc (.cells #[.int .u64 0, .int .u64 0, .int .u64 0, .int .u64 0, .int .u64 0, .int .u64 0, .int .u64 0, .int .u64 0] 59))
  have HT : Hid (thB (i : Int) L.length = true) := Lib.hid (by simp [thB, hi])
  obtain ⟨wr, sy, ho⟩ := h.obj
  obtain ⟨D, hD, hm⟩ := h.map
  have HM := Lib.hid (hm.alloc (.cells #[.int .u64 0, .int .u64 0, .int .u64 0, .int .u64 0, .int .u64 0, .int .u64 0, .int .u64 0, .int .u64 0] 59))
  have HA := Lib.hid (hD.at_some hs (.held (agg8 0 0 0 0 0 0 0 0)))
  have HH : Hid (Maps.has D (keyL i) = true) := Lib.hid (by rw [hD.has i, hs]; rfl)
  have hll := h.len.2
  have HK : Hid (keyOf Try.prog 3 (.int .i64 (i : Int)) = some (keyL i)) := Lib.hid (Maps.keyOf_int_mk Try.underlying3 (WalkArith.wf_i64 (by omega)))
  have q := ho.cell
  have hdl := h.ltd
  clear h hs hi ho hD hm hll
  go_enter Try.func67, Try.ntmps67
  go_wp2_with (first
    | (go_at_call 81; (with_reducible refine (there_at H HT).mono ?_); rintro en w1 ⟨rfl, rfl⟩)
    | (at_lookup; refine lookup_sec _ rfl _ _ 116 rfl 3 59 (Maps.int_keyed Try.underlying3) Try.underlying116 (zeroSec _) mb (Maps.size D) D rfl HM.out _ _ rfl HK.out (agg8 s0 s1 s2 s3 s4 s5 s6 s7) true HA.out HH.out ?_))
  exact bodyPost_ret (v := .tuple #[agg8 s0 s1 s2 s3 s4 s5 s6 s7, .int .i64 0]) (by simp [results, Try.results67, go_sem]) rfl ⟨rfl, ((Below.refl _ w).alloc (Nat.le_refl _) _).alloc (by simp) _⟩

set_option maxRecDepth 100000 in
set_option maxHeartbeats 1000000 in
theorem read_old {w : World} {d lb mb : Nat} {L : List (List Int)} {M : Nat → Option (List Int)} (h : Dsk w d lb mb L M) (i : Nat) (hi : i < L.length) (s0 s1 s2 s3 s4 s5 s6 s7 : Int) (hs : M i = none) (hl : L.getD i [] = [s0, s1, s2, s3, s4, s5, s6, s7]) :
    Calls Try.prog 67 #[.pointer (some ⟨d, 0, none⟩), .int .i64 (i : Int)] w fun en w' => en = .returned (.tuple #[agg8 s0 s1 s2 s3 s4 s5 s6 s7, .int .i64 0]) ∧ Below w.heap.size w w' := by
  have H := Lib.hid (h.alloc (.cells #[.int .u64 0, .int .u64 0, .int .u64 0, .int .u64 0, .int .u64 0, .int .u64 0, .int .u64 0, .int .u64 0] 59))
  have HT : Hid (thB (i : Int) L.length = true) := Lib.hid (by simp [thB, hi])
  obtain ⟨wr, sy, ho⟩ := h.obj
  obtain ⟨D, hD, hm⟩ := h.map
  have HM := Lib.hid (hm.alloc (.cells #[.int .u64 0, .int .u64 0, .int .u64 0, .int .u64 0, .int .u64 0, .int .u64 0, .int .u64 0, .int .u64 0] 59))
  have HA := Lib.hid (hD.at_none hs (.held (agg8 0 0 0 0 0 0 0 0)))
  have HH : Hid (Maps.has D (keyL i) = false) := Lib.hid (by rw [hD.has i, hs]; rfl)
  have hll := h.len.2
  have HK : Hid (keyOf Try.prog 3 (.int .i64 (i : Int)) = some (keyL i)) := Lib.hid (Maps.keyOf_int_mk Try.underlying3 (WalkArith.wf_i64 (by omega)))
  have q := ho.cell
  have hdl := h.ltd
  have hlbl := h.ltl
  have hc : ∀ j, j < 8 → w.cell? ⟨lb, i * 8 + j, none⟩ = (nums .u64 [s0, s1, s2, s3, s4, s5, s6, s7])[j]? := fun j hj => by
    rw [h.las.cell, secC_at L (fun s hs => (h.secs s hs).1) i j hi hj, hl]
  have c0 : w.cell? ⟨lb, i * 8, none⟩ = some (.int .u64 s0) := hc 0 (by decide)
  have c1 : w.cell? ⟨lb, i * 8 + 1, none⟩ = some (.int .u64 s1) := hc 1 (by decide)
  have c2 : w.cell? ⟨lb, i * 8 + 2, none⟩ = some (.int .u64 s2) := hc 2 (by decide)
  have c3 : w.cell? ⟨lb, i * 8 + 3, none⟩ = some (.int .u64 s3) := hc 3 (by decide)
  have c4 : w.cell? ⟨lb, i * 8 + 4, none⟩ = some (.int .u64 s4) := hc 4 (by decide)
  have c5 : w.cell? ⟨lb, i * 8 + 5, none⟩ = some (.int .u64 s5) := hc 5 (by decide)
  have c6 : w.cell? ⟨lb, i * 8 + 6, none⟩ = some (.int .u64 s6) := hc 6 (by decide)
  have c7 : w.cell? ⟨lb, i * 8 + 7, none⟩ = some (.int .u64 s7) := hc 7 (by decide)
  have hii : (i : Int) < (L.length : Int) := by omega
  clear h hs hi ho hD hm hll hc hl
  go_enter Try.func67, Try.ntmps67
  go_wp2_with (first
    | (go_at_call 81; (with_reducible refine (there_at H HT).mono ?_); rintro en w1 ⟨rfl, rfl⟩)
    | (at_lookup; refine lookup_sec _ rfl _ _ 116 rfl 3 59 (Maps.int_keyed Try.underlying3) Try.underlying116 (zeroSec _) mb (Maps.size D) D rfl HM.out _ _ rfl HK.out (agg8 0 0 0 0 0 0 0 0) false HA.out HH.out ?_))
  exact bodyPost_ret (v := .tuple #[agg8 s0 s1 s2 s3 s4 s5 s6 s7, .int .i64 0]) (by simp [results, Try.results67, go_sem]) rfl ⟨rfl, ((Below.refl _ w).alloc (Nat.le_refl _) _).alloc (by simp) _⟩

theorem read_any {w : World} {d lb mb : Nat} {L : List (List Int)} {M : Nat → Option (List Int)} (h : Dsk w d lb mb L M) (i : Nat) (hi : i < L.length) (s0 s1 s2 s3 s4 s5 s6 s7 : Int) (hs : cur L M i = [s0, s1, s2, s3, s4, s5, s6, s7]) :
    Calls Try.prog 67 #[.pointer (some ⟨d, 0, none⟩), .int .i64 (i : Int)] w fun en w' => en = .returned (.tuple #[agg8 s0 s1 s2 s3 s4 s5 s6 s7, .int .i64 0]) ∧ Below w.heap.size w w' := by
  unfold cur at hs
  cases hm : M i with
  | some s => rw [hm] at hs; exact read_new h i hi _ _ _ _ _ _ _ _ (by rw [hm]; exact congrArg _ hs)
  | none => rw [hm] at hs; exact read_old h i hi _ _ _ _ _ _ _ _ hm hs
end Go.Proofs.Ytmeoiennniknlaa.Disk
