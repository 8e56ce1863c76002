/- The device: which sectors are dirty, in their order; what lasts of them; clear of the map. (*disk.Disk).Dirty: slices.Sorted(maps.Keys(..)) by the shelf's contracts. (*disk.Disk).last: what is chosen lasts. -/
import Derived.Test.YtmeoiennniknlaaDk
import Derived.Lib.SlKeysI
import Derived.MapKept
import Derived.Test.YtmeoiennniknlaaShP
namespace Go.Proofs.Ytmeoiennniknlaa.Disk
open Go.RowKit Go.Shelf Go.Proofs.YtmeoiennniknlaaW.PrintWords Go.Proofs.Ytmeoiennniknlaa.Lb Go.Proofs.Ytmeoiennniknlaa.Anchor
set_option linter.unusedVariables false
set_option linter.unusedSimpArgs false

/-- The sectors that were written, ascending. -/
def dirty (M : Nat → Option (List Int)) (n : Nat) : List Nat := (List.range n).filter fun i => (M i).isSome
theorem mem_dirty {M : Nat → Option (List Int)} {n i : Nat} : i ∈ dirty M n ↔ i < n ∧ (M i).isSome = true := by
  simp [dirty]
theorem dirty_sorted (M : Nat → Option (List Int)) (n : Nat) : (dirty M n).Pairwise (· < ·) := List.Pairwise.filter _ List.pairwise_lt_range
theorem dirty_length (M : Nat → Option (List Int)) (n : Nat) : (dirty M n).length ≤ n := by
  have h := List.length_filter_le (fun i => (M i).isSome) (List.range n)
  simpa [dirty] using h
/-- Two strictly ascending lists with the same members are one. -/
theorem asc_ext : ∀ (l m : List Int), l.Pairwise (· < ·) → m.Pairwise (· < ·) → (∀ x, x ∈ l ↔ x ∈ m) → l = m
  | [], [], _, _, _ => rfl
  | [], y :: m, _, _, h => absurd ((h y).2 List.mem_cons_self) (by simp)
  | x :: l, [], _, _, h => absurd ((h x).1 List.mem_cons_self) (by simp)
  | x :: l, y :: m, hl, hm, h => by
    have hl2 := List.pairwise_cons.1 hl
    have hm2 := List.pairwise_cons.1 hm
    have e : x = y := by
      have h1 := (h x).1 List.mem_cons_self
      have h2 := (h y).2 List.mem_cons_self
      rcases List.mem_cons.1 h1 with h1 | h1
      · exact h1
      · rcases List.mem_cons.1 h2 with h2 | h2
        · exact h2.symm
        · have a1 := hm2.1 x h1
          have a2 := hl2.1 y h2
          omega
    subst e
    rw [asc_ext l m hl2.2 hm2.2 (fun z => ⟨fun hz => ?_, fun hz => ?_⟩)]
    · have h1 := hl2.1 z hz
      rcases List.mem_cons.1 ((h z).1 (List.mem_cons_of_mem _ hz)) with h2 | h2
      · omega
      · exact h2
    · have h1 := hm2.1 z hz
      rcases List.mem_cons.1 ((h z).2 (List.mem_cons_of_mem _ hz)) with h2 | h2
      · omega
      · exact h2
theorem sorted_keys {D : DataW Value} {n : Nat} {M : Nat → Option (List Int)} (h : MapIs D n M) {ss : List Int} (hp : ss.Perm (intKeys D)) :
    ss.mergeSort (fun x y => decide (x ≤ y)) = (dirty M n).map (fun i : Nat => (i : Int)) := by
  obtain ⟨es, rfl, hd⟩ := h.tidy
  have hk : ∀ p ∈ es, ∃ i : Nat, i < n ∧ p.1 = keyL i := h.keys
  have hnd : (intKeys (.map es : DataW Value)).Nodup := by
    simp only [intKeys]
    rw [List.Nodup, List.pairwise_map]
    refine List.Pairwise.imp_of_mem (fun {p q} hp' hq' hne => ?_) hd
    obtain ⟨i, _, e1⟩ := hk p hp'
    obtain ⟨j, _, e2⟩ := hk q hq'
    rw [e1, e2]
    intro e
    have e4 : (i : Int) = (j : Int) := by simpa [Go.intOf, keyL] using e
    have e3 : i = j := by omega
    exact hne (by rw [e1, e2, e3])
  have hmem : ∀ x, x ∈ intKeys (.map es : DataW Value) ↔ x ∈ (dirty M n).map (fun i : Nat => (i : Int)) := by
    intro x
    simp only [intKeys, List.mem_map]
    constructor
    · rintro ⟨p, hp', rfl⟩
      obtain ⟨i, hi, e1⟩ := hk p hp'
      refine ⟨i, mem_dirty.2 ⟨hi, ?_⟩, by rw [e1]; rfl⟩
      rw [← h.has i, Maps.has_eq, List.any_eq_true]
      exact ⟨p, hp', by rw [e1]; simp [Lit.sameKey, keyL]⟩
    · rintro ⟨i, hi, rfl⟩
      obtain ⟨hi1, hi2⟩ := mem_dirty.1 hi
      rw [← h.has i, Maps.has_eq, List.any_eq_true] at hi2
      obtain ⟨p, hp', hs⟩ := hi2
      obtain ⟨j, _, e1⟩ := hk p hp'
      refine ⟨p, hp', ?_⟩
      rw [e1] at hs ⊢
      have e4 : (j : Int) = (i : Int) := by simpa [Lit.sameKey, keyL] using hs
      have e3 : j = i := by omega
      rw [e3]; rfl
  have hperm : (ss.mergeSort (fun x y => decide (x ≤ y))).Perm (intKeys (.map es : DataW Value)) := (List.mergeSort_perm ss _).trans hp
  refine asc_ext _ _ ?_ ?_ (fun x => (hperm.mem_iff).trans (hmem x))
  · have h1 := List.pairwise_mergeSort (le := fun x y : Int => decide (x ≤ y)) (fun a b c h1 h2 => by simp only [decide_eq_true_eq] at *; omega) (fun a b => by simp only [Bool.or_eq_true, decide_eq_true_eq]; omega) ss
    have h2 : (ss.mergeSort (fun x y => decide (x ≤ y))).Nodup := hperm.nodup_iff.2 hnd
    exact (h1.and h2).imp (fun ⟨a, b⟩ => by simp only [decide_eq_true_eq] at a; omega)
  · rw [List.pairwise_map]
    exact (dirty_sorted M n).imp (fun h => by omega)

/-- What lasts when the first r of the dirty sectors were asked. -/
def lastP (M : Nat → Option (List Int)) (ks : List Nat) (bit : Nat → Bool) (L : List (List Int)) : Nat → List (List Int)
  | 0 => L
  | r + 1 => if bit r = true then (lastP M ks bit L r).set (ks.getD r 0) ((M (ks.getD r 0)).getD []) else lastP M ks bit L r
theorem lastP_length (M : Nat → Option (List Int)) (ks : List Nat) (bit : Nat → Bool) (L : List (List Int)) (r : Nat) : (lastP M ks bit L r).length = L.length := by
  induction r with
  | zero => rfl
  | succ r ih => unfold lastP; split <;> simp [ih]

theorem run_clear_map {P : Program} {w : World} {r : Nat} {es : Array MapEntry} {clock : Nat} (mt kt et ty : TypeId) (hm : P.underlying mt = some (.map kt et)) (hb : w.heap[r]? = some (.map es clock)) :
    (Builtin.clear_ #[mt] ty #[.map (some r)]).run P w = .ok (.tuple #[]) { w with heap := w.heap.setIfInBounds r (.map #[] clock) } := by
  simp [Builtin.clear_, run_underlying hm, MapKept.run_getObj_map hb, MapKept.run_setObj_map _ hb, Result.andThen]
theorem ownsMap_clear {H : Type} {P : Program} {w : World} {k : TypeId} {R : Value → Option (DataW H × List MemPlace)} {r : Nat} {es : Array MapEntry} {clock : Nat} (hb : w.heap[r]? = some (.map es clock)) :
    World.ownsMap { w with heap := w.heap.setIfInBounds r (.map #[] clock) } P k R r 0 (.map []) :=
  ⟨#[], clock, (MapKept.heap_set hb).1, ⟨by simp, MapKept.stamped_empty clock, by simp⟩, Nat.le_refl _, rfl⟩
theorem Chg.clear {S : Nat → Prop} {w : World} {r : Nat} (hS : S r) (o : Obj) : Chg S w { w with heap := w.heap.setIfInBounds r o } :=
  ⟨rfl, rfl, rfl, by simp, fun k _ hk => by
    have hne : r ≠ k := fun e => hk (e ▸ hS)
    simp [hne]⟩
end Go.Proofs.Ytmeoiennniknlaa.Disk

namespace Go.Proofs.Ytmeoiennniknlaa.Disk
open Go.RowKit Go.Shelf Go.Maps Go.Sort Go.Proofs.YtmeoiennniknlaaW.PrintWords Go.Proofs.Ytmeoiennniknlaa.Lb Go.Proofs.Ytmeoiennniknlaa.Anchor Go.Proofs.Ytmeoiennniknlaa.Keys
set_option linter.unusedVariables false
set_option linter.unusedSimpArgs false

theorem sortsA (m : Nat) : AnyZI.SortsIn Try.prog sortedA_ren Fence.wide m :=
  ⟨fun blk off cap ss W hH hblk hsz => callsIn_wide.2 (AnyM.slices_Sort_int sortA blk off cap ss W hH hblk hsz),
   fun p cap W => callsIn_wide.2 (AnyM.slices_Sort_int_none sortA p cap W)⟩

/-- What the dirty sectors' numbers lie in. -/
structure Ks (w : World) (base : Nat) (A : Option Addr) (g : Nat) (ks : List Nat) : Prop where
  base : base ≤ g
  at_ : 0 < ks.length → A = some ⟨g, 0, none⟩ ∧ g < w.heap.size
  cell : ∀ j, j < ks.length → w.cell? ⟨g, j, none⟩ = some (.int .i64 (ks.getD j 0 : Nat))

set_option maxRecDepth 100000 in
set_option maxHeartbeats 1000000 in
theorem keys_any {w : World} {b nn : Nat} {D0 : DataW Value} (hown : w.ownsMap Try.prog 3 secR b nn D0) (hmax : Maps.size D0 ≤ maxLen) (hbytes : Maps.size D0 * 8 ≤ 140737488355328) :
    Calls Try.prog 106 #[.func (.func 110) #[] #[.pointer (some ⟨w.heap.size, 0, none⟩)]] (w.alloc (.cells #[.map (some b)] 116)) fun e w' => ∃ (v : Value) (ss : List Int), e = .returned v ∧ ss.Perm (intKeys D0) ∧
      w'.ownsRow (w.heap.size + 1) 3 1 v ss.length ((ss.mergeSort (fun x y => decide (x ≤ y))).map encZ) ∧ (v = .slice none 0 0 ↔ ss = []) ∧ Below w.heap.size w w' := by
  refine (callsIn_wide (n := 5)).1 ?_
  have hbl := hown.lt
  have hseq : SeqGives Fence.wide 2 Try.prog 110 #[.pointer (some ⟨w.heap.size, 0, none⟩)] encZ (fun ss => ss.Perm (intKeys D0)) (Maps.size D0) (w.alloc (.cells #[.map (some b)] 116)) :=
    AnyZI.keys_gives (ρ := keysA_ren) { keysA with } Fence.wide _ trivial rfl (by omega) w.heap.size b nn D0 _ (by simp) (by simp) (by
      obtain ⟨es, clock, hb, Ft, hs, hD⟩ := hown
      exact ⟨es, clock, (Below.heap_alloc _ _ b hbl).trans hb, Ft, hs, hD⟩)
  have cS := AnyZI.sorted_in sortedA Fence.wide 5 trivial trivial trivial trivial rfl (by omega) (sortsA _) (enters_of Try.func109 (by kernel_rfl) rfl) 110 #[.pointer (some ⟨w.heap.size, 0, none⟩)] trivial (enters_of Try.func110 (by kernel_rfl) rfl) _ _ hmax hbytes _ hseq
  change CallsIn _ _ Try.prog 106 _ _ _ at cS
  refine cS.mono ?_
  rintro e w' ⟨v, ss, rfl, hS, hrow, hnil, hb⟩
  refine ⟨v, ss, rfl, hS, ?_, hnil, ((Below.refl _ w).alloc (Nat.le_refl _) _).trans (hb.mono (by simp))⟩
  have hsz : (w.alloc (.cells #[.map (some b)] 116)).heap.size = w.heap.size + 1 := by simp
  rw [hsz] at hrow
  exact hrow
theorem mkeys_any (mb : Option Nat) (W : World) : Calls Try.prog 107 #[.map mb] W fun e w' => e = .returned (.func (.func 110) #[] #[.pointer (some ⟨W.heap.size, 0, none⟩)]) ∧ w' = W.alloc (.cells #[.map mb] 116) :=
  (callsIn_wide (n := 5)).1 (AnyZI.keys_in keysA Fence.wide 5 trivial rfl mb W)

theorem ks_of {w' : World} {B : Nat} {v : Value} {ss : List Int} {ks : List Nat} (hrow : w'.ownsRow B 3 1 v ss.length ((ss.mergeSort (fun x y => decide (x ≤ y))).map encZ)) (hm : ss.mergeSort (fun x y => decide (x ≤ y)) = ks.map (fun i : Nat => (i : Int))) :
    ∃ A c g, v = .slice A ks.length c ∧ Ks w' B A g ks := by
  have hl : ss.length = ks.length := by
    have h1 := congrArg List.length hm
    simpa using h1
  rw [hm, hl] at hrow
  obtain ⟨hlen, ⟨rfl, h0⟩ | ⟨g, cap, cur, rfl, hg, hb, h1, h2, h3, h4⟩⟩ := hrow
  · have e : ks = [] := List.eq_nil_of_length_eq_zero h0
    subst e
    exact ⟨none, 0, B, rfl, Nat.le_refl _, fun h => absurd h (by simp), fun j hj => absurd hj (by simp)⟩
  · have hB : Blk w' g cur.toList 3 := hb
    refine ⟨some ⟨g, 0, none⟩, cap, g, rfl, hg, fun _ => ⟨rfl, hB.lt⟩, fun j hj => ?_⟩
    rw [hB.cell, ← List.getElem?_take_of_lt (show j < ks.length * 1 by omega), h4]
    simp [encZ, List.getElem?_eq_getElem hj]

set_option maxRecDepth 100000 in
set_option maxHeartbeats 1000000 in
theorem dirty_any {w : World} {d lb mb : Nat} {L : List (List Int)} {M : Nat → Option (List Int)} (h : Dsk w d lb mb L M) :
    Calls Try.prog 103 #[.pointer (some ⟨d, 0, none⟩)] w fun e w' => ∃ A c g, e = .returned (.slice A (dirty M L.length).length c) ∧ Ks w' w.heap.size A g (dirty M L.length) ∧ Below w.heap.size w w' := by
  obtain ⟨wr, sy, ho⟩ := h.obj
  obtain ⟨D, hD, hm⟩ := h.map
  have hll := h.len.2
  have hsz := hD.size
  have HK := Lib.hid (keys_any hm (by unfold maxLen; omega) (by omega))
  have HS := Lib.hid (fun ss hp => sorted_keys hD (ss := ss) hp)
  have q := ho.cell
  clear h ho hD hm hll hsz
  go_enter Try.func103, Try.ntmps103
  go_wp2_with (first
    | (go_at_call 107; (with_reducible refine (mkeys_any _ _).mono ?_); rintro en w1 ⟨rfl, rfl⟩)
    | (go_at_call 106; (with_reducible refine HK.out.mono ?_); rintro en w2 ⟨v, ss, rfl, HP, HR, HN, HB⟩; have H1 := Lib.hid HP; have H2 := Lib.hid HR; have H3 := Lib.hid HB; clear HP HR HN HB))
  go_ret
  obtain ⟨A, c, g, e, hk⟩ := ks_of H2.out (HS.out ss H1.out)
  exact ⟨A, c, g, by rw [e]; rfl, ⟨Nat.le_of_succ_le hk.base, hk.at_, hk.cell⟩, H3.out⟩
end Go.Proofs.Ytmeoiennniknlaa.Disk

namespace Go.Proofs.Ytmeoiennniknlaa.Disk
open Go.RowKit Go.Shelf Go.Proofs.YtmeoiennniknlaaW.PrintWords Go.Proofs.Ytmeoiennniknlaa.Lb Go.Proofs.Ytmeoiennniknlaa.Anchor
set_option linter.unusedVariables false
set_option linter.unusedSimpArgs false

theorem Chg.cell {S : Nat → Prop} {w w' : World} (h : Chg S w w') {p : Addr} (hp : p.block < w.heap.size) (hs : ¬ S p.block) : w'.cell? p = w.cell? p := World.cell?_of_block (w := w) (h.block p.block hp hs)

/-- A function that says which are kept: J k: k of them were asked. -/
structure Keep (g : Nat) (cap : Array Value) (S : Nat → Prop) (bit : Nat → Bool) (lb : Nat) (J : Nat → World → Prop) : Prop where
  eg : ∀ args w, (callFunc g args).run Try.prog w = .ok (.enter g args) w
  call : ∀ k (i : Nat) W, k < 4096 → J k W → Calls Try.prog g (#[.int .i64 (i : Int)] ++ cap) W fun e W' => e = .returned (.bool (bit k)) ∧ J (k + 1) W' ∧ Chg S W W'
  kept : ∀ k W W', J k W → Chg (fun b => b = lb) W W' → J k W'

theorem secC_set0 {t0 t1 t2 t3 t4 t5 t6 t7 : Int} (s t : List Int) (L : List (List Int)) (hs : s.length = 8) (ht : t = [t0, t1, t2, t3, t4, t5, t6, t7]) : secC (t :: L) = ((((((((secC (s :: L)).set 0 (.int .u64 t0)).set 1 (.int .u64 t1)).set 2 (.int .u64 t2)).set 3 (.int .u64 t3)).set 4 (.int .u64 t4)).set 5 (.int .u64 t5)).set 6 (.int .u64 t6)).set 7 (.int .u64 t7) := by
  subst ht
  match s, hs with
  | [s0, s1, s2, s3, s4, s5, s6, s7], _ => rfl
theorem secC_setS {L' : List Value} (s : List Int) (L : List (List Int)) (hs : s.length = 8) (k : Nat) (v : Value) : (nums .u64 s ++ L').set (8 + k) v = nums .u64 s ++ L'.set k v := by
  have hl : (nums .u64 s).length = 8 := by simp [nums, hs]
  rw [List.set_append_right _ _ (by omega), hl, show 8 + k - 8 = k by omega]
theorem secC_set {t0 t1 t2 t3 t4 t5 t6 t7 : Int} : ∀ (L : List (List Int)) (_ : ∀ s ∈ L, s.length = 8) (i : Nat) (_ : i < L.length),
    secC (L.set i [t0, t1, t2, t3, t4, t5, t6, t7]) = ((((((((secC L).set (i * 8) (.int .u64 t0)).set (i * 8 + 1) (.int .u64 t1)).set (i * 8 + 2) (.int .u64 t2)).set (i * 8 + 3) (.int .u64 t3)).set (i * 8 + 4) (.int .u64 t4)).set (i * 8 + 5) (.int .u64 t5)).set (i * 8 + 6) (.int .u64 t6)).set (i * 8 + 7) (.int .u64 t7)
  | [], _, i, hi => by simp at hi
  | s :: L, h, 0, _ => by
    simp only [List.set_cons_zero, Nat.zero_mul, Nat.zero_add]
    exact secC_set0 s _ L (h s List.mem_cons_self) rfl
  | s :: L, h, i + 1, hi => by
    have ih := @secC_set t0 t1 t2 t3 t4 t5 t6 t7 L (fun t ht => h t (List.mem_cons_of_mem _ ht)) i (by simpa using hi)
    have hs := h s List.mem_cons_self
    simp only [List.set_cons_succ]
    show nums .u64 s ++ secC (L.set i _) = _
    rw [ih]
    have hc : secC (s :: L) = nums .u64 s ++ secC L := rfl
    rw [hc, show (i + 1) * 8 = 8 + i * 8 by omega]
    simp only [Nat.add_assoc]
    simp only [secC_setS s L hs]
theorem blk_set {w : World} {lb : Nat} {L : List (List Int)} {t : TypeId} (h : Blk w lb (secC L) t) (hL : ∀ s ∈ L, s.length = 8) (i : Nat) (hi : i < L.length) (t0 t1 t2 t3 t4 t5 t6 t7 : Int) :
    Blk ((((((((w.setCell ⟨lb, i * 8, none⟩ (.int .u64 t0)).setCell ⟨lb, i * 8 + 1, none⟩ (.int .u64 t1)).setCell ⟨lb, i * 8 + 2, none⟩ (.int .u64 t2)).setCell ⟨lb, i * 8 + 3, none⟩ (.int .u64 t3)).setCell ⟨lb, i * 8 + 4, none⟩ (.int .u64 t4)).setCell ⟨lb, i * 8 + 5, none⟩ (.int .u64 t5)).setCell ⟨lb, i * 8 + 6, none⟩ (.int .u64 t6)).setCell ⟨lb, i * 8 + 7, none⟩ (.int .u64 t7))
      lb (secC (L.set i [t0, t1, t2, t3, t4, t5, t6, t7])) t := by
  rw [secC_set L hL i hi]
  exact (((((((h.set _ _).set _ _).set _ _).set _ _).set _ _).set _ _).set _ _).set _ _
theorem chg_set8 {S : Nat → Prop} {a w : World} {lb : Nat} (h : Chg S a w) (hS : S lb) (k0 k1 k2 k3 k4 k5 k6 k7 : Nat) (v0 v1 v2 v3 v4 v5 v6 v7 : Value) :
    Chg S a ((((((((w.setCell ⟨lb, k0, none⟩ v0).setCell ⟨lb, k1, none⟩ v1).setCell ⟨lb, k2, none⟩ v2).setCell ⟨lb, k3, none⟩ v3).setCell ⟨lb, k4, none⟩ v4).setCell ⟨lb, k5, none⟩ v5).setCell ⟨lb, k6, none⟩ v6).setCell ⟨lb, k7, none⟩ v7) :=
  (((((((h.trans (Chg.set hS _ _)).trans (Chg.set hS _ _)).trans (Chg.set hS _ _)).trans (Chg.set hS _ _)).trans (Chg.set hS _ _)).trans (Chg.set hS _ _)).trans (Chg.set hS _ _)).trans (Chg.set hS _ _)
theorem mem_set {α : Type} {l : List α} {i : Nat} {x y : α} (h : y ∈ l.set i x) : y = x ∨ y ∈ l := (List.mem_or_eq_of_mem_set h).symm

/-- v := m[k], where it is known that it is there. -/
theorem look_run {w : World} {mb n L : Nat} {D : DataW Value} {M : Nat → Option (List Int)} {i : Nat} {s : List Int} (hm : w.ownsMap Try.prog 3 secR mb n D) (hD : MapIs D L M) (hi : i < 4294967296) (hs : M i = some s) :
    (Instr.lookup 116 (.map (some mb)) (.int .i64 (i : Int)) false).run Try.prog w = .ok (sv s) w := by
  obtain ⟨v, ps, hrun, hv⟩ := hm.lookup (Maps.int_keyed Try.underlying3) Try.underlying116 (zeroSec _) (zd := .held (agg8 0 0 0 0 0 0 0 0)) (zp := []) rfl (key := .int .i64 (i : Int)) (kl := keyL i) (Maps.keyOf_int_mk Try.underlying3 (WalkArith.wf_i64 (by omega)))
  rw [hD.at_some hs] at hv
  simp only [secR, Option.some.injEq, Prod.mk.injEq, DataW.held.injEq] at hv
  rw [hrun, hv.1]
end Go.Proofs.Ytmeoiennniknlaa.Disk
