/- The fold of package sums: of whatever bytes an iterator yields, the sum. -/
import Derived.Test.YtmeoiennniknlaaSumsIter
import Derived.Test.YtmeoiennniknlaaStillIn
namespace Go.Proofs.Ytmeoiennniknlaa.Sums
open Go.RowKit Go.Shelf Go.Proofs.YtmeoiennniknlaaW.PrintWords Go.Proofs.Ytmeoiennniknlaa.Lb
attribute [local go_sem] Oper.semAt_some

def vals (xs : List Byt) : List Nat := xs.map (·.val)
theorem vals_lt (xs : List Byt) : ∀ c ∈ vals xs, c < 256 := by
  intro c hc
  obtain ⟨x, _, rfl⟩ := List.mem_map.1 hc
  exact x.isLt
def cur (xs : List Byt) : Nat := crc 4294967295 (vals xs)
theorem cur_lt (xs : List Byt) : cur xs < 4294967296 := crc_lt _ (by omega) (vals_lt xs)
theorem cur_snoc (xs : List Byt) (x : Byt) : cur (xs ++ [x]) = byt (cur xs) x.val := by
  simp [cur, vals, crc_append, crc_cons]
  rfl

/-- What lies in the fold's own memory. -/
def FoldI (b : Nat) (pre : List Byt) (W : World) : Prop :=
  (∃ A, Tab A 256 ∧ W.heap[b]? = some (.cells A 142)) ∧ W.cell? ⟨b + 1, 0, none⟩ = some (.pointer (some ⟨b, 0, none⟩)) ∧
    W.cell? ⟨b + 1 + 1, 0, none⟩ = some (.int .u32 ((cur pre : Nat) : Int)) ∧ W.frozen? ⟨b + 1 + 1, 0, none⟩ = false
theorem FoldI.entry {b : Nat} {pre : List Byt} {W : World} (h : FoldI b pre W) (i : Nat) (hi : i < 256) : W.cell? ⟨b, i, none⟩ = some (.int .u32 ((tab i : Nat) : Int)) := by
  obtain ⟨⟨A, hA, hh⟩, _⟩ := h
  simp [World.cell?, hh, hA.2 i hi, hi]
theorem FoldI.step {b : Nat} {pre : List Byt} {W : World} (h : FoldI b pre W) (x : Byt) {y : Nat} (hy : y = byt (cur pre) x.val) : FoldI b (pre ++ [x]) (W.setCell ⟨b + 1 + 1, 0, none⟩ (.int .u32 (y : Int))).drew := by
  obtain ⟨⟨A, hA, hh⟩, h1, h2, h3⟩ := h
  refine ⟨⟨A, hA, ?_⟩, ?_, ?_, ?_⟩
  · rw [← hh]; exact Below.heap_setCell W ⟨b + 1 + 1, 0, none⟩ _ b (show b ≠ b + 1 + 1 by omega)
  · rw [← h1]; exact World.cell?_setCell_other W ⟨b + 1 + 1, 0, none⟩ ⟨b + 1, 0, none⟩ _ (by simp)
  · rw [cur_snoc, ← hy]; exact World.cell?_setCell_same' _ _ _ (by rw [h2]; rfl)
  · rw [← h3]; exact World.frozen?_setCell _ _ _ _
theorem FoldI.own (b : Nat) : Own (FoldI b) := by
  intro s W W' row hs hg hr
  obtain ⟨⟨A, hA, hh⟩, h1, h2, h3⟩ := hs
  refine ⟨⟨A, hA, ?_⟩, cell_kept h1 hg hr, cell_kept h2 hg hr, (frozen_kept h2 hg hr).trans h3⟩
  rw [hg.block b (Array.getElem?_eq_some_iff.1 hh).1 ?_]
  · exact hh
  · intro e
    obtain ⟨o, ho, hc⟩ := hr b e.symm
    rw [hh] at ho
    cases ho
    simp [Obj.isCells] at hc

set_option maxRecDepth 100000 in
set_option maxHeartbeats 1000000 in
theorem fold_in (n : Nat) (hn : 3 ≤ n) (gf : Nat) (lb : Array Value) (eg : ∀ args w, (callFunc gf args).run Try.prog w = .ok (.enter gf args) w) (xs : List Byt) (N : Nat) (w : World)
    (hseq : SeqStopsK Fence.wide (n - 1) Try.prog gf lb (fun x : Byt => #[.int .u8 ((x.val : Nat) : Int)]) (Below w.heap.size) (fun ys => ys = xs) (fun _ => True) N w) :
    CallsIn Fence.wide n Try.prog 69 #[.func (.func gf) #[] lb] w fun e w' => e = .returned (.int .u32 ((bsum (vals xs) : Nat) : Int)) ∧ Below w.heap.size w w' := by
  have h1 : 1 ≤ n := by omega
  refine callsIn_of_wp_marks Try.func69 rfl trivial ?_ rfl
  simp only [Try.ntmps69, List.size_toArray, List.length_cons, List.length_nil, Nat.reduceAdd, Nat.reduceSub, Array.replicate_succ, Array.replicate_zero, List.push_toArray, List.append_toArray, List.nil_append, List.cons_append]
  gi_wp2_with (first | (refine ⟨trivial, ?_⟩; gi_at_call 98; refine (callsIn_wide.2 (made_any w)).mono ?_; rintro e w' ⟨rfl, A, hA, rfl⟩) | (gi_at_call 98; refine (callsIn_wide.2 (made_any w)).mono ?_; rintro e w' ⟨rfl, A, hA, rfl⟩))
  obtain ⟨W3, hW3⟩ : ∃ W3, W3 = ((w.alloc (.cells A 142)).alloc (.cells #[.pointer (some ⟨w.heap.size, 0, none⟩)] 134)).alloc (.cells #[.int .u32 4294967295] 25) := ⟨_, rfl⟩
  have hB0 : Below w.heap.size w W3 := by
    rw [hW3]
    exact (((Below.refl _ w).alloc (Nat.le_refl _) _).alloc (by simp) _).alloc (by simp; omega) _
  have hsz : W3.heap.size = w.heap.size + 3 := by rw [hW3]; simp
  have hI0 : FoldI w.heap.size [] W3 := by
    rw [hW3]
    refine ⟨⟨A, hA, ?_⟩, ?_, ?_, ?_⟩
    · rw [Below.heap_alloc _ _ _ (by simp; omega), Below.heap_alloc _ _ _ (by simp)]; exact World.alloc_heap_new _ _
    · simp [go_sem]
    · simp [go_sem, cur, vals, crc]
    · simp [go_sem]
  rw [← hW3]
  clear hW3
  refine wpIn_rangeFunc_ownF (F := Fence.wide) rfl h1 (gf := gf) (lb := lb) rfl trivial eg hseq belowK_t (belowK_b (w := W3) (by omega)) hB0 (fun _ => rfl)
    (fun pre W => FoldI w.heap.size pre W ∧ Below w.heap.size w W)
    (fun _ _ _ => False)
    (OwnFrom.and (Own.from (FoldI.own _) _) (ownFrom_below (Nat.le_refl _) (by omega)))
    (fun _ _ _ _ _ hs _ _ => hs)
    ⟨hI0, hB0⟩
    (fun x => { tmps := #[.func (.func gf) #[] lb, undef, .int .u32 0, .pointer (some ⟨w.heap.size + 1, 0, none⟩), .pointer (some ⟨w.heap.size + 1 + 1, 0, none⟩), .int .u8 ((x.val : Nat) : Int), .pointer (some ⟨w.heap.size, 0, none⟩), .func (.func gf) #[] lb, .int .u8 ((x.val : Nat) : Int), undef, undef, undef, undef, undef, undef, undef, undef, undef, undef, undef, undef, undef], defers := [] }) ?assign ?body ?done ?stop
  case assign =>
    intro l x W K hK
    gi_wp2
    exact hK
  case body =>
    rintro l pre x W ⟨hI, hB⟩ _
    obtain ⟨m, hm⟩ : ∃ m, m = cur pre := ⟨_, rfl⟩
    have hml : m < 4294967296 := by rw [hm]; exact cur_lt pre
    have hxl := x.isLt
    obtain ⟨c, hcx⟩ : ∃ c : Nat, c = x.val := ⟨_, rfl⟩
    rw [← hcx] at hxl
    obtain ⟨j, hj⟩ : ∃ j, j = (m % 256) ^^^ c := ⟨_, rfl⟩
    have hjl : j < 256 := by rw [hj]; exact Nat.xor_lt_two_pow (n := 8) (by omega) hxl
    have hx8 : bits .xor .u8 ((m : Int) % 256) (c : Int) = (j : Int) := by
      rw [hj]; exact u8_xor_nat (m % 256) c (by omega) hxl
    have hce := hI.entry j hjl
    obtain ⟨T, hT⟩ : ∃ T, T = tab j := ⟨_, rfl⟩
    rw [← hT] at hce
    have hTl : T < 4294967296 := by rw [hT]; exact tab_lt hjl
    have hx32 : bits .xor .u32 (T : Int) ((m : Int) / 256) = ((byt m c : Nat) : Int) := by
      rw [← byt_tab hxl, ← hj, ← hT]
      exact u32_xor_nat T (m / 256) hTl (by omega)
    obtain ⟨_, hc1, hc2, hf2⟩ := id hI
    rw [← hm] at hc2
    obtain ⟨y, hy⟩ : ∃ y, y = byt m c := ⟨_, rfl⟩
    rw [← hy] at hx32
    have HI := Lib.hid hI
    have Hy := Lib.hid hy
    have Hm := Lib.hid hm
    have HT := Lib.hid hT
    have Hj := Lib.hid hj
    have Hc := Lib.hid hcx
    rw [← hcx]
    clear hI hy hm hT hj hcx
    have hx8w : bits .xor .u8 (IntKind.u8.wrap (m : Int)) (c : Int) = (j : Int) := by rw [IntKind.wrap_u8]; exact hx8
    have hji : (j : Int) < 256 := by omega
    have hmix : Try.prog.follows .mixedOrders = true := by kernel_rfl
    gi_wp2
    refine StillIn.wpIn_region_still_tail (StillIn.wideRound l) 11 hmix (by kernel_rfl) ?_
    simp only [List.take_succ_cons, List.take_zero, List.drop_succ_cons, List.drop_zero]
    repeat still_step
    refine wpStill_nil ?_
    gi_wp2
    have hst := HI.out.step x (y := y) (by rw [Hy.out, Hm.out, Hc.out])
    exact ⟨(KeepsOthers.setCell _ _ _).trans (KeepsOthers.drew _), ((Below.refl w.heap.size W).setCell (p := ⟨w.heap.size + 1 + 1, 0, none⟩) (by simp; omega) _).drew, hst, (hB.setCell (p := ⟨w.heap.size + 1 + 1, 0, none⟩) (by simp; omega) _).drew⟩
  case done =>
    rintro D ys W hD rfl ⟨hI, hB⟩ hK
    have hc2 := hI.2.2.1
    obtain ⟨m, hm⟩ : ∃ m, m = cur ys := ⟨_, rfl⟩
    have hml : m < 4294967296 := by rw [hm]; exact cur_lt ys
    have hbs : bits .xor .u32 (IntKind.u32.max) (m : Int) = ((bsum (vals ys) : Nat) : Int) := by
      have h := u32_xor_nat 4294967295 m (by omega) hml
      rw [Nat.xor_comm] at h
      rw [hm] at h ⊢
      exact h
    rw [← hm] at hc2
    have Hbs := Lib.hid hbs
    have Hm := Lib.hid hm
    clear hm hbs hI
    gi_wp2
    refine ⟨by simp, .inl ⟨_, _, rfl, run_takeDeferred hK, ?_⟩⟩
    exact ⟨_, results_tmp (t := 2) rfl _ _ _, congrArg (fun q => Ending.returned (.int .u32 q)) Hbs.out, hB.trans (belowK_b (w := W3) (by omega) W D _ _ (by omega) hK rfl rfl)⟩
  case stop =>
    rintro D c pre W _ _ h _
    exact h.elim
end Go.Proofs.Ytmeoiennniknlaa.Sums
