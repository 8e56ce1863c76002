/- Anchors: what may be, their words, their sectors; contracts of package anchor's small functions. The contract of anchor.Sector. -/
import Derived.Test.YtmeoiennniknlaaFrA
import Derived.Laws.CopyOwn
import Derived.IntWalk
namespace Go.Proofs.Ytmeoiennniknlaa.Anchor
open Go.RowKit Go.Shelf Go.Proofs.YtmeoiennniknlaaW.PrintWords Go.Proofs.Ytmeoiennniknlaa.Lb Go.Proofs.Ytmeoiennniknlaa.Sums
set_option linter.unusedVariables false
set_option linter.unusedSimpArgs false

def wiB (n lo hi : Int) : Bool := decide (lo ≤ n ∧ n ≤ hi)
theorem wiB_true {n lo hi : Int} : wiB n lo hi = true ↔ lo ≤ n ∧ n ≤ hi := by simp [wiB]
/-- An anchor that may be. -/
def ancB (n e a w : Int) : Bool := wiB n 1 4294967295 && (wiB e 0 4294967295 && (wiB a 0 1 && wiB w 0 1048576))
theorem ancB_true {n e a w : Int} : ancB n e a w = true ↔ (1 ≤ n ∧ n ≤ 4294967295) ∧ (0 ≤ e ∧ e ≤ 4294967295) ∧ (0 ≤ a ∧ a ≤ 1) ∧ (0 ≤ w ∧ w ≤ 1048576) := by
  simp [ancB, wiB]

set_option maxRecDepth 100000 in
set_option maxHeartbeats 400000 in
theorem within_any (w : World) (n lo hi : Int) :
    Calls Try.prog 101 #[.int .i64 n, .int .i64 lo, .int .i64 hi] w fun e w' => e = .returned (.bool (wiB n lo hi)) ∧ w = w' := by
  unfold wiB
  by_cases h1 : lo ≤ n
  · by_cases h2 : n ≤ hi
    all_goals
      go_enter Try.func101, Try.ntmps101
      go_wp2
      go_ret
      exact ⟨by simp [h1, h2], rfl⟩
  · go_enter Try.func101, Try.ntmps101
    go_wp2
    go_ret
    exact ⟨by simp; omega, rfl⟩
theorem within_at {w : World} {n lo hi : Int} {b : Bool} (hb : Hid (wiB n lo hi = b)) :
    Calls Try.prog 101 #[.int .i64 n, .int .i64 lo, .int .i64 hi] w fun e w' => e = .returned (.bool b) ∧ w = w' := by
  have h := within_any w n lo hi
  rw [hb.out] at h
  exact h

set_option maxRecDepth 100000 in
set_option maxHeartbeats 1000000 in
theorem may_any (W : World) (n e a w : Int) :
    Calls Try.prog 78 #[.agg #[.int .i64 n, .int .i64 e, .int .i64 a, .int .i64 w]] W fun en W' => en = .returned (.bool (ancB n e a w)) ∧ Below W.heap.size W W' := by
  obtain ⟨b1, h1⟩ : ∃ b, wiB n 1 4294967295 = b := ⟨_, rfl⟩
  obtain ⟨b2, h2⟩ : ∃ b, wiB e 0 4294967295 = b := ⟨_, rfl⟩
  obtain ⟨b3, h3⟩ : ∃ b, wiB a 0 1 = b := ⟨_, rfl⟩
  obtain ⟨b4, h4⟩ : ∃ b, wiB w 0 1048576 = b := ⟨_, rfl⟩
  have e1 : ancB n e a w = (b1 && (b2 && (b3 && b4))) := by unfold ancB; rw [h1, h2, h3, h4]
  rw [e1]
  have H1 := Lib.hid h1
  have H2 := Lib.hid h2
  have H3 := Lib.hid h3
  have H4 := Lib.hid h4
  clear h1 h2 h3 h4 e1
  cases b1 <;> cases b2 <;> cases b3 <;> cases b4
  all_goals
    go_enter Try.func78, Try.ntmps78
    go_wp2_with (go_at_call 101; (first | (with_reducible refine (within_at H1).mono ?_) | (with_reducible refine (within_at H2).mono ?_) | (with_reducible refine (within_at H3).mono ?_) | (with_reducible refine (within_at H4).mono ?_)); rintro en w1 ⟨rfl, rfl⟩)
    go_ret
    exact ⟨rfl, (Below.refl _ _).alloc (Nat.le_refl _) _⟩

theorem ret_bool {a b : Bool} (h : a = b) : Ending.returned (.bool a) = .returned (.bool b) := by rw [h]
theorem ancB_no {n e a w : Int} (h : ¬((1 ≤ n ∧ n ≤ 4294967295) ∧ (0 ≤ e ∧ e ≤ 4294967295) ∧ (0 ≤ a ∧ a ≤ 1) ∧ (0 ≤ w ∧ w ≤ 1048576))) : ancB n e a w = false := by
  cases hb : ancB n e a w with
  | false => rfl
  | true => exact absurd (ancB_true.1 hb) h

set_option maxRecDepth 100000 in
set_option maxHeartbeats 2000000 in
theorem refMay_any (W : World) (n e a w : Int) :
    Calls Try.prog 43 #[.agg #[.int .i64 n, .int .i64 e, .int .i64 a, .int .i64 w]] W fun en W' => en = .returned (.bool (ancB n e a w)) ∧ Below W.heap.size W W' := by
  obtain ⟨b, hb⟩ : ∃ b, b = ancB n e a w := ⟨_, rfl⟩
  rw [← hb]
  have HB := Lib.hid hb
  clear hb
  by_cases h1 : 1 ≤ n
  · by_cases h2 : n < 4294967296
    · by_cases h3 : 0 ≤ e
      · by_cases h4 : e < 4294967296
        · by_cases h5 : a = 0 ∨ a = 1
          · by_cases h6 : 0 ≤ w
            · by_cases h7 : w ≤ 1048576
              · have Hb : Hid (b = true) := Lib.hid (by rw [HB.out, ancB_true]; omega)
                rcases h5 with rfl | rfl
                all_goals
                  go_enter Try.func43, Try.ntmps43
                  go_wp2
                  go_ret
                  exact ⟨by rw [Hb.out]; rfl, (Below.refl _ _).alloc (Nat.le_refl _) _⟩
              · have Hb : Hid (b = false) := Lib.hid (by rw [HB.out]; exact ancB_no (by omega))
                rcases h5 with rfl | rfl
                all_goals
                  go_enter Try.func43, Try.ntmps43
                  go_wp2
                  go_ret
                  exact ⟨by rw [Hb.out]; rfl, (Below.refl _ _).alloc (Nat.le_refl _) _⟩
            · have Hb : Hid (b = false) := Lib.hid (by rw [HB.out]; exact ancB_no (by omega))
              rcases h5 with rfl | rfl
              all_goals
                go_enter Try.func43, Try.ntmps43
                go_wp2
                go_ret
                exact ⟨by rw [Hb.out]; rfl, (Below.refl _ _).alloc (Nat.le_refl _) _⟩
          · have Hb : Hid (b = false) := Lib.hid (by rw [HB.out]; exact ancB_no (by omega))
            have q0 : (a == 0) = false := by simp; omega
            have q1 : (a == 1) = false := by simp; omega
            clear h5
            go_enter Try.func43, Try.ntmps43
            go_wp2
            go_ret
            exact ⟨by rw [Hb.out]; rfl, (Below.refl _ _).alloc (Nat.le_refl _) _⟩
        · have Hb : Hid (b = false) := Lib.hid (by rw [HB.out]; exact ancB_no (by omega))
          go_enter Try.func43, Try.ntmps43
          go_wp2
          go_ret
          exact ⟨by rw [Hb.out]; rfl, (Below.refl _ _).alloc (Nat.le_refl _) _⟩
      · have Hb : Hid (b = false) := Lib.hid (by rw [HB.out]; exact ancB_no (by omega))
        go_enter Try.func43, Try.ntmps43
        go_wp2
        go_ret
        exact ⟨by rw [Hb.out]; rfl, (Below.refl _ _).alloc (Nat.le_refl _) _⟩
    · have Hb : Hid (b = false) := Lib.hid (by rw [HB.out]; exact ancB_no (by omega))
      go_enter Try.func43, Try.ntmps43
      go_wp2
      go_ret
      exact ⟨by rw [Hb.out]; rfl, (Below.refl _ _).alloc (Nat.le_refl _) _⟩
  · have Hb : Hid (b = false) := Lib.hid (by rw [HB.out]; exact ancB_no (by omega))
    go_enter Try.func43, Try.ntmps43
    go_wp2
    go_ret
    exact ⟨by rw [Hb.out]; rfl, (Below.refl _ _).alloc (Nat.le_refl _) _⟩

/-- The words of an anchor. -/
def ancW (n e a w : Int) : List Int := [n, e, a, w]
set_option maxRecDepth 100000 in
set_option maxHeartbeats 1000000 in
theorem words_any (W : World) (n e a w : Int) (hn : 0 ≤ n ∧ n ≤ 4294967295) (he : 0 ≤ e ∧ e ≤ 4294967295) (ha : 0 ≤ a ∧ a ≤ 4294967295) (hw : 0 ≤ w ∧ w ≤ 4294967295) :
    Calls Try.prog 79 #[.agg #[.int .i64 n, .int .i64 e, .int .i64 a, .int .i64 w]] W fun en W' => en = .returned (.slice (some ⟨W.heap.size + 1, 0, none⟩) 4 4) ∧
      W' = (W.alloc (.cells #[.int .i64 n, .int .i64 e, .int .i64 a, .int .i64 w] 58)).alloc (.cells #[.int .u64 n, .int .u64 e, .int .u64 a, .int .u64 w] 30) := by
  obtain ⟨hn0, hn1⟩ := hn
  obtain ⟨he0, he1⟩ := he
  obtain ⟨ha0, ha1⟩ := ha
  obtain ⟨hw0, hw1⟩ := hw
  go_enter Try.func79, Try.ntmps79
  go_wp2
  go_ret
  exact ⟨rfl, rfl⟩
end Go.Proofs.Ytmeoiennniknlaa.Anchor

namespace Go.Proofs.Ytmeoiennniknlaa.Anchor
open Go.RowKit Go.Shelf Go.Proofs.YtmeoiennniknlaaW.PrintWords Go.Proofs.Ytmeoiennniknlaa.Lb Go.Proofs.Ytmeoiennniknlaa.Sums
set_option linter.unusedVariables false
set_option linter.unusedSimpArgs false

/-- A sector, as a value. -/
def secV (s : List Int) : Value := .agg (nums .u64 s).toArray
/-- No sector's words. -/
def zero8 : List Int := [0, 0, 0, 0, 0, 0, 0, 0]
/-- The mark of an anchor. -/
def amark (n e a w : Int) : Nat := Sums.mark 9 (n.toNat % 16777216) [n.toNat, e.toNat, a.toNat, w.toNat]
/-- The words of an anchor's sector. -/
def ancS (n e a w : Int) : List Int := [(amark n e a w : Int), n, e, a, w, 0, 0, 0]

/-! What lies in a block, cell by cell. -/
/-- Block g holds these cells. -/
def Blk (w : World) (g : Nat) (cs : List Value) (t : TypeId) : Prop := w.heap[g]? = some (.cells cs.toArray t (0, 0))
theorem Blk.cell {w : World} {g : Nat} {cs : List Value} {t : TypeId} (h : Blk w g cs t) (j : Nat) : w.cell? ⟨g, j, none⟩ = cs[j]? := by
  rw [cell_of_row w g j cs.toArray t (0, 0) h]; simp
theorem Blk.heap {w : World} {g : Nat} {cs : List Value} {t : TypeId} (h : Blk w g cs t) : w.heap[g]? = some (.cells cs.toArray t (0, 0)) := h
theorem Blk.frozen {w : World} {g : Nat} {cs : List Value} {t : TypeId} (h : Blk w g cs t) (j : Nat) : w.frozen? ⟨g, j, none⟩ = false := frozen_of_row w g j cs.toArray t h
theorem Blk.lt {w : World} {g : Nat} {cs : List Value} {t : TypeId} (h : Blk w g cs t) : g < w.heap.size := (Array.getElem?_eq_some_iff.1 h).1
theorem Blk.new (w : World) (cs : List Value) (t : TypeId) : Blk (w.alloc (.cells cs.toArray t)) w.heap.size cs t := heap_alloc_new w _
theorem Blk.alloc {w : World} {g : Nat} {cs : List Value} {t : TypeId} (h : Blk w g cs t) (o : Obj) : Blk (w.alloc o) g cs t := (Below.heap_alloc w o g h.lt).trans h
theorem Blk.below {w w' : World} {g : Nat} {cs : List Value} {t : TypeId} (h : Blk w g cs t) (hb : Below w.heap.size w w') : Blk w' g cs t := (hb.block g h.lt).trans h
theorem Blk.drew {w : World} {g : Nat} {cs : List Value} {t : TypeId} (h : Blk w g cs t) : Blk w.drew g cs t := h
theorem Blk.drewN {w : World} {g : Nat} {cs : List Value} {t : TypeId} (h : Blk w g cs t) (n : Nat) : Blk (w.drewN n) g cs t := h
theorem Blk.set {w : World} {g : Nat} {cs : List Value} {t : TypeId} (h : Blk w g cs t) (i : Nat) (v : Value) : Blk (w.setCell ⟨g, i, none⟩ v) g (cs.set i v) t := by
  have := heap_setCell_same w g i cs.toArray t v h
  unfold Blk
  rw [this]; simp
theorem Blk.other {w : World} {g : Nat} {cs : List Value} {t : TypeId} (h : Blk w g cs t) {a : Addr} (ha : g ≠ a.block) (v : Value) : Blk (w.setCell a v) g cs t := (heap_setCell_other w a g v ha).trans h

theorem below_set8 {B g : Nat} {w w' : World} (h : Below B w w') (hg : B ≤ g) (v0 v1 v2 v3 v4 v5 v6 v7 : Value) : Below B w ((((((((w'.setCell ⟨g, 0, none⟩ v0).setCell ⟨g, 1, none⟩ v1).setCell ⟨g, 2, none⟩ v2).setCell ⟨g, 3, none⟩ v3).setCell ⟨g, 4, none⟩ v4).setCell ⟨g, 5, none⟩ v5).setCell ⟨g, 6, none⟩ v6).setCell ⟨g, 7, none⟩ v7) :=
  ((((((((h.setCell (p := ⟨g, 0, none⟩) hg v0).setCell (p := ⟨g, 1, none⟩) hg v1).setCell (p := ⟨g, 2, none⟩) hg v2).setCell (p := ⟨g, 3, none⟩) hg v3).setCell (p := ⟨g, 4, none⟩) hg v4).setCell (p := ⟨g, 5, none⟩) hg v5).setCell (p := ⟨g, 6, none⟩) hg v6).setCell (p := ⟨g, 7, none⟩) hg v7)
theorem below_set4 {B g : Nat} {w w' : World} (h : Below B w w') (hg : B ≤ g) (v0 v1 v2 v3 : Value) : Below B w ((((w'.setCell ⟨g, 0, none⟩ v0).setCell ⟨g, 1, none⟩ v1).setCell ⟨g, 2, none⟩ v2).setCell ⟨g, 3, none⟩ v3) :=
  ((((h.setCell (p := ⟨g, 0, none⟩) hg v0).setCell (p := ⟨g, 1, none⟩) hg v1).setCell (p := ⟨g, 2, none⟩) hg v2).setCell (p := ⟨g, 3, none⟩) hg v3)

set_option maxRecDepth 100000 in
set_option maxHeartbeats 1000000 in
theorem sector_no (W : World) (n e a w : Int) (h : ancB n e a w = false) :
    Calls Try.prog 40 #[.agg #[.int .i64 n, .int .i64 e, .int .i64 a, .int .i64 w]] W fun en W' => en = .returned (.tuple #[secV zero8, .bool false]) ∧ Below W.heap.size W W' := by
  have H := Lib.hid h
  clear h
  have HB0 := Lib.hid ((((Below.refl _ W).alloc (Nat.le_refl _) (.cells #[.int .i64 n, .int .i64 e, .int .i64 a, .int .i64 w] 58)).alloc (by simp) (.cells (nums .u64 zero8).toArray 59)).alloc (by simp; omega) (.cells (nums .u64 zero8).toArray 59))
  have B2 := Lib.hid ((Blk.new (W.alloc (.cells #[.int .i64 n, .int .i64 e, .int .i64 a, .int .i64 w] 58)) (nums .u64 zero8) 59).alloc (.cells (nums .u64 zero8).toArray 59))
  have B3 := Lib.hid (Blk.new ((W.alloc (.cells #[.int .i64 n, .int .i64 e, .int .i64 a, .int .i64 w] 58)).alloc (.cells (nums .u64 zero8).toArray 59)) (nums .u64 zero8) 59)
  go_enter Try.func40, Try.ntmps40
  go_wp2_with (go_at_call 78; (with_reducible refine (may_any _ _ _ _ _).mono ?_); rw [H.out]; rintro en w1 ⟨rfl, hb⟩; have q2 := (B2.out.below hb).cell; have q3 := (B3.out.below hb).cell; have f2 := (B2.out.below hb).frozen; have HB1 := Lib.hid (HB0.out.trans (hb.mono HB0.out.size)); simp only [World.size_alloc, nums, zero8, List.map_cons, List.map_nil] at q2 q3 f2; clear hb)
  exact bodyPost_ret (v := .tuple #[secV zero8, .bool false]) (by simp [results, Try.results40, go_sem, q2, f2, secV, zero8, nums]) rfl ⟨rfl, below_set8 HB1.out (Nat.le_succ _) _ _ _ _ _ _ _ _⟩

theorem i64_and_nat (a b : Nat) (ha : a < 4294967296) (hb : b < 4294967296) : bits .and .i64 (a : Int) (b : Int) = ((a &&& b : Nat) : Int) := by
  have hx : a &&& b < 2 ^ 32 := Nat.and_lt_two_pow _ (by omega)
  show IntKind.i64.wrap ((BitVec.ofInt 64 (a : Int) &&& BitVec.ofInt 64 (b : Int)).toNat : Int) = _
  rw [BitVec.toNat_and, ofInt_u64 a (by omega), ofInt_u64 b (by omega)]
  exact IntWalk.i64_in _ (by omega)
theorem short_and (n : Int) (h0 : 0 ≤ n) (h1 : n ≤ 4294967295) : bits .and .i64 n 16777215 = ((n.toNat % 16777216 : Nat) : Int) := by
  have h := i64_and_nat n.toNat 16777215 (by omega) (by omega)
  rw [show (16777215 : Nat) = 2 ^ 24 - 1 from rfl, Nat.and_two_pow_sub_one_eq_mod] at h
  rw [show ((n.toNat : Nat) : Int) = n by omega] at h
  exact h
theorem mark9_at {w W : World} {n : Nat} {A : Option Addr} {c m : Nat} {ws : List Nat} {xs : List Int} {mk : Nat} (hB : Hid (Below w.heap.size w W)) (hx : Hid (il ws = xs)) (hC : Hid ((Kd.int .u64).C w A m xs)) (hm : Hid (m = ws.length)) (hn : n < 16777216) (hreach : m * 8 + 24 ≤ 140737488351232) (hmk : Hid (Sums.mark 9 n ws = mk)) :
    Calls Try.prog 21 #[.int .i64 9, .int .i64 (n : Int), .slice A m c] W fun e w' => e = .returned (.tuple #[.int .u64 (mk : Int), .bool true]) ∧ Hid (Below w.heap.size w w') := by
  have e1 := hm.out
  subst e1
  have e2 := hx.out
  subst e2
  have h := mark_at (c := c) (kind := 9) (n := n) (ws := ws) hB hC rfl (by decide) hn hreach
  rw [hmk.out] at h
  exact h
theorem cells_other {w : World} {k : IntKind} {A : Addr} {l : List Int} {n : Nat} (hC : (Kd.int k).C w (some A) n l) {a : Addr} (ha : A.block ≠ a.block) (x : Value) : ∀ (j : Nat) (v : Value), (nums k l)[j]? = some v → (w.setCell a x).cell? (A.add j) = some v := by
  intro j v hv
  have hn : l.length = n := hC.1
  subst hn
  simp only [nums, List.getElem?_map, Option.map_eq_some_iff] at hv
  obtain ⟨z, hz, rfl⟩ := hv
  obtain ⟨hj, rfl⟩ := List.getElem?_eq_some_iff.1 hz
  obtain ⟨ad, e1, h1⟩ := Frames.C_cell hC j hj
  simp only [Option.some.injEq] at e1
  subst e1
  have hb : (A.add j).block = A.block := by unfold Addr.add; split <;> rfl
  exact (World.cell?_of_block (by rw [hb]; exact heap_setCell_other w a A.block x ha)).trans h1
theorem u64_one : (Try.prog.info? 30).map (·.size) = some 1 := by kernel_rfl
theorem nums_one (k : IntKind) (l : List Int) : ∀ v ∈ nums k l, v.oneCell' = true := by
  intro v hv
  obtain ⟨x, _, rfl⟩ := List.mem_map.1 hv
  rfl
theorem nums4 (n e a w : Int) : (nums .u64 [n, e, a, w]).length = Nat.min 4 7 := rfl
theorem nums4_fit (n e a w m : Int) : 1 + (nums .u64 [n, e, a, w]).length ≤ (nums .u64 [m, 0, 0, 0, 0, 0, 0, 0]).length := by simp [nums]
theorem words_at {W : World} {n e a w : Int} (h : Hid ((0 ≤ n ∧ n ≤ 4294967295) ∧ (0 ≤ e ∧ e ≤ 4294967295) ∧ (0 ≤ a ∧ a ≤ 4294967295) ∧ (0 ≤ w ∧ w ≤ 4294967295))) :
    Calls Try.prog 79 #[.agg #[.int .i64 n, .int .i64 e, .int .i64 a, .int .i64 w]] W fun en W' => ∃ A, en = .returned (.slice (some A) 4 4) ∧ Hid ((Kd.int .u64).C W' (some A) 4 [n, e, a, w]) ∧ Hid (W.heap.size ≤ A.block) ∧ Hid (Below W.heap.size W W') := by
  obtain ⟨h1, h2, h3, h4⟩ := h.out
  refine (words_any W n e a w h1 h2 h3 h4).mono ?_
  rintro en W' ⟨rfl, rfl⟩
  refine ⟨_, rfl, Lib.hid ?_, Lib.hid (Nat.le_succ _), Lib.hid (((Below.refl _ _).alloc (Nat.le_refl _) _).alloc (by simp) _)⟩
  have hb := Blk.new (W.alloc (.cells #[.int .i64 n, .int .i64 e, .int .i64 a, .int .i64 w] 58)) (nums .u64 [n, e, a, w]) 30
  refine C_of_cells .u64 (l := [n, e, a, w]) (by simp) (fun j hj => ?_)
  have h5 := hb.cell j
  simp only [World.size_alloc] at h5
  simp only [List.length_cons, List.length_nil] at hj
  have e1 : (⟨W.heap.size + 1, 0, none⟩ : Addr).add j = ⟨W.heap.size + 1, j, none⟩ := by unfold Addr.add; split <;> simp_all
  rw [e1]
  refine h5.trans ?_
  rcases j with _ | _ | _ | _ | j
  · rfl
  · rfl
  · rfl
  · rfl
  · omega

set_option maxRecDepth 100000 in
set_option maxHeartbeats 1000000 in
theorem sector_yes (W : World) (n e a w : Int) (h : ancB n e a w = true) :
    Calls Try.prog 40 #[.agg #[.int .i64 n, .int .i64 e, .int .i64 a, .int .i64 w]] W fun en W' => en = .returned (.tuple #[secV (ancS n e a w), .bool true]) ∧ Below W.heap.size W W' := by
  have H := Lib.hid h
  obtain ⟨⟨hn0, hn1⟩, ⟨he0, he1⟩, ⟨ha0, ha1⟩, ⟨hw0, hw1⟩⟩ := ancB_true.1 h
  have Hw : Hid ((0 ≤ n ∧ n ≤ 4294967295) ∧ (0 ≤ e ∧ e ≤ 4294967295) ∧ (0 ≤ a ∧ a ≤ 4294967295) ∧ (0 ≤ w ∧ w ≤ 4294967295)) := Lib.hid (by omega)
  clear h
  have hbit := short_and n (by omega) hn1
  have Hil : Hid (il [n.toNat, e.toNat, a.toNat, w.toNat] = [n, e, a, w]) := Lib.hid (by
    simp only [il, List.map_cons, List.map_nil]
    rw [show ((n.toNat : Nat) : Int) = n by omega, show ((e.toNat : Nat) : Int) = e by omega, show ((a.toNat : Nat) : Int) = a by omega, show ((w.toNat : Nat) : Int) = w by omega])
  have hnm : n.toNat % 16777216 < 16777216 := Nat.mod_lt _ (by decide)
  have Hmk : Hid (Sums.mark 9 (n.toNat % 16777216) [n.toNat, e.toNat, a.toNat, w.toNat] = amark n e a w) := Lib.hid rfl
  obtain ⟨mk, hmk⟩ : ∃ m, m = amark n e a w := ⟨_, rfl⟩
  have Hml : Hid (ancS n e a w = [(mk : Int), n, e, a, w, 0, 0, 0]) := Lib.hid (by rw [hmk]; rfl)
  rw [← hmk] at Hmk
  clear hmk
  obtain ⟨ns, hns⟩ : ∃ m, m = n.toNat % 16777216 := ⟨_, rfl⟩
  rw [← hns] at hbit hnm Hmk
  clear hns
  have HB0 := Lib.hid ((((Below.refl _ W).alloc (Nat.le_refl _) (.cells #[.int .i64 n, .int .i64 e, .int .i64 a, .int .i64 w] 58)).alloc (by simp) (.cells (nums .u64 zero8).toArray 59)).alloc (by simp; omega) (.cells (nums .u64 zero8).toArray 59))
  have B1 := Lib.hid (((Blk.new W [.int .i64 n, .int .i64 e, .int .i64 a, .int .i64 w] 58).alloc (.cells (nums .u64 zero8).toArray 59)).alloc (.cells (nums .u64 zero8).toArray 59))
  have B2 := Lib.hid ((Blk.new (W.alloc (.cells #[.int .i64 n, .int .i64 e, .int .i64 a, .int .i64 w] 58)) (nums .u64 zero8) 59).alloc (.cells (nums .u64 zero8).toArray 59))
  have B3 := Lib.hid (Blk.new ((W.alloc (.cells #[.int .i64 n, .int .i64 e, .int .i64 a, .int .i64 w] 58)).alloc (.cells (nums .u64 zero8).toArray 59)) (nums .u64 zero8) 59)
  go_enter Try.func40, Try.ntmps40
  go_wp2_with (first
    | (go_at_call 78; (with_reducible refine (may_any _ _ _ _ _).mono ?_); rw [H.out]; rintro en w1 ⟨rfl, hb⟩; have q1 := (B1.out.below hb).cell; have C2 := Lib.hid (B2.out.below hb); have C3 := Lib.hid (B3.out.below hb); have C1 := Lib.hid (B1.out.below hb); have HB1 := Lib.hid (HB0.out.trans (hb.mono HB0.out.size)); simp only [World.size_alloc, nums, zero8, List.map_cons, List.map_nil] at q1 C2 C3; clear hb)
    | (go_at_call 79; (with_reducible refine (words_at Hw).mono ?_); rintro en w2 ⟨A, rfl, HC2, HA2, Hb2⟩; have D2 := Lib.hid (C2.out.below Hb2.out); have D3 := Lib.hid (C3.out.below Hb2.out); have r1 := (C1.out.below Hb2.out).cell; have HB2 := Lib.hid (HB1.out.trans (Hb2.out.mono HB1.out.size)))
    | (go_at_call 21; (with_reducible refine (mark9_at (n := ns) (Lib.hid (Below.refl w2.heap.size w2)) Hil HC2 (Lib.hid rfl) hnm (by decide) Hmk).mono ?_); rintro en w3 ⟨rfl, Hb3⟩; have q3 := (D3.out.below Hb3.out).cell; have f3 := (D3.out.below Hb3.out).frozen; have E3 := Lib.hid (D3.out.below Hb3.out); have E2 := Lib.hid (D2.out.below Hb3.out); have HC3 := Lib.hid (Kd.C_below HC2.out Hb3.out); have HB3 := Lib.hid (HB2.out.trans (Hb3.out.mono HB2.out.size)); have G3 : Hid (Blk (w3.setCell ⟨W.heap.size + 1 + 1, 0, none⟩ (.int .u64 (mk : Int))) (W.heap.size + 1 + 1) (nums .u64 [(mk : Int), 0, 0, 0, 0, 0, 0, 0]) 59) := Lib.hid (E3.out.set 0 (.int .u64 (mk : Int))); have HS3 : Hid (A.block ≠ W.heap.size + 1 + 1) := Lib.hid (by have h1 := HA2.out; have h2 := C3.out.lt; omega); have HX3 := Lib.hid (cells_other HC3.out (a := ⟨W.heap.size + 1 + 1, 0, none⟩) HS3.out (.int .u64 (mk : Int))))
    | ((with_reducible show wpList _ _ _ (⟨some 23, _, _, _, _, _⟩ :: _) _ _); go_loud (refine wpList_copy_splice rfl (.tmp 21) (.tmp 22) 23 23 rfl 30 Try.underlying23 u64_one (some ⟨W.heap.size + 1 + 1, 1, none⟩) (some A) 7 7 4 4 rfl rfl (W.heap.size + 1 + 1) 1 (nums .u64 [(mk : Int), 0, 0, 0, 0, 0, 0, 0]) 59 G3.out.heap (nums .u64 [n, e, a, w]) (nums4 _ _ _ _) (fun _ => ⟨rfl, A, rfl, HX3.out⟩) (nums4_fit _ _ _ _ _) (nums_one _ _) (W.heap.size + 1 + 1) (w3.setCell ⟨W.heap.size + 1 + 1, 0, none⟩ (.int .u64 (mk : Int))) (Below.refl _ _) (Nat.le_refl _) ?_); intro w4 HG4 hb4; have G4 : Blk w4 (W.heap.size + 1 + 1) [.int .u64 (mk : Int), .int .u64 n, .int .u64 e, .int .u64 a, .int .u64 w, .int .u64 0, .int .u64 0, .int .u64 0] 59 := HG4.out; have q4 := G4.cell; have E4 : Blk w4 (W.heap.size + 1) _ _ := ((hb4.block (W.heap.size + 1) (Nat.lt_succ_self _)).trans (E2.out.other (a := ⟨W.heap.size + 1 + 1, 0, none⟩) (by simp) _)); have f4 := E4.frozen; have q5 := E4.cell; have HB4 := Lib.hid ((HB3.out.setCell (p := ⟨W.heap.size + 1 + 1, 0, none⟩) (by simp; omega) (.int .u64 (mk : Int))).trans (hb4.mono (by omega))); clear hb4 G4 E4))
  exact bodyPost_ret (v := .tuple #[secV (ancS n e a w), .bool true]) (by simp [results, Try.results40, go_sem, q4, q5, f4, Hml.out, secV, nums]) rfl ⟨rfl, below_set8 HB4.out (Nat.le_succ _) _ _ _ _ _ _ _ _⟩
end Go.Proofs.Ytmeoiennniknlaa.Anchor
