/- The contracts of anchor.Read and of the reference's Read. -/
import Derived.Test.YtmeoiennniknlaaAnC
import Derived.Test.YtmeoiennniknlaaArrEq
namespace Go.Proofs.Ytmeoiennniknlaa.Anchor
open Go.RowKit Go.Shelf Go.Proofs.YtmeoiennniknlaaW.PrintWords Go.Proofs.Ytmeoiennniknlaa.Lb Go.Proofs.Ytmeoiennniknlaa.Sums
set_option linter.unusedVariables false
set_option linter.unusedSimpArgs false

@[reducible] def agg8 (s0 s1 s2 s3 s4 s5 s6 s7 : Int) : Value := .agg #[.int .u64 s0, .int .u64 s1, .int .u64 s2, .int .u64 s3, .int .u64 s4, .int .u64 s5, .int .u64 s6, .int .u64 s7]
@[reducible] def agg4 (n e a w : Int) : Value := .agg #[.int .i64 n, .int .i64 e, .int .i64 a, .int .i64 w]
structure Anc where
  n : Int
  e : Int
  a : Int
  w : Int
def lo (x : Int) : Int := x % 4294967296
/-- The anchor of a sector, if there is one. -/
def rdA (s0 s1 s2 s3 s4 s5 s6 s7 : Int) : Option Anc :=
  if ancB (lo s1) (lo s2) (lo s3) (lo s4) = true ∧ ancS (lo s1) (lo s2) (lo s3) (lo s4) = [s0, s1, s2, s3, s4, s5, s6, s7] then some ⟨lo s1, lo s2, lo s3, lo s4⟩ else none
@[reducible] def ancV (r : Option Anc) : Value := .tuple #[agg4 (r.getD ⟨0, 0, 0, 0⟩).n (r.getD ⟨0, 0, 0, 0⟩).e (r.getD ⟨0, 0, 0, 0⟩).a (r.getD ⟨0, 0, 0, 0⟩).w, .bool r.isSome]
def U64 (x : Int) : Prop := 0 ≤ x ∧ x < 18446744073709551616

theorem below_alloc' {B : Nat} {w w' : World} (h : Below B w w') (hB : B ≤ w.heap.size) (o : Obj) : Below B w (w'.alloc o) := h.alloc (Nat.le_trans hB h.size) o
theorem sector_at {W : World} {n e a w : Int} {mk : Nat} (h : Hid (ancB n e a w = true)) (hm : Hid (amark n e a w = mk)) :
    Calls Try.prog 40 #[agg4 n e a w] W fun en W' => en = .returned (.tuple #[agg8 (mk : Int) n e a w 0 0 0, .bool true]) ∧ Hid (Below W.heap.size W W') := by
  have e1 := hm.out
  subst e1
  exact (sector_yes W n e a w h.out).mono fun en W' ⟨h1, h2⟩ => ⟨h1, Lib.hid h2⟩
theorem sector_not {W : World} {n e a w : Int} (h : Hid (ancB n e a w = false)) :
    Calls Try.prog 40 #[agg4 n e a w] W fun en W' => en = .returned (.tuple #[agg8 0 0 0 0 0 0 0 0, .bool false]) ∧ Hid (Below W.heap.size W W') :=
  (sector_no W n e a w h.out).mono fun en W' ⟨h1, h2⟩ => ⟨h1, Lib.hid h2⟩
theorem low_at {W : World} {g : Nat} {i m : Int} (h : Hid (∃ (s : List Int) (k : Nat) (x : Int), i = (k : Int) ∧ k < 8 ∧ (nums .u64 s)[k]? = some (.int .u64 x) ∧ U64 x ∧ x % 4294967296 = m ∧ Blk W g (nums .u64 s) 59)) :
    Calls Try.prog 80 #[.int .i64 i, .pointer (some ⟨g, 0, none⟩)] W fun en W' => en = .returned (.int .i64 m) ∧ W = W' := by
  obtain ⟨s, k, x, h1, h2, h3, h4, h5, h6⟩ := h.out
  exact low_any W g s i k h1 h2 x m h3 h4.1 h4.2 h5 h6

set_option maxRecDepth 100000 in
set_option maxHeartbeats 1000000 in
theorem read_no (W : World) (s0 s1 s2 s3 s4 s5 s6 s7 : Int) (u1 : U64 s1) (u2 : U64 s2) (u3 : U64 s3) (u4 : U64 s4) (n e a w : Int) (hn : lo s1 = n) (he : lo s2 = e) (ha : lo s3 = a) (hw : lo s4 = w) (h : ancB n e a w = false) :
    Calls Try.prog 41 #[agg8 s0 s1 s2 s3 s4 s5 s6 s7] W fun en W' => en = .returned (.tuple #[agg4 0 0 0 0, .bool false]) ∧ Below W.heap.size W W' := by
  have H := Lib.hid h
  have U1 := Lib.hid u1
  have U2 := Lib.hid u2
  have U3 := Lib.hid u3
  have U4 := Lib.hid u4
  have N1 : Hid (s1 % 4294967296 = n) := Lib.hid hn
  have N2 : Hid (s2 % 4294967296 = e) := Lib.hid he
  have N3 : Hid (s3 % 4294967296 = a) := Lib.hid ha
  have N4 : Hid (s4 % 4294967296 = w) := Lib.hid hw
  clear h u1 u2 u3 u4 hn he ha hw
  have B1 := Lib.hid ((Blk.new W (nums .u64 [s0, s1, s2, s3, s4, s5, s6, s7]) 59).alloc (.cells #[.int .i64 0, .int .i64 0, .int .i64 0, .int .i64 0] 58))
  have B2 : Hid (Blk (((W.alloc (.cells (nums .u64 [s0, s1, s2, s3, s4, s5, s6, s7]).toArray 59)).alloc (.cells #[.int .i64 0, .int .i64 0, .int .i64 0, .int .i64 0] 58)).alloc (.cells #[.int .i64 n, .int .i64 e, .int .i64 a, .int .i64 w] 58)) (W.heap.size + 1) [.int .i64 0, .int .i64 0, .int .i64 0, .int .i64 0] 58) := Lib.hid (by
    have h := (Blk.new (W.alloc (.cells (nums .u64 [s0, s1, s2, s3, s4, s5, s6, s7]).toArray 59)) [.int .i64 0, .int .i64 0, .int .i64 0, .int .i64 0] 58).alloc (.cells #[.int .i64 n, .int .i64 e, .int .i64 a, .int .i64 w] 58)
    rwa [World.size_alloc] at h)
  have HB0 : Hid (Below W.heap.size W (((W.alloc (.cells (nums .u64 [s0, s1, s2, s3, s4, s5, s6, s7]).toArray 59)).alloc (.cells #[.int .i64 0, .int .i64 0, .int .i64 0, .int .i64 0] 58)).alloc (.cells #[.int .i64 n, .int .i64 e, .int .i64 a, .int .i64 w] 58))) := Lib.hid ((((Below.refl _ W).alloc (Nat.le_refl _) _).alloc (by simp) _).alloc (by simp; omega) _)
  have L1 := Lib.hid (fun (W' : World) (hB : Blk W' W.heap.size (nums .u64 [s0, s1, s2, s3, s4, s5, s6, s7]) 59) => low_at (i := 1) (m := n) (Lib.hid ⟨_, 1, s1, rfl, by decide, rfl, U1.out, N1.out, hB⟩))
  have L2 := Lib.hid (fun (W' : World) (hB : Blk W' W.heap.size (nums .u64 [s0, s1, s2, s3, s4, s5, s6, s7]) 59) => low_at (i := 2) (m := e) (Lib.hid ⟨_, 2, s2, rfl, by decide, rfl, U2.out, N2.out, hB⟩))
  have L3 := Lib.hid (fun (W' : World) (hB : Blk W' W.heap.size (nums .u64 [s0, s1, s2, s3, s4, s5, s6, s7]) 59) => low_at (i := 3) (m := a) (Lib.hid ⟨_, 3, s3, rfl, by decide, rfl, U3.out, N3.out, hB⟩))
  have L4 := Lib.hid (fun (W' : World) (hB : Blk W' W.heap.size (nums .u64 [s0, s1, s2, s3, s4, s5, s6, s7]) 59) => low_at (i := 4) (m := w) (Lib.hid ⟨_, 4, s4, rfl, by decide, rfl, U4.out, N4.out, hB⟩))
  go_enter Try.func41, Try.ntmps41
  go_wp2_with (first
    | (go_at_call 80; (with_reducible refine (L1.out _ ?_).mono ?_); rotate_right; rintro en w1 ⟨rfl, rfl⟩)
    | (go_at_call 80; (with_reducible refine (L2.out _ ?_).mono ?_); rotate_right; rintro en w1 ⟨rfl, rfl⟩)
    | (go_at_call 80; (with_reducible refine (L3.out _ ?_).mono ?_); rotate_right; rintro en w1 ⟨rfl, rfl⟩)
    | (go_at_call 80; (with_reducible refine (L4.out _ ?_).mono ?_); rotate_right; rintro en w1 ⟨rfl, rfl⟩)
    | (go_at_call 40; (with_reducible refine (sector_not H).mono ?_); rintro en w2 ⟨rfl, Hb2⟩; have C2 := B2.out.below Hb2.out; have q2 := C2.cell; have f2 := C2.frozen; have s2 := C2.lt; have HB2 := Lib.hid (HB0.out.trans (Hb2.out.mono HB0.out.size)); clear C2))
  any_goals exact B1.out
  exact bodyPost_ret (v := .tuple #[agg4 0 0 0 0, .bool false]) (by simp [results, Try.results41, go_sem, q2, f2, s2]) rfl ⟨rfl, below_alloc' (below_set4 HB2.out (Nat.le_succ _) _ _ _ _) (Nat.le_refl _) _⟩

set_option maxRecDepth 100000 in
set_option maxHeartbeats 1000000 in
theorem read_ok (W : World) (s0 s1 s2 s3 s4 s5 s6 s7 : Int) (u1 : U64 s1) (u2 : U64 s2) (u3 : U64 s3) (u4 : U64 s4) (n e a w : Int) (hn : lo s1 = n) (he : lo s2 = e) (ha : lo s3 = a) (hw : lo s4 = w) (h : ancB n e a w = true) (mk : Nat) (hm : amark n e a w = mk) (b : Bool) (hb : decide ([(mk : Int), n, e, a, w, 0, 0, 0] = [s0, s1, s2, s3, s4, s5, s6, s7]) = b) :
    Calls Try.prog 41 #[agg8 s0 s1 s2 s3 s4 s5 s6 s7] W fun en W' => en = .returned (if b = true then .tuple #[agg4 n e a w, .bool true] else .tuple #[agg4 0 0 0 0, .bool false]) ∧ Below W.heap.size W W' := by
  have H := Lib.hid h
  have U1 := Lib.hid u1
  have U2 := Lib.hid u2
  have U3 := Lib.hid u3
  have U4 := Lib.hid u4
  have N1 : Hid (s1 % 4294967296 = n) := Lib.hid hn
  have N2 : Hid (s2 % 4294967296 = e) := Lib.hid he
  have N3 : Hid (s3 % 4294967296 = a) := Lib.hid ha
  have N4 : Hid (s4 % 4294967296 = w) := Lib.hid hw
  have HM := Lib.hid hm
  have heq : ∀ W' : World, (Op.equalIn 10000 59 (agg8 (mk : Int) n e a w 0 0 0) (agg8 s0 s1 s2 s3 s4 s5 s6 s7)).run Try.prog W' = .ok b W' := fun W' => by
    rw [← hb]
    exact ArrEq.sector_eq [(mk : Int), n, e, a, w, 0, 0, 0] [s0, s1, s2, s3, s4, s5, s6, s7] rfl rfl W'
  clear hb
  clear hm h u1 u2 u3 u4 hn he ha hw
  have B1 := Lib.hid ((Blk.new W (nums .u64 [s0, s1, s2, s3, s4, s5, s6, s7]) 59).alloc (.cells #[.int .i64 0, .int .i64 0, .int .i64 0, .int .i64 0] 58))
  have B2 : Hid (Blk (((W.alloc (.cells (nums .u64 [s0, s1, s2, s3, s4, s5, s6, s7]).toArray 59)).alloc (.cells #[.int .i64 0, .int .i64 0, .int .i64 0, .int .i64 0] 58)).alloc (.cells #[.int .i64 n, .int .i64 e, .int .i64 a, .int .i64 w] 58)) (W.heap.size + 1) [.int .i64 0, .int .i64 0, .int .i64 0, .int .i64 0] 58) := Lib.hid (by
    have h := (Blk.new (W.alloc (.cells (nums .u64 [s0, s1, s2, s3, s4, s5, s6, s7]).toArray 59)) [.int .i64 0, .int .i64 0, .int .i64 0, .int .i64 0] 58).alloc (.cells #[.int .i64 n, .int .i64 e, .int .i64 a, .int .i64 w] 58)
    rwa [World.size_alloc] at h)
  have B3 : Hid (Blk (((W.alloc (.cells (nums .u64 [s0, s1, s2, s3, s4, s5, s6, s7]).toArray 59)).alloc (.cells #[.int .i64 0, .int .i64 0, .int .i64 0, .int .i64 0] 58)).alloc (.cells #[.int .i64 n, .int .i64 e, .int .i64 a, .int .i64 w] 58)) W.heap.size (nums .u64 [s0, s1, s2, s3, s4, s5, s6, s7]) 59) := Lib.hid (B1.out.alloc _)
  have B4 : Hid (Blk (((W.alloc (.cells (nums .u64 [s0, s1, s2, s3, s4, s5, s6, s7]).toArray 59)).alloc (.cells #[.int .i64 0, .int .i64 0, .int .i64 0, .int .i64 0] 58)).alloc (.cells #[.int .i64 n, .int .i64 e, .int .i64 a, .int .i64 w] 58)) (W.heap.size + 1 + 1) [.int .i64 n, .int .i64 e, .int .i64 a, .int .i64 w] 58) := Lib.hid (by
    have h := Blk.new ((W.alloc (.cells (nums .u64 [s0, s1, s2, s3, s4, s5, s6, s7]).toArray 59)).alloc (.cells #[.int .i64 0, .int .i64 0, .int .i64 0, .int .i64 0] 58)) [.int .i64 n, .int .i64 e, .int .i64 a, .int .i64 w] 58
    rwa [World.size_alloc, World.size_alloc] at h)
  have HB0 : Hid (Below W.heap.size W (((W.alloc (.cells (nums .u64 [s0, s1, s2, s3, s4, s5, s6, s7]).toArray 59)).alloc (.cells #[.int .i64 0, .int .i64 0, .int .i64 0, .int .i64 0] 58)).alloc (.cells #[.int .i64 n, .int .i64 e, .int .i64 a, .int .i64 w] 58))) := Lib.hid ((((Below.refl _ W).alloc (Nat.le_refl _) _).alloc (by simp) _).alloc (by simp; omega) _)
  have L1 := Lib.hid (fun (W' : World) (hB : Blk W' W.heap.size (nums .u64 [s0, s1, s2, s3, s4, s5, s6, s7]) 59) => low_at (i := 1) (m := n) (Lib.hid ⟨_, 1, s1, rfl, by decide, rfl, U1.out, N1.out, hB⟩))
  have L2 := Lib.hid (fun (W' : World) (hB : Blk W' W.heap.size (nums .u64 [s0, s1, s2, s3, s4, s5, s6, s7]) 59) => low_at (i := 2) (m := e) (Lib.hid ⟨_, 2, s2, rfl, by decide, rfl, U2.out, N2.out, hB⟩))
  have L3 := Lib.hid (fun (W' : World) (hB : Blk W' W.heap.size (nums .u64 [s0, s1, s2, s3, s4, s5, s6, s7]) 59) => low_at (i := 3) (m := a) (Lib.hid ⟨_, 3, s3, rfl, by decide, rfl, U3.out, N3.out, hB⟩))
  have L4 := Lib.hid (fun (W' : World) (hB : Blk W' W.heap.size (nums .u64 [s0, s1, s2, s3, s4, s5, s6, s7]) 59) => low_at (i := 4) (m := w) (Lib.hid ⟨_, 4, s4, rfl, by decide, rfl, U4.out, N4.out, hB⟩))
  cases b
  all_goals
   go_enter Try.func41, Try.ntmps41
   go_wp2_with (first
     | (go_at_call 80; (with_reducible refine (L1.out _ ?_).mono ?_); rotate_right; rintro en w1 ⟨rfl, rfl⟩)
     | (go_at_call 80; (with_reducible refine (L2.out _ ?_).mono ?_); rotate_right; rintro en w1 ⟨rfl, rfl⟩)
     | (go_at_call 80; (with_reducible refine (L3.out _ ?_).mono ?_); rotate_right; rintro en w1 ⟨rfl, rfl⟩)
     | (go_at_call 80; (with_reducible refine (L4.out _ ?_).mono ?_); rotate_right; rintro en w1 ⟨rfl, rfl⟩)
     | (go_at_call 40; (with_reducible refine (sector_at H HM).mono ?_); rintro en w2 ⟨rfl, Hb2⟩; have C2 := B2.out.below Hb2.out; have q2 := C2.cell; have f2 := C2.frozen; have z2 := C2.lt; have q1 := (B3.out.below Hb2.out).cell; have z0 := (B3.out.below Hb2.out).lt; have q4 := (B4.out.below Hb2.out).cell; have z4 := (B4.out.below Hb2.out).lt; simp only [nums, List.map_cons, List.map_nil] at q1; have HB2 := Lib.hid (HB0.out.trans (Hb2.out.mono HB0.out.size)); clear C2))
   any_goals exact B1.out
  · exact bodyPost_ret (v := .tuple #[agg4 0 0 0 0, .bool false]) (by simp [results, Try.results41, go_sem, q2, f2, z2]) rfl ⟨rfl, below_alloc' (below_set4 HB2.out (Nat.le_succ _) _ _ _ _) (Nat.le_refl _) _⟩
  · exact bodyPost_ret (v := .tuple #[agg4 n e a w, .bool true]) (by simp [results, Try.results41, go_sem, q2, f2, z2]) rfl ⟨rfl, below_alloc' (below_set4 HB2.out (Nat.le_succ _) _ _ _ _) (Nat.le_refl _) _⟩
end Go.Proofs.Ytmeoiennniknlaa.Anchor
