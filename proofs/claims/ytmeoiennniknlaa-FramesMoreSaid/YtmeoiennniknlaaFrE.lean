/- Plain laws of a stream of frames. The contract of frames.Stream. The walk of the statement FramesStream. The walk of the statement FramesStream: frames that may be. -/
import Derived.Test.YtmeoiennniknlaaFrD
namespace Go.Proofs.Ytmeoiennniknlaa.Frames
open Go.RowKit Go.Shelf Go.Proofs.YtmeoiennniknlaaW.PrintWords Go.Proofs.Ytmeoiennniknlaa.Lb Go.Proofs.Ytmeoiennniknlaa.Sums
set_option linter.unusedVariables false
set_option linter.unusedSimpArgs false

/-- A frame that may be. -/
def Good (f : Fr) : Prop := 1 ≤ f.f0 ∧ f.f0 ≤ 255 ∧ f.f1.length ≤ 2000
theorem Good.may {f : Fr} : Good f ↔ mayB f.f0 f.f1.length = true := mayB_true.symm
/-- Its words. -/
def putW (e n : Nat) (f : Fr) : List Int := ((fmark e n f.f0.toNat f.f1 : Nat) : Int) :: f.f1
/-- The words of frames, from number n on. -/
def strW (e : Nat) : Nat → List Fr → List Int
  | _, [] => []
  | n, f :: fs => putW e n f ++ strW e (n + 1) fs
theorem putW_length (e n : Nat) (f : Fr) : (putW e n f).length = 1 + f.f1.length := by simp [putW, Nat.add_comm]
theorem strW_append (e : Nat) : ∀ (a b : List Fr) (n : Nat), strW e n (a ++ b) = strW e n a ++ strW e (n + a.length) b
  | [], b, n => by simp [strW]
  | f :: a, b, n => by
    rw [List.cons_append, strW, strW, strW_append e a b (n + 1), List.append_assoc, List.length_cons, Nat.add_assoc, Nat.add_comm 1 a.length]
theorem strW_WS (e : Nat) : ∀ (fs : List Fr) (n : Nat), (∀ f ∈ fs, Good f) → (∀ f ∈ fs, WS f.f1) → WS (strW e n fs)
  | [], _, _, _ => fun x hx => by cases hx
  | f :: fs, n, hg, hw => by
    have h1 := hg f List.mem_cons_self
    exact WS_append (WS_put (by have := h1.2.1; omega) h1.2.2 (hw f List.mem_cons_self)) (strW_WS e fs (n + 1) (fun y hy => hg y (List.mem_cons_of_mem _ hy)) (fun y hy => hw y (List.mem_cons_of_mem _ hy)))
theorem strW_len (e : Nat) : ∀ (fs : List Fr) (n : Nat), (∀ f ∈ fs, f.f1.length ≤ 2100) → (strW e n fs).length ≤ fs.length * 2101
  | [], _, _ => by simp [strW]
  | f :: fs, n, h => by
    have h1 := h f List.mem_cons_self
    have h2 := strW_len e fs (n + 1) (fun y hy => h y (List.mem_cons_of_mem _ hy))
    rw [strW, List.length_append, putW_length, List.length_cons, Nat.add_mul]
    omega

theorem getR_put {e n : Nat} (he : e < 4294967296) (hn : n < 4294967296) {f : Fr} (hf : Good f) (more : List Int) : getR (e : Int) (n : Int) (putW e n f ++ more) = some (f, 1 + f.f1.length) := by
  obtain ⟨h1, h2, h3⟩ := hf
  have h := get_put (k := f.f0.toNat) he hn (by omega) (by omega) f.f1 more h3
  rw [show ((f.f0.toNat : Nat) : Int) = f.f0 by omega] at h
  exact h

theorem getR_nil (e n : Int) : getR e n [] = none := getR_none (Or.inl rfl)
/-- A frame that is cut. -/
theorem getR_cut {e n : Nat} (he : e < 4294967296) (hn : n < 4294967296) {f : Fr} (hf : Good f) (more : List Int) (k : Nat) (hk : k < 1 + f.f1.length) : getR (e : Int) (n : Int) ((putW e n f ++ more).take k) = none := by
  by_cases h0 : k = 0
  · subst h0; exact getR_nil _ _
  · obtain ⟨j, rfl⟩ : ∃ j, k = j + 1 := ⟨k - 1, by omega⟩
    obtain ⟨h1, h2, h3⟩ := hf
    obtain ⟨m1, m2, _, _⟩ := mark_open (k := f.f0.toNat) (n := f.f1.length) (by omega) (by omega) (e :: n :: f.f1.map Int.toNat)
    have hfm : fmark e n f.f0.toNat f.f1 = Sums.mark f.f0.toNat f.f1.length (e :: n :: f.f1.map Int.toNat) := rfl
    rw [← hfm] at m1 m2
    have hne : ¬(((putW e n f ++ more).take (j + 1)).length = 0 ∨ numB (e : Int) = false ∨ numB (n : Int) = false) := by
      rintro (h | h | h)
      · simp [putW] at h
      · rw [numB_true.2 ⟨by omega, by omega⟩] at h; cases h
      · rw [numB_true.2 ⟨by omega, by omega⟩] at h; cases h
    have hx : (((putW e n f ++ more).take (j + 1)).getD 0 0).toNat = fmark e n f.f0.toNat f.f1 := by simp [putW]
    rw [getR_some hne hx m1 m2 rfl, if_pos]
    refine Or.inl ?_
    rw [List.length_take]
    omega
/-- Words that begin with zero. -/
theorem getR_zero (e n : Int) (k : Nat) : getR e n (List.replicate k 0) = none := by
  by_cases h : (List.replicate k (0 : Int)).length = 0 ∨ numB e = false ∨ numB n = false
  · exact getR_none h
  · have hx : ((List.replicate k (0 : Int)).getD 0 0).toNat = 0 := by cases k <;> simp
    rw [getR_some (K := 0) (M := 0) h hx rfl rfl rfl, if_pos]
    exact Or.inr (Or.inl rfl)

/-- A stream, and behind it words that are no frame: its frames are told. -/
theorem allR_str {e : Nat} (he : e < 4294967296) : ∀ (fs : List Fr) (g n : Nat) (rest : List Int), n + fs.length ≤ 4294967295 → (∀ f ∈ fs, Good f) → getR (e : Int) ((n + fs.length : Nat) : Int) rest = none → (strW e n fs ++ rest).length < g →
    allR (e : Int) g n (strW e n fs ++ rest) = (fs, (strW e n fs).length)
  | [], g, n, rest, hn, hg, hr, hlt => by
    obtain ⟨g, rfl⟩ : ∃ g', g = g' + 1 := ⟨g - 1, by omega⟩
    simp only [List.length_nil, Nat.add_zero] at hr
    rw [strW, List.nil_append, allR, hr]
    rfl
  | f :: fs, g, n, rest, hn, hg, hr, hlt => by
    obtain ⟨g, rfl⟩ : ∃ g', g = g' + 1 := ⟨g - 1, by omega⟩
    rw [List.length_cons] at hn hr
    have hf := hg f List.mem_cons_self
    have h1 := getR_put (e := e) (n := n) he (by omega) hf (strW e (n + 1) fs ++ rest)
    rw [strW, List.append_assoc] at hlt ⊢
    rw [allR, h1]
    have hd : (putW e n f ++ (strW e (n + 1) fs ++ rest)).drop (1 + f.f1.length) = strW e (n + 1) fs ++ rest := by
      rw [← putW_length e n f, List.drop_left]
    have hlt2 : (strW e (n + 1) fs ++ rest).length < g := by
      rw [List.length_append, putW_length] at hlt
      omega
    have ih := allR_str he fs g (n + 1) rest (by omega) (fun y hy => hg y (List.mem_cons_of_mem _ hy)) (by rw [show n + 1 + fs.length = n + (fs.length + 1) by omega]; exact hr) hlt2
    simp only [hd, ih, List.length_append, putW_length]

/-- A stream that is cut. -/
theorem allR_cut {e : Nat} (he : e < 4294967296) (fs : List Fr) (hlen : fs.length ≤ 4294967295) (hg : ∀ f ∈ fs, Good f) (n whole k : Nat) (hn : n ≤ fs.length) (hw : whole = (strW e 0 (fs.take n)).length) (hwk : whole ≤ k) (hk : k ≤ (strW e 0 fs).length) (hx : ∀ f, fs[n]? = some f → k < whole + 1 + f.f1.length) (g : Nat) (hgk : k < g) :
    allR (e : Int) g 0 ((strW e 0 fs).take k) = (fs.take n, whole) := by
  have hs : strW e 0 fs = strW e 0 (fs.take n) ++ strW e n (fs.drop n) := by
    have := strW_append e (fs.take n) (fs.drop n) 0
    rw [List.take_append_drop, List.length_take, Nat.min_eq_left hn, Nat.zero_add] at this
    exact this
  have ht : (strW e 0 fs).take k = strW e 0 (fs.take n) ++ (strW e n (fs.drop n)).take (k - whole) := by
    rw [hs, List.take_append, ← hw]
    congr 1
    exact List.take_of_length_le (by omega)
  have htl : (fs.take n).length = n := by rw [List.length_take, Nat.min_eq_left hn]
  have hr : getR (e : Int) ((0 + (fs.take n).length : Nat) : Int) ((strW e n (fs.drop n)).take (k - whole)) = none := by
    rw [htl, Nat.zero_add]
    cases hd : fs.drop n with
    | nil => rw [strW, List.take_nil]; exact getR_nil _ _
    | cons f r =>
      have hfn : fs[n]? = some f := by
        have := List.getElem?_drop (xs := fs) (i := n) (j := 0)
        rw [hd] at this
        simpa using this.symm
      have hnl : n < fs.length := (List.getElem?_eq_some_iff.1 hfn).1
      have hkx := hx f hfn
      rw [strW]
      exact getR_cut he (by omega) (hg f (List.mem_of_getElem? hfn)) _ _ (by omega)
  rw [ht]
  subst hw
  refine allR_str he (fs.take n) g 0 _ (by rw [htl]; omega) (fun f hf => hg f (List.mem_of_mem_take hf)) hr ?_
  rw [← ht, List.length_take]
  omega
end Go.Proofs.Ytmeoiennniknlaa.Frames

namespace Go.Proofs.Ytmeoiennniknlaa.Frames
open Go.RowKit Go.Shelf Go.Proofs.YtmeoiennniknlaaW.PrintWords Go.Proofs.Ytmeoiennniknlaa.Lb Go.Proofs.Ytmeoiennniknlaa.Sums
set_option linter.unusedVariables false
set_option linter.unusedSimpArgs false

/-- Whether some frame may not be. -/
def badB (l : List Fr) : Bool := l.any (fun f => !mayB f.f0 f.f1.length)
theorem badB_false {l : List Fr} (h : badB l = false) : ∀ f ∈ l, mayB f.f0 f.f1.length = true := by
  intro f hf
  have := (List.any_eq_false.1 h) f hf
  simpa using this
theorem badB_of {l : List Fr} (h : ∀ f ∈ l, mayB f.f0 f.f1.length = true) : badB l = false := by
  unfold badB
  rw [List.any_eq_false]
  intro f hf
  simp [h f hf]
theorem badB_at {l : List Fr} {i : Nat} (hi : i < l.length) (h : mayB l[i].f0 l[i].f1.length = false) : badB l = true := by
  unfold badB
  rw [List.any_eq_true]
  exact ⟨l[i], List.getElem_mem hi, by rw [h]; rfl⟩

set_option maxRecDepth 100000 in
set_option maxHeartbeats 400000 in
theorem bad1_any (w : World) (k : Int) (A : Option Addr) (n c : Nat) (hn : n ≤ 140737488351232) :
    Calls Try.prog 76 #[.agg #[.int .i64 k, .slice A n c]] w fun e w' => e = .returned (.bool (!mayB k n)) ∧ Below w.heap.size w w' := by
  have Hn := Lib.hid hn
  obtain ⟨b, hb⟩ : ∃ b, mayB k n = b := ⟨_, rfl⟩
  have Hb := Lib.hid hb
  rw [hb]
  clear hb hn
  cases b
  all_goals
    go_enter Try.func76, Try.ntmps76
    go_wp2_with (go_at_call 30; (with_reducible refine (may_any _ _ _ _ _ Hn.out).mono ?_); rw [Hb.out]; rintro en w1 ⟨rfl, hb⟩; have Hb1 := Lib.hid hb; clear hb)
    go_ret
    exact ⟨rfl, ((Below.refl _ w).alloc (Nat.le_refl _) _).trans (Hb1.out.mono (by simp))⟩

set_option maxRecDepth 100000 in
set_option maxHeartbeats 1000000 in
theorem index_any (w : World) (A : Option Addr) (c : Nat) (l : List Fr) (hlen : l.length ≤ 140737488351232) (hw : ∀ f ∈ l, f.f1.length ≤ 140737488351232) (hC : kF.C w A l.length l) :
    Calls Try.prog 100 #[.slice A l.length c, .func (.func 76) #[] #[]] w fun e w' => ∃ r : Int, e = .returned (.int .i64 r) ∧ decide (0 ≤ r) = badB l ∧ Below w.heap.size w w' := by
  have HC := Lib.hid hC
  have HW := Lib.hid hw
  have Hlen := Lib.hid hlen
  have HB := Lib.hid (Below.refl w.heap.size w)
  obtain ⟨g, hg⟩ : ∃ g, g = badB l := ⟨_, rfl⟩
  have Hg := Lib.hid hg
  rw [← hg]
  clear hC hlen hg hw
  go_enter Try.func100, Try.ntmps100
  go_wp2
  go_loopg [8] l.length (fun kq v8 wr => ∃ (i : Nat), v8 = .int .i64 (i : Int) ∧ Hid (i + kq = l.length) ∧ Hid (∀ f ∈ l.take i, mayB f.f0 f.f1.length = true) ∧ Hid (Below w.heap.size w wr))
  case atStart => exact ⟨0, rfl, Lib.hid (by omega), Lib.hid (by simp), HB⟩
  case round =>
    obtain ⟨i, rfl, Hi, Hf, Hb⟩ := hrel
    by_cases h : i < l.length
    · have hi : (i : Int) < (l.length : Int) := by omega
      obtain ⟨ad, A1, c1, rfl, x0, x1, x2, x3⟩ := k_cell (Kd.C_below HC.out Hb.out) i h
      have hwl := HW.out l[i] (List.getElem_mem h)
      obtain ⟨k, hk⟩ : ∃ k, k = l[i].f0 := ⟨_, rfl⟩
      obtain ⟨n, hn⟩ : ∃ n, n = l[i].f1.length := ⟨_, rfl⟩
      rw [← hk] at x0
      rw [← hn] at x1 hwl
      have Hk := Lib.hid hk
      have Hn := Lib.hid hn
      have Hwl := Lib.hid hwl
      have hwp : wrap64 ((i : Int) + 1) = (i : Int) + 1 := w64s (by omega) (by have := Hlen.out; omega)
      obtain ⟨b, hb⟩ : ∃ b, mayB k n = b := ⟨_, rfl⟩
      have Hbb := Lib.hid hb
      clear hk hn x2 x3 hwl hb
      cases b with
      | false =>
        have Hgt : Hid (g = true) := Lib.hid (by rw [Hg.out]; exact badB_at h (by rw [← Hk.out, ← Hn.out, Hbb.out]))
        go_wp2_with (go_at_call 76; (with_reducible refine (bad1_any _ _ _ _ _ Hwl.out).mono ?_); rw [Hbb.out]; rintro en w1 ⟨rfl, hb⟩; have Hb1 := Lib.hid hb; clear hb)
        go_ret
        rw [Hgt.out]
        exact ⟨_, rfl, decide_eq_true (by omega), Hb.out.trans (Hb1.out.mono Hb.out.size)⟩
      | true =>
        go_wp2_with (go_at_call 76; (with_reducible refine (bad1_any _ _ _ _ _ Hwl.out).mono ?_); rw [Hbb.out]; rintro en w1 ⟨rfl, hb⟩; have Hb1 := Lib.hid hb; clear hb)
        go_roundg (gk - 1)
        case measure => have := Hi.out; omega
        case rel =>
          refine ⟨i + 1, by simp [hwp], Lib.hid (by have := Hi.out; omega), Lib.hid ?_, Lib.hid (Hb.out.trans (Hb1.out.mono Hb.out.size))⟩
          intro f hf
          rw [List.take_succ_eq_append_getElem h] at hf
          rcases List.mem_append.1 hf with hf | hf
          · exact Hf.out f hf
          · have := List.mem_singleton.1 hf
            rw [this, ← Hk.out, ← Hn.out, Hbb.out]
    · have hi : (l.length : Int) ≤ (i : Int) := by omega
      have Hgt : Hid (g = false) := Lib.hid (by
        rw [Hg.out]
        refine badB_of fun f hf => ?_
        exact Hf.out f (by rw [List.take_of_length_le (by omega)]; exact hf))
      go_wp2
      go_ret
      rw [Hgt.out]
      exact ⟨-1, rfl, rfl, Hb.out⟩

set_option maxRecDepth 100000 in
set_option maxHeartbeats 400000 in
theorem contains_any (w : World) (A : Option Addr) (c : Nat) (l : List Fr) (hlen : l.length ≤ 140737488351232) (hw : ∀ f ∈ l, f.f1.length ≤ 140737488351232) (hC : kF.C w A l.length l) :
    Calls Try.prog 77 #[.slice A l.length c, .func (.func 76) #[] #[]] w fun e w' => e = .returned (.bool (badB l)) ∧ Below w.heap.size w w' := by
  have H := Lib.hid (index_any w A c l hlen hw hC)
  obtain ⟨g, hg⟩ : ∃ g, g = badB l := ⟨_, rfl⟩
  rw [← hg] at H ⊢
  clear hC hlen hg hw
  go_enter Try.func77, Try.ntmps77
  go_wp2_with (go_at_call 100; (with_reducible refine H.out.mono ?_); rintro en w1 ⟨r, rfl, hr, hb⟩; have Hb1 := Lib.hid hb; have Hr := Lib.hid hr; clear hb hr)
  go_ret
  exact ⟨by rw [← Hr.out]; rfl, Hb1.out⟩

set_option maxRecDepth 100000 in
set_option maxHeartbeats 1000000 in
theorem stream_no (w : World) (e : Int) (A : Option Addr) (c : Nat) (l : List Fr) (hlen : l.length ≤ 140737488351232) (hw : ∀ f ∈ l, f.f1.length ≤ 140737488351232) (hC : kF.C w A l.length l) (h : numB e = false ∨ badB l = true) :
    Calls Try.prog 38 #[.int .i64 e, .slice A l.length c] w fun en w' => en = .returned (.slice none 0 0) ∧ Below w.heap.size w w' := by
  have H := Lib.hid (contains_any w A c l hlen hw hC)
  obtain ⟨b, hb⟩ : ∃ b, numB e = b := ⟨_, rfl⟩
  obtain ⟨g, hg⟩ : ∃ g, badB l = g := ⟨_, rfl⟩
  rw [hb, hg] at h
  rw [hg] at H
  have Hb := Lib.hid hb
  clear hC hlen hg hw hb
  have h2 : b = false ∨ (b = true ∧ g = true) := by
    cases b
    · exact Or.inl rfl
    · exact Or.inr ⟨rfl, by simpa using h⟩
  clear h
  rcases h2 with rfl | ⟨rfl, rfl⟩
  · go_enter Try.func38, Try.ntmps38
    go_wp2_with (go_at_call 72; (with_reducible refine (number_at Hb).mono ?_); rintro en w' ⟨rfl, rfl⟩)
    go_ret
    exact ⟨rfl, Below.refl _ _⟩
  · go_enter Try.func38, Try.ntmps38
    go_wp2_with (first
      | (go_at_call 72; (with_reducible refine (number_at Hb).mono ?_); rintro en w' ⟨rfl, rfl⟩)
      | (go_at_call 77; (with_reducible refine H.out.mono ?_); rintro en w1 ⟨rfl, hb⟩; have Hb1 := Lib.hid hb; clear hb))
    go_ret
    exact ⟨rfl, Hb1.out⟩

theorem strW_snoc (e : Nat) (l : List Fr) (i : Nat) (h : i < l.length) : strW e 0 (l.take (i + 1)) = strW e 0 (l.take i) ++ putW e i l[i] := by
  rw [List.take_succ_eq_append_getElem h, strW_append, Nat.zero_add, List.length_take, Nat.min_eq_left (Nat.le_of_lt h)]
  simp [strW]

set_option maxRecDepth 100000 in
set_option maxHeartbeats 2000000 in
theorem stream_yes (w : World) (e : Nat) (he : e < 4294967296) (A : Option Addr) (c : Nat) (l : List Fr) (hlen : l.length ≤ 1000) (hws : ∀ f ∈ l, WS f.f1) (hC : kF.C w A l.length l) (h : badB l = false) :
    Calls Try.prog 38 #[.int .i64 (e : Int), .slice A l.length c] w fun en w' => ∃ A1 c1, en = .returned (.slice A1 (strW e 0 l).length c1) ∧ (strW e 0 l).length ≤ c1 ∧
      (Kd.int .u64).R 30 w' w.heap.size (fun _ => True) (.slice A1 (strW e 0 l).length c1) (strW e 0 l) ∧ Below w.heap.size w w' := by
  have Hmay := Lib.hid (badB_false h)
  have Hw2 : Hid (∀ f ∈ l, f.f1.length ≤ 2000) := Lib.hid (fun f hf => (mayB_true.1 (Hmay.out f hf)).2.2)
  have H := Lib.hid (contains_any w A c l (by omega) (fun f hf => by have := Hw2.out f hf; omega) hC)
  rw [h] at H
  have Hb := Lib.hid (numB_true.2 ⟨by omega, by omega⟩ : numB (e : Int) = true)
  have HC := Lib.hid hC
  have HS := Lib.hid hws
  have Hlen := Lib.hid hlen
  have Hlens : Hid (∀ i, (strW e 0 (l.take i)).length ≤ 2101000) := Lib.hid (fun i => by
    have h1 := strW_len e (l.take i) 0 (fun f hf => by have := Hw2.out f (List.mem_of_mem_take hf); omega)
    have h2 : (l.take i).length ≤ 1000 := by rw [List.length_take]; omega
    omega)
  clear hC hws h hlen
  go_enter Try.func38, Try.ntmps38
  go_wp2_with (first
      | (go_at_call 72; (with_reducible refine (number_at Hb).mono ?_); rintro en w' ⟨rfl, rfl⟩)
      | (go_at_call 77; (with_reducible refine H.out.mono ?_); rintro en w1 ⟨rfl, hb⟩; have Hb1 := Lib.hid hb; clear hb))
  go_loopg [6, 19] l.length (fun kq v6 v19 wr => ∃ (i : Nat) (A6 : Option Addr) (n6 c6 : Nat), v6 = .slice A6 n6 c6 ∧ v19 = .int .i64 (i : Int) ∧ Hid (i + kq = l.length) ∧ Hid (n6 = (strW e 0 (l.take i)).length) ∧ Hid ((Kd.int .u64).R 30 wr w.heap.size (fun _ => True) (.slice A6 n6 c6) (strW e 0 (l.take i))) ∧ Hid (Below w.heap.size w wr))
  case atStart => exact ⟨0, none, 0, 0, rfl, rfl, Lib.hid (by omega), Lib.hid rfl, Lib.hid (Kd.R_nil _ _ _ _ _), Hb1⟩
  case round =>
    obtain ⟨i, A6, n6, c6, rfl, rfl, Hi, Hn6, HR, Hbw⟩ := hrel
    by_cases h : i < l.length
    · have hi : (i : Int) < (l.length : Int) := by omega
      obtain ⟨ad, A1, c1, rfl, x0, x1, x2, x3⟩ := k_cell (Kd.C_below HC.out Hbw.out) i h
      have Hf := Lib.hid (mayB_true.1 (Hmay.out l[i] (List.getElem_mem h)))
      have Hs := Lib.hid (HS.out l[i] (List.getElem_mem h))
      have Hsn := Lib.hid (strW_snoc e l i h)
      obtain ⟨k, hk⟩ : ∃ k : Nat, (k : Int) = l[i].f0 := ⟨l[i].f0.toNat, by have := Hf.out.1; omega⟩
      obtain ⟨ws, hn⟩ : ∃ ws, ws = l[i].f1 := ⟨_, rfl⟩
      rw [← hk] at x0
      rw [← hn] at x1 x3 Hf Hs
      rw [← hk] at Hf
      have Hput : Hid (putW e i l[i] = ((fmark e i k ws : Nat) : Int) :: ws) := Lib.hid (by
        unfold putW; rw [← hk, ← hn]; simp)
      rw [Hput.out] at Hsn
      have HX := Lib.hid x3
      have hwp : wrap64 ((i : Int) + 1) = (i : Int) + 1 := w64s (by omega) (by have := Hlen.out; omega)
      have hik : i < 4294967296 := by have := Hlen.out; omega
      have Hbox := Lib.hid ((Below.refl wr.heap.size wr).alloc (Nat.le_refl _) (.cells #[.int .i64 (k : Int), .slice A1 ws.length c1] 40))
      clear hk hn x2 x3 Hput
      go_wp2_with (first
        | (go_at_call 27; (with_reducible refine (put_any _ _ _ _ he hik (by have := Hf.out; omega) (by have := Hf.out; omega) _ _ _ Hs.out Hf.out.2.2 (Kd.C_below HX.out Hbox.out)).mono ?_); rintro en w2 ⟨A2, c2, rfl, hl2, hC2, hR2, hb2⟩; have HC2 := Lib.hid hC2; have Hb2 := Lib.hid (Hbox.out.trans (hb2.mono (by simp))); clear hC2 hR2 hb2)
        | (at_builtin; refine app_ints (w0 := w) .u64 23 30 8 Try.underlying23 infoU64 (by omega) rfl _ _ rfl (.slice A6 n6 c6) (strW e 0 (l.take i)) (((fmark e i k ws : Nat) : Int) :: ws) (strW e 0 (l.take (i + 1))) A2 (ws.length + 1) c2 _ rfl rfl (Kd.R_below HR.out Hb2.out) HC2.out (Hbw.out.trans (Hb2.out.mono Hbw.out.size)) Hsn.out.symm rfl (by have := Hlens.out (i + 1); omega) ?_; intro A3 c3 w3 hl3 hC3 hR3 hb3; have HR3 := Lib.hid hR3; have Hb3 := Lib.hid hb3; clear hC3 hR3 hb3))
      go_roundg (gk - 1)
      case measure => have := Hi.out; omega
      case rel => exact ⟨i + 1, A3, _, c3, rfl, by simp [hwp], Lib.hid (by have := Hi.out; omega), Lib.hid rfl, HR3, Hb3⟩
    · have hi : (l.length : Int) ≤ (i : Int) := by omega
      have htk : l.take i = l := List.take_of_length_le (by omega)
      rw [htk] at Hn6 HR
      clear htk
      go_wp2
      go_ret
      have := Hn6.out
      subst this
      obtain ⟨_, _, hv, g1, g2⟩ := Kd.R_reads HR.out
      simp only [Value.slice.injEq] at hv
      obtain ⟨rfl, _, rfl⟩ := hv
      exact ⟨A6, c6, rfl, g1, HR.out, Hbw.out⟩
end Go.Proofs.Ytmeoiennniknlaa.Frames

namespace Go.Proofs.Ytmeoiennniknlaa.Frames
open Go.RowKit Go.Shelf Go.Proofs.YtmeoiennniknlaaW.PrintWords Go.Proofs.Ytmeoiennniknlaa.Lb Go.Proofs.Ytmeoiennniknlaa.Sums
set_option linter.unusedVariables false
set_option linter.unusedSimpArgs false

/-- xs[:k]. -/
theorem cut_take {P : Program} (t e : TypeId) {i : TypeInfo} (ht : P.underlying t = some (.slice e)) (hi : P.info? e = some i) (A : Option Addr) (n c k : Nat) (hk : k ≤ n) (hc : n ≤ c) :
    ∀ W : World, (Instr.slice t (.slice A n c) none (some (.int .i64 (k : Int))) none).run P W = .ok (.slice A k c) W := by
  intro W
  have hel : P.elem t = e := by simp [Program.elem, ht]
  have hu : P.underlying t = some (.slice (P.elem t)) := by rw [hel]; exact ht
  have ha : (A.map fun x => x.add 0) = A := by cases A <;> simp [Addr.add]
  rw [run_slice_h W t A n c hu .i64 (k : Int) (by omega) (by omega), hel]
  simp [sizeOf, typeInfo, hi, sliced, Result.andThen, ha]
theorem infoFr' : ∃ i, Try.prog.info? 40 = some i := by
  obtain ⟨i, h, _⟩ := Option.map_eq_some_iff.1 infoFr
  exact ⟨i, h⟩
theorem infoU64' : ∃ i, Try.prog.info? 30 = some i := by
  obtain ⟨i, h, _⟩ := Option.map_eq_some_iff.1 infoU64
  exact ⟨i, h⟩

theorem badB_snoc (l : List Fr) (i : Nat) (h : i < l.length) : badB (l.take (i + 1)) = (badB (l.take i) || !mayB l[i].f0 l[i].f1.length) := by
  rw [List.take_succ_eq_append_getElem h]
  unfold badB
  rw [List.any_append, List.any_cons, List.any_nil, Bool.or_false]

/-- Same at two lists that are one. -/
theorem same_at {w : World} {A0 A1 : Option Addr} {n0 n1 c0 c1 : Nat} {a b : List Fr} (hab : Hid (a = b)) (h0 : Hid (n0 = a.length)) (h1 : Hid (n1 = b.length)) (hl : Hid (b.length ≤ 1000 ∧ ∀ f ∈ b, f.f1.length ≤ 2000)) (hC0 : Hid (kF.C w A0 n0 a)) (hc0 : n0 ≤ c0) (hC1 : Hid (kF.C w A1 n1 b)) (hc1 : n1 ≤ c1) :
    Calls Try.prog 34 #[.slice A0 n0 c0, .slice A1 n1 c1] w fun e w' => e = .returned (.bool true) ∧ Hid (Below w.heap.size w w') := by
  have := hab.out
  subst this
  have e0 := h0.out
  have e1 := h1.out
  subst e0 e1
  exact (same_any w A0 A1 c0 c1 a (by have := hl.out.1; omega) (fun f hf => by have := hl.out.2 f hf; omega) hC0.out hc0 hC1.out hc1).mono fun _ _ h => ⟨h.1, Lib.hid h.2⟩

set_option maxRecDepth 100000 in
set_option maxHeartbeats 400000 in
theorem strLaw_out (w : World) (e z cu : Int) (A : Option Addr) (c : Nat) (l : List Fr) (hlen : l.length ≤ 140737488351232) (hC : kF.C w A l.length l) (hg : greatB l = true) :
    Calls Try.prog 9 #[.int .i64 e, .slice A l.length c, .int .u8 z, .int .u16 cu] w fun en w' => en = .returned (.bool true) ∧ Below w.heap.size w w' := by
  have Hlen := Lib.hid hlen
  have HC := Lib.hid hC
  have Hg := Lib.hid hg
  clear hlen hC hg
  go_enter Try.func9, Try.ntmps9
  go_wp2_with (first
    | (go_at_call 25; (with_reducible refine (alive6_any _).mono ?_); rintro en w1 ⟨rfl, hb⟩; have Hb1 := Lib.hid hb; clear hb)
    | (go_at_call 26; (with_reducible refine (great_any _ _ _ _ Hlen.out (Kd.C_below HC.out Hb1.out)).mono ?_); rw [Hg.out]; rintro en w2 ⟨rfl, rfl⟩))
  go_ret
  exact ⟨rfl, Hb1.out⟩

set_option maxRecDepth 100000 in
set_option maxHeartbeats 2000000 in
theorem strLaw_bad (w : World) (e z cu : Int) (A : Option Addr) (c : Nat) (l : List Fr) (hC : kF.C w A l.length l) (hg : greatB l = false) (h : numB e = false ∨ badB l = true) :
    Calls Try.prog 9 #[.int .i64 e, .slice A l.length c, .int .u8 z, .int .u16 cu] w fun en w' => en = .returned (.bool true) ∧ Below w.heap.size w w' := by
  have Hg := Lib.hid hg
  obtain ⟨hlen, hfl⟩ := greatB_false hg
  have HC := Lib.hid hC
  have Hfl := Lib.hid hfl
  have Hlen := Lib.hid hlen
  have Hlen2 : Hid (l.length ≤ 140737488351232) := Lib.hid (by omega)
  have Hfl2 : Hid (∀ f ∈ l, f.f1.length ≤ 140737488351232) := Lib.hid (fun f hf => by have := hfl f hf; omega)
  obtain ⟨b0, hb0⟩ : ∃ b, numB e = b := ⟨_, rfl⟩
  have Hb0 := Lib.hid hb0
  have Hend : Hid ((!b0 || badB l) = true) := Lib.hid (by rw [← hb0]; rcases h with h | h <;> simp [h])
  have Hno := Lib.hid h
  clear hC hg hfl hb0 h hlen
  go_enter Try.func9, Try.ntmps9
  go_wp2_with (first
    | (go_at_call 25; (with_reducible refine (alive6_any _).mono ?_); rintro en w1 ⟨rfl, hb⟩; have Hb1 := Lib.hid hb; clear hb)
    | (go_at_call 26; (with_reducible refine (great_any _ _ _ _ Hlen2.out (Kd.C_below HC.out Hb1.out)).mono ?_); rw [Hg.out]; rintro en w2 ⟨rfl, rfl⟩)
    | (go_at_call 38; (with_reducible refine (stream_no _ _ _ _ _ Hlen2.out Hfl2.out (Kd.C_below HC.out Hb1.out) Hno.out).mono ?_); rintro en w3 ⟨rfl, hb⟩; have Hb3 := Lib.hid (Hb1.out.trans (hb.mono Hb1.out.size)); clear hb)
    | (go_at_call 29; (with_reducible refine (refNumber_at Hb0).mono ?_); rintro en w4 ⟨rfl, rfl⟩))
  go_loopg [10, 11] l.length (fun kq v10 v11 wr => ∃ (i : Nat) (g : Bool), v10 = .bool g ∧ v11 = .int .i64 (i : Int) ∧ Hid (i + kq = l.length) ∧ Hid (g = (!b0 || badB (l.take i))) ∧ Hid (Below w.heap.size w wr))
  case atStart => exact ⟨0, !b0, rfl, rfl, Lib.hid (by omega), Lib.hid (by simp [badB]), Hb3⟩
  case round =>
    obtain ⟨i, g, rfl, rfl, Hi, Hgi, Hb⟩ := hrel
    by_cases h : i < l.length
    · have hi : (i : Int) < (l.length : Int) := by omega
      obtain ⟨ad, A1, c1, rfl, x0, x1, x2, x3⟩ := k_cell (Kd.C_below HC.out Hb.out) i h
      have Hwl := Lib.hid (Hfl2.out l[i] (List.getElem_mem h))
      have hwp : wrap64 ((i : Int) + 1) = (i : Int) + 1 := w64s (by omega) (by have := Hlen.out; omega)
      have Hsn : Hid (badB (l.take (i + 1)) = (badB (l.take i) || !mayB l[i].f0 l[i].f1.length)) := Lib.hid (badB_snoc l i h)
      obtain ⟨k, hk⟩ : ∃ k, k = l[i].f0 := ⟨_, rfl⟩
      obtain ⟨n, hn⟩ : ∃ n, n = l[i].f1.length := ⟨_, rfl⟩
      rw [← hk, ← hn] at Hsn
      rw [← hk] at x0
      rw [← hn] at x1 Hwl
      obtain ⟨b, hb⟩ : ∃ b, mayB k n = b := ⟨_, rfl⟩
      have Hbb := Lib.hid hb
      rw [hb] at Hsn
      clear hk hn x2 x3 hb
      cases g with
      | true =>
        go_wp2
        go_roundg (gk - 1)
        case measure => have := Hi.out; omega
        case rel => exact ⟨i + 1, true, rfl, by simp [hwp], Lib.hid (by have := Hi.out; omega), Lib.hid (by rw [Hsn.out, ← Bool.or_assoc, ← Hgi.out]; rfl), Hb⟩
      | false =>
        cases b
        all_goals
          go_wp2_with (go_at_call 28; (with_reducible refine (refMay_any _ _ _ _ _ Hwl.out).mono ?_); rw [Hbb.out]; rintro en w5 ⟨rfl, hb⟩; have Hb5 := Lib.hid (Hb.out.trans (hb.mono Hb.out.size)); clear hb)
          go_roundg (gk - 1)
          case measure => have := Hi.out; omega
          case rel => exact ⟨i + 1, _, rfl, by simp [hwp], Lib.hid (by have := Hi.out; omega), Lib.hid (by rw [Hsn.out, ← Bool.or_assoc, ← Hgi.out]; rfl), Hb5⟩
    · have hi : (l.length : Int) ≤ (i : Int) := by omega
      have hgt : g = true := by
        have h1 := Hgi.out
        rw [List.take_of_length_le (by omega), Hend.out] at h1
        exact h1
      subst hgt
      go_wp2
      go_ret
      exact ⟨rfl, Hb.out⟩
end Go.Proofs.Ytmeoiennniknlaa.Frames

namespace Go.Proofs.Ytmeoiennniknlaa.Frames
open Go.RowKit Go.Shelf Go.Proofs.YtmeoiennniknlaaW.PrintWords Go.Proofs.Ytmeoiennniknlaa.Lb Go.Proofs.Ytmeoiennniknlaa.Sums
set_option linter.unusedVariables false
set_option linter.unusedSimpArgs false

/-- frames.All where it is known what it tells. -/
theorem all_at {w : World} {e : Int} {A0 : Option Addr} {n0 c0 : Nat} {l : List Int} {fs : List Fr} {at_ : Nat} (hl : Hid (WS l)) (hn : Hid (l.length = n0)) (hm : n0 ≤ 1000000000) (hc : n0 ≤ c0) (hC : Hid ((Kd.int .u64).C w A0 n0 l)) (hT : Hid (allR e (l.length + 1) 0 l = (fs, at_))) :
    Calls Try.prog 36 #[.int .i64 e, .slice A0 n0 c0] w fun en w' => ∃ A c, en = .returned (.tuple #[.slice A fs.length c, .int .i64 (at_ : Int)]) ∧ fs.length ≤ c ∧ Hid (kF.C w' A fs.length fs) ∧ Hid (Below w.heap.size w w') := by
  have e1 := hn.out
  subst e1
  have h := all_any w e A0 c0 l hl.out hm hc hC.out
  rw [hT.out] at h
  refine h.mono fun en w' ⟨A, c, h1, h2, h3, h4⟩ => ⟨A, c, h1, h2, Lib.hid h3, Lib.hid h4⟩

theorem w64n {i n : Nat} (h : i < n) (hn : n ≤ 30) : wrap64 ((i : Int) + 1) = (i : Int) + 1 := w64s (by omega) (by omega)
theorem kq_less {i g n : Nat} (h : i + g = n) (hl : i < n) : g - 1 < g := by omega
theorem kq_next {i g n : Nat} (h : i + g = n) (hl : i < n) : i + 1 + (g - 1) = n := by omega
/-- append(xs, make([]uint64, z)...). -/
theorem app_zeros {P : Program} {ops : Array Oper} {rest : List Oper} {o : Oper} {a : Act} {Q : Exit → Act → World → Prop} {w0 W : World} (t ti e : TypeId) (ht : P.underlying t = some (.slice e)) (hti : P.underlying ti = some (.int .i64)) (hgd : o.guard = none) (s x : Operand)
    (ho : o.op = .call { callee := .builtin .append, args := #[s, x], argTypes := #[t, ti] }) (A : Option Addr) (n c : Nat) (xs : List Int) (z : Nat) (zs : List Int) (L : Nat) (hs : a.eval s = .slice A n c) (hx : a.eval x = .int .i64 (z : Int))
    (HR : Hid ((Kd.int .u64).R e W w0.heap.size (fun _ => True) (.slice A n c) xs)) (HB : Hid (Below w0.heap.size w0 W)) (hn : xs.length = n) (hz : xs ++ List.replicate z 0 = zs) (hL : zs.length = L) (hl : L * 8 ≤ 140737488355328)
    (hinfo : (P.info? e).map (fun i => (i.zero, i.size, i.bytes)) = some (some (.int .u64 0), 1, 8))
    (h : ∀ A1 c1 w1, L ≤ c1 → Hid ((Kd.int .u64).C w1 A1 L zs) → Hid (Below w0.heap.size w0 w1) → wpList P ops Q rest (a.put o.dst (.slice A1 L c1)) w1) :
    wpList P ops Q (o :: rest) a W := by
  subst hn hz hL
  have hlz : (xs ++ List.replicate z (0 : Int)).length = xs.length + z := by simp
  refine Kd.R_append_zeros (Kd.int .u64) (w0 := w0) w0.heap.size hgd s x t ti e (.int .u64 0) 8 ho ht hti hinfo rfl (by decide) (by decide) _ xs 0 (z : Int) (fun _ => True) hs hx ?_ (fun _ _ => trivial) HR.out (by omega) HB.out HB.out.size (by rw [Int.toNat_natCast]; omega) ?_
  · rfl
  · intro v1 w1 h1 h2 _ _
    rw [Int.toNat_natCast] at h1
    obtain ⟨A1, c1, rfl, h3, h4⟩ := Kd.R_reads h1
    exact h A1 c1 w1 h3 (Lib.hid h4) (Lib.hid h2)
theorem kq_le {i g n : Nat} (h : i + g = n) : i ≤ n := by omega
theorem zeros_ws (n : Nat) : WS (List.replicate n 0) := by
  intro x hx
  rw [List.mem_replicate] at hx
  omega

set_option maxRecDepth 100000 in
set_option maxHeartbeats 4000000 in
theorem strLaw_main (w : World) (e z cu : Nat) (he : e < 4294967296) (hz : z < 256) (hcu : cu < 65536) (A : Option Addr) (c : Nat) (l : List Fr) (hcl : l.length ≤ c) (hws : ∀ f ∈ l, WS f.f1) (hC : kF.C w A l.length l) (hg : greatB l = false) (h : badB l = false) :
    Calls Try.prog 9 #[.int .i64 (e : Int), .slice A l.length c, .int .u8 (z : Int), .int .u16 (cu : Int)] w fun en w' => en = .returned (.bool true) ∧ Below w.heap.size w w' := by
  have Hg := Lib.hid hg
  have Hbad := Lib.hid h
  have HS := Lib.hid hws
  obtain ⟨hlen, hfl⟩ := greatB_false hg
  have HC := Lib.hid hC
  have Hlen := Lib.hid hlen
  have Hmay := Lib.hid (badB_false h)
  have Hgood : Hid (∀ f ∈ l, Good f) := Lib.hid (fun f hf => Good.may.2 (Hmay.out f hf))
  have Hfl2 : Hid (∀ f ∈ l, f.f1.length ≤ 2000) := Lib.hid (fun f hf => (Hgood.out f hf).2.2)
  have Hlen2 : Hid (l.length ≤ 140737488351232) := Lib.hid (by omega)
  have Hnb : Hid (numB (e : Int) = true) := Lib.hid (numB_true.2 ⟨by omega, by omega⟩)
  -- the stream's words
  obtain ⟨S, hS⟩ : ∃ S, strW e 0 l = S := ⟨_, rfl⟩
  obtain ⟨L, hL⟩ : ∃ L, S.length = L := ⟨_, rfl⟩
  have hLb : L ≤ 63030 := by
    have := strW_len e l 0 (fun f hf => by have := Hfl2.out f hf; omega)
    rw [hS, hL] at this
    omega
  have HWS : Hid (WS S) := Lib.hid (by rw [← hS]; exact strW_WS e l 0 Hgood.out HS.out)
  have HL := Lib.hid hL
  have HSe := Lib.hid hS
  have HZ : Hid (S ++ List.replicate z 0 = S ++ List.replicate (z : Int).toNat 0) := Lib.hid (by simp)
  have HZl : Hid ((S ++ List.replicate z (0 : Int)).length = L + z) := Lib.hid (by rw [List.length_append, List.length_replicate, hL])
  have HZw : Hid (WS (S ++ List.replicate z 0)) := Lib.hid (WS_append HWS.out (zeros_ws z))
  have HA1 : Hid (allR (e : Int) ((S ++ List.replicate z (0 : Int)).length + 1) 0 (S ++ List.replicate z 0) = (l, L)) := Lib.hid (by
    rw [← hL, ← hS]
    exact allR_str he l _ 0 _ (by omega) Hgood.out (getR_zero _ _ _) (by omega))
  -- where it is cut
  obtain ⟨k, hk⟩ : ∃ k, cu % (L + 1) = k := ⟨_, rfl⟩
  have hkL : k ≤ L := by have := Nat.mod_lt cu (show 0 < L + 1 by omega); omega
  have hki : (cu : Int) % ((L : Int) + 1) = (k : Int) := by rw [← hk]; simp
  obtain ⟨T1, hT1⟩ : ∃ x, (allR (e : Int) ((S.take k).length + 1) 0 (S.take k)).1 = x := ⟨_, rfl⟩
  obtain ⟨T2, hT2⟩ : ∃ x, (allR (e : Int) ((S.take k).length + 1) 0 (S.take k)).2 = x := ⟨_, rfl⟩
  have HT : Hid (allR (e : Int) ((S.take k).length + 1) 0 (S.take k) = (T1, T2)) := Lib.hid (by rw [← hT1, ← hT2])
  have HKl : Hid ((S.take k).length = k) := Lib.hid (by rw [List.length_take, hL]; omega)
  have HKw : Hid (WS (S.take k)) := Lib.hid (fun x hx => HWS.out x (List.mem_of_mem_take hx))
  have HTcut : Hid (∀ n whole : Nat, n ≤ l.length → whole = (strW e 0 (l.take n)).length → whole ≤ k → (∀ f, l[n]? = some f → k < whole + 1 + f.f1.length) → T1 = l.take n ∧ T2 = whole) := Lib.hid (fun n whole h1 h2 h3 h4 => by
    have h5 := allR_cut he l (by omega) Hgood.out n whole k h1 h2 h3 (by rw [hS, hL]; exact hkL) h4 ((S.take k).length + 1) (by rw [HKl.out]; omega)
    rw [hS, HT.out] at h5
    exact Prod.mk.injEq .. ▸ h5)
  obtain ⟨i64, hi64⟩ := infoU64'
  obtain ⟨ifr, hifr⟩ := infoFr'
  have hcutW : ∀ (A : Option Addr) (c : Nat), L ≤ c → ∀ W : World, (Instr.slice 23 (.slice A L c) none (some (.int .i64 (k : Int))) none).run Try.prog W = .ok (.slice A k c) W := fun A c hc => cut_take 23 30 Try.underlying23 hi64 A L c k hkL hc
  have HcutW := Lib.hid hcutW
  have HcutF : Hid (∀ n, n ≤ l.length → ∀ W : World, (Instr.slice 42 (.slice A l.length c) none (some (.int .i64 (n : Int))) none).run Try.prog W = .ok (.slice A n c) W) := Lib.hid (fun n hn => cut_take 42 40 Try.underlying42 hifr A l.length c n hn hcl)
  clear hC hg hws h hfl hlen hL hS hk hT1 hT2 hcutW hi64 hifr
  go_enter Try.func9, Try.ntmps9
  go_wp2_with (first
    | (go_at_call 25; (with_reducible refine (alive6_any _).mono ?_); rintro en w1 ⟨rfl, hb⟩; have Hb1 := Lib.hid hb; clear hb)
    | (go_at_call 26; (with_reducible refine (great_any _ _ _ _ Hlen2.out (Kd.C_below HC.out Hb1.out)).mono ?_); rw [Hg.out]; rintro en w2 ⟨rfl, rfl⟩)
    | (go_at_call 38; (with_reducible refine (stream_yes _ _ he _ _ _ (by have := Hlen.out; omega) HS.out (Kd.C_below HC.out Hb1.out) Hbad.out).mono ?_); rw [HSe.out, HL.out]; rintro en w3 ⟨A3, c3, rfl, hl3, hR3, hb⟩; have HR3 := Lib.hid hR3; have Hb3 := Lib.hid (Hb1.out.trans (hb.mono Hb1.out.size)); clear hb hR3)
    | (go_at_call 29; (with_reducible refine (refNumber_at Hnb).mono ?_); rintro en w4 ⟨rfl, rfl⟩))
  go_loopg [10, 11] l.length (fun kq v10 v11 wr => ∃ (i : Nat), v10 = .bool false ∧ v11 = .int .i64 (i : Int) ∧ Hid (i + kq = l.length) ∧ Hid (Below w3.heap.size w3 wr))
  case atStart => exact ⟨0, rfl, rfl, Lib.hid (by omega), Lib.hid (Below.refl _ _)⟩
  case round =>
    obtain ⟨i, rfl, rfl, Hi, Hb⟩ := hrel
    by_cases h : i < l.length
    · have hi : (i : Int) < (l.length : Int) := by omega
      have Hbw := Lib.hid (Hb3.out.trans (Hb.out.mono Hb3.out.size))
      obtain ⟨ad, A1, c1, rfl, x0, x1, x2, x3⟩ := k_cell (Kd.C_below HC.out Hbw.out) i h
      have Hwl : Hid (l[i].f1.length ≤ 140737488351232) := Lib.hid (Nat.le_trans (Hfl2.out l[i] (List.getElem_mem h)) (by decide))
      have hwp := w64n h Hlen.out
      have hmay := Hmay.out l[i] (List.getElem_mem h)
      obtain ⟨kd, hkd⟩ : ∃ k, k = l[i].f0 := ⟨_, rfl⟩
      obtain ⟨n, hn⟩ : ∃ n, n = l[i].f1.length := ⟨_, rfl⟩
      rw [← hkd, ← hn] at hmay
      rw [← hkd] at x0
      rw [← hn] at x1 Hwl
      have Hbb := Lib.hid hmay
      clear hkd hn x2 x3 hmay Hbw
      go_wp2_with (go_at_call 28; (with_reducible refine (refMay_any _ _ _ _ _ Hwl.out).mono ?_); rw [Hbb.out]; rintro en w5 ⟨rfl, hb⟩; have Hb5 := Lib.hid (Hb.out.trans (hb.mono Hb.out.size)); clear hb)
      go_roundg (gk - 1)
      case measure => exact kq_less Hi.out h
      case rel => exact ⟨i + 1, rfl, by simp [hwp], Lib.hid (kq_next Hi.out h), Hb5⟩
    · have hi : (l.length : Int) ≤ (i : Int) := by omega
      have HR4 := Lib.hid (Kd.R_below (Kd.R_lower HR3.out (Nat.le_refl _)) Hb.out)
      have Hb4 := Lib.hid (Hb3.out.trans (Hb.out.mono Hb3.out.size))
      have HC4 := Lib.hid (by have := (Kd.R_reads' HR4.out).2.2; rwa [HL.out] at this : (Kd.int .u64).C wr A3 L S)
      clear HR3 Hb3 Hb1 Hb h Hi
      go_wp2_with (first
        | (at_builtin; refine app_lit_ints (w0 := wr) .u64 23 30 8 Try.underlying23 infoU64 (by decide) rfl _ _ rfl [] S S A3 L c3 L 0 _ rfl rfl rfl rfl HC4 (Lib.hid (Below.refl _ _)) rfl HL.out (by omega) ?_; intro A5 c5 w5 hl5 HC5 HR5 Hb5)
        | (at_builtin; refine app_zeros (w0 := wr) 23 3 30 Try.underlying23 Try.underlying3 rfl _ _ rfl A5 L c5 S z _ (L + z) rfl rfl HR5 Hb5 HL.out rfl HZl.out (by omega) infoU64 ?_; intro A6 c6 w6 hl6 HC6 Hb6)
        | (go_at_call 36; (with_reducible refine (all_at HZw HZl (by omega) hl6 HC6 HA1).mono ?_); rintro en w7 ⟨A7, c7, rfl, hl7, HC7, Hb7⟩; have Hb8 := Lib.hid (Hb4.out.trans ((Hb6.out.trans (Hb7.out.mono Hb6.out.size)).mono Hb4.out.size)))
        | (go_at_call 34; (with_reducible refine (same_at (Lib.hid rfl) (Lib.hid rfl) (Lib.hid rfl) (Lib.hid ⟨Nat.le_trans Hlen.out (by decide), Hfl2.out⟩) HC7 hl7 (Lib.hid (Kd.C_below HC.out Hb8.out)) hcl).mono ?_); rintro en w9 ⟨rfl, Hb9⟩; have HbA := Lib.hid (Hb8.out.trans (Hb9.out.mono Hb8.out.size)); have HCA := Lib.hid (Kd.C_below HC4.out ((Hb6.out.trans (Hb7.out.mono Hb6.out.size)).trans (Hb9.out.mono (Hb6.out.trans (Hb7.out.mono Hb6.out.size)).size))); have hcA := HcutW.out A3 c3 hl3)
        | (go_at_call 36; (with_reducible refine (all_at HKw HKl (by omega) (Nat.le_trans hkL hl3) (Lib.hid (by have := Kd.C_take (m := k) (by rw [← HL.out] at HCA; exact HCA.out) (by rw [HL.out]; exact hkL); rwa [HKl.out] at this)) HT).mono ?_); rintro en wB ⟨AB, cB, rfl, hlB, HCB, HbB⟩; have HbC := Lib.hid (HbA.out.trans (HbB.out.mono HbA.out.size))))
      clear HC4 Hb4 HR4 HC5 HR5 Hb5 HC6 Hb6 HC7 Hb7 Hb8 Hb9 HbA HCA hcA hl6 hl7 hki hi
      obtain ⟨wm, hwm⟩ : ∃ W : World, W = wB := ⟨_, rfl⟩
      rw [← hwm] at HCB HbB HbC ⊢
      clear hwm
      go_loopg [17, 18] l.length (fun kq v17 v18 wx => ∃ (n whole : Nat), v17 = .int .i64 (n : Int) ∧ v18 = .int .i64 (whole : Int) ∧ Hid (n + kq = l.length) ∧ Hid (whole = (strW e 0 (l.take n)).length) ∧ whole ≤ k ∧ wm = wx)
      case atStart => exact ⟨0, 0, rfl, rfl, Lib.hid (by omega), Lib.hid (by simp [strW]), Nat.zero_le _, rfl⟩
      case round =>
        obtain ⟨n, whole, rfl, rfl, Hn, Hwh, hwk, rfl⟩ := hrel
        have Hend : Hid (n ≤ l.length) := Lib.hid (kq_le Hn.out)
        have hkk : k ≤ 63030 := Nat.le_trans hkL hLb
        by_cases h : n < l.length
        · have hi : (n : Int) < (l.length : Int) := by omega
          obtain ⟨ad, A1, c1, rfl, x0, x1, x2, x3⟩ := k_cell (Kd.C_below HC.out HbC.out) n h
          obtain ⟨m, hm⟩ : ∃ m, m = l[n].f1.length := ⟨_, rfl⟩
          rw [← hm] at x1
          have Hm := Lib.hid hm
          have hm2 : m ≤ 2000 := by rw [hm]; exact Hfl2.out _ (List.getElem_mem h)
          have Hsn : Hid ((strW e 0 (l.take (n + 1))).length = whole + 1 + m) := Lib.hid (by rw [strW_snoc e l n h, List.length_append, putW_length, ← Hwh.out, ← hm, Nat.add_assoc])
          clear x0 x2 x3 hm
          by_cases h2 : whole + 1 + m ≤ k
          · have h2i : (whole : Int) + 1 + (m : Int) ≤ (k : Int) := by omega
            go_wp2
            go_roundg (gk - 1)
            case measure => exact kq_less Hn.out h
            case rel => exact ⟨n + 1, whole + 1 + m, by simp [w64n h Hlen.out], by simp, Lib.hid (kq_next Hn.out h), Lib.hid Hsn.out.symm, h2, rfl⟩
          · have h2i : (k : Int) < (whole : Int) + 1 + (m : Int) := by omega
            have Hfin := Lib.hid (HTcut.out n whole Hend.out Hwh.out hwk (fun f hf => by
              have e1 := (List.getElem?_eq_some_iff.1 hf).2
              rw [← e1, ← Hm.out]
              omega))
            have hT2 : T2 = whole := Hfin.out.2
            subst hT2
            have HTn : Hid (T1 = l.take n) := Lib.hid Hfin.out.1
            have hcF := HcutF.out n Hend.out
            go_wp2_with (go_at_call 34; (with_reducible refine (same_at HTn (Lib.hid rfl) (Lib.hid (by rw [List.length_take, Nat.min_eq_left Hend.out])) (Lib.hid ⟨Nat.le_trans (List.length_take_le' _ _) (Nat.le_trans Hlen.out (by decide)), fun f hf => Hfl2.out f (List.mem_of_mem_take hf)⟩) HCB hlB (Lib.hid (by have := Kd.C_take (Kd.C_below HC.out HbC.out) Hend.out; rwa [List.length_take, Nat.min_eq_left Hend.out] at this)) (Nat.le_trans Hend.out hcl)).mono ?_); rintro en wE ⟨rfl, HbE⟩)
            go_ret
            exact ⟨rfl, HbC.out.trans (HbE.out.mono HbC.out.size)⟩
        · have hi : (l.length : Int) ≤ (n : Int) := by omega
          have Hfin := Lib.hid (HTcut.out n whole Hend.out Hwh.out hwk (fun f hf => absurd (List.getElem?_eq_some_iff.1 hf).1 h))
          have hT2 : T2 = whole := Hfin.out.2
          subst hT2
          have HTn : Hid (T1 = l.take n) := Lib.hid Hfin.out.1
          have hcF := HcutF.out n Hend.out
          go_wp2_with (go_at_call 34; (with_reducible refine (same_at HTn (Lib.hid rfl) (Lib.hid (by rw [List.length_take, Nat.min_eq_left Hend.out])) (Lib.hid ⟨Nat.le_trans (List.length_take_le' _ _) (Nat.le_trans Hlen.out (by decide)), fun f hf => Hfl2.out f (List.mem_of_mem_take hf)⟩) HCB hlB (Lib.hid (by have := Kd.C_take (Kd.C_below HC.out HbC.out) Hend.out; rwa [List.length_take, Nat.min_eq_left Hend.out] at this)) (Nat.le_trans Hend.out hcl)).mono ?_); rintro en wE ⟨rfl, HbE⟩)
          go_ret
          exact ⟨rfl, HbC.out.trans (HbE.out.mono HbC.out.size)⟩

theorem strLaw (w : World) (e z cu : Int) (hz : 0 ≤ z ∧ z < 256) (hcu : 0 ≤ cu ∧ cu < 65536) (A : Option Addr) (c : Nat) (l : List Fr) (hlen : l.length ≤ 140737488351232) (hcl : l.length ≤ c) (hws : ∀ f ∈ l, WS f.f1) (hC : kF.C w A l.length l) :
    Calls Try.prog 9 #[.int .i64 e, .slice A l.length c, .int .u8 z, .int .u16 cu] w fun en w' => en = .returned (.bool true) ∧ Below w.heap.size w w' := by
  cases hg : greatB l with
  | true => exact strLaw_out w e z cu A c l hlen hC hg
  | false =>
    by_cases h : numB e = false ∨ badB l = true
    · exact strLaw_bad w e z cu A c l hC hg h
    · have h1 : numB e = true := by
        cases h1 : numB e with
        | true => rfl
        | false => exact absurd (Or.inl h1) h
      have h2 : badB l = false := by
        cases h2 : badB l with
        | false => rfl
        | true => exact absurd (Or.inr h2) h
      have h3 := numB_true.1 h1
      have H := strLaw_main w e.toNat z.toNat cu.toNat (by omega) (by omega) (by omega) A c l hcl hws hC hg h2
      rw [show ((e.toNat : Nat) : Int) = e by omega, show ((z.toNat : Nat) : Int) = z by omega, show ((cu.toNat : Nat) : Int) = cu by omega] at H
      exact H

theorem framesStream_law (W : World) (x0 : Int) (w0 : (Lit.int .i64 x0).wf = true) {a1 : Option Addr} {cap1 : Nat} (l1 : List Fr) (y1 : l1.length * 32 ≤ 140737488351232) (hw1 : ∀ x ∈ l1, WS x.f1 ∧ x.f1.length ≤ maxLen) (hc1 : l1.length ≤ cap1) (hr1 : kF.C W a1 l1.length l1)
    (x2 : Int) (w2 : (Lit.int .u8 x2).wf = true) (x3 : Int) (w3 : (Lit.int .u16 x3).wf = true) :
    Calls Try.prog 9 #[.int .i64 x0, .slice a1 l1.length cap1, .int .u8 x2, .int .u16 x3] W fun e W' => e = .returned (.bool true) ∧ Below W.heap.size W W' := by
  have b2 := Go.bounds_u8 w2
  have b3 := Go.bounds_u16 w3
  exact strLaw W x0 x2 x3 ⟨by omega, by omega⟩ ⟨by omega, by omega⟩ a1 cap1 l1 (by omega) hc1 (fun f hf => (hw1 f hf).1) hr1
end Go.Proofs.Ytmeoiennniknlaa.Frames
