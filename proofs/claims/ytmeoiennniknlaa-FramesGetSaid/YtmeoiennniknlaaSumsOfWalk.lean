/- The walk of the statement SumsOf. -/
import Derived.Test.YtmeoiennniknlaaSumsMark
import Derived.Lib.SlBytesConst
import Derived.OpenShut
import Derived.Test.YtmeoiennniknlaaRowLib
namespace Go.Proofs.Ytmeoiennniknlaa.Sums
open Go.RowKit Go.Shelf Go.Proofs.YtmeoiennniknlaaW.PrintWords Go.Proofs.Ytmeoiennniknlaa.Lb
set_option linter.unusedVariables false
set_option linter.unusedSimpArgs false

/-! The contracts, over a world behind the one in which the lists were read. -/
section
variable {w W : World}
theorem at_ (hB : Below w.heap.size w W) {f : FuncId} {args : Array Value} {p : Ending → Prop} (h : Calls Try.prog f args W fun e w' => p e ∧ Below W.heap.size W w') : Calls Try.prog f args W fun e w' => p e ∧ Below w.heap.size w w' :=
  h.mono fun _ _ ⟨he, hb⟩ => ⟨he, hB.trans (hb.mono hB.size)⟩
theorem bytes_at (hB : Below w.heap.size w W) (A : Option Addr) (c : Nat) (xs : List Byt) (hreach : xs.length ≤ 140737488351232) (hC : (Kd.int .u8).C w A xs.length (ib xs)) :
    Calls Try.prog 17 #[.slice A xs.length c] W fun e w' => e = .returned (.int .u32 ((bsum (vals xs) : Nat) : Int)) ∧ Below w.heap.size w w' := at_ hB (bytes_any W A c xs hreach (Kd.C_below hC hB))
theorem of_at (hB : Below w.heap.size w W) (A : Option Addr) (c : Nat) (ws : List Nat) (hreach : ws.length * 8 ≤ 140737488351232) (hC : (Kd.int .u64).C w A ws.length (il ws)) :
    Calls Try.prog 19 #[.slice A ws.length c] W fun e w' => e = .returned (.int .u32 ((wsum ws : Nat) : Int)) ∧ Below w.heap.size w w' := at_ hB (of_any W A c ws hreach (Kd.C_below hC hB))
theorem refBytes_at (hB : Below w.heap.size w W) (A : Option Addr) (c : Nat) (l : List Nat) (hl : ∀ c ∈ l, c < 256) (hn : l.length ≤ 140737488355328) (hc : l.length ≤ c) (hC : (Kd.int .u8).C w A l.length (il l)) :
    Calls Try.prog 18 #[.slice A l.length c] W fun e w' => e = .returned (.int .u32 ((bsum l : Nat) : Int)) ∧ Below w.heap.size w w' := at_ hB (refBytes_any W A c l hl hn hc (Kd.C_below hC hB))
theorem refOf_at (hB : Below w.heap.size w W) (A : Option Addr) (c : Nat) (ws : List Nat) (hw : ∀ x ∈ ws, x < 18446744073709551616) (hn : ws.length * 8 + 8 < 140737488355328) (hc : ws.length ≤ c) (hC : (Kd.int .u64).C w A ws.length (il ws)) :
    Calls Try.prog 20 #[.slice A ws.length c] W fun e w' => e = .returned (.int .u32 ((wsum ws : Nat) : Int)) ∧ Below w.heap.size w w' := at_ hB (refOf_any W A c ws hw hn hc (Kd.C_below hC hB))
end

def digits : List Byt := [49, 50, 51, 52, 53, 54, 55, 56, 57]
theorem digits_sum : bsum (vals digits) = 3808858755 := by decide +kernel
theorem none_sum : wsum [] = 0 := by decide +kernel
set_option maxRecDepth 100000 in
set_option maxHeartbeats 400000 in
theorem alive_any (w : World) :
    Calls Try.prog 16 #[] w fun e w' => e = .returned (.bool true) ∧ Below w.heap.size w w' := by
  obtain ⟨W, hW⟩ : ∃ W, W = w.alloc (.cells #[.int .u8 49, .int .u8 50, .int .u8 51, .int .u8 52, .int .u8 53, .int .u8 54, .int .u8 55, .int .u8 56, .int .u8 57] 5 (9, 10)) := ⟨_, rfl⟩
  have HB : Hid (Below w.heap.size w W) := by rw [hW]; exact (Below.refl _ w).alloc (Nat.le_refl _) _
  have hC : (Kd.int .u8).C W (some ⟨w.heap.size, 0, none⟩) 9 (ib digits) := by
    refine C_of_cells .u8 (l := ib digits) (by decide) (fun j hj => ?_)
    rw [hW, add_plain, World.cell?_alloc_mark]
    have hj9 : j < 9 := hj
    match j, hj9 with
    | 0, _ | 1, _ | 2, _ | 3, _ | 4, _ | 5, _ | 6, _ | 7, _ | 8, _ => rfl
  have hby := bytes_any W (some ⟨w.heap.size, 0, none⟩) 9 digits (by decide) hC
  have kc := fun (w : World) (C : Array Value) (n c : Nat) => Lib.run_convert_bytes_const (P := Try.prog) w 22 5 C n c Try.underlying22 Try.underlying5
  rw [digits_sum] at hby
  rw [hW] at hby HB
  have Hby := Lib.hid hby
  have Hof : Hid (∀ w, Calls Try.prog 19 #[.slice none 0 0] w fun e w' => e = .returned (.int .u32 0) ∧ Below w.heap.size w w') := by
    intro w
    have h := of_any w none 0 [] (by decide) (Kd.C_nil _ w)
    rw [none_sum] at h
    exact h
  clear hby hC hW
  go_enter Try.func16, Try.ntmps16
  go_wp2_with (first
    | (go_at_call 17; refine Hby.out.mono ?_; rintro e w' ⟨rfl, hb⟩; have Hb := Lib.hid hb; clear hb)
    | (go_at_call 19; refine (Hof.out _).mono ?_; rintro e w' ⟨rfl, hb⟩; have Hb2 := Lib.hid hb; clear hb))
  go_ret
  exact ⟨rfl, HB.out.trans ((Hb.out.mono (by simp)).trans (Hb2.out.mono (Nat.le_trans HB.out.size Hb.out.size)))⟩

set_option maxRecDepth 100000 in
set_option maxHeartbeats 400000 in
theorem sumsOf_walk (w : World) (A1 : Option Addr) (c1 : Nat) (xs : List Byt) (hx : xs.length ≤ 140737488351232) (hc1 : xs.length ≤ c1) (hC1 : (Kd.int .u8).C w A1 xs.length (ib xs))
    (A2 : Option Addr) (c2 : Nat) (ws : List Nat) (hw : ∀ x ∈ ws, x < 18446744073709551616) (hx2 : ws.length * 8 ≤ 140737488351232) (hc2 : ws.length ≤ c2) (hC2 : (Kd.int .u64).C w A2 ws.length (il ws)) :
    Calls Try.prog 3 #[.slice A1 xs.length c1, .slice A2 ws.length c2] w fun e w' => e = .returned (.bool true) ∧ Below w.heap.size w w' := by
  have HC1 := Lib.hid hC1
  have HC2 := Lib.hid hC2
  have HW := Lib.hid hw
  clear hC1 hC2 hw
  by_cases h1 : 3000 < xs.length
  · go_enter Try.func3, Try.ntmps3
    go_wp2_with (go_at_call 16; refine (alive_any _).mono ?_; rintro e w' ⟨rfl, hb⟩; have Hb := Lib.hid hb; clear hb)
    go_ret
    exact ⟨rfl, Hb.out⟩
  · by_cases h2 : 400 < ws.length
    · go_enter Try.func3, Try.ntmps3
      go_wp2_with (go_at_call 16; refine (alive_any _).mono ?_; rintro e w' ⟨rfl, hb⟩; have Hb := Lib.hid hb; clear hb)
      go_ret
      exact ⟨rfl, Hb.out⟩
    · have hvl : (vals xs).length = xs.length := by simp [vals]
      have hb2 : ∀ W, Below w.heap.size w W → Calls Try.prog 18 #[.slice A1 xs.length c1] W fun e w' => e = .returned (.int .u32 ((bsum (vals xs) : Nat) : Int)) ∧ Below w.heap.size w w' := by
        intro W hW
        have := refBytes_at hW A1 c1 (vals xs) (vals_lt xs) (by omega) (by omega) (by rw [hvl]; exact HC1.out)
        rwa [hvl] at this
      obtain ⟨r1, hr1⟩ : ∃ r, r = bsum (vals xs) := ⟨_, rfl⟩
      obtain ⟨r2, hr2⟩ : ∃ r, r = wsum ws := ⟨_, rfl⟩
      rw [← hr1] at hb2
      have HBr := Lib.hid hb2
      have Hr1 := Lib.hid hr1
      have Hr2 := Lib.hid hr2
      clear hb2 hr1 hr2 hvl
      go_enter Try.func3, Try.ntmps3
      go_wp2_with (first
        | (go_at_call 16; refine (alive_any _).mono ?_; rintro e w' ⟨rfl, hb⟩; have Hb := Lib.hid hb; clear hb)
        | (go_at_call 17; refine (bytes_at Hb.out A1 c1 xs hx HC1.out).mono ?_; rw [← Hr1.out]; rintro e w' ⟨rfl, hb⟩; have Hb1 := Lib.hid hb; clear hb)
        | (go_at_call 18; refine (HBr.out _ Hb1.out).mono ?_; rintro e w' ⟨rfl, hb⟩; have Hb2 := Lib.hid hb; clear hb)
        | (go_at_call 19; refine (of_at Hb2.out A2 c2 ws hx2 HC2.out).mono ?_; rw [← Hr2.out]; rintro e w' ⟨rfl, hb⟩; have Hb3 := Lib.hid hb; clear hb)
        | (go_at_call 20; refine (refOf_at Hb3.out A2 c2 ws HW.out (by omega) hc2 HC2.out).mono ?_; rw [← Hr2.out]; rintro e w' ⟨rfl, hb⟩; have Hb4 := Lib.hid hb; clear hb))
      go_ret
      exact ⟨rfl, Hb4.out⟩

/-! Numbers as they come in. -/
def toB (l : List Int) : List Byt := l.map fun x => ⟨x.toNat % 256, Nat.mod_lt _ (by decide)⟩
theorem ib_toB (l : List Int) (h : ∀ x ∈ l, (Lit.int .u8 x).wf = true) : ib (toB l) = l := by
  unfold ib toB il
  rw [List.map_map, List.map_map]
  conv => rhs; rw [← List.map_id l]
  apply List.map_congr_left
  intro x hx
  have := Go.bounds_u8 (h x hx)
  simp [Function.comp]
  omega
theorem toB_length (l : List Int) : (toB l).length = l.length := by simp [toB]
theorem words_il (l : List Int) (h : ∀ x ∈ l, (Lit.int .u64 x).wf = true) : il (l.map Int.toNat) = l := il_of l (fun x hx => (Go.bounds_u64 (h x hx)).1)
theorem words_lt (l : List Int) (h : ∀ x ∈ l, (Lit.int .u64 x).wf = true) : ∀ x ∈ l.map Int.toNat, x < 18446744073709551616 := by
  intro x hx
  obtain ⟨y, hy, rfl⟩ := List.mem_map.1 hx
  have := Go.bounds_u64 (h y hy)
  omega

theorem sumsOf_law (W : World) {a0 a1 : Option Addr} {cap0 cap1 : Nat} (l0 : List Int) (hm0 : l0.length ≤ maxLen) (y0 : l0.length * 1 ≤ 140737488351232) (hw0 : ∀ x ∈ l0, (Lit.int .u8 x).wf = true) (hc0 : l0.length ≤ cap0) (hr0 : (Kd.int .u8).C W a0 l0.length l0)
    (l1 : List Int) (hm1 : l1.length ≤ maxLen) (y1 : l1.length * 8 ≤ 140737488351232) (hw1 : ∀ x ∈ l1, (Lit.int .u64 x).wf = true) (hc1 : l1.length ≤ cap1) (hr1 : (Kd.int .u64).C W a1 l1.length l1) :
    Calls Try.prog 3 #[.slice a0 l0.length cap0, .slice a1 l1.length cap1] W fun e w' => e = .returned (.bool true) ∧ Below W.heap.size W w' := by
  have h := sumsOf_walk W a0 cap0 (toB l0) (by rw [toB_length]; omega) (by rw [toB_length]; exact hc0) (by rw [toB_length, ib_toB l0 hw0]; exact hr0) a1 cap1 (l1.map Int.toNat) (words_lt l1 hw1) (by rw [List.length_map]; exact y1) (by rw [List.length_map]; exact hc1) (by rw [List.length_map, words_il l1 hw1]; exact hr1)
  rw [toB_length, List.length_map] at h
  exact h
end Go.Proofs.Ytmeoiennniknlaa.Sums
