/- The reference's Put. -/
import Derived.Test.YtmeoiennniknlaaFrGetAny
namespace Go.Proofs.Ytmeoiennniknlaa.Frames
open Go.RowKit Go.Shelf Go.Proofs.YtmeoiennniknlaaW.PrintWords Go.Proofs.Ytmeoiennniknlaa.Lb Go.Proofs.Ytmeoiennniknlaa.Sums
set_option linter.unusedVariables false
set_option linter.unusedSimpArgs false

set_option maxRecDepth 100000 in
set_option maxHeartbeats 1000000 in
theorem refPut_any (w : World) (e n k : Nat) (he : e < 4294967296) (hn : n < 4294967296) (hk : k < 256) (A : Option Addr) (c : Nat) (l : List Int) (hl : WS l) (hlen : l.length ≤ 2000) (hC : (Kd.int .u64).C w A l.length l) :
    Calls Try.prog 33 #[.int .i64 (e : Int), .int .i64 (n : Int), .agg #[.int .i64 (k : Int), .slice A l.length c]] w fun en w' => ∃ A1 c1, en = .returned (.slice A1 (l.length + 1) c1) ∧ l.length + 1 ≤ c1 ∧
      (Kd.int .u64).C w' A1 (l.length + 1) (((fmark e n k l : Nat) : Int) :: l) ∧ (Kd.int .u64).R 30 w' w.heap.size (fun _ => True) (.slice A1 (l.length + 1) c1) (((fmark e n k l : Nat) : Int) :: l) ∧ Below w.heap.size w w' := by
  have HL := Lib.hid hl
  have Hf : Hid (fmark e n k l = Sums.mark k l.length (e :: n :: l.map Int.toNat)) := rfl
  obtain ⟨f, hf⟩ : ∃ f, f = fmark e n k l := ⟨_, rfl⟩
  rw [← hf] at Hf ⊢
  have HB0 : Hid (Below w.heap.size w (w.alloc (.cells #[.int .i64 (k : Int), .slice A l.length c] 40))) := Lib.hid ((Below.refl w.heap.size w).alloc (Nat.le_refl _) _)
  have HC := Lib.hid (Kd.C_below hC HB0.out)
  have HBR := Lib.hid (Below.refl (w.alloc (.cells #[.int .i64 (k : Int), .slice A l.length c] 40)).heap.size (w.alloc (.cells #[.int .i64 (k : Int), .slice A l.length c] 40)))
  have hs0 : w.heap.size < (w.alloc (.cells #[.int .i64 (k : Int), .slice A l.length c] 40)).heap.size := by simp
  have p0 : (w.alloc (.cells #[.int .i64 (k : Int), .slice A l.length c] 40)).cell? ⟨w.heap.size, 0, none⟩ = some (.int .i64 (k : Int)) := by simp [go_sem]
  have p1 : (w.alloc (.cells #[.int .i64 (k : Int), .slice A l.length c] 40)).cell? ⟨w.heap.size, 1, none⟩ = some (.slice A l.length c) := by simp [go_sem]
  have Hl2 := Lib.hid (show (l.map Int.toNat).length = l.length from List.length_map _)
  clear hC hl hf
  go_enter Try.func33, Try.ntmps33
  go_wp2_with (first
    | (at_builtin; refine app_lit_ints (w0 := (w.alloc (.cells #[.int .i64 (k : Int), .slice A l.length c] 40))) .u64 23 30 8 Try.underlying23 infoU64 (by omega) rfl _ _ rfl [(e : Int), (n : Int)] l (il (e :: n :: l.map Int.toNat)) A l.length c (l.length + 1 + 1) 2 _ rfl rfl (by simp [go_sem]) rfl HC HBR (by rw [il_cons, il_cons, HL.out.il]; rfl) (by simp [il]) (by omega) ?_; intro A1 c1 w1 hl1 HC1 HR1 Hb; have q0 := (Hb.out.cell (p := ⟨w.heap.size, 0, none⟩) hs0).trans p0; have q1 := (Hb.out.cell (p := ⟨w.heap.size, 1, none⟩) hs0).trans p1)
    | (go_at_call 22; (with_reducible refine (refMark_at (w := w1) (ws := e :: n :: l.map Int.toNat) (Lib.hid (Below.refl _ _)) ?_ ?_ ?_ ?_ ?_ ?_ ?_).mono ?_); rotate_right; rw [← Hf.out]; rintro en w2 ⟨rfl, Hb2⟩; have Hb3 := Lib.hid (Hb.out.trans (Hb2.out.mono Hb.out.size)); have hs2 := Nat.lt_of_lt_of_le hs0 Hb3.out.size; have q2 := (Hb3.out.cell (p := ⟨w.heap.size, 1, none⟩) hs0).trans p1)
    | (at_builtin; refine app_lit_ints (w0 := (w.alloc (.cells #[.int .i64 (k : Int), .slice A l.length c] 40))) .u64 23 30 8 Try.underlying23 infoU64 (by omega) rfl _ _ rfl [(f : Int)] l ((f : Int) :: l) A l.length c (l.length + 1) 1 _ rfl rfl rfl rfl HC Hb3 rfl (by simp) (by omega) ?_; intro A2 c2 w3 hl3 HC2 HR2 Hb4))
  case refine_1 => rw [List.length_cons, List.length_cons, Hl2.out]; exact HC1
  case refine_2 => exact Lib.hid (fun x hx => by
    rcases List.mem_cons.1 hx with rfl | hx
    · omega
    rcases List.mem_cons.1 hx with rfl | hx
    · omega
    exact HL.out.nat x hx)
  case refine_3 => rw [List.length_cons, List.length_cons, Hl2.out]
  case refine_4 => exact hk
  case refine_5 => omega
  case refine_6 => rw [List.length_cons, List.length_cons, Hl2.out]; omega
  case refine_7 => rw [List.length_cons, List.length_cons, Hl2.out]; omega
  · go_ret
    exact ⟨A2, c2, rfl, hl3, HC2.out, Kd.R_lower HR2.out (Nat.le_of_lt hs0), HB0.out.trans (Hb4.out.mono (Nat.le_of_lt hs0))⟩
end Go.Proofs.Ytmeoiennniknlaa.Frames
