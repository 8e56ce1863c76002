/- (*log.Log).Append. -/
import Derived.Test.YtmeoiennniknlaaLgR
namespace Go.Proofs.Ytmeoiennniknlaa.Log
open Go.RowKit Go.Shelf Go.Proofs.YtmeoiennniknlaaW.PrintWords Go.Proofs.Ytmeoiennniknlaa.Lb Go.Proofs.Ytmeoiennniknlaa.Frames
open Go.Proofs.Ytmeoiennniknlaa.Disk (Chg Chg.cell Sec secC secC_at agg8 thB Dsk cur upd)
open Go.Proofs.Ytmeoiennniknlaa.Anchor (Blk zero8 below_set8)
open Go.Proofs.Ytmeoiennniknlaa.RDisk (RDk curL)
set_option linter.unusedVariables false
set_option linter.unusedSimpArgs false

theorem cost_at {w : World} {k : Int} {A : Option Addr} {n c : Nat} {x : Int} (hn : Hid (n ≤ 140737488351232)) (hx : Hid ((if mayB k n then 1 + (n : Int) else 0) = x)) :
    Calls Try.prog 63 #[.agg #[.int .i64 k, .slice A n c]] w fun en w' => en = .returned (.int .i64 x) ∧ Hid (Below w.heap.size w w') := by
  have e := hx.out
  subst e
  exact (cost_any w k A n c hn.out).mono fun en w' ⟨h1, h2⟩ => ⟨h1, Lib.hid h2⟩
theorem fmay_at {w : World} {k : Int} {A : Option Addr} {n c : Nat} {b : Bool} (hn : Hid (n ≤ 140737488351232)) (hx : Hid (mayB k n = b)) :
    Calls Try.prog 30 #[.agg #[.int .i64 k, .slice A n c]] w fun en w' => en = .returned (.bool b) ∧ Hid (Below w.heap.size w w') := by
  have e := hx.out
  subst e
  exact (may_any w k A n c hn.out).mono fun en w' ⟨h1, h2⟩ => ⟨h1, Lib.hid h2⟩
theorem room_at {w : World} {g d fr n ep : Nat} {ws : List Int} {fs : List Fr} {OW OF : Nat → Prop} {x : Int} (h : Hid (Lg w g d fr n ep ws fs OW OF)) (hn : Hid (n ≤ 4096)) (hw : Hid (ws.length ≤ n * 8)) (hx : Hid ((n : Int) * 8 - (ws.length : Int) = x)) :
    Calls Try.prog 89 #[.pointer (some ⟨g, 0, none⟩)] w fun en w' => en = .returned (.int .i64 x) ∧ Hid (Below w.heap.size w w') := by
  have e := hx.out
  subst e
  exact (room_any h.out hn.out hw.out).mono fun en w' ⟨h1, h2⟩ => ⟨h1, Lib.hid h2⟩

set_option maxRecDepth 100000 in
set_option maxHeartbeats 1000000 in
theorem append_bad {w : World} {g d fr n ep : Nat} {ws : List Int} {fs : List Fr} {OW OF : Nat → Prop} (hl : Lg w g d fr n ep ws fs OW OF) (k : Int) (A : Option Addr) (m c : Nat) (hm : m ≤ 140737488351232) (hb : mayB k m = false) :
    Calls Try.prog 64 #[.pointer (some ⟨g, 0, none⟩), .agg #[.int .i64 k, .slice A m c]] w fun en w' => en = .returned (.int .i64 1) ∧ Below w.heap.size w w' := by
  have HM := Lib.hid hm
  have Hb := Lib.hid hb
  have HBV := Lib.hid ((Below.refl _ w).alloc (Nat.le_refl _) (.cells #[.int .i64 k, .slice A m c] 40))
  clear hl hm hb
  go_enter Try.func64, Try.ntmps64
  go_wp2_with (go_at_call 30; (with_reducible refine (fmay_at HM Hb).mono ?_); rintro en w1 ⟨rfl, HB1⟩)
  go_ret
  exact ⟨rfl, HBV.out.trans (HB1.out.mono HBV.out.size)⟩

set_option maxRecDepth 100000 in
set_option maxHeartbeats 1000000 in
theorem append_full {w : World} {g d fr n ep : Nat} {ws : List Int} {fs : List Fr} {OW OF : Nat → Prop} (hl : Lg w g d fr n ep ws fs OW OF) (k : Int) (A : Option Addr) (m c : Nat) (hm : m ≤ 140737488351232) (hb : mayB k m = true) (hn : n ≤ 4096) (hw : ws.length ≤ n * 8) (hf : n * 8 < ws.length + (m + 1)) :
    Calls Try.prog 64 #[.pointer (some ⟨g, 0, none⟩), .agg #[.int .i64 k, .slice A m c]] w fun en w' => en = .returned (.int .i64 4) ∧ Below w.heap.size w w' := by
  obtain ⟨V, hV⟩ : ∃ V, V = w.alloc (.cells #[.int .i64 k, .slice A m c] 40) := ⟨_, rfl⟩
  obtain ⟨bx, hbx⟩ : ∃ bx, bx = w.heap.size := ⟨_, rfl⟩
  have HM := Lib.hid hm
  have Hb := Lib.hid hb
  have Hn := Lib.hid hn
  have Hw := Lib.hid hw
  have HBV : Hid (Below w.heap.size w V) := by rw [hV]; exact Lib.hid ((Below.refl _ w).alloc (Nat.le_refl _) _)
  have BV : Hid (Blk V bx [.int .i64 k, .slice A m c] 40) := by rw [hV, hbx]; exact Lib.hid (Blk.new w _ _)
  have HL := Lib.hid (hl.below HBV.out)
  obtain ⟨y, hy⟩ : ∃ y, (n : Int) * 8 - (ws.length : Int) = y := ⟨_, rfl⟩
  have Hy := Lib.hid hy
  have Hx : Hid ((if mayB k m then 1 + (m : Int) else 0) = 1 + (m : Int)) := Lib.hid (by rw [hb]; rfl)
  have hyx : y < 1 + (m : Int) := by omega
  have q0 := BV.out.cell
  have z0 := BV.out.lt
  clear hl hb hn hw hf hy
  go_enter Try.func64, Try.ntmps64
  go_wp2_with fail
  rw [← hV, ← hbx]
  clear hV hbx
  go_wp2_with (first
    | (go_at_call 30; (with_reducible refine (fmay_at HM Hb).mono ?_); rintro en w1 ⟨rfl, HB1⟩; have q1 := (BV.out.below HB1.out).cell; clear q0)
    | (go_at_call 63; (with_reducible refine (cost_at HM Hx).mono ?_); rintro en w2 ⟨rfl, HB2⟩; have HL2 := Lib.hid ((HL.out.below HB1.out).below HB2.out); clear q1)
    | (go_at_call 89; (with_reducible refine (room_at HL2 Hn Hw Hy).mono ?_); rintro en w3 ⟨rfl, HB3⟩))
  go_ret
  exact ⟨rfl, HBV.out.trans ((HB1.out.trans ((HB2.out.trans (HB3.out.mono HB2.out.size)).mono HB1.out.size)).mono HBV.out.size)⟩

theorem fput_at {w : World} {e n k : Nat} {A : Option Addr} {m c : Nat} {l ys : List Int} (he : Hid (e ≤ 4294967295)) (hn : Hid (n < 4294967296)) (hb : Hid (mayB (k : Int) m = true)) (hm : Hid (l.length = m)) (hl : Hid (WS l)) (hC : Hid ((Kd.int .u64).C w A m l)) (hy : Hid (((fmark e n k l : Nat) : Int) :: l = ys)) :
    Calls Try.prog 27 #[.int .i64 (e : Int), .int .i64 (n : Int), .agg #[.int .i64 (k : Int), .slice A m c]] w fun en w' => ∃ A1 c1, en = .returned (.slice A1 (m + 1) c1) ∧ Hid ((Kd.int .u64).C w' A1 (m + 1) ys) ∧ Hid (Below w.heap.size w w') := by
  have e1 := hm.out
  have e2 := hy.out
  subst e1 e2
  obtain ⟨h1, h2, h3⟩ := mayB_true.1 hb.out
  have he' := he.out
  exact (put_any w e n k (by omega) hn.out (by omega) (by omega) A c l hl.out h3 hC.out).mono fun en w' ⟨A1, c1, g1, g2, g3, g4, g5⟩ => ⟨A1, c1, g1, Lib.hid g3, Lib.hid g5⟩
theorem clone_at {w : World} {A : Option Addr} {m c : Nat} {l : List Int} (hm : Hid (l.length = m)) (hlen : Hid (m ≤ 2000)) (hC : Hid ((Kd.int .u64).C w A m l)) (hnil : Hid (A = none → c = 0)) :
    Calls Try.prog 74 #[.slice A m c] w fun en w' => ∃ A1 c1, en = .returned (.slice A1 m c1) ∧ Hid ((Kd.int .u64).R 30 w' w.heap.size (fun _ => True) (.slice A1 m c1) l) ∧ Hid (Below w.heap.size w w') := by
  have e1 := hm.out
  subst e1
  have h2 := hlen.out
  exact (clone_any w A c l (by omega) hC.out hnil.out).mono fun en w' ⟨A1, c1, g1, g2, g3, g4, g5⟩ => ⟨A1, c1, g1, Lib.hid g4, Lib.hid g5⟩
theorem lwrite_at {w : World} {d lb mb g fr n ep : Nat} {L : List (List Int)} {M : Nat → Option (List Int)} {ws : List Int} {fs : List Fr} {OW OF : Nat → Prop} {a : Nat} (h : Hid (Dsk w d lb mb L M)) (hl : Hid (Lg w g d fr n ep ws fs OW OF)) (ha : Hid (a < ws.length)) (hn : Hid (fr + n ≤ L.length)) (hw : Hid (ws.length ≤ n * 8))
    (hf : Hid ((¬ TD d lb mb g) ∧ (∀ k, OW k → ¬ TD d lb mb k) ∧ (∀ k, OF k → ¬ TD d lb mb k))) :
    Calls Try.prog 94 #[.pointer (some ⟨g, 0, none⟩), .int .i64 (a : Int)] w fun en w' => en = .returned (.tuple #[]) ∧ Hid (Dsk w' d lb mb L (wrM M fr ws (a / 8) ((ws.length - 1) / 8 + 1 - a / 8))) ∧ Hid (Lg w' g d fr n ep ws fs OW OF) ∧ Hid (Chg (TD d lb mb) w w') :=
  (write_any h.out hl.out a ha.out hn.out hw.out hf.out.1 hf.out.2.1 hf.out.2.2).mono fun en w' ⟨h1, h2, h3, h4⟩ => ⟨h1, Lib.hid h2, Lib.hid h3, Lib.hid h4⟩

/-- What Append answers where there is room. -/
def AppP (w : World) (d lb mb g fr n ep : Nat) (L : List (List Int)) (M : Nat → Option (List Int)) (ws : List Int) (fs : List Fr) (OW OF : Nat → Prop) (ys : List Int) (f : Fr) (en : Ending) (w' : World) : Prop :=
  ∃ OW' OF', en = .returned (.int .i64 0) ∧ Dsk w' d lb mb L (wrM M fr (ws ++ ys) (ws.length / 8) (((ws ++ ys).length - 1) / 8 + 1 - ws.length / 8)) ∧ Lg w' g d fr n ep (ws ++ ys) (fs ++ [f]) OW' OF' ∧
    (∀ k, OW' k → OW k ∨ w.heap.size ≤ k) ∧ (∀ k, OF' k → OF k ∨ w.heap.size ≤ k) ∧ Chg (fun k => TD d lb mb k ∨ k = g ∨ OW k ∨ OF k) w w'

set_option maxRecDepth 100000 in
set_option maxHeartbeats 2000000 in
theorem append_ok {w : World} {d lb mb g fr n ep : Nat} {L : List (List Int)} {M : Nat → Option (List Int)} {ws : List Int} {fs : List Fr} {OW OF : Nat → Prop} (h : Dsk w d lb mb L M) (hl : Lg w g d fr n ep ws fs OW OF) (hfr : fr + n ≤ L.length) (hep : ep ≤ 4294967295) (hfs : fs.length ≤ 100000)
    (hg : ¬ TD d lb mb g) (hOW : ∀ k, OW k → ¬ TD d lb mb k) (hOF : ∀ k, OF k → ¬ TD d lb mb k)
    (k : Nat) (A : Option Addr) (c : Nat) (l : List Int) (hC : ∀ w', Chg (fun k => k = g ∨ OW k) w w' → (Kd.int .u64).C w' A l.length l) (hws : WS l) (hnil : A = none → c = 0) (hb : mayB (k : Int) l.length = true) (hw : ws.length ≤ n * 8) (hf : ws.length + (l.length + 1) ≤ n * 8) :
    Calls Try.prog 64 #[.pointer (some ⟨g, 0, none⟩), .agg #[.int .i64 (k : Int), .slice A l.length c]] w (AppP w d lb mb g fr n ep L M ws fs OW OF (((fmark ep fs.length k l : Nat) : Int) :: l) ⟨(k : Int), l⟩) := by
  obtain ⟨m, hm⟩ : ∃ m, l.length = m := ⟨_, rfl⟩
  rw [hm] at hC hb hf ⊢
  obtain ⟨ys, hys⟩ : ∃ ys, ((fmark ep fs.length k l : Nat) : Int) :: l = ys := ⟨_, rfl⟩
  rw [hys]
  obtain ⟨V, hV⟩ : ∃ V, V = w.alloc (.cells #[.int .i64 (k : Int), .slice A m c] 40) := ⟨_, rfl⟩
  obtain ⟨bx, hbx⟩ : ∃ bx, bx = w.heap.size := ⟨_, rfl⟩
  have HL4 := h.len.2
  have HM : Hid (m ≤ 140737488351232) := Lib.hid (by omega)
  have HLm := Lib.hid hm
  have Hb := Lib.hid hb
  have Hn : Hid (n ≤ 4096) := Lib.hid (by omega)
  have Hw := Lib.hid hw
  have HF := Lib.hid hf
  have HWSl := Lib.hid hws
  have Hnil := Lib.hid hnil
  have Hfs := Lib.hid hfs
  have Hep := Lib.hid hep
  have HBV : Hid (Below w.heap.size w V) := by rw [hV]; exact Lib.hid ((Below.refl _ w).alloc (Nat.le_refl _) _)
  have BV : Hid (Blk V bx [.int .i64 (k : Int), .slice A m c] 40) := by rw [hV, hbx]; exact Lib.hid (Blk.new w _ _)
  have HL := Lib.hid (hl.below HBV.out)
  have H := Lib.hid h
  have HL0 := Lib.hid hl
  have HCl := Lib.hid hC
  have Hfr := Lib.hid hfr
  have Hfar : Hid ((¬ TD d lb mb g) ∧ (∀ k, OW k → ¬ TD d lb mb k) ∧ (∀ k, OF k → ¬ TD d lb mb k)) := Lib.hid ⟨hg, hOW, hOF⟩
  obtain ⟨lw, hlw⟩ : ∃ lw, ws.length = lw := ⟨_, rfl⟩
  have HLW := Lib.hid hlw
  obtain ⟨nf, hnf⟩ : ∃ nf, fs.length = nf := ⟨_, rfl⟩
  have HNF := Lib.hid hnf
  rw [hnf] at hys
  have Hys := Lib.hid hys
  have Hm2 : Hid (m ≤ 2000) := Lib.hid (mayB_true.1 hb).2.2
  obtain ⟨y, hy⟩ : ∃ y, (n : Int) * 8 - (ws.length : Int) = y := ⟨_, rfl⟩
  have Hy := Lib.hid hy
  have Hx : Hid ((if mayB (k : Int) m then 1 + (m : Int) else 0) = 1 + (m : Int)) := Lib.hid (by rw [hb]; rfl)
  have hyx : ¬ y < 1 + (m : Int) := by omega
  have Hbx := Lib.hid hbx
  have q0 := BV.out.cell
  have z0 := BV.out.lt
  clear hl hb hw hf hy h hC hws hnil hep hfs hg hOW hOF hm hys hlw hnf hfr HL4
  go_enter Try.func64, Try.ntmps64
  go_wp2_with fail
  rw [← hV, ← hbx]
  clear hV hbx
  go_wp2_with (first
    | (go_at_call 30; (with_reducible refine (fmay_at HM Hb).mono ?_); rintro en w1 ⟨rfl, HB1⟩; have q1 := (BV.out.below HB1.out).cell; clear q0)
    | (go_at_call 63; (with_reducible refine (cost_at HM Hx).mono ?_); rintro en w2 ⟨rfl, HB2⟩; have HL2 := Lib.hid ((HL.out.below HB1.out).below HB2.out); clear q1)
    | (go_at_call 89; (with_reducible refine (room_at HL2 Hn Hw Hy).mono ?_); rintro en w3 ⟨rfl, HB3⟩; obtain ⟨Aw, cw, Af, cf, h31, h32, h33⟩ := (HL2.out.below HB3.out).mem; rw [HLW.out, HNF.out] at h31; rw [HNF.out] at h33; have HG3 := Lib.hid h31; have HW3 := Lib.hid h32; have HF3 := Lib.hid h33; clear h32 h33; have q3 := h31.cell; clear h31))
  have BX3 := Lib.hid (((BV.out.below HB1.out).below HB2.out).below HB3.out)
  have HB03 := Lib.hid (HBV.out.trans ((HB1.out.trans ((HB2.out.trans (HB3.out.mono HB2.out.size)).mono HB1.out.size)).mono HBV.out.size))
  clear q3 z0 HB1 HB2 HB3 HL2 HL HBV BV
  have s4 : w3.cell? ⟨g, 4, none⟩ = some (.slice Aw lw cw) := HG3.out.cell 4
  have s3 : w3.cell? ⟨g, 3, none⟩ = some (.int .i64 (ep : Int)) := HG3.out.cell 3
  have s5 : w3.cell? ⟨g, 5, none⟩ = some (.slice Af nf cf) := HG3.out.cell 5
  have b0 : w3.cell? ⟨bx, 0, none⟩ = some (.int .i64 (k : Int)) := BX3.out.cell 0
  have b1 : w3.cell? ⟨bx, 1, none⟩ = some (.slice A m c) := BX3.out.cell 1
  have zg := HG3.out.lt
  have zb := BX3.out.lt
  have HCd : Hid ((Kd.int .u64).C w3.drew A m l) := Lib.hid (HCl.out _ (Chg.of_below HB03.out).drew)
  have Hnf9 : Hid (nf < 4294967296) := Lib.hid (by have := Hfs.out; have := HNF.out; omega)
  have HOWb := Lib.hid HL0.out.bw
  have HOFb := Lib.hid HL0.out.bf
  have HWSy : Hid (WS ys) := Lib.hid (ws_put Hys.out HWSl.out HLm.out Hb.out)
  refine HeldK.begin_ 19 (fun w' => w'.cell? ⟨g, 4, none⟩ = some (.slice Aw lw cw) ∧ w'.cell? ⟨g, 3, none⟩ = some (.int .i64 (ep : Int)) ∧ w'.cell? ⟨g, 5, none⟩ = some (.slice Af nf cf) ∧ w'.cell? ⟨bx, 0, none⟩ = some (.int .i64 (k : Int)) ∧ w'.cell? ⟨bx, 1, none⟩ = some (.slice A m c)) (by kernel_rfl) ⟨s4, s3, s5, b0, b1⟩ (fun hH => ?_)
  refine HeldK.take (i := 0) (some 25) (.pointer (some ⟨g, 0, none⟩)) rfl (by rfl) (by kernel_rfl) (by kernel_rfl) (by kernel_rfl) (by kernel_rfl) (by kernel_rfl) (fun _ _ _ h => h) (fun w hSw => (by (try dsimp only at hSw); go_simp)) hH ?_
  (try simp only [Act.put, List.setIfInBounds_toArray, List.set_cons_zero, List.set_cons_succ])
  refine HeldK.take (i := 1) (some 26) (.pointer (some ⟨g, 0, none⟩)) rfl (by rfl) (by kernel_rfl) (by kernel_rfl) (by kernel_rfl) (by kernel_rfl) (by kernel_rfl) (fun _ _ _ h => h) (fun w hSw => (by (try dsimp only at hSw); go_simp)) hH ?_
  (try simp only [Act.put, List.setIfInBounds_toArray, List.set_cons_zero, List.set_cons_succ])
  refine HeldK.take (i := 2) (some 27) (.pointer (some ⟨g, 0, none⟩)) rfl (by rfl) (by kernel_rfl) (by kernel_rfl) (by kernel_rfl) (by kernel_rfl) (by kernel_rfl) (fun _ _ _ h => h) (fun w hSw => (by (try dsimp only at hSw); go_simp)) hH ?_
  (try simp only [Act.put, List.setIfInBounds_toArray, List.set_cons_zero, List.set_cons_succ])
  refine HeldK.take (i := 3) (some 28) (.pointer (some ⟨g, 4, none⟩)) rfl (by rfl) (by kernel_rfl) (by kernel_rfl) (by kernel_rfl) (by kernel_rfl) (by kernel_rfl) (fun _ _ _ h => h) (fun w hSw => (by (try dsimp only at hSw); go_simp)) hH ?_
  (try simp only [Act.put, List.setIfInBounds_toArray, List.set_cons_zero, List.set_cons_succ])
  refine HeldK.take (i := 4) (some 29) (.slice Aw lw cw) rfl (by rfl) (by kernel_rfl) (by kernel_rfl) (by kernel_rfl) (by kernel_rfl) (by kernel_rfl) (fun _ _ _ h => h) (fun w hSw => (by (try dsimp only at hSw); go_simp)) hH ?_
  (try simp only [Act.put, List.setIfInBounds_toArray, List.set_cons_zero, List.set_cons_succ])
  refine HeldK.take (i := 5) (some 30) (.pointer (some ⟨g, 0, none⟩)) rfl (by rfl) (by kernel_rfl) (by kernel_rfl) (by kernel_rfl) (by kernel_rfl) (by kernel_rfl) (fun _ _ _ h => h) (fun w hSw => (by (try dsimp only at hSw); go_simp)) hH ?_
  (try simp only [Act.put, List.setIfInBounds_toArray, List.set_cons_zero, List.set_cons_succ])
  refine HeldK.take (i := 6) (some 31) (.pointer (some ⟨g, 0, none⟩)) rfl (by rfl) (by kernel_rfl) (by kernel_rfl) (by kernel_rfl) (by kernel_rfl) (by kernel_rfl) (fun _ _ _ h => h) (fun w hSw => (by (try dsimp only at hSw); go_simp)) hH ?_
  (try simp only [Act.put, List.setIfInBounds_toArray, List.set_cons_zero, List.set_cons_succ])
  refine HeldK.take (i := 7) (some 32) (.pointer (some ⟨g, 3, none⟩)) rfl (by rfl) (by kernel_rfl) (by kernel_rfl) (by kernel_rfl) (by kernel_rfl) (by kernel_rfl) (fun _ _ _ h => h) (fun w hSw => (by (try dsimp only at hSw); go_simp)) hH ?_
  (try simp only [Act.put, List.setIfInBounds_toArray, List.set_cons_zero, List.set_cons_succ])
  refine HeldK.take (i := 8) (some 33) (.int .i64 (ep : Int)) rfl (by rfl) (by kernel_rfl) (by kernel_rfl) (by kernel_rfl) (by kernel_rfl) (by kernel_rfl) (fun _ _ _ h => h) (fun w hSw => (by (try dsimp only at hSw); go_simp)) hH ?_
  (try simp only [Act.put, List.setIfInBounds_toArray, List.set_cons_zero, List.set_cons_succ])
  refine HeldK.take (i := 9) (some 34) (.pointer (some ⟨g, 0, none⟩)) rfl (by rfl) (by kernel_rfl) (by kernel_rfl) (by kernel_rfl) (by kernel_rfl) (by kernel_rfl) (fun _ _ _ h => h) (fun w hSw => (by (try dsimp only at hSw); go_simp)) hH ?_
  (try simp only [Act.put, List.setIfInBounds_toArray, List.set_cons_zero, List.set_cons_succ])
  refine HeldK.take (i := 10) (some 35) (.pointer (some ⟨g, 0, none⟩)) rfl (by rfl) (by kernel_rfl) (by kernel_rfl) (by kernel_rfl) (by kernel_rfl) (by kernel_rfl) (fun _ _ _ h => h) (fun w hSw => (by (try dsimp only at hSw); go_simp)) hH ?_
  (try simp only [Act.put, List.setIfInBounds_toArray, List.set_cons_zero, List.set_cons_succ])
  refine HeldK.take (i := 11) (some 36) (.pointer (some ⟨g, 5, none⟩)) rfl (by rfl) (by kernel_rfl) (by kernel_rfl) (by kernel_rfl) (by kernel_rfl) (by kernel_rfl) (fun _ _ _ h => h) (fun w hSw => (by (try dsimp only at hSw); go_simp)) hH ?_
  (try simp only [Act.put, List.setIfInBounds_toArray, List.set_cons_zero, List.set_cons_succ])
  refine HeldK.take (i := 12) (some 37) (.slice Af nf cf) rfl (by rfl) (by kernel_rfl) (by kernel_rfl) (by kernel_rfl) (by kernel_rfl) (by kernel_rfl) (fun _ _ _ h => h) (fun w hSw => (by (try dsimp only at hSw); go_simp)) hH ?_
  (try simp only [Act.put, List.setIfInBounds_toArray, List.set_cons_zero, List.set_cons_succ])
  refine HeldK.take (i := 13) (some 38) (.int .i64 (nf : Int)) rfl (by rfl) (by kernel_rfl) (by kernel_rfl) (by kernel_rfl) (by kernel_rfl) (by kernel_rfl) (fun _ _ _ h => h) (fun w hSw => (by (try dsimp only at hSw); go_simp)) hH ?_
  (try simp only [Act.put, List.setIfInBounds_toArray, List.set_cons_zero, List.set_cons_succ])
  refine HeldK.take (i := 14) (some 39) (.agg #[.int .i64 (k : Int), .slice A m c]) rfl (by rfl) (by kernel_rfl) (by kernel_rfl) (by kernel_rfl) (by kernel_rfl) (by kernel_rfl) (fun _ _ _ h => h) (fun w hSw => (by (try dsimp only at hSw); go_simp)) hH ?_
  (try simp only [Act.put, List.setIfInBounds_toArray, List.set_cons_zero, List.set_cons_succ])
  have hgw := HL0.out.gw
  have hgf := HL0.out.gf
  have HGW := Lib.hid hgw
  have HGF := Lib.hid hgf
  have HBW : Hid (¬ OW bx) := Lib.hid (fun hb => Nat.lt_irrefl _ (by have h1 := HOWb.out _ hb; rw [← Hbx.out] at h1; exact h1))
  have HBG : Hid (g ≠ bx) := Lib.hid (by have h1 := HL0.out.lt; have h2 := Hbx.out; omega)
  have Hlim : Hid (lw + (m + 1) ≤ 1000000) := Lib.hid (by have h1 := HF.out; have h2 := HLW.out; have h3 := Hn.out; omega)
  clear hgw hgf
  refine HeldK.step (i := 15) (by kernel_rfl) rfl (fun K' hK' => ?_)
  rw [if_pos (by rfl)]
  go_simp
  go_at_call 27; (with_reducible refine (fput_at Hep Hnf9 Hb HLm HWSl HCd Hys).mono ?_); rintro en w4 ⟨A4, c4, rfl, HC4, HB4⟩
  have s44 := (HB4.out.cell (p := ⟨g, 4, none⟩) zg).trans s4
  have s43 := (HB4.out.cell (p := ⟨g, 3, none⟩) zg).trans s3
  have s45 := (HB4.out.cell (p := ⟨g, 5, none⟩) zg).trans s5
  have b40 := (HB4.out.cell (p := ⟨bx, 0, none⟩) zb).trans b0
  have b41 := (HB4.out.cell (p := ⟨bx, 1, none⟩) zb).trans b1
  have zg4 := Nat.lt_of_lt_of_le zg HB4.out.size
  have zb4 := Nat.lt_of_lt_of_le zb HB4.out.size
  have HW4 : Hid (WRow w4 OW Aw cw ws) := Lib.hid (HW3.out.kept (S := fun _ => False) ((Chg.refl _ w3).drew.trans (Chg.of_below HB4.out)) (fun _ _ => id))
  clear s4 s3 s5 b0 b1
  refine hK'.out _ _ ⟨s44, s43, s45, b40, b41⟩ (fun hH2 => ?_)
  clear hK' K' hH
  (try simp only [Act.put, List.setIfInBounds_toArray, List.set_cons_zero, List.set_cons_succ])
  refine HeldK.step (i := 16) (by kernel_rfl) rfl (fun K' hK' => ?_)
  refine app_wrow_step 23 30 Try.underlying23 Sums.infoU64 rfl rfl _ _ (by rfl) Aw lw cw ws A4 (m + 1) c4 ys (by rfl) (by rfl) HW4 HLW HC4 HWSy (Lib.hid (Nat.succ_pos m)) Hlim ?_
  intro A5 c5 w5 HW5 HC5
  have s54 := (HC5.out.cell (p := ⟨g, 4, none⟩) zg4 HGW.out).trans s44
  have s53 := (HC5.out.cell (p := ⟨g, 3, none⟩) zg4 HGW.out).trans s43
  have s55 := (HC5.out.cell (p := ⟨g, 5, none⟩) zg4 HGW.out).trans s45
  have b50 := (HC5.out.cell (p := ⟨bx, 0, none⟩) zb4 HBW.out).trans b40
  have b51 := (HC5.out.cell (p := ⟨bx, 1, none⟩) zb4 HBW.out).trans b41
  have HC35 : Hid (Chg OW w3 w5) := Lib.hid ((Chg.refl _ w3).drew.trans ((Chg.of_below HB4.out).trans HC5.out))
  have BG5 := Lib.hid (HC35.out.blk HG3.out HGW.out)
  have BX5 := Lib.hid (HC35.out.blk BX3.out HBW.out)
  have f54 := BG5.out.frozen 4
  have z54 := BG5.out.lt
  clear s44 s43 s45 b40 b41
  refine hK'.out _ _ ⟨s54, s53, s55, b50, b51⟩ (fun hH3 => ?_)
  clear hK' K' hH2
  (try simp only [Act.put, List.setIfInBounds_toArray, List.set_cons_zero, List.set_cons_succ])
  refine HeldK.take (i := 17) (some 42) (.pointer (some ⟨g, 0, none⟩)) rfl (by rfl) (by kernel_rfl) (by kernel_rfl) (by kernel_rfl) (by kernel_rfl) (by kernel_rfl) (fun _ _ _ h => h) (fun w hSw => (by (try dsimp only at hSw); go_simp)) hH3 ?_
  (try simp only [Act.put, List.setIfInBounds_toArray, List.set_cons_zero, List.set_cons_succ])
  refine HeldK.take (i := 18) (some 43) (.pointer (some ⟨g, 4, none⟩)) rfl (by rfl) (by kernel_rfl) (by kernel_rfl) (by kernel_rfl) (by kernel_rfl) (by kernel_rfl) (fun _ _ _ h => h) (fun w hSw => (by (try dsimp only at hSw); go_simp)) hH3 ?_
  (try simp only [Act.put, List.setIfInBounds_toArray, List.set_cons_zero, List.set_cons_succ])
  refine HeldK.last (by kernel_rfl) rfl (fun K' hK' => ?_)
  rw [if_pos (by rfl)]
  go_simp
  refine hK'.out _ _ ?_
  clear hK' K' hH3
  refine HeldK.done (by kernel_rfl) ?_ _
  obtain ⟨W6, hW6⟩ : ∃ W6, W6 = w5.setCell ⟨g, 4, none⟩ (.slice A5 (lw + (m + 1)) c5) := ⟨_, rfl⟩
  have hs6 : W6.heap.size = w5.heap.size := by rw [hW6]; exact size_set _ _ _
  have HC36 : Hid (Chg (fun k => k = g ∨ OW k) w3 W6) := by rw [hW6]; exact Lib.hid ((HC35.out.mono (fun k hk => Or.inr hk)).trans (Chg.set (Or.inl rfl) _ _))
  have BG6 : Hid (Blk W6 g [.pointer (some ⟨d, 0, none⟩), .int .i64 (fr : Int), .int .i64 (n : Int), .int .i64 (ep : Int), .slice A5 (lw + (m + 1)) c5, .slice Af nf cf] 127) := by rw [hW6]; exact Lib.hid (BG5.out.set 4 _)
  have BX6 : Hid (Blk W6 bx [.int .i64 (k : Int), .slice A m c] 40) := by rw [hW6]; exact Lib.hid (BX5.out.other (fun e => HBG.out e.symm) _)
  have HF6 : Hid (kF.R 40 W6 0 OF (.slice Af nf cf) fs) := Lib.hid (Kd.R_step HF3.out (fun k hk hlt => HC36.out.block k hlt (fun h => h.elim (fun e => HGF.out (e ▸ hk)) (fun h => HL0.out.apart k h hk))))
  have HS34 : Hid (w.heap.size ≤ w4.heap.size) := Lib.hid (Nat.le_trans HB03.out.size HB4.out.size)
  have HG4 : Hid (¬ ((OW g ∨ w4.heap.size ≤ g) ∧ g < w5.heap.size)) := Lib.hid (fun h => h.1.elim HGW.out (fun h => Nat.lt_irrefl _ (Nat.lt_of_lt_of_le zg4 h)))
  have HW6 : Hid (WRow W6 (fun k => (OW k ∨ w4.heap.size ≤ k) ∧ k < w5.heap.size) A5 c5 (ws ++ ys)) := by rw [hW6]; exact Lib.hid (HW5.out.kept (S := fun k => k = g) (Chg.set (S := fun k => k = g) rfl _ _) (fun k hk e => HG4.out (e ▸ hk)))
  have HC06 : Hid (Chg (fun k => k = g ∨ OW k) w W6) := Lib.hid ((Chg.of_below HB03.out).trans HC36.out)
  have HCl6 : Hid ((Kd.int .u64).C W6.drew A m l) := Lib.hid (HCl.out _ HC06.out.drew)
  have HS45 : Hid (w4.heap.size ≤ W6.heap.size) := Lib.hid (by rw [hs6]; exact HC5.out.size)
  have HS65 := Lib.hid hs6
  have HOF6 : Hid (∀ k, OF k → k < W6.heap.size) := Lib.hid (fun k hk => Nat.lt_of_lt_of_le (HOFb.out k hk) HC06.out.size)
  rw [← hW6]
  clear hW6 hs6 s54 s53 s55 b50 b51 f54 z54 zg zb zg4 zb4
  have s65 : W6.cell? ⟨g, 5, none⟩ = some (.slice Af nf cf) := BG6.out.cell 5
  have b60 : W6.cell? ⟨bx, 0, none⟩ = some (.int .i64 (k : Int)) := BX6.out.cell 0
  have b61 : W6.cell? ⟨bx, 1, none⟩ = some (.slice A m c) := BX6.out.cell 1
  have zg := BG6.out.lt
  have zb := BX6.out.lt
  go_wp2
  refine HeldK.begin_ 15 (fun w' => w'.cell? ⟨g, 5, none⟩ = some (.slice Af nf cf) ∧ w'.cell? ⟨bx, 0, none⟩ = some (.int .i64 (k : Int)) ∧ w'.cell? ⟨bx, 1, none⟩ = some (.slice A m c)) (by kernel_rfl) ⟨s65, b60, b61⟩ (fun hJ => ?_)
  refine HeldK.take (i := 0) (some 44) (.pointer (some ⟨g, 0, none⟩)) rfl (by rfl) (by kernel_rfl) (by kernel_rfl) (by kernel_rfl) (by kernel_rfl) (by kernel_rfl) (fun _ _ _ h => h) (fun w hSw => (by (try dsimp only at hSw); go_simp)) hJ ?_
  (try simp only [Act.put, List.setIfInBounds_toArray, List.set_cons_zero, List.set_cons_succ])
  refine HeldK.take (i := 1) (some 45) (.pointer (some ⟨g, 0, none⟩)) rfl (by rfl) (by kernel_rfl) (by kernel_rfl) (by kernel_rfl) (by kernel_rfl) (by kernel_rfl) (fun _ _ _ h => h) (fun w hSw => (by (try dsimp only at hSw); go_simp)) hJ ?_
  (try simp only [Act.put, List.setIfInBounds_toArray, List.set_cons_zero, List.set_cons_succ])
  refine HeldK.take (i := 2) (some 46) (.pointer (some ⟨g, 0, none⟩)) rfl (by rfl) (by kernel_rfl) (by kernel_rfl) (by kernel_rfl) (by kernel_rfl) (by kernel_rfl) (fun _ _ _ h => h) (fun w hSw => (by (try dsimp only at hSw); go_simp)) hJ ?_
  (try simp only [Act.put, List.setIfInBounds_toArray, List.set_cons_zero, List.set_cons_succ])
  refine HeldK.take (i := 3) (some 47) (.pointer (some ⟨g, 5, none⟩)) rfl (by rfl) (by kernel_rfl) (by kernel_rfl) (by kernel_rfl) (by kernel_rfl) (by kernel_rfl) (fun _ _ _ h => h) (fun w hSw => (by (try dsimp only at hSw); go_simp)) hJ ?_
  (try simp only [Act.put, List.setIfInBounds_toArray, List.set_cons_zero, List.set_cons_succ])
  refine HeldK.take (i := 4) (some 48) (.slice Af nf cf) rfl (by rfl) (by kernel_rfl) (by kernel_rfl) (by kernel_rfl) (by kernel_rfl) (by kernel_rfl) (fun _ _ _ h => h) (fun w hSw => (by (try dsimp only at hSw); go_simp)) hJ ?_
  (try simp only [Act.put, List.setIfInBounds_toArray, List.set_cons_zero, List.set_cons_succ])
  refine HeldK.take (i := 5) (some 49) (.pointer (some ⟨bx, 0, none⟩)) rfl (by rfl) (by kernel_rfl) (by kernel_rfl) (by kernel_rfl) (by kernel_rfl) (by kernel_rfl) (fun _ _ _ h => h) (fun w hSw => (by (try dsimp only at hSw); go_simp)) hJ ?_
  (try simp only [Act.put, List.setIfInBounds_toArray, List.set_cons_zero, List.set_cons_succ])
  refine HeldK.take (i := 6) (some 50) (.int .i64 (k : Int)) rfl (by rfl) (by kernel_rfl) (by kernel_rfl) (by kernel_rfl) (by kernel_rfl) (by kernel_rfl) (fun _ _ _ h => h) (fun w hSw => (by (try dsimp only at hSw); go_simp)) hJ ?_
  (try simp only [Act.put, List.setIfInBounds_toArray, List.set_cons_zero, List.set_cons_succ])
  refine HeldK.take (i := 7) (some 51) (.pointer (some ⟨bx, 1, none⟩)) rfl (by rfl) (by kernel_rfl) (by kernel_rfl) (by kernel_rfl) (by kernel_rfl) (by kernel_rfl) (fun _ _ _ h => h) (fun w hSw => (by (try dsimp only at hSw); go_simp)) hJ ?_
  (try simp only [Act.put, List.setIfInBounds_toArray, List.set_cons_zero, List.set_cons_succ])
  refine HeldK.take (i := 8) (some 52) (.slice A m c) rfl (by rfl) (by kernel_rfl) (by kernel_rfl) (by kernel_rfl) (by kernel_rfl) (by kernel_rfl) (fun _ _ _ h => h) (fun w hSw => (by (try dsimp only at hSw); go_simp)) hJ ?_
  (try simp only [Act.put, List.setIfInBounds_toArray, List.set_cons_zero, List.set_cons_succ])
  refine HeldK.step (i := 9) (by kernel_rfl) rfl (fun K' hK' => ?_)
  rw [if_pos (by rfl)]
  go_simp
  go_at_call 74; (with_reducible refine (clone_at HLm Hm2 HCl6 Hnil).mono ?_); rintro en w7 ⟨A7, c7, rfl, HR7, HB7⟩
  have s75 := (HB7.out.cell (p := ⟨g, 5, none⟩) zg).trans s65
  have b70 := (HB7.out.cell (p := ⟨bx, 0, none⟩) zb).trans b60
  have b71 := (HB7.out.cell (p := ⟨bx, 1, none⟩) zb).trans b61
  have zg7 := Nat.lt_of_lt_of_le zg HB7.out.size
  have zb7 := Nat.lt_of_lt_of_le zb HB7.out.size
  clear s65 b60 b61
  refine hK'.out _ _ ⟨s75, b70, b71⟩ (fun hJ2 => ?_)
  clear hK' K' hJ
  (try simp only [Act.put, List.setIfInBounds_toArray, List.set_cons_zero, List.set_cons_succ])
  refine HeldK.take (i := 10) (some 54) (.agg #[.int .i64 (k : Int), .slice A7 m c7]) rfl (by rfl) (by kernel_rfl) (by kernel_rfl) (by kernel_rfl) (by kernel_rfl) (by kernel_rfl) (fun _ _ _ h => h) (fun w hSw => (by (try dsimp only at hSw); go_simp)) hJ2 ?_
  (try simp only [Act.put, List.setIfInBounds_toArray, List.set_cons_zero, List.set_cons_succ])
  refine HeldK.step (i := 11) (by kernel_rfl) rfl (fun K' hK' => ?_)
  rw [if_pos (by rfl)]
  go_simp
  have HBa : Hid (Below w7.heap.size w7 (w7.alloc (.cells #[.int .i64 (k : Int), .slice A7 m c7] 40))) := Lib.hid ((Below.refl _ w7).alloc (Nat.le_refl _) _)
  have s85 := (HBa.out.cell (p := ⟨g, 5, none⟩) zg7).trans s75
  have b80 := (HBa.out.cell (p := ⟨bx, 0, none⟩) zb7).trans b70
  have b81 := (HBa.out.cell (p := ⟨bx, 1, none⟩) zb7).trans b71
  refine hK'.out _ _ ⟨s85, b80, b81⟩ (fun hJ3 => ?_)
  clear hK' K' hJ2
  (try simp only [Act.put, List.setIfInBounds_toArray, List.set_cons_zero, List.set_cons_succ])
  have HF7 : Hid (kF.R 40 w7 0 OF (.slice Af nf cf) fs) := Lib.hid (Kd.R_step HF6.out (fun k hk hlt => HB7.out.block k hlt))
  have HS7 : Hid (W6.heap.size ≤ w7.heap.size) := Lib.hid HB7.out.size
  have HR7' : Hid ((Kd.int .u64).R 30 w7 W6.heap.size (fun _ => True) (.slice A7 m c7) (PFramesGet.S40.f1 ⟨(k : Int), l⟩)) := Lib.hid HR7.out
  have HLm' : Hid ((PFramesGet.S40.f1 ⟨(k : Int), l⟩).length = m) := Lib.hid HLm.out
  have Hnf6 : Hid (nf ≤ 1000000) := Lib.hid (by have h1 := Hfs.out; have h2 := HNF.out; omega)
  refine HeldK.step (i := 12) (by kernel_rfl) rfl (fun K' hK' => ?_)
  refine app_frow_step 42 Try.underlying42 PFramesGet.info40 rfl _ _ (by rfl) Af nf cf fs ⟨(k : Int), l⟩ m W6.heap.size A7 c7 (by rfl) (by rfl) HF7 HNF HLm' HOF6 HS7 HR7' Hnf6 ?_
  intro A8 c8 w8 HF8 HC8
  have HCf : Hid (Chg OF W6 w8) := Lib.hid ((Chg.refl _ W6).drew.trans ((Chg.of_below HB7.out).trans HC8.out))
  have HBF : Hid (¬ OF bx) := Lib.hid (fun hb => Nat.lt_irrefl _ (by have h1 := HOFb.out _ hb; rw [← Hbx.out] at h1; exact h1))
  have BG8 := Lib.hid (HCf.out.blk BG6.out HGF.out)
  have BX8 := Lib.hid (HCf.out.blk BX6.out HBF.out)
  have s95 : w8.cell? ⟨g, 5, none⟩ = some (.slice Af nf cf) := BG8.out.cell 5
  have b90 : w8.cell? ⟨bx, 0, none⟩ = some (.int .i64 (k : Int)) := BX8.out.cell 0
  have b91 : w8.cell? ⟨bx, 1, none⟩ = some (.slice A m c) := BX8.out.cell 1
  have f95 := BG8.out.frozen 5
  have z95 := BG8.out.lt
  clear s85 b80 b81 s75 b70 b71
  refine hK'.out _ _ ⟨s95, b90, b91⟩ (fun hJ4 => ?_)
  clear hK' K' hJ3
  (try simp only [Act.put, List.setIfInBounds_toArray, List.set_cons_zero, List.set_cons_succ])
  refine HeldK.take (i := 13) (some 57) (.pointer (some ⟨g, 0, none⟩)) rfl (by rfl) (by kernel_rfl) (by kernel_rfl) (by kernel_rfl) (by kernel_rfl) (by kernel_rfl) (fun _ _ _ h => h) (fun w hSw => (by (try dsimp only at hSw); go_simp)) hJ4 ?_
  (try simp only [Act.put, List.setIfInBounds_toArray, List.set_cons_zero, List.set_cons_succ])
  refine HeldK.take (i := 14) (some 58) (.pointer (some ⟨g, 5, none⟩)) rfl (by rfl) (by kernel_rfl) (by kernel_rfl) (by kernel_rfl) (by kernel_rfl) (by kernel_rfl) (fun _ _ _ h => h) (fun w hSw => (by (try dsimp only at hSw); go_simp)) hJ4 ?_
  (try simp only [Act.put, List.setIfInBounds_toArray, List.set_cons_zero, List.set_cons_succ])
  refine HeldK.last (by kernel_rfl) rfl (fun K' hK' => ?_)
  rw [if_pos (by rfl)]
  go_simp
  refine hK'.out _ _ ?_
  clear hK' K' hJ4
  refine HeldK.done (by kernel_rfl) ?_ _
  obtain ⟨W9, hW9⟩ : ∃ W9, W9 = w8.setCell ⟨g, 5, none⟩ (.slice A8 (nf + 1) c8) := ⟨_, rfl⟩
  have hs9 : W9.heap.size = w8.heap.size := by rw [hW9]; exact size_set _ _ _
  have HC69 : Hid (Chg (fun k => k = g ∨ OF k) W6 W9) := by rw [hW9]; exact Lib.hid ((HCf.out.mono (fun k hk => Or.inr hk)).trans (Chg.set (Or.inl rfl) _ _))
  have BG9 : Hid (Blk W9 g [.pointer (some ⟨d, 0, none⟩), .int .i64 (fr : Int), .int .i64 (n : Int), .int .i64 (ep : Int), .slice A5 (lw + (m + 1)) c5, .slice A8 (nf + 1) c8] 127) := by rw [hW9]; exact Lib.hid (BG8.out.set 5 _)
  have HLg9 : Hid (Lg W9 g d fr n ep (ws ++ ys) (fs ++ [⟨(k : Int), l⟩]) (fun k => (OW k ∨ w4.heap.size ≤ k) ∧ k < W6.heap.size) (fun k => (OF k ∨ W6.heap.size ≤ k) ∧ k < W9.heap.size)) := by
    have e1 : (ws ++ ys).length = lw + (m + 1) := by rw [List.length_append, HLW.out, ← Hys.out, List.length_cons, HLm.out]
    have e2 : (fs ++ [(⟨(k : Int), l⟩ : Fr)]).length = nf + 1 := by rw [List.length_append, HNF.out]; rfl
    refine Lib.hid (lg_make (Af := A8) (Aw := A5) (cw := c5) (cf := c8) HL0.out HS34.out HS45.out HC69.out.size ?_ ?_ ?_)
    · rw [e1, e2]; exact BG9.out
    · have h1 := HW6.out
      rw [← HS65.out] at h1
      refine h1.kept HC69.out (fun k hk h => h.elim (fun e => ?_) (fun h => ?_))
      · rw [HS65.out, e] at hk; exact HG4.out hk
      · rcases hk.1 with h2 | h2
        · exact HL0.out.apart k h2 h
        · exact Nat.lt_irrefl _ (Nat.lt_of_lt_of_le (HOFb.out k h) (Nat.le_trans HS34.out h2))
    · rw [e2, hs9]
      refine Kd.R_step HF8.out (fun k hk hlt => ?_)
      rw [hW9]
      refine Below.heap_setCell _ _ _ _ (fun e => ?_)
      have hk' : k = g := e
      rw [hk'] at hk
      rcases hk.1 with h2 | h2
      · exact HGF.out h2
      · exact Nat.lt_irrefl _ (Nat.lt_of_lt_of_le zg h2)
  have HC09 : Hid (Chg (fun k => k = g ∨ OW k ∨ OF k) w W9) := Lib.hid ((HC06.out.mono (fun k hk => hk.elim Or.inl (fun h => Or.inr (Or.inl h)))).trans (HC69.out.mono (fun k hk => hk.elim Or.inl (fun h => Or.inr (Or.inr h)))))
  have HD9 : Hid (Dsk W9 d lb mb L M) := Lib.hid (H.out.kept HC09.out
    (fun h => h.elim (fun e => Hfar.out.1 (e ▸ Or.inl rfl)) (fun h => h.elim (fun h => Hfar.out.2.1 _ h (Or.inl rfl)) (fun h => Hfar.out.2.2 _ h (Or.inl rfl))))
    (fun h => h.elim (fun e => Hfar.out.1 (e ▸ Or.inr (Or.inl rfl))) (fun h => h.elim (fun h => Hfar.out.2.1 _ h (Or.inr (Or.inl rfl))) (fun h => Hfar.out.2.2 _ h (Or.inr (Or.inl rfl)))))
    (fun h => h.elim (fun e => Hfar.out.1 (e ▸ Or.inr (Or.inr rfl))) (fun h => h.elim (fun h => Hfar.out.2.1 _ h (Or.inr (Or.inr rfl))) (fun h => Hfar.out.2.2 _ h (Or.inr (Or.inr rfl))))))
  have Hold : Hid (∀ k, TD d lb mb k → k < w.heap.size) := Lib.hid (fun k hk => by
    rcases hk with rfl | rfl | rfl
    · exact H.out.ltd
    · exact H.out.ltl
    · exact H.out.ltm)
  have HFar9 : Hid ((¬ TD d lb mb g) ∧ (∀ k, ((OW k ∨ w4.heap.size ≤ k) ∧ k < W6.heap.size) → ¬ TD d lb mb k) ∧ (∀ k, ((OF k ∨ W6.heap.size ≤ k) ∧ k < W9.heap.size) → ¬ TD d lb mb k)) := Lib.hid ⟨Hfar.out.1,
    fun k hk h => hk.1.elim (fun h2 => Hfar.out.2.1 k h2 h) (fun h2 => Nat.lt_irrefl _ (Nat.lt_of_lt_of_le (Hold.out k h) (Nat.le_trans HS34.out h2))),
    fun k hk h => hk.1.elim (fun h2 => Hfar.out.2.2 k h2 h) (fun h2 => Nat.lt_irrefl _ (Nat.lt_of_lt_of_le (Hold.out k h) (Nat.le_trans HC06.out.size h2)))⟩
  have HLEN : Hid ((ws ++ ys).length ≤ n * 8) := Lib.hid (by rw [List.length_append, ← Hys.out, List.length_cons, HLm.out]; exact HF.out)
  have HAT : Hid (lw < (ws ++ ys).length) := Lib.hid (by rw [List.length_append, HLW.out, ← Hys.out, List.length_cons]; exact Nat.lt_add_of_pos_right (Nat.succ_pos _))
  rw [← hW9]
  clear hW9 hs9 s95 b90 b91 f95 z95 zg zb zg7 zb7
  go_wp2_with (go_at_call 94; (with_reducible refine (lwrite_at HD9 HLg9 HAT Hfr HLEN HFar9).mono ?_); rintro en w10 ⟨rfl, HD10, HL10, HC10⟩)
  go_ret
  refine ⟨_, _, rfl, by rw [HLW.out]; exact HD10.out, HL10.out, fun k hk => hk.1.elim Or.inl (fun h => Or.inr (Nat.le_trans HS34.out h)), fun k hk => hk.1.elim Or.inl (fun h => Or.inr (Nat.le_trans HC06.out.size h)), (HC09.out.mono (fun k hk => Or.inr hk)).trans (HC10.out.mono (fun k hk => Or.inl hk))⟩
end Go.Proofs.Ytmeoiennniknlaa.Log
