/- Package log: slices.Equal of words, disk.Lasting, log.Cost. The two logs in memory; Words, Room, Epoch. (*log.Log).sector. log.read. gimmalref08.Words. (*log.Log).clear: plain laws and small contracts for it. The walk of (*log.Log).clear. For log.Open: words[:end:end]; what All tells. -/
import Derived.Test.YtmeoiennniknlaaFrD
import Derived.Test.YtmeoiennniknlaaRk
namespace Go.Proofs.Ytmeoiennniknlaa.Log
open Go.RowKit Go.Shelf Go.Proofs.YtmeoiennniknlaaW.PrintWords Go.Proofs.Ytmeoiennniknlaa.Lb Go.Proofs.Ytmeoiennniknlaa.Frames
open Go.Proofs.Ytmeoiennniknlaa.Disk (Chg Sec secC secC_at agg8 thB Dsk cur upd)
open Go.Proofs.Ytmeoiennniknlaa.Anchor (Blk zero8)
set_option linter.unusedVariables false
set_option linter.unusedSimpArgs false

theorem kq_less {i g n : Nat} (h : i + g = n) (hl : i < n) : g - 1 < g := by omega
theorem kq_next {i g n : Nat} (h : i + g = n) (hl : i < n) : i + 1 + (g - 1) = n := by omega
theorem w64s {n : Int} (h0 : 0 ≤ n) (h1 : n < 9223372036854775807) : wrap64 (n + 1) = n + 1 := by unfold wrap64; omega

set_option maxRecDepth 100000 in
set_option maxHeartbeats 1000000 in
theorem equal_any (w : World) (A0 A1 : Option Addr) (c0 c1 : Nat) (l m : List Int) (hlen : l.length ≤ 140737488351232) (hlm : m.length = l.length) (hC0 : (Kd.int .u64).C w A0 l.length l) (hC1 : (Kd.int .u64).C w A1 m.length m) :
    Calls Try.prog 105 #[.slice A0 l.length c0, .slice A1 l.length c1] w fun e w' => e = .returned (.bool (decide (l = m))) ∧ Below w.heap.size w w' := by
  have HC0 := Lib.hid hC0
  have HC1 := Lib.hid hC1
  have HB := Lib.hid (Below.refl w.heap.size w)
  have hL : (l.length : Int) ≤ 140737488351232 := by omega
  have HLM := Lib.hid hlm
  have HT : Hid (∀ j, j < 0 → l[j]? = m[j]?) := Lib.hid (fun j hj => absurd hj (Nat.not_lt_zero _))
  obtain ⟨b, hb⟩ : ∃ b, decide (l = m) = b := ⟨_, rfl⟩
  have Hb0 := Lib.hid hb
  rw [hb]
  clear hC0 hC1 hlen hlm hb
  go_enter Try.func105, Try.ntmps105
  go_wp2
  go_loopg [13] l.length (fun kq v13 w' => ∃ (i : Nat), v13 = .int .i64 (i : Int) ∧ Hid (i + kq = l.length) ∧ Hid (∀ j, j < i → l[j]? = m[j]?) ∧ Hid (Below w.heap.size w w'))
  case atStart => exact ⟨0, rfl, Lib.hid (by omega), HT, HB⟩
  case round =>
    obtain ⟨i, rfl, Hi, Ht, Hb⟩ := hrel
    by_cases h : i < l.length
    · have hi : (i : Int) < (l.length : Int) := by omega
      have hm : i < m.length := by have := HLM.out; omega
      obtain ⟨ad0, rfl, x0⟩ := C_cell (Kd.C_below HC0.out Hb.out) i h
      obtain ⟨ad1, rfl, x1⟩ := C_cell (Kd.C_below HC1.out Hb.out) i hm
      obtain ⟨v, hv⟩ : ∃ v, v = l[i] := ⟨_, rfl⟩
      obtain ⟨u, hu⟩ : ∃ u, u = m[i] := ⟨_, rfl⟩
      rw [← hv] at x0
      rw [← hu] at x1
      have Hv := Lib.hid hv
      have Hu := Lib.hid hu
      have hw : wrap64 ((i : Int) + 1) = (i : Int) + 1 := w64s (by omega) (by omega)
      clear hv hu
      by_cases hvu : v = u
      · subst hvu
        go_wp2
        go_quiet (fail)
        go_wp2
        go_roundg (gk - 1)
        case measure => exact kq_less Hi.out h
        case rel =>
          refine ⟨i + 1, by simp, Lib.hid (kq_next Hi.out h), Lib.hid (fun j hj => ?_), Lib.hid (pw_below_drewN Hb.out _)⟩
          by_cases e : j = i
          · subst e
            rw [List.getElem?_eq_getElem h, List.getElem?_eq_getElem hm, ← Hv.out, ← Hu.out]
          · exact Ht.out j (by omega)
      · have hne : (v == u) = false := by simp [hvu]
        have hne2 : (v != u) = true := by simp [hvu]
        go_wp2
        go_quiet (fail)
        go_wp2
        go_ret
        refine ⟨?_, pw_below_drewN Hb.out _⟩
        have hlm : l ≠ m := by
          rintro rfl
          exact hvu (Hv.out.trans Hu.out.symm)
        rw [← Hb0.out]
        simp [hlm]
    · have hi : (l.length : Int) ≤ (i : Int) := by omega
      have hlm : l = m := by
        apply List.ext_getElem?
        intro j
        by_cases hj : j < l.length
        · exact Ht.out j (by omega)
        · rw [List.getElem?_eq_none (by omega), List.getElem?_eq_none (by have := HLM.out; omega)]
      have HE := Lib.hid hlm
      clear hlm
      go_wp2
      go_ret
      refine ⟨?_, Hb.out⟩
      rw [← Hb0.out]
      simp [HE.out]

set_option maxRecDepth 100000 in
set_option maxHeartbeats 1000000 in
theorem lasting_any {w : World} {d lb mb : Nat} {L : List (List Int)} {M : Nat → Option (List Int)} (h : Dsk w d lb mb L M) (i : Nat) (hi : i < L.length) (s0 s1 s2 s3 s4 s5 s6 s7 : Int) (hs : L.getD i [] = [s0, s1, s2, s3, s4, s5, s6, s7]) :
    Calls Try.prog 68 #[.pointer (some ⟨d, 0, none⟩), .int .i64 (i : Int)] w fun en w' => en = .returned (agg8 s0 s1 s2 s3 s4 s5 s6 s7) ∧ Below w.heap.size w w' := by
  obtain ⟨V, hV⟩ : ∃ V, V = w.alloc (.cells #[.int .u64 0, .int .u64 0, .int .u64 0, .int .u64 0, .int .u64 0, .int .u64 0, .int .u64 0, .int .u64 0] 59) := ⟨_, rfl⟩
  have H : Hid (Dsk V d lb mb L M) := by rw [hV]; exact Lib.hid (h.alloc _)
  have HBV : Hid (Below w.heap.size w V) := by rw [hV]; exact Lib.hid ((Below.refl _ w).alloc (Nat.le_refl _) _)
  have BV : Hid (Blk V w.heap.size [.int .u64 0, .int .u64 0, .int .u64 0, .int .u64 0, .int .u64 0, .int .u64 0, .int .u64 0, .int .u64 0] 59) := by rw [hV]; exact Lib.hid (Blk.new w [.int .u64 0, .int .u64 0, .int .u64 0, .int .u64 0, .int .u64 0, .int .u64 0, .int .u64 0, .int .u64 0] 59)
  have HT : Hid (thB (i : Int) L.length = true) := Lib.hid (by simp [thB, hi])
  obtain ⟨wr, sy, ho⟩ := H.out.obj
  obtain ⟨y0, y1, y2, y3, y4, y5, y6, y7, hy, c0, c1, c2, c3, c4, c5, c6, c7⟩ := RDisk.sec_cells H.out.las H.out.secs i hi
  rw [hs] at hy
  simp only [List.cons.injEq, and_true] at hy
  obtain ⟨rfl, rfl, rfl, rfl, rfl, rfl, rfl, rfl⟩ := hy
  have q := ho.cell
  have q2 := BV.out.cell
  have f2 := BV.out.frozen
  have z2 := BV.out.lt
  have hne : w.heap.size ≠ lb := by have := h.ltl; omega
  have hii : (i : Int) < (L.length : Int) := by omega
  clear h hi ho hs
  go_enter Try.func68, Try.ntmps68
  go_wp2_with fail
  rw [← hV]
  clear hV
  go_wp2_with (go_at_call 81; (with_reducible refine (Disk.there_at H HT).mono ?_); rintro en w1 ⟨rfl, rfl⟩)
  exact bodyPost_ret (v := agg8 s0 s1 s2 s3 s4 s5 s6 s7) (by simp [results, Try.results68, go_sem, q2, f2, z2]) rfl ⟨rfl, Anchor.below_set8 HBV.out (Nat.le_refl _) _ _ _ _ _ _ _ _⟩

set_option maxRecDepth 100000 in
set_option maxHeartbeats 400000 in
theorem cost_any (w : World) (k : Int) (A : Option Addr) (n c : Nat) (hn : n ≤ 140737488351232) :
    Calls Try.prog 63 #[.agg #[.int .i64 k, .slice A n c]] w fun en w' => en = .returned (.int .i64 (if mayB k n then 1 + (n : Int) else 0)) ∧ Below w.heap.size w w' := by
  have B1 := Lib.hid (Blk.new w [.int .i64 k, .slice A n c] 40)
  have HB := Lib.hid ((Below.refl _ w).alloc (Nat.le_refl _) (.cells #[.int .i64 k, .slice A n c] 40))
  obtain ⟨b, hb⟩ : ∃ b, mayB k n = b := ⟨_, rfl⟩
  have Hb := Lib.hid hb
  have hw : wrap64 (1 + (n : Int)) = 1 + (n : Int) := by unfold wrap64; omega
  rw [hb]
  clear hb
  cases b
  all_goals
    go_enter Try.func63, Try.ntmps63
    go_wp2_with (go_at_call 30; (with_reducible refine (may_any _ k A n c hn).mono ?_); rw [Hb.out]; rintro en w1 ⟨rfl, hb1⟩; have q := (B1.out.below hb1).cell; have HB1 := Lib.hid (HB.out.trans (hb1.mono HB.out.size)); clear hb1)
    go_ret
    exact ⟨by simp [hw], HB1.out⟩
end Go.Proofs.Ytmeoiennniknlaa.Log

namespace Go.Proofs.Ytmeoiennniknlaa.Log
open Go.RowKit Go.Shelf Go.Proofs.YtmeoiennniknlaaW.PrintWords Go.Proofs.Ytmeoiennniknlaa.Lb Go.Proofs.Ytmeoiennniknlaa.Frames
open Go.Proofs.Ytmeoiennniknlaa.Disk (Chg Sec secC secC_at agg8 thB Dsk cur upd)
open Go.Proofs.Ytmeoiennniknlaa.Anchor (Blk zero8)
set_option linter.unusedVariables false
set_option linter.unusedSimpArgs false

/-- The words of a log: a slice that is read; it is full, or a row of its own. -/
structure WRow (w : World) (O : Nat → Prop) (A : Option Addr) (c : Nat) (ws : List Int) : Prop where
  le : ws.length ≤ c
  words : WS ws
  foot : Kd.F (Kd.int .u64) w O A ws.length ws
  kind : c = ws.length ∨ (Kd.int .u64).R 30 w 0 O (.slice A ws.length c) ws
theorem WRow.kept {S O : Nat → Prop} {w w' : World} {A : Option Addr} {c : Nat} {ws : List Int} (h : WRow w O A c ws) (hc : Chg S w w') (hS : ∀ k, O k → ¬ S k) : WRow w' O A c ws := by
  refine ⟨h.le, h.words, Kd.F_step h.foot (fun k hk hlt => hc.block k hlt (hS k hk)), ?_⟩
  rcases h.kind with e | e
  · exact Or.inl e
  · exact Or.inr (Kd.R_step e (fun k hk hlt => hc.block k hlt (hS k hk)))
theorem WRow.mono {O O' : Nat → Prop} {w : World} {A : Option Addr} {c : Nat} {ws : List Int} (h : WRow w O A c ws) (hO : ∀ k, O k → O' k) : WRow w O' A c ws := by
  refine ⟨h.le, h.words, Kd.F_mono h.foot hO, ?_⟩
  rcases h.kind with e | e
  · exact Or.inl e
  · exact Or.inr (Kd.R_mono e hO)

/-- A log at block g, on the device d: sectors fr .. fr + n, epoch ep; its words lie in OW, its frames in OF. -/
structure Lg (w : World) (g d fr n ep : Nat) (ws : List Int) (fs : List Fr) (OW OF : Nat → Prop) : Prop where
  gw : ¬ OW g
  gf : ¬ OF g
  apart : ∀ k, OW k → ¬ OF k
  bw : ∀ k, OW k → k < w.heap.size
  bf : ∀ k, OF k → k < w.heap.size
  mem : ∃ Aw cw Af cf, Blk w g [.pointer (some ⟨d, 0, none⟩), .int .i64 (fr : Int), .int .i64 (n : Int), .int .i64 (ep : Int), .slice Aw ws.length cw, .slice Af fs.length cf] 127 ∧
    WRow w OW Aw cw ws ∧ kF.R 40 w 0 OF (.slice Af fs.length cf) fs
/-- The reference's log at block g, on the device x; its frames lie in OB. -/
structure Rg (w : World) (g x fr n ep : Nat) (fs : List Fr) (OB : Nat → Prop) : Prop where
  gb : ¬ OB g
  bb : ∀ k, OB k → k < w.heap.size
  mem : ∃ Af cf, Blk w g [.pointer (some ⟨x, 0, none⟩), .int .i64 (fr : Int), .int .i64 (n : Int), .int .i64 (ep : Int), .slice Af fs.length cf] 131 ∧ fs.length ≤ cf ∧ Kd.F kF w OB Af fs.length fs
section
variable {w w' : World} {g d x fr n ep : Nat} {ws : List Int} {fs : List Fr} {OW OF OB S : Nat → Prop}
theorem Lg.lt (h : Lg w g d fr n ep ws fs OW OF) : g < w.heap.size := by obtain ⟨_, _, _, _, h1, _⟩ := h.mem; exact h1.lt
theorem Rg.lt (h : Rg w g x fr n ep fs OB) : g < w.heap.size := by obtain ⟨_, _, h1, _⟩ := h.mem; exact h1.lt
theorem Lg.kept (h : Lg w g d fr n ep ws fs OW OF) (hc : Chg S w w') (hg : ¬ S g) (hw : ∀ k, OW k → ¬ S k) (hf : ∀ k, OF k → ¬ S k) : Lg w' g d fr n ep ws fs OW OF := by
  obtain ⟨Aw, cw, Af, cf, h1, h2, h3⟩ := h.mem
  exact ⟨h.gw, h.gf, h.apart, fun k hk => Nat.lt_of_lt_of_le (h.bw k hk) hc.size, fun k hk => Nat.lt_of_lt_of_le (h.bf k hk) hc.size, Aw, cw, Af, cf, hc.blk h1 hg, h2.kept hc hw, Kd.R_step h3 (fun k hk hlt => hc.block k hlt (hf k hk))⟩
theorem Rg.kept (h : Rg w g x fr n ep fs OB) (hc : Chg S w w') (hg : ¬ S g) (hb : ∀ k, OB k → ¬ S k) : Rg w' g x fr n ep fs OB := by
  obtain ⟨Af, cf, h1, h2, h3⟩ := h.mem
  exact ⟨h.gb, fun k hk => Nat.lt_of_lt_of_le (h.bb k hk) hc.size, Af, cf, hc.blk h1 hg, h2, Kd.F_step h3 (fun k hk hlt => hc.block k hlt (hb k hk))⟩
theorem Lg.below (h : Lg w g d fr n ep ws fs OW OF) (hb : Below w.heap.size w w') : Lg w' g d fr n ep ws fs OW OF := h.kept (S := fun _ => False) (Chg.of_below hb) id (fun _ _ => id) (fun _ _ => id)
theorem Rg.below (h : Rg w g x fr n ep fs OB) (hb : Below w.heap.size w w') : Rg w' g x fr n ep fs OB := h.kept (S := fun _ => False) (Chg.of_below hb) id (fun _ _ => id)

set_option maxRecDepth 100000 in
set_option maxHeartbeats 400000 in
theorem words_any (h : Lg w g d fr n ep ws fs OW OF) : Calls Try.prog 88 #[.pointer (some ⟨g, 0, none⟩)] w fun en w' => en = .returned (.int .i64 (ws.length : Int)) ∧ w = w' := by
  obtain ⟨Aw, cw, Af, cf, h1, _⟩ := h.mem
  have q := h1.cell
  clear h h1
  go_enter Try.func88, Try.ntmps88
  go_wp2
  go_ret
  exact ⟨rfl, rfl⟩
set_option maxRecDepth 100000 in
set_option maxHeartbeats 400000 in
theorem epoch_any (h : Lg w g d fr n ep ws fs OW OF) : Calls Try.prog 97 #[.pointer (some ⟨g, 0, none⟩)] w fun en w' => en = .returned (.int .i64 (ep : Int)) ∧ w = w' := by
  obtain ⟨Aw, cw, Af, cf, h1, _⟩ := h.mem
  have q := h1.cell
  clear h h1
  go_enter Try.func97, Try.ntmps97
  go_wp2
  go_ret
  exact ⟨rfl, rfl⟩
set_option maxRecDepth 100000 in
set_option maxHeartbeats 400000 in
theorem room_any (h : Lg w g d fr n ep ws fs OW OF) (hn : n ≤ 4096) (hw : ws.length ≤ n * 8) : Calls Try.prog 89 #[.pointer (some ⟨g, 0, none⟩)] w fun en w' => en = .returned (.int .i64 ((n : Int) * 8 - (ws.length : Int))) ∧ Below w.heap.size w w' := by
  obtain ⟨Aw, cw, Af, cf, h1, _⟩ := h.mem
  have q := h1.cell
  have e1 : wrap64 ((n : Int) * 8) = (n : Int) * 8 := by unfold wrap64; omega
  have e2 : wrap64 ((n : Int) * 8 - (ws.length : Int)) = (n : Int) * 8 - (ws.length : Int) := by unfold wrap64; omega
  clear h h1 hn hw
  go_enter Try.func89, Try.ntmps89
  go_wp2
  go_quiet (fail)
  go_wp2
  go_ret
  exact ⟨by simp [e1, e2], pw_below_drewN (Below.refl _ _) _⟩
end
end Go.Proofs.Ytmeoiennniknlaa.Log

namespace Go.Proofs.Ytmeoiennniknlaa.Log
open Go.RowKit Go.Shelf Go.Proofs.YtmeoiennniknlaaW.PrintWords Go.Proofs.Ytmeoiennniknlaa.Lb Go.Proofs.Ytmeoiennniknlaa.Frames
open Go.Proofs.Ytmeoiennniknlaa.Disk (Chg Sec secC secC_at agg8 thB Dsk cur upd)
open Go.Proofs.Ytmeoiennniknlaa.Anchor (Blk zero8 below_set8)
set_option linter.unusedVariables false
set_option linter.unusedSimpArgs false

/-- Sector i of words: zeros behind them. -/
def sect (ws : List Int) (i : Nat) : List Int := (ws.drop (i * 8)).take 8 ++ List.replicate (8 - ((ws.drop (i * 8)).take 8).length) 0
theorem sect_length (ws : List Int) (i : Nat) : (sect ws i).length = 8 := by
  have h : ((ws.drop (i * 8)).take 8).length ≤ 8 := by rw [List.length_take]; omega
  rw [sect, List.length_append, List.length_replicate]; omega
theorem sect_sec {ws : List Int} (h : WS ws) (i : Nat) : Sec (sect ws i) := by
  refine ⟨sect_length ws i, fun x hx => ?_⟩
  rcases List.mem_append.1 hx with hx | hx
  · exact h x (List.mem_of_mem_drop (List.mem_of_mem_take hx))
  · rw [(List.mem_replicate.1 hx).2]; omega
theorem sect_none {ws : List Int} {i : Nat} (h : ws.length ≤ i * 8) : sect ws i = zero8 := by
  rw [sect, List.drop_eq_nil_of_le h]; rfl
theorem sect_splice (ws : List Int) (i : Nat) : splice (nums .u64 zero8) 0 (nums .u64 ((ws.drop (i * 8)).take 8)) = nums .u64 (sect ws i) := by
  have h8 : ((ws.drop (i * 8)).take 8).length ≤ 8 := by rw [List.length_take]; omega
  generalize hz : (ws.drop (i * 8)).take 8 = t at h8
  have e1 : zero8 = List.replicate 8 0 := rfl
  unfold splice
  rw [sect, hz, List.take_zero, List.nil_append, Nat.zero_add, nums_length, nums_append, e1]
  congr 1
  have e2 : nums .u64 (List.replicate 8 0) = List.replicate 8 (.int .u64 0) := rfl
  rw [e2, List.drop_replicate]
  simp [nums]

set_option maxRecDepth 100000 in
set_option maxHeartbeats 800000 in
theorem sector_any {w : World} {g d fr n ep : Nat} {ws : List Int} {fs : List Fr} {OW OF : Nat → Prop} (h : Lg w g d fr n ep ws fs OW OF) (i : Nat) (hi : i < 100000) (hn : ws.length ≤ 1000000) (s0 s1 s2 s3 s4 s5 s6 s7 : Int) (hs : sect ws i = [s0, s1, s2, s3, s4, s5, s6, s7]) :
    Calls Try.prog 104 #[.pointer (some ⟨g, 0, none⟩), .int .i64 (i : Int)] w fun en w' => en = .returned (agg8 s0 s1 s2 s3 s4 s5 s6 s7) ∧ Below w.heap.size w w' := by
  obtain ⟨V, hV⟩ : ∃ V, V = (w.alloc (.cells #[.int .u64 0, .int .u64 0, .int .u64 0, .int .u64 0, .int .u64 0, .int .u64 0, .int .u64 0, .int .u64 0] 59)).alloc (.cells #[.int .u64 0, .int .u64 0, .int .u64 0, .int .u64 0, .int .u64 0, .int .u64 0, .int .u64 0, .int .u64 0] 59) := ⟨_, rfl⟩
  have HB0 : Hid (Below w.heap.size w V) := by rw [hV]; exact Lib.hid (((Below.refl _ w).alloc (Nat.le_refl _) _).alloc (by simp) _)
  have B1 : Hid (Blk V w.heap.size (nums .u64 zero8) 59) := by rw [hV]; exact Lib.hid ((Blk.new w (nums .u64 zero8) 59).alloc _)
  have B2 : Hid (Blk V (w.heap.size + 1) (nums .u64 zero8) 59) := by
    rw [hV]
    have h := Blk.new (w.alloc (.cells (nums .u64 zero8).toArray 59)) (nums .u64 zero8) 59
    rw [World.size_alloc] at h
    exact Lib.hid h
  have H : Hid (Lg V g d fr n ep ws fs OW OF) := Lib.hid (h.below HB0.out)
  obtain ⟨Aw, cw, Af, cf, h1, h2, _⟩ := h.mem
  have q := h1.cell
  have hgl := h1.lt
  have HW := Lib.hid (h2.kept (S := fun _ => False) (Chg.of_below HB0.out) (fun _ _ => id))
  have HG : Hid (Blk V g _ _) := Lib.hid (h1.below HB0.out)
  have hw8 : wrap64 ((i : Int) * 8) = (i : Int) * 8 := by unfold wrap64; omega
  clear h h1 h2
  by_cases hlt : i * 8 < ws.length
  · have hii : (i : Int) * 8 < (ws.length : Int) := by omega
    obtain ⟨A', hcut, hA'⟩ := cut_words Aw cw ws HW.out.le (i * 8) (by omega)
    have HCT := Lib.hid (hA' V (Kd.F_now HW.out.foot))
    have ei : ((i * 8 : Nat) : Int) = (i : Int) * 8 := by omega
    rw [ei] at hcut
    clear hA' ei
    go_enter Try.func104, Try.ntmps104
    go_wp2
    rw [← hV]
    clear hV
    have qv := HG.out.cell
    clear q
    go_still_tail 7, (by kernel_rfl)
    refine wpList_copy_splice rfl (.tmp 16) (.tmp 22) 23 23 rfl 30 Try.underlying23 Anchor.u64_one (some ⟨w.heap.size + 1, 0, none⟩) A' 8 8 (ws.length - i * 8) (cw - i * 8) rfl rfl (w.heap.size + 1) 0 (nums .u64 zero8) 59 B2.out.heap (nums .u64 ((ws.drop (i * 8)).take 8)) ?c1 ?c2 ?c3 ?c4 (w.heap.size + 1) V.drew (Below.refl _ _) (Nat.le_refl _) ?c5
    case c1 => rw [nums_length, List.length_take, List.length_drop]; exact Nat.min_comm _ _
    case c2 =>
      intro h0
      refine ⟨rfl, ?_⟩
      rw [nums_length, List.length_take] at h0
      obtain ⟨ad, rfl, _⟩ := C_cell HCT.out 0 (by omega)
      refine ⟨ad, rfl, fun j v hv => ?_⟩
      rw [nums, List.getElem?_map, List.getElem?_take] at hv
      split at hv
      · obtain ⟨z, hz, rfl⟩ := Option.map_eq_some_iff.1 hv
        obtain ⟨hj, rfl⟩ := List.getElem?_eq_some_iff.1 hz
        obtain ⟨ad2, e2, hc2⟩ := C_cell HCT.out j hj
        cases e2
        exact hc2
      · cases hv
    case c3 => simp [nums, zero8]; omega
    case c4 => exact Anchor.nums_one _ _
    case c5 =>
      intro w4 HG4 hb4
      have G4 : Blk w4 (w.heap.size + 1) (nums .u64 (sect ws i)) 59 := by rw [← sect_splice]; exact HG4.out
      rw [hs] at G4
      have E4 : Blk w4 w.heap.size (nums .u64 zero8) 59 := (hb4.block w.heap.size (Nat.lt_succ_self _)).trans B1.out
      have HB4 := Lib.hid (HB0.out.trans ((RDisk.Below.drew' (Below.refl _ V)).trans (hb4.mono (by omega))))
      have q4 := G4.cell
      have q5 := E4.cell
      have f5 := E4.frozen
      have z5 := E4.lt
      have z4 := G4.lt
      simp only [nums, zero8, List.map_cons, List.map_nil] at q4 q5
      clear HG4 hb4 G4 E4 qv
      go_wp2
      exact bodyPost_ret (v := agg8 s0 s1 s2 s3 s4 s5 s6 s7) (by simp [results, Try.results104, go_sem, q4, q5, f5, z5]) rfl ⟨rfl, below_set8 HB4.out (Nat.le_refl _) _ _ _ _ _ _ _ _⟩
  · have hii : ¬ (i : Int) * 8 < (ws.length : Int) := by omega
    rw [sect_none (by omega)] at hs
    have hz : zero8 = [0, 0, 0, 0, 0, 0, 0, 0] := rfl
    rw [hz] at hs
    simp only [List.cons.injEq, and_true] at hs
    obtain ⟨rfl, rfl, rfl, rfl, rfl, rfl, rfl, rfl⟩ := hs
    have q1 := B1.out.cell
    have f1 := B1.out.frozen
    have z1 := B1.out.lt
    have q2 := B2.out.cell
    simp only [nums, zero8, List.map_cons, List.map_nil] at q1 q2
    clear hz
    go_enter Try.func104, Try.ntmps104
    go_wp2
    rw [← hV]
    clear hV
    exact bodyPost_ret (v := agg8 0 0 0 0 0 0 0 0) (by simp [results, Try.results104, go_sem, q1]) rfl ⟨rfl, HB0.out⟩
end Go.Proofs.Ytmeoiennniknlaa.Log

namespace Go.Proofs.Ytmeoiennniknlaa.Log
open Go.RowKit Go.Shelf Go.Proofs.YtmeoiennniknlaaW.PrintWords Go.Proofs.Ytmeoiennniknlaa.Lb Go.Proofs.Ytmeoiennniknlaa.Frames
open Go.Proofs.Ytmeoiennniknlaa.Disk (Chg Sec secC secC_at agg8 thB Dsk cur upd)
open Go.Proofs.Ytmeoiennniknlaa.Anchor (Blk zero8 below_set8)
set_option linter.unusedVariables false
set_option linter.unusedSimpArgs false

/-- append(xs, ys...) of words, xs a row of the call's own. -/
theorem app_words {P : Program} {ops : Array Oper} {rest : List Oper} {o : Oper} {a : Act} {Q : Exit → Act → World → Prop} {w0 W : World} (t e : TypeId) (ht : P.underlying t = some (.slice e)) (hgd : o.guard = none) (s x : Operand)
    (ho : o.op = .call { callee := .builtin .append, args := #[s, x], argTypes := #[t, t] }) (A : Option Addr) (n c : Nat) (xs : List Int) (A2 : Option Addr) (m c2 : Nat) (ys zs : List Int) (L : Nat) (hs : a.eval s = .slice A n c) (hx : a.eval x = .slice A2 m c2)
    (HR : Hid ((Kd.int .u64).R e W w0.heap.size (fun _ => True) (.slice A n c) xs)) (HC : Hid ((Kd.int .u64).C W A2 m ys)) (HB : Hid (Below w0.heap.size w0 W)) (hn : xs.length = n) (hz : xs ++ ys = zs) (hL : zs.length = L) (hl : L * 8 ≤ 140737488355328)
    (hinfo : (P.info? e).map (fun i => (i.zero, i.size, i.bytes)) = some (some (.int .u64 0), 1, 8))
    (h : ∀ A1 c1 w1, L ≤ c1 → Hid ((Kd.int .u64).R e w1 w0.heap.size (fun _ => True) (.slice A1 L c1) zs) → Hid (Below w0.heap.size w0 w1) → wpList P ops Q rest (a.put o.dst (.slice A1 L c1)) w1) :
    wpList P ops Q (o :: rest) a W := by
  have hm : ys.length = m := HC.out.1
  subst hn hz hL
  refine Kd.R_append_rows (Kd.int .u64) (Rr := (Kd.int .u64).K W) (w0 := w0) w0.heap.size hgd s x t e (.int .u64 0) 8 ho ht hinfo rfl (by decide) (by decide) _ xs ys A2 m c2 (fun _ => True) (fun _ => False) hs hx HR.out HC.out (fun y cs hy => ?_) (fun _ h => h.elim) (fun _ _ => trivial) HB.out HB.out.size (by rw [List.length_append, hm] at hl; exact hl) ?_
  · exact hy
  · intro v1 w1 h1 h2 _ _
    obtain ⟨A1, c1, rfl⟩ := Kd.R_slice h1
    exact h A1 c1 w1 (Kd.R_reads' h1).2.1 (Lib.hid h1) (Lib.hid h2)

/-- The words of n sectors from fr on. -/
def rdW (L : List (List Int)) (M : Nat → Option (List Int)) (fr : Nat) (n : Nat) : List Int := (List.range n).flatMap fun i => cur L M (fr + i)
theorem rdW_succ (L : List (List Int)) (M : Nat → Option (List Int)) (fr n : Nat) : rdW L M fr (n + 1) = rdW L M fr n ++ cur L M (fr + n) := by
  rw [rdW, List.range_succ, List.flatMap_append]; simp [rdW]
theorem cur_sec {w : World} {d lb mb : Nat} {L : List (List Int)} {M : Nat → Option (List Int)} (h : Dsk w d lb mb L M) {i : Nat} (hi : i < L.length) : Sec (cur L M i) := by
  unfold cur
  cases hm : M i with
  | some s => exact h.mse i s hm
  | none => exact h.secs _ (by rw [Option.getD_none, List.getD_eq_getElem?_getD, List.getElem?_eq_getElem hi]; exact List.getElem_mem hi)
theorem rdW_length {w : World} {d lb mb : Nat} {L : List (List Int)} {M : Nat → Option (List Int)} (h : Dsk w d lb mb L M) {fr : Nat} : ∀ n, fr + n ≤ L.length → (rdW L M fr n).length = n * 8
  | 0, _ => rfl
  | n + 1, hn => by
    rw [rdW_succ, List.length_append, rdW_length h n (by omega), (cur_sec h (by omega)).1]; omega
theorem rdW_ws {w : World} {d lb mb : Nat} {L : List (List Int)} {M : Nat → Option (List Int)} (h : Dsk w d lb mb L M) {fr : Nat} : ∀ n, fr + n ≤ L.length → WS (rdW L M fr n)
  | 0, _ => by intro x hx; cases hx
  | n + 1, hn => by
    intro x hx
    rw [rdW_succ] at hx
    rcases List.mem_append.1 hx with hx | hx
    · exact rdW_ws h n (by omega) x hx
    · exact (cur_sec h (by omega)).2 x hx
theorem read_at {w0 W : World} {d lb mb : Nat} {L : List (List Int)} {M : Nat → Option (List Int)} {i : Nat} {j : Int} {s0 s1 s2 s3 s4 s5 s6 s7 : Int} (h : Hid (Dsk w0 d lb mb L M)) (hB : Hid (Below w0.heap.size w0 W)) (hi : Hid (i < L.length)) (hj : Hid ((i : Int) = j)) (hs : Hid (cur L M i = [s0, s1, s2, s3, s4, s5, s6, s7])) :
    Calls Try.prog 67 #[.pointer (some ⟨d, 0, none⟩), .int .i64 j] W fun en w' => en = .returned (.tuple #[agg8 s0 s1 s2 s3 s4 s5 s6 s7, .int .i64 0]) ∧ Hid (Below w0.heap.size w0 w') ∧ Hid (Below W.heap.size W w') := by
  have e := hj.out
  subst e
  exact (Disk.read_any (h.out.below hB.out) i hi.out _ _ _ _ _ _ _ _ hs.out).mono fun en w' ⟨h1, h2⟩ => ⟨h1, Lib.hid (hB.out.trans (h2.mono hB.out.size)), Lib.hid h2⟩
theorem row8 (X : World) (s0 s1 s2 s3 s4 s5 s6 s7 : Int) : (Kd.int .u64).C (X.alloc (.cells #[.int .u64 s0, .int .u64 s1, .int .u64 s2, .int .u64 s3, .int .u64 s4, .int .u64 s5, .int .u64 s6, .int .u64 s7] 59)) (some ⟨X.heap.size, 0, none⟩) 8 [s0, s1, s2, s3, s4, s5, s6, s7] := by
  have hb := Blk.new X (nums .u64 [s0, s1, s2, s3, s4, s5, s6, s7]) 59
  refine C_of_cells .u64 (l := [s0, s1, s2, s3, s4, s5, s6, s7]) (by simp) (fun j hj => ?_)
  have h5 := hb.cell j
  have e1 : (⟨X.heap.size, 0, none⟩ : Addr).add j = ⟨X.heap.size, j, none⟩ := by unfold Addr.add; split <;> simp_all
  rw [e1]
  refine h5.trans ?_
  rw [nums, List.getElem?_map, List.getElem?_eq_getElem hj]; rfl

set_option maxRecDepth 100000 in
set_option maxHeartbeats 1000000 in
theorem logRead_any {w : World} {d lb mb : Nat} {L : List (List Int)} {M : Nat → Option (List Int)} (h : Dsk w d lb mb L M) (fr n : Nat) (hn : fr + n ≤ L.length) :
    Calls Try.prog 91 #[.pointer (some ⟨d, 0, none⟩), .int .i64 (fr : Int), .int .i64 (n : Int)] w fun en w' => ∃ A c, en = .returned (.tuple #[.slice A (n * 8) c, .int .i64 0]) ∧ n * 8 ≤ c ∧ (Kd.int .u64).R 30 w' w.heap.size (fun _ => True) (.slice A (n * 8) c) (rdW L M fr n) ∧ Below w.heap.size w w' := by
  have H := Lib.hid h
  have HN := Lib.hid hn
  have HB := Lib.hid (Below.refl w.heap.size w)
  have HL4 := Lib.hid h.len.2
  clear h hn
  go_enter Try.func91, Try.ntmps91
  go_wp2
  go_loopg [8, 13] n (fun kq v8 v13 wr => ∃ (i : Nat) (A : Option Addr) (c : Nat), v8 = .slice A (i * 8) c ∧ v13 = .int .i64 (i : Int) ∧ Hid (i + kq = n) ∧ Hid ((Kd.int .u64).R 30 wr w.heap.size (fun _ => True) (.slice A (i * 8) c) (rdW L M fr i)) ∧ Hid (Below w.heap.size w wr))
  case atStart => exact ⟨0, none, 0, rfl, rfl, Lib.hid (by omega), Lib.hid (Kd.R_nil _ _ _ _ _), HB⟩
  case round =>
    obtain ⟨i, A, c, rfl, rfl, Hi, HR, Hb⟩ := hrel
    by_cases hlt : i < n
    · have hii : (i : Int) < (n : Int) := by omega
      have Hil : Hid (fr + i < L.length) := Lib.hid (by have := HN.out; omega)
      obtain ⟨s0, s1, s2, s3, s4, s5, s6, s7, hs⟩ := (cur_sec H.out Hil.out).open
      have HS := Lib.hid hs
      have HJ : Hid (((fr + i : Nat) : Int) = (fr : Int) + (i : Int)) := Lib.hid (by omega)
      have Hz : Hid (rdW L M fr i ++ [s0, s1, s2, s3, s4, s5, s6, s7] = rdW L M fr (i + 1)) := Lib.hid (by rw [rdW_succ, hs])
      have HZ : Hid ((rdW L M fr (i + 1)).length = (i + 1) * 8) := Lib.hid (rdW_length H.out (i + 1) (by have := HN.out; omega))
      have HZ0 : Hid ((rdW L M fr i).length = i * 8) := Lib.hid (rdW_length H.out i (by have := HN.out; omega))
      have hwf : wrap64 ((fr : Int) + (i : Int)) = (fr : Int) + (i : Int) := by have := HN.out; have := HL4.out; unfold wrap64; omega
      have hw : wrap64 ((i : Int) + 1) = (i : Int) + 1 := w64s (by omega) (by have := HN.out; have := HL4.out; omega)
      have HX := Lib.hid (fun X => row8 X s0 s1 s2 s3 s4 s5 s6 s7)
      have H8 : Hid ((i + 1) * 8 * 8 ≤ 140737488355328) := Lib.hid (by have := HN.out; have := HL4.out; omega)
      clear hs
      go_wp2_with (first
        | (go_at_call 67; (with_reducible refine (read_at H Hb Hil HJ HS).mono ?_); rintro en w2 ⟨rfl, HB2, HB2'⟩; have HR2 := Lib.hid (Kd.R_alloc (Kd.R_below HR.out HB2'.out) (.cells #[.int .u64 s0, .int .u64 s1, .int .u64 s2, .int .u64 s3, .int .u64 s4, .int .u64 s5, .int .u64 s6, .int .u64 s7] 59)))
        | (at_builtin; refine app_words (w0 := w) 23 30 Try.underlying23 rfl _ _ rfl A (i * 8) c _ _ 8 8 _ _ ((i + 1) * 8) rfl rfl HR2 (Lib.hid (HX.out _)) (Lib.hid (HB2.out.alloc HB2.out.size _)) HZ0.out Hz.out HZ.out H8.out Sums.infoU64 ?_; intro A3 c3 w3 hl3 HR3 HB3))
      go_roundg (gk - 1)
      case measure => exact kq_less Hi.out hlt
      case rel => exact ⟨i + 1, A3, c3, rfl, by simp [hw], Lib.hid (kq_next Hi.out hlt), HR3, HB3⟩
    · have hii : ¬ (i : Int) < (n : Int) := by omega
      have hie : i = n := by have := Hi.out; omega
      subst hie
      go_wp2
      exact bodyPost_ret (v := .tuple #[.slice A (i * 8) c, .int .i64 0]) (by simp [results, Try.results91, go_sem]) rfl ⟨A, c, rfl, (Kd.R_reads' HR.out).2.1, HR.out, Hb.out⟩
end Go.Proofs.Ytmeoiennniknlaa.Log

namespace Go.Proofs.Ytmeoiennniknlaa.Log
open Go.RowKit Go.Shelf Go.Proofs.YtmeoiennniknlaaW.PrintWords Go.Proofs.Ytmeoiennniknlaa.Lb Go.Proofs.Ytmeoiennniknlaa.Frames
open Go.Proofs.Ytmeoiennniknlaa.Disk (Chg Sec secC secC_at agg8 thB Dsk cur upd)
open Go.Proofs.Ytmeoiennniknlaa.Anchor (Blk zero8 below_set8)
open Go.Proofs.Ytmeoiennniknlaa.RDisk (RDk curL)
set_option linter.unusedVariables false
set_option linter.unusedSimpArgs false

/-- append(xs, y) of a word, xs a row of the call's own; the literal's block is g. -/
theorem app_word {P : Program} {ops : Array Oper} {rest : List Oper} {o : Oper} {a : Act} {Q : Exit → Act → World → Prop} {w0 X : World} (t e : TypeId) (ht : P.underlying t = some (.slice e)) (hgd : o.guard = none) (s x : Operand)
    (ho : o.op = .call { callee := .builtin .append, args := #[s, x], argTypes := #[t, t] }) (A : Option Addr) (n c : Nat) (xs : List Int) (y : Int) (zs : List Int) (L : Nat) (hs : a.eval s = .slice A n c) (hx : a.eval x = .slice (some ⟨X.heap.size, 0, none⟩) 1 1)
    (HR : Hid ((Kd.int .u64).R e X w0.heap.size (fun _ => True) (.slice A n c) xs)) (HB : Hid (Below w0.heap.size w0 X)) (hn : xs.length = n) (hz : xs ++ [y] = zs) (hL : zs.length = L) (hl : L * 8 ≤ 140737488355328)
    (hinfo : (P.info? e).map (fun i => (i.zero, i.size, i.bytes)) = some (some (.int .u64 0), 1, 8))
    (h : ∀ A1 c1 w1, L ≤ c1 → Hid ((Kd.int .u64).R e w1 w0.heap.size (fun _ => True) (.slice A1 L c1) zs) → Hid (Below w0.heap.size w0 w1) → wpList P ops Q rest (a.put o.dst (.slice A1 L c1)) w1) :
    wpList P ops Q (o :: rest) a (X.alloc (.cells #[.int .u64 y] e)) := by
  have hb := Blk.new X [.int .u64 y] e
  have hC : (Kd.int .u64).C (X.alloc (.cells #[.int .u64 y] e)) (some ⟨X.heap.size, 0, none⟩) 1 [y] := by
    refine C_of_cells .u64 (l := [y]) (by simp) (fun j hj => ?_)
    have h5 := hb.cell j
    have e1 : (⟨X.heap.size, 0, none⟩ : Addr).add j = ⟨X.heap.size, j, none⟩ := by unfold Addr.add; split <;> simp_all
    rw [e1]
    refine h5.trans ?_
    have hj0 : j = 0 := by simpa using hj
    subst hj0; rfl
  exact app_words (w0 := w0) t e ht hgd s x ho A n c xs _ 1 1 [y] zs L hs hx (Lib.hid (Kd.R_alloc HR.out _)) (Lib.hid hC) (Lib.hid (HB.out.alloc HB.out.size _)) hn hz hL hl hinfo h

def rfW (RR : List (List Int)) (fr n : Nat) : List Int := (List.range n).flatMap fun i => RR.getD (fr + i) []
theorem rfW_succ (RR : List (List Int)) (fr n : Nat) : rfW RR fr (n + 1) = rfW RR fr n ++ RR.getD (fr + n) [] := by
  rw [rfW, List.range_succ, List.flatMap_append]; simp [rfW]
theorem rfW_length {RR : List (List Int)} (h : ∀ s ∈ RR, Sec s) (fr : Nat) : ∀ n, fr + n ≤ RR.length → (rfW RR fr n).length = n * 8
  | 0, _ => rfl
  | n + 1, hn => by
    have hs : (RR.getD (fr + n) []).length = 8 := by
      have hl : fr + n < RR.length := by omega
      rw [List.getD_eq_getElem?_getD, List.getElem?_eq_getElem hl]
      exact (h _ (List.getElem_mem hl)).1
    rw [rfW_succ, List.length_append, rfW_length h fr n (by omega), hs]; omega
theorem rfW_cur (L : List (List Int)) (M : Nat → Option (List Int)) (fr : Nat) : ∀ n, fr + n ≤ L.length → rfW (curL L M) fr n = rdW L M fr n
  | 0, _ => rfl
  | n + 1, hn => by
    rw [rfW_succ, rdW_succ, rfW_cur L M fr n (by omega), RDisk.getD_of (RDisk.curL_at (by omega))]
theorem take_succ8 (s : List Int) (k : Nat) (hk : k < s.length) : s.take (k + 1) = s.take k ++ [s.getD k 0] := by
  rw [List.take_succ_eq_append_getElem hk, List.getD_eq_getElem?_getD, List.getElem?_eq_getElem hk]; rfl

set_option maxRecDepth 100000 in
set_option maxHeartbeats 2000000 in
theorem refWords_any {w : World} {x rl rr rd : Nat} {RL RR : List (List Int)} {RD : List Bool} (h : RDk w x rl rr rd RL RR RD) (fr n : Nat) (hn : fr + n ≤ RL.length) :
    Calls Try.prog 93 #[.pointer (some ⟨x, 0, none⟩), .int .i64 (fr : Int), .int .i64 (n : Int)] w fun en w' => ∃ A c, en = .returned (.slice A (n * 8) c) ∧ n * 8 ≤ c ∧ (Kd.int .u64).R 30 w' w.heap.size (fun _ => True) (.slice A (n * 8) c) (rfW RR fr n) ∧ Below w.heap.size w w' := by
  have H := Lib.hid h
  have HN := Lib.hid hn
  have HB := Lib.hid (Below.refl w.heap.size w)
  have HL4 := Lib.hid h.len.2
  have HLR := Lib.hid h.lenR
  clear h hn
  go_enter Try.func93, Try.ntmps93
  go_wp2
  go_loopg [7, 8] n (fun kq v7 v8 wr => ∃ (i : Nat) (A : Option Addr) (c : Nat), v7 = .slice A (i * 8) c ∧ v8 = .int .i64 (i : Int) ∧ Hid (i + kq = n) ∧ Hid ((Kd.int .u64).R 30 wr w.heap.size (fun _ => True) (.slice A (i * 8) c) (rfW RR fr i)) ∧ Hid (Below w.heap.size w wr))
  case atStart => exact ⟨0, none, 0, rfl, rfl, Lib.hid (by omega), Lib.hid (Kd.R_nil _ _ _ _ _), HB⟩
  case round =>
    obtain ⟨i, A, c, rfl, rfl, Hi, HR, Hb⟩ := hrel
    by_cases hlt : i < n
    · have hii : (i : Int) < (n : Int) := by omega
      have Hil : Hid (fr + i < RL.length) := Lib.hid (by have := HN.out; omega)
      have hir : fr + i < RR.length := by have := HLR.out; have := Hil.out; omega
      obtain ⟨S, hS⟩ : ∃ S, RR.getD (fr + i) [] = S := ⟨_, rfl⟩
      have hS8 : S.length = 8 := by
        rw [← hS, List.getD_eq_getElem?_getD, List.getElem?_eq_getElem hir]
        exact (H.out.secR _ (List.getElem_mem hir)).1
      have HS := Lib.hid hS
      have HS8 := Lib.hid hS8
      have HZ0 : Hid ((rfW RR fr i).length = i * 8) := Lib.hid (rfW_length H.out.secR fr i (by have := HN.out; have := HLR.out; omega))
      have hw : wrap64 ((i : Int) + 1) = (i : Int) + 1 := w64s (by omega) (by have := HN.out; have := HL4.out; omega)
      have hi4 : i < 4096 := by have := HN.out; have := HL4.out; omega
      have Hi4 := Lib.hid hi4
      clear hS hS8 hir hi4
      obtain ⟨m, hm⟩ : ∃ m, fr + i = m := ⟨_, rfl⟩
      have Hm := Lib.hid hm
      have hwf : wrap64 ((fr : Int) + (i : Int)) = (m : Int) := by have := HN.out; have := HL4.out; unfold wrap64; omega
      have hmi : (m : Int) < (RL.length : Int) := by have := Hil.out; omega
      obtain ⟨G, hG⟩ : ∃ G, G = gk := ⟨_, rfl⟩
      subst hG
      have Hw := Lib.hid hw
      clear hm hw
      go_wp2
      go_loopg [7, 9] 8 (fun kq v7 v9 wx => ∃ (k : Nat) (A2 : Option Addr) (c2 : Nat), v7 = .slice A2 (i * 8 + k) c2 ∧ v9 = .int .i64 (k : Int) ∧ Hid (k + kq = 8) ∧ Hid ((Kd.int .u64).R 30 wx w.heap.size (fun _ => True) (.slice A2 (i * 8 + k) c2) (rfW RR fr i ++ S.take k)) ∧ Hid (Below w.heap.size w wx))
      case atStart => exact ⟨0, A, c, rfl, rfl, Lib.hid rfl, by rw [List.take_zero, List.append_nil]; exact HR, Hb⟩
      case round =>
        obtain ⟨k, A2, c2, rfl, rfl, Hk, HR2, Hb2⟩ := hrel
        by_cases hk : k < 8
        · have hki : (k : Int) < 8 := by omega
          have q := (H.out.below Hb2.out).obj.cell
          have hc : wr.cell? ⟨rr, m * 8 + k, none⟩ = some (.int .u64 (S.getD k 0)) := by
            have hml : m < RR.length := by rw [← Hm.out]; have := HLR.out; have := Hil.out; omega
            rw [(H.out.below Hb2.out).red.cell, secC_at RR (fun s hs => (H.out.secR s hs).1) m k hml hk, ← Hm.out, HS.out, nums, List.getElem?_map, List.getElem?_eq_getElem (by rw [HS8.out]; exact hk), List.getD_eq_getElem?_getD, List.getElem?_eq_getElem (by rw [HS8.out]; exact hk)]
            rfl
          have hwk : wrap64 ((k : Int) + 1) = (k : Int) + 1 := w64s (by omega) (by omega)
          have HZ1 : Hid ((rfW RR fr i ++ S.take k).length = i * 8 + k) := Lib.hid (by rw [List.length_append, HZ0.out, List.length_take, HS8.out]; omega)
          have HZ2 : Hid ((rfW RR fr i ++ S.take (k + 1)).length = i * 8 + (k + 1)) := Lib.hid (by rw [List.length_append, HZ0.out, List.length_take, HS8.out]; omega)
          have HZ3 : Hid ((rfW RR fr i ++ S.take k) ++ [S.getD k 0] = rfW RR fr i ++ S.take (k + 1)) := Lib.hid (by rw [take_succ8 S k (by rw [HS8.out]; exact hk), List.append_assoc])
          have H8 : Hid ((i * 8 + (k + 1)) * 8 ≤ 140737488355328) := Lib.hid (by have := Hi4.out; omega)
          obtain ⟨y, hy⟩ : ∃ y, S.getD k 0 = y := ⟨_, rfl⟩
          rw [hy] at hc HZ3
          clear hy
          go_wp2_with (at_builtin; go_loud (refine app_word (w0 := w) (X := wr) 23 30 Try.underlying23 rfl _ _ rfl A2 (i * 8 + k) c2 _ y _ (i * 8 + (k + 1)) rfl rfl HR2 Hb2 HZ1.out HZ3.out HZ2.out H8.out Sums.infoU64 ?_); intro A3 c3 w3 hl3 HR3 HB3)
          go_roundg (gk - 1)
          case measure => exact kq_less Hk.out hk
          case rel => exact ⟨k + 1, A3, c3, rfl, by simp [hwk], Lib.hid (kq_next Hk.out hk), HR3, HB3⟩
        · have hki : ¬ (k : Int) < 8 := by omega
          have hk8 : k = 8 := by have := Hk.out; omega
          subst hk8
          have HR3 : Hid ((Kd.int .u64).R 30 wr w.heap.size (fun _ => True) (.slice A2 ((i + 1) * 8) c2) (rfW RR fr (i + 1))) := by
            have h1 := HR2
            rw [show S.take 8 = S from List.take_of_length_le (by rw [HS8.out]; exact Nat.le_refl _), ← HS.out, ← rfW_succ, show i * 8 + 8 = (i + 1) * 8 by omega] at h1
            exact h1
          have hlen8 : i * 8 + 8 = (i + 1) * 8 := by omega
          clear HR2
          go_wp2
          go_roundg (G - 1)
          case measure => exact kq_less Hi.out hlt
          case rel => exact ⟨i + 1, A2, c2, by first | rfl | rw [hlen8], by simp [Hw.out], Lib.hid (kq_next Hi.out hlt), HR3, Hb2⟩
    · have hii : ¬ (i : Int) < (n : Int) := by omega
      have hie : i = n := by have := Hi.out; omega
      subst hie
      go_wp2
      go_ret
      exact ⟨A, c, rfl, (Kd.R_reads' HR.out).2.1, HR.out, Hb.out⟩
end Go.Proofs.Ytmeoiennniknlaa.Log

namespace Go.Proofs.Ytmeoiennniknlaa.Log
open Go.RowKit Go.Shelf Go.Proofs.YtmeoiennniknlaaW.PrintWords Go.Proofs.Ytmeoiennniknlaa.Lb Go.Proofs.Ytmeoiennniknlaa.Frames
open Go.Proofs.Ytmeoiennniknlaa.Disk (Chg Sec secC secC_at agg8 thB Dsk cur upd)
open Go.Proofs.Ytmeoiennniknlaa.Anchor (Blk zero8 below_set8)
open Go.Proofs.Ytmeoiennniknlaa.RDisk (RDk curL)
set_option linter.unusedVariables false
set_option linter.unusedSimpArgs false

theorem dsk_drew {w : World} {d lb mb : Nat} {L : List (List Int)} {M : Nat → Option (List Int)} (h : Dsk w d lb mb L M) : Dsk w.drew d lb mb L M := h.below (RDisk.Below.drew' (Below.refl _ w))
theorem i8w {i : Nat} (h : i < 100000) : IntKind.i64.wrap ((i : Int) * 8) = (i : Int) * 8 := IntWalk.i64_in _ (by omega)
theorem i1w {i : Nat} (h : i < 100000) : IntKind.i64.wrap ((i : Int) + 1) = (i : Int) + 1 := IntWalk.i64_in _ (by omega)
theorem i18w {i : Nat} (h : i < 100000) : IntKind.i64.wrap (((i : Int) + 1) * 8) = ((i : Int) + 1) * 8 := IntWalk.i64_in _ (by omega)
theorem ifw {fr i m : Nat} (hm : fr + i = m) (h : m < 100000) : IntKind.i64.wrap ((fr : Int) + (i : Int)) = (m : Int) := by rw [IntWalk.i64_in _ (by omega)]; omega
theorem w8w {i : Nat} (h : i < 100000) : wrap64 ((i : Int) * 8) = (i : Int) * 8 := by unfold wrap64; omega
theorem w1w {i : Nat} (h : i < 100000) : wrap64 ((i : Int) + 1) = (i : Int) + 1 := by unfold wrap64; omega
theorem w18w {i : Nat} (h : i < 100000) : wrap64 (((i : Int) + 1) * 8) = ((i : Int) + 1) * 8 := by unfold wrap64; omega
theorem wfw {fr i m : Nat} (hm : fr + i = m) (h : m < 100000) : wrap64 ((fr : Int) + (i : Int)) = (m : Int) := by unfold wrap64; omega
theorem mid_words (A : Option Addr) (c : Nat) (l : List Int) (hc : l.length ≤ c) (a b : Nat) (hab : a ≤ b) (hb : b ≤ l.length) :
    ∃ A', (∀ W : World, (Instr.slice 23 (.slice A l.length c) (some (.int .i64 (a : Int))) (some (.int .i64 (b : Int))) none).run Try.prog W = .ok (.slice A' (b - a) (c - a)) W) ∧
      ∀ w : World, (Kd.int .u64).C w A l.length l → (Kd.int .u64).C w A' (b - a) ((l.take b).drop a) := by
  obtain ⟨i0, hi0, hsz0⟩ := info_u64
  obtain ⟨A', h1, h2, _⟩ := print_mid_of (P := Try.prog) (Value.int .u64) (0 : Int) 23 30 .i64 .i64 Try.underlying23 hi0 hsz0 A c l (a : Int) (b : Int) (by omega) (by omega) (by omega) hc
  have hl : ((l.take b).drop a).length = b - a := by rw [List.length_drop, List.length_take]; omega
  simp only [Int.toNat_natCast, hl] at h1 h2
  exact ⟨A', h1, fun w h => Kd.C_of_reads (h1 := fun _ => rfl) (h2 w (Kd.reads_of_C h))⟩
theorem rdW_mid {w : World} {d lb mb : Nat} {L : List (List Int)} {M : Nat → Option (List Int)} (h : Dsk w d lb mb L M) {fr n i : Nat} (hn : fr + n ≤ L.length) (hi : i < n) : ((rdW L M fr n).take (i * 8 + 8)).drop (i * 8) = cur L M (fr + i) := by
  induction n with
  | zero => omega
  | succ n ih =>
    rw [rdW_succ]
    have hl := rdW_length h (fr := fr) n (by omega)
    by_cases e : i = n
    · subst e
      have hc := (cur_sec h (show fr + i < L.length by omega)).1
      rw [List.take_of_length_le (by rw [List.length_append, hl, hc]; exact Nat.le_refl _), List.drop_append_of_le_length (by omega), List.drop_of_length_le (by omega), List.nil_append]
    · rw [List.take_append_of_le_length (by omega)]
      exact ih (by omega) (by omega)

/-- What clear writes: i sectors. -/
def clrM (L : List (List Int)) (M : Nat → Option (List Int)) (fr : Nat) (ws : List Int) : Nat → Nat → Option (List Int)
  | 0 => M
  | i + 1 => if sect ws i = cur L M (fr + i) then clrM L M fr ws i else upd (clrM L M fr ws i) (fr + i) (sect ws i)
def clrB (L : List (List Int)) (M : Nat → Option (List Int)) (fr : Nat) (ws : List Int) : Nat → Bool
  | 0 => false
  | i + 1 => if sect ws i = cur L M (fr + i) then clrB L M fr ws i else true
/-- The device behind clear. -/
def clrR (L : List (List Int)) (M : Nat → Option (List Int)) (fr n : Nat) (ws : List Int) : List (List Int) × (Nat → Option (List Int)) :=
  if clrB L M fr ws n = true then (curL L (clrM L M fr ws n), fun _ => none) else (L, clrM L M fr ws n)
theorem dwrite_at {w : World} {d lb mb : Nat} {L : List (List Int)} {M : Nat → Option (List Int)} {i : Nat} {s0 s1 s2 s3 s4 s5 s6 s7 : Int} (h : Hid (Dsk w d lb mb L M)) (hi : Hid (i < L.length)) (hs : Hid (Sec [s0, s1, s2, s3, s4, s5, s6, s7])) :
    Calls Try.prog 46 #[.pointer (some ⟨d, 0, none⟩), .int .i64 (i : Int), agg8 s0 s1 s2 s3 s4 s5 s6 s7] w fun en w' => en = .returned (.int .i64 0) ∧ Hid (Dsk w' d lb mb L (upd M i [s0, s1, s2, s3, s4, s5, s6, s7])) ∧ Hid (Chg (fun k => k = d ∨ k = lb ∨ k = mb) w w') :=
  (Disk.write_in h.out i hi.out s0 s1 s2 s3 s4 s5 s6 s7 hs.out).mono fun en w' ⟨h1, h2, h3⟩ => ⟨h1, Lib.hid h2, Lib.hid (h3.mono fun k hk => hk.elim Or.inl (fun h => Or.inr (Or.inr h)))⟩
theorem dsync_at {w : World} {d lb mb : Nat} {L : List (List Int)} {M : Nat → Option (List Int)} (h : Hid (Dsk w d lb mb L M)) :
    Calls Try.prog 50 #[.pointer (some ⟨d, 0, none⟩)] w fun en w' => en = .returned (.tuple #[]) ∧ Hid (Dsk w' d lb mb (curL L M) (fun _ => none)) ∧ Hid (Chg (fun k => k = d ∨ k = lb ∨ k = mb) w w') :=
  (Disk.sync_any h.out).mono fun en w' ⟨h1, h2, h3⟩ => ⟨h1, Lib.hid (by rw [← RDisk.last_sync]; exact h2), Lib.hid h3⟩
theorem sector_at {w : World} {g d fr n ep : Nat} {ws : List Int} {fs : List Fr} {OW OF : Nat → Prop} {i : Nat} {s0 s1 s2 s3 s4 s5 s6 s7 : Int} (h : Hid (Lg w g d fr n ep ws fs OW OF)) (hi : Hid (i < 100000)) (hn : Hid (ws.length ≤ 1000000)) (hs : Hid (sect ws i = [s0, s1, s2, s3, s4, s5, s6, s7])) :
    Calls Try.prog 104 #[.pointer (some ⟨g, 0, none⟩), .int .i64 (i : Int)] w fun en w' => en = .returned (agg8 s0 s1 s2 s3 s4 s5 s6 s7) ∧ Hid (Below w.heap.size w w') :=
  (sector_any h.out i hi.out hn.out _ _ _ _ _ _ _ _ hs.out).mono fun en w' ⟨h1, h2⟩ => ⟨h1, Lib.hid h2⟩
theorem equal_at {w : World} {A0 A1 : Option Addr} {n c0 c1 : Nat} {l m : List Int} {b : Bool} (hn : Hid (l.length = n)) (hl : Hid (n ≤ 140737488351232)) (hm : Hid (m.length = n)) (hC0 : Hid ((Kd.int .u64).C w A0 n l)) (hC1 : Hid ((Kd.int .u64).C w A1 n m)) (hb : Hid (decide (l = m) = b)) :
    Calls Try.prog 105 #[.slice A0 n c0, .slice A1 n c1] w fun e w' => e = .returned (.bool b) ∧ Hid (Below w.heap.size w w') := by
  have e1 := hn.out
  have e2 := hb.out
  subst e1 e2
  exact (equal_any w A0 A1 c0 c1 l m hl.out hm.out hC0.out (by rw [hm.out]; exact hC1.out)).mono fun en w' ⟨h1, h2⟩ => ⟨h1, Lib.hid h2⟩
end Go.Proofs.Ytmeoiennniknlaa.Log

namespace Go.Proofs.Ytmeoiennniknlaa.Log
open Go.RowKit Go.Shelf Go.Proofs.YtmeoiennniknlaaW.PrintWords Go.Proofs.Ytmeoiennniknlaa.Lb Go.Proofs.Ytmeoiennniknlaa.Frames
open Go.Proofs.Ytmeoiennniknlaa.Disk (Chg Sec secC secC_at agg8 thB Dsk cur upd)
open Go.Proofs.Ytmeoiennniknlaa.Anchor (Blk zero8 below_set8)
open Go.Proofs.Ytmeoiennniknlaa.RDisk (RDk curL)
set_option linter.unusedVariables false
set_option linter.unusedSimpArgs false

/-- The device's blocks. -/
def TD (d lb mb : Nat) (k : Nat) : Prop := k = d ∨ k = lb ∨ k = mb
/-- In the midst of clear. -/
structure CM (w wr : World) (d lb mb g fr n ep : Nat) (L : List (List Int)) (M' : Nat → Option (List Int)) (ws : List Int) (fs : List Fr) (OW OF : Nat → Prop) (A : Option Addr) (W0 : List Int) : Prop where
  dsk : Dsk wr d lb mb L M'
  chg : Chg (TD d lb mb) w wr
  lg : Lg wr g d fr n ep ws fs OW OF
  row : (Kd.int .u64).C wr A (n * 8) W0

set_option maxRecDepth 100000 in
set_option maxHeartbeats 1000000 in
theorem clear_any {w : World} {d lb mb g fr n ep : Nat} {L : List (List Int)} {M : Nat → Option (List Int)} {ws : List Int} {fs : List Fr} {OW OF OX : Nat → Prop} {A : Option Addr} {c : Nat} (h : Dsk w d lb mb L M) (hl : Lg w g d fr n ep ws fs OW OF) (hX : Kd.F (Kd.int .u64) w OX A (n * 8) (rdW L M fr n)) (hc : n * 8 ≤ c) (hn : fr + n ≤ L.length) (hw : ws.length ≤ 1000000)
    (hg : ¬ TD d lb mb g) (hOW : ∀ k, OW k → ¬ TD d lb mb k) (hOF : ∀ k, OF k → ¬ TD d lb mb k) (hOX : ∀ k, OX k → ¬ TD d lb mb k) :
    Calls Try.prog 92 #[.pointer (some ⟨g, 0, none⟩), .slice A (n * 8) c] w fun en w' => en = .returned (.tuple #[]) ∧ Dsk w' d lb mb (clrR L M fr n ws).1 (clrR L M fr n ws).2 ∧ Chg (TD d lb mb) w w' := by
  have H := Lib.hid h
  have HL := Lib.hid hl
  have HX := Lib.hid hX
  have HN := Lib.hid hn
  have HWS := Lib.hid hw
  have HG := Lib.hid hg
  have HOW := Lib.hid hOW
  have HOF := Lib.hid hOF
  have HOX := Lib.hid hOX
  have HL4 := Lib.hid h.len.2
  have HC := Lib.hid hc
  have HM0 : Hid (CM w w d lb mb g fr n ep L (clrM L M fr ws 0) ws fs OW OF A (rdW L M fr n)) := Lib.hid ⟨h, Chg.refl _ _, hl, Kd.F_now hX⟩
  obtain ⟨Aw, cw, Af, cf, h1, _⟩ := hl.mem
  have q := h1.cell
  obtain ⟨W0, hW0⟩ : ∃ W0, rdW L M fr n = W0 := ⟨_, rfl⟩
  have HW0 := Lib.hid hW0
  have HW0l : Hid (W0.length = n * 8) := by rw [← hW0]; exact Lib.hid (rdW_length h n hn)
  have HCM : Hid (∀ wr wx M', CM w wr d lb mb g fr n ep L M' ws fs OW OF A W0 → Chg (TD d lb mb) wr wx → Dsk wx d lb mb L M' → CM w wx d lb mb g fr n ep L M' ws fs OW OF A W0) := by
    rw [← hW0]
    exact Lib.hid (fun wr wx M' h1 h2 h3 => ⟨h3, h1.chg.trans h2, hl.kept (h1.chg.trans h2) hg hOW hOF, hX wx (fun k hk hlt => (h1.chg.trans h2).block k hlt (hOX k hk))⟩)
  have HCN : Hid (∀ wx M', Chg (TD d lb mb) w wx → Dsk wx d lb mb L M' → CM w wx d lb mb g fr n ep L M' ws fs OW OF A W0) := by
    rw [← hW0]
    exact Lib.hid (fun wx M' h2 h3 => ⟨h3, h2, hl.kept h2 hg hOW hOF, hX wx (fun k hk hlt => h2.block k hlt (hOX k hk))⟩)
  rw [hW0] at HM0
  clear h hl hX hn hw hg hOW hOF hOX hc h1 hW0
  go_enter Try.func92, Try.ntmps92
  go_wp2
  clear q
  go_loopg [4, 11] n (fun kq v4 v11 wr => ∃ (i : Nat), v4 = .bool (clrB L M fr ws i) ∧ v11 = .int .i64 (i : Int) ∧ Hid (i + kq = n) ∧ Hid (CM w wr d lb mb g fr n ep L (clrM L M fr ws i) ws fs OW OF A W0))
  case atStart => exact ⟨0, rfl, rfl, Lib.hid (by omega), HM0⟩
  case round =>
    obtain ⟨i, rfl, rfl, Hi, HM⟩ := hrel
    by_cases hlt : i < n
    · have hii : (i : Int) < (n : Int) := by omega
      have hi4 : i < 4096 := by have := HN.out; have := HL4.out; omega
      have Hi1 : Hid (i < 100000) := Lib.hid (by omega)
      have HS : Hid (Sec (sect ws i)) := Lib.hid (sect_sec (by obtain ⟨_, _, _, _, _, h2, _⟩ := HL.out.mem; exact h2.words) i)
      obtain ⟨s0, s1, s2, s3, s4, s5, s6, s7, hs⟩ := HS.out.open
      have HSS := Lib.hid hs
      have HS2 : Hid (Sec [s0, s1, s2, s3, s4, s5, s6, s7]) := by rw [← hs]; exact HS
      obtain ⟨A', hcut, hCut⟩ := mid_words A c W0 (by have := HW0l.out; have := HC.out; omega) (i * 8) (i * 8 + 8) (by omega) (by have := HW0l.out; omega)
      rw [HW0l.out, show i * 8 + 8 - i * 8 = 8 by omega] at hcut
      have HCut := Lib.hid hCut
      have ei1 : ((i * 8 : Nat) : Int) = (i : Int) * 8 := by omega
      have ei2 : ((i * 8 + 8 : Nat) : Int) = ((i : Int) + 1) * 8 := by omega
      rw [ei1, ei2] at hcut
      obtain ⟨m, hm⟩ : ∃ m, fr + i = m := ⟨_, rfl⟩
      have Hm := Lib.hid hm
      have Hml : Hid (m < L.length) := Lib.hid (by have := HN.out; omega)
      obtain ⟨b, hb⟩ : ∃ b, decide ([s0, s1, s2, s3, s4, s5, s6, s7] = cur L M m) = b := ⟨_, rfl⟩
      have Hb := Lib.hid hb
      have HMid : Hid ((W0.take (i * 8 + 8)).drop (i * 8) = cur L M m) := by rw [← hm, ← HW0.out]; exact Lib.hid (rdW_mid H.out HN.out hlt)
      have HML8 : Hid ((cur L M m).length = 8) := Lib.hid (cur_sec H.out Hml.out).1
      have HLg := Lib.hid HM.out.lg
      have B8 := Lib.hid (fun X => Blk.new X [.int .u64 s0, .int .u64 s1, .int .u64 s2, .int .u64 s3, .int .u64 s4, .int .u64 s5, .int .u64 s6, .int .u64 s7] 59)
      have R8 := Lib.hid (fun X => row8 X s0 s1 s2 s3 s4 s5 s6 s7)
      have hm5 : m < 100000 := by have := Hml.out; have := HL4.out; omega
      have e88 : i * 8 + 8 - i * 8 = 8 := by omega
      have HE88 := Lib.hid e88
      have hq8 := i8w Hi1.out
      have hq1 := i1w Hi1.out
      have hq18 := i18w Hi1.out
      have hqf := ifw Hm.out hm5
      have hw8 := w8w Hi1.out
      have hw1 := w1w Hi1.out
      have hw18 := w18w Hi1.out
      have hwf := wfw Hm.out hm5
      clear hs hCut ei1 ei2 hm hb hi4 hm5 e88
      go_wp2_with (go_at_call 104; (with_reducible refine (sector_at HLg Hi1 HWS HSS).mono ?_); rintro en w2 ⟨rfl, HB2⟩)
      obtain ⟨V, hV⟩ : ∃ V, V = w2.alloc (.cells #[.int .u64 s0, .int .u64 s1, .int .u64 s2, .int .u64 s3, .int .u64 s4, .int .u64 s5, .int .u64 s6, .int .u64 s7] 59) := ⟨_, rfl⟩
      obtain ⟨gs, hgs⟩ : ∃ gs, gs = w2.heap.size := ⟨_, rfl⟩
      have HBV : Hid (Below wr.heap.size wr V) := by rw [hV]; exact Lib.hid (HB2.out.alloc HB2.out.size _)
      have BV : Hid (Blk V gs [.int .u64 s0, .int .u64 s1, .int .u64 s2, .int .u64 s3, .int .u64 s4, .int .u64 s5, .int .u64 s6, .int .u64 s7] 59) := by rw [hV, hgs]; exact Lib.hid (B8.out w2)
      have RV : Hid ((Kd.int .u64).C V.drew (some ⟨gs, 0, none⟩) 8 [s0, s1, s2, s3, s4, s5, s6, s7]) := by rw [hV, hgs]; exact Lib.hid (Kd.C_drew (R8.out w2))
      have RW : Hid ((Kd.int .u64).C V.drew A' 8 (cur L M m)) := by
        have h1 := HCut.out V.drew (Kd.C_drew (by have h2 := Kd.C_below HM.out.row HBV.out; rw [HW0l.out]; exact h2))
        rw [HMid.out, HE88.out] at h1
        exact Lib.hid h1
      rw [← hV, ← hgs]
      clear hV hgs
      have N8 : Hid ([s0, s1, s2, s3, s4, s5, s6, s7].length = 8) := Lib.hid rfl
      have N9 : Hid (8 ≤ 140737488351232) := Lib.hid (by decide)
      go_still_tail 8, (by kernel_rfl)
      cases b with
      | true =>
        go_wp2_with (go_at_call 105; (with_reducible refine (equal_at N8 N9 HML8 RV RW Hb).mono ?_); rintro en w3 ⟨rfl, HB3⟩)
        go_roundg (gk - 1)
        case measure => exact kq_less Hi.out hlt
        case rel =>
          have he : sect ws i = cur L M (fr + i) := by rw [HSS.out, Hm.out]; exact of_decide_eq_true Hb.out
          have hcl : clrM L M fr ws (i + 1) = clrM L M fr ws i := by rw [clrM, if_pos he]
          have hcb : clrB L M fr ws (i + 1) = clrB L M fr ws i := by rw [clrB, if_pos he]
          refine ⟨i + 1, by rw [hcb], by simp [hw1], Lib.hid (kq_next Hi.out hlt), ?_⟩
          rw [hcl]
          have hbel := HBV.out.trans ((RDisk.Below.drew' (Below.refl _ V)).trans (HB3.out.mono HBV.out.size))
          exact Lib.hid (HCM.out wr w3 _ HM.out (Chg.of_below hbel) (HM.out.dsk.below hbel))
      | false =>
        go_wp2_with (go_at_call 105; (with_reducible refine (equal_at N8 N9 HML8 RV RW Hb).mono ?_); rintro en w3 ⟨rfl, HB3⟩)
        have hbel := HBV.out.trans ((RDisk.Below.drew' (Below.refl _ V)).trans (HB3.out.mono HBV.out.size))
        have HM3 := Lib.hid (HCM.out wr w3 _ HM.out (Chg.of_below hbel) (HM.out.dsk.below hbel))
        have HB3w := Lib.hid hbel
        obtain ⟨Aw3, cw3, Af3, cf3, h31, _⟩ := HM3.out.lg.mem
        have q3 := h31.cell
        have q4 := (BV.out.drew.below HB3.out).cell
        have HD3 := Lib.hid (dsk_drew HM3.out.dsk)
        clear hbel h31
        go_still_tail 11, (by kernel_rfl)
        go_wp2_with (go_at_call 46; (with_reducible refine (dwrite_at HD3 Hml HS2).mono ?_); rintro en w4 ⟨rfl, HD4, HC4⟩)
        go_roundg (gk - 1)
        case measure => exact kq_less Hi.out hlt
        case rel =>
          have he : ¬ sect ws i = cur L M (fr + i) := by rw [HSS.out, Hm.out]; exact of_decide_eq_false Hb.out
          have hcl : clrM L M fr ws (i + 1) = upd (clrM L M fr ws i) m [s0, s1, s2, s3, s4, s5, s6, s7] := by rw [clrM, if_neg he, HSS.out, Hm.out]
          have hcb : clrB L M fr ws (i + 1) = true := by rw [clrB, if_neg he]
          refine ⟨i + 1, by rw [hcb], by simp [hw1], Lib.hid (kq_next Hi.out hlt), ?_⟩
          rw [hcl]
          have hch : Chg (TD d lb mb) w w4 := (HM3.out.chg.drew).trans HC4.out
          exact Lib.hid (HCN.out w4 _ hch HD4.out)
    · have hii : ¬ (i : Int) < (n : Int) := by omega
      have hie : i = n := by have := Hi.out; omega
      subst hie
      obtain ⟨b, hb⟩ : ∃ b, clrB L M fr ws i = b := ⟨_, rfl⟩
      have Hb := Lib.hid hb
      rw [hb]
      obtain ⟨Aw3, cw3, Af3, cf3, h31, _⟩ := HM.out.lg.mem
      have q3 := h31.cell
      have HD3 := Lib.hid HM.out.dsk
      clear hb h31
      cases b with
      | false =>
        go_wp2
        go_end0
        refine ⟨rfl, ?_, HM.out.chg⟩
        rw [clrR, Hb.out, if_neg (by decide)]
        exact HM.out.dsk
      | true =>
        go_wp2_with (go_at_call 50; (with_reducible refine (dsync_at HD3).mono ?_); rintro en w4 ⟨rfl, HD4, HC4⟩)
        go_end0
        refine ⟨rfl, ?_, HM.out.chg.trans HC4.out⟩
        rw [clrR, Hb.out, if_pos rfl]
        exact HD4.out
end Go.Proofs.Ytmeoiennniknlaa.Log

namespace Go.Proofs.Ytmeoiennniknlaa.Log
open Go.RowKit Go.Shelf Go.Proofs.YtmeoiennniknlaaW.PrintWords Go.Proofs.Ytmeoiennniknlaa.Lb Go.Proofs.Ytmeoiennniknlaa.Frames
open Go.Proofs.Ytmeoiennniknlaa.Disk (Chg Sec secC secC_at agg8 thB Dsk cur upd)
open Go.Proofs.Ytmeoiennniknlaa.Anchor (Blk zero8 below_set8)
open Go.Proofs.Ytmeoiennniknlaa.RDisk (RDk curL)
set_option linter.unusedVariables false
set_option linter.unusedSimpArgs false

theorem cut3 (A : Option Addr) (n c e : Nat) (he : e ≤ c) (W : World) :
    (Instr.slice 23 (.slice A n c) none (some (.int .i64 (e : Int))) (some (.int .i64 (e : Int)))).run Try.prog W = .ok (.slice A e e) W := by
  obtain ⟨i0, hi0, hsz0⟩ := info_u64
  have ht := Try.underlying23
  have hel : Try.prog.elem 23 = 30 := by simp [Program.elem, ht]
  have hu : Try.prog.underlying 23 = some (.slice (Try.prog.elem 23)) := by rw [hel]; exact ht
  have ha : (A.map fun x => x.add 0) = A := by cases A <;> simp [Addr.add]
  simp [Instr.slice, run_underlying hu, Instr.sliceBounds, run_sliceBound, sliced, hel, sizeOf, typeInfo, hi0, hsz0, Result.andThen, he, ha]
theorem all_sum (e : Int) : ∀ g n l, (allR e g n l).2 = ((allR e g n l).1.map fun f => 1 + f.f1.length).sum
  | 0, _, _ => rfl
  | g + 1, n, l => by
    rw [allR]
    cases hg : getR e (n : Int) l with
    | none => rfl
    | some fm =>
      obtain ⟨f, m⟩ := fm
      have h := all_sum e g (n + 1) (l.drop m)
      have hf := getR_facts hg
      simp only [List.map_cons, List.sum_cons]
      rw [← h, hf.1]
theorem all_le (e : Int) : ∀ g n l, (allR e g n l).2 ≤ l.length
  | 0, _, _ => Nat.zero_le _
  | g + 1, n, l => by
    rw [allR]
    cases hg : getR e (n : Int) l with
    | none => exact Nat.zero_le _
    | some fm =>
      obtain ⟨f, m⟩ := fm
      have h := all_le e g (n + 1) (l.drop m)
      have hf := getR_facts hg
      rw [List.length_drop] at h
      show m + (allR e g (n + 1) (l.drop m)).2 ≤ l.length
      have := hf.2.1
      omega
theorem all_ws (e : Int) : ∀ g n l, WS l → ∀ f ∈ (allR e g n l).1, WS f.f1
  | 0, _, _, _, f, hf => by cases hf
  | g + 1, n, l, hl, y, hy => by
    rw [allR] at hy
    cases hg : getR e (n : Int) l with
    | none => rw [hg] at hy; cases hy
    | some fm =>
      obtain ⟨f, m⟩ := fm
      rw [hg] at hy
      have hf := getR_facts hg
      rcases List.mem_cons.1 hy with rfl | hy
      · exact hf.2.2.2.1 hl
      · exact all_ws e g (n + 1) (l.drop m) (fun x hx => hl x (List.mem_of_mem_drop hx)) y hy
end Go.Proofs.Ytmeoiennniknlaa.Log
