/- (*log.Log).Frames. gimmallaw08.same. gimmallaw08.alive. (*gimmalref08.Log).Append: its refusals. (*gimmalref08.Log).Append: the laws of its append; plain laws on the sectors that it writes. -/
import Derived.Test.YtmeoiennniknlaaLgS
namespace Go.Proofs.Ytmeoiennniknlaa.Log
open Go.RowKit Go.Shelf Go.Proofs.YtmeoiennniknlaaW.PrintWords Go.Proofs.Ytmeoiennniknlaa.Lb Go.Proofs.Ytmeoiennniknlaa.Frames
open Go.Proofs.Ytmeoiennniknlaa.Disk (Chg Chg.cell Sec secC secC_at agg8 thB Dsk cur upd)
open Go.Proofs.Ytmeoiennniknlaa.Anchor (Blk zero8 below_set8)
open Go.Proofs.Ytmeoiennniknlaa.RDisk (RDk curL)
set_option linter.unusedVariables false
set_option linter.unusedSimpArgs false

theorem m1i' {i : Nat} (h : i < 1000000) : wrap64 ((i : Int) + 1) = (i : Int) + 1 := by unfold wrap64; omega
theorem R_nilcap {k : IntKind} {e : TypeId} {w : World} {base n c : Nat} {ok : Nat → Prop} {A : Option Addr} {xs : List Int} (h : (Kd.int k).R e w base ok (.slice A n c) xs) : A = none → c = 0 := by
  intro hA
  subst hA
  obtain ⟨_, inner, ho, _⟩ := h
  rcases ho.2 with ⟨h', _⟩ | ⟨g', cap', cur, h', _⟩
  · simp only [Value.slice.injEq] at h'; exact h'.2.2
  · simp at h'
theorem kR_cell {w : World} {base c : Nat} {ok : Nat → Prop} {A : Option Addr} {l : List Fr} (h : kF.R 40 w base ok (.slice A l.length c) l) (j : Nat) (hj : j < l.length) : ∃ ad A1 c1, A = some ad ∧ w.cell? (ad.add (j * 2)) = some (.int .i64 l[j].f0) ∧
    w.cell? ⟨(ad.add (j * 2)).block, (ad.add (j * 2)).off + 1, none⟩ = some (.slice A1 l[j].f1.length c1) ∧ (Kd.int .u64).C w A1 l[j].f1.length l[j].f1 ∧ (A1 = none → c1 = 0) := by
  obtain ⟨A', c', e1, _, hrow⟩ := h.2.reads
  simp only [Value.slice.injEq] at e1
  obtain ⟨rfl, _, rfl⟩ := e1
  obtain ⟨ad, e, hc⟩ := hrow.2.2 (by omega)
  obtain ⟨cs, hs, hM, hcell⟩ := hc j _ (List.getElem?_eq_getElem hj)
  obtain ⟨v1, rfl, hR⟩ := PFramesGet.k40_openM hM
  obtain ⟨A1, c1, rfl⟩ := Kd.R_slice hR
  have h2 := Kd.R_reads' hR
  refine ⟨ad, A1, c1, e, hcell 0 _ rfl, ?_, h2.2.2, R_nilcap hR⟩
  have h3 := hcell 1 _ rfl
  rw [← h3]
  congr 1
  have := add_field ad (j * 2) 1 (by omega)
  exact this.symm

/-- What Frames answers. -/
def FramesP (w : World) (fs : List Fr) (en : Ending) (w' : World) : Prop := ∃ A c, en = .returned (.slice A fs.length c) ∧ fs.length ≤ c ∧ kF.C w' A fs.length fs ∧ Below w.heap.size w w'
theorem fr_take {fs : List Fr} {i : Nat} (hi : i < fs.length) : fs.take i ++ [⟨fs[i].f0, fs[i].f1⟩] = fs.take (i + 1) := by
  rw [List.take_succ_eq_append_getElem hi]

set_option maxRecDepth 100000 in
set_option maxHeartbeats 1000000 in
theorem frames_any {w : World} {g d fr n ep : Nat} {ws : List Int} {fs : List Fr} {OW OF : Nat → Prop} (hl : Lg w g d fr n ep ws fs OW OF) (hfs : fs.length ≤ 100000) (h2 : ∀ f ∈ fs, f.f1.length ≤ 2000) :
    Calls Try.prog 96 #[.pointer (some ⟨g, 0, none⟩)] w (FramesP w fs) := by
  obtain ⟨Aw, cw, Af, cf, h1, _, hR⟩ := hl.mem
  have q := h1.cell
  have HR := Lib.hid hR
  have HFS := Lib.hid hfs
  have H2 := Lib.hid h2
  obtain ⟨nf, hnf⟩ : ∃ nf, fs.length = nf := ⟨_, rfl⟩
  have HNF := Lib.hid hnf
  rw [hnf] at q
  have HB := Lib.hid (Below.refl w.heap.size w)
  clear hl h1 hR hfs h2 hnf
  go_enter Try.func96, Try.ntmps96
  go_wp2
  clear q
  go_loopg [3, 13] nf (fun kq v3 v13 wr => ∃ (i : Nat) (A : Option Addr) (c : Nat), v3 = .slice A i c ∧ v13 = .int .i64 (i : Int) ∧ Hid (i + kq = nf) ∧ Hid (kF.R 40 wr 0 (fun k => w.heap.size ≤ k ∧ k < wr.heap.size) (.slice A i c) (fs.take i)) ∧ Hid (Below w.heap.size w wr))
  case atStart => exact ⟨0, none, 0, rfl, rfl, Lib.hid (by omega), Lib.hid (Kd.R_nil _ _ _ _ _), HB⟩
  case round =>
    obtain ⟨i, A, c, rfl, rfl, Hi, HRi, Hb⟩ := hrel
    by_cases hlt : i < nf
    · have hii : (i : Int) < (nf : Int) := k_cast hlt
      have hif : i < fs.length := by rw [HNF.out]; exact hlt
      obtain ⟨ad, A1, c1, rfl, x0, x1, hC1, hn1⟩ := kR_cell (Kd.R_below HR.out Hb.out) i hif
      obtain ⟨f, hf⟩ : ∃ f, f = fs[i] := ⟨_, rfl⟩
      rw [← hf] at x0 x1 hC1
      obtain ⟨kd, hkd⟩ : ∃ kd, f.f0 = kd := ⟨_, rfl⟩
      obtain ⟨m, hm⟩ : ∃ m, f.f1.length = m := ⟨_, rfl⟩
      rw [hkd] at x0
      rw [hm] at x1 hC1
      have HKD := Lib.hid hkd
      have HF := Lib.hid hf
      have HM := Lib.hid hm
      have HC1 := Lib.hid hC1
      have HN1 := Lib.hid hn1
      have HM2 : Hid (m ≤ 2000) := Lib.hid (by rw [← hm, hf]; exact H2.out _ (List.getElem_mem hif))
      have HIF := Lib.hid hif
      have hw := m1i' (i := i) (by have := HFS.out; have := HNF.out; omega)
      clear hf hkd hm hC1 hn1
      go_wp2
      obtain ⟨V, hV⟩ : ∃ V, V = wr.alloc (.cells #[.int .i64 kd, .slice A1 m c1] 40) := ⟨_, rfl⟩
      obtain ⟨bx, hbx⟩ : ∃ bx, bx = wr.heap.size := ⟨_, rfl⟩
      have HBV : Hid (Below wr.heap.size wr V) := by rw [hV]; exact Lib.hid ((Below.refl _ wr).alloc (Nat.le_refl _) _)
      have BV : Hid (Blk V bx [.int .i64 kd, .slice A1 m c1] 40) := by rw [hV, hbx]; exact Lib.hid (Blk.new wr _ _)
      have HCV : Hid ((Kd.int .u64).C V.drew A1 m f.f1) := Lib.hid (Kd.C_drew (Kd.C_below HC1.out HBV.out))
      rw [← hV, ← hbx]
      have Hbx := Lib.hid hbx
      clear hV hbx x0 x1
      have b0 : V.cell? ⟨bx, 0, none⟩ = some (.int .i64 kd) := BV.out.cell 0
      have b1 : V.cell? ⟨bx, 1, none⟩ = some (.slice A1 m c1) := BV.out.cell 1
      have zb := BV.out.lt
      have HRv : Hid (kF.R 40 V.drew 0 (fun k => w.heap.size ≤ k ∧ k < wr.heap.size) (.slice A i c) (fs.take i)) := Lib.hid (Kd.R_below HRi.out (RDisk.Below.drew' HBV.out))
      have HOb : Hid (∀ k, (w.heap.size ≤ k ∧ k < wr.heap.size) → k < V.heap.size) := Lib.hid (fun k hk => Nat.lt_of_lt_of_le hk.2 HBV.out.size)
      have HTI : Hid ((fs.take i).length = i) := Lib.hid (by rw [List.length_take, Nat.min_eq_left (Nat.le_of_lt HIF.out)])
      have HI6 : Hid (i ≤ 1000000) := Lib.hid (by have := HFS.out; have := HNF.out; omega)
      have Hbx2 : Hid (¬ (w.heap.size ≤ bx ∧ bx < wr.heap.size)) := Lib.hid (fun h => by have := Hbx.out; omega)
      go_region_held3 (fun w' => w'.cell? ⟨bx, 0, none⟩ = some (.int .i64 kd) ∧ w'.cell? ⟨bx, 1, none⟩ = some (.slice A1 m c1))
        (first | go_keep)
        (first
          | (go_at_call 74; (with_reducible refine (clone_at HM HM2 HCV HN1).mono ?_); rintro en w7 ⟨A7, c7, rfl, HR7, HB7⟩; have b70 := (HB7.out.cell (p := ⟨bx, 0, none⟩) zb).trans b0; have b71 := (HB7.out.cell (p := ⟨bx, 1, none⟩) zb).trans b1; have zb7 := Nat.lt_of_lt_of_le zb HB7.out.size)
          | (refine app_frow_step 42 Try.underlying42 PFramesGet.info40 rfl _ _ (by rfl) A i c (fs.take i) ⟨kd, f.f1⟩ m V.heap.size A7 c7 (by rfl) (by rfl) (Lib.hid (Kd.R_below HRv.out HB7.out)) HTI HM HOb (Lib.hid HB7.out.size) HR7 HI6 ?_; intro A8 c8 w8 HF8 HC8; have b80 := (HC8.out.cell (p := ⟨bx, 0, none⟩) zb7 Hbx2.out).trans b70; have b81 := (HC8.out.cell (p := ⟨bx, 1, none⟩) zb7 Hbx2.out).trans b71))
      go_wp2
      have HC8w : Hid (Below w.heap.size w w8) := Lib.hid (Chg.below (S := fun k => w.heap.size ≤ k ∧ k < wr.heap.size) ((Chg.of_below Hb.out).trans ((Chg.of_below HBV.out).drew.trans ((Chg.of_below HB7.out).trans HC8.out))) (Nat.le_refl _) (fun k hk => hk.1))
      go_roundg (gk - 1)
      case measure => exact kq_less Hi.out hlt
      case rel =>
        refine ⟨i + 1, A8, c8, rfl, by simp [hw], Lib.hid (kq_next Hi.out hlt), Lib.hid ?_, HC8w⟩
        rw [← fr_take HIF.out, ← HF.out, HKD.out]
        exact Kd.R_mono HF8.out (fun k hk => ⟨hk.1.elim (fun h => h.1) (fun h => Nat.le_trans Hb.out.size (Nat.le_trans HBV.out.size h)), hk.2⟩)
    · have hii : ¬ (i : Int) < (nf : Int) := k_ncast hlt
      have hie : i = nf := k_end Hi.out hlt
      subst hie
      have hR := HRi.out
      rw [show fs.take i = fs from List.take_of_length_le (by rw [HNF.out]; exact Nat.le_refl _)] at hR
      have HRR := Lib.hid hR
      clear hR HRi
      go_wp2
      go_ret
      have h3 := Kd.R_reads' HRR.out
      exact ⟨A, c, by rw [HNF.out]; rfl, by rw [HNF.out]; exact h3.2.1, h3.2.2, Hb.out⟩
end Go.Proofs.Ytmeoiennniknlaa.Log

namespace Go.Proofs.Ytmeoiennniknlaa.Log
open Go.RowKit Go.Shelf Go.Proofs.YtmeoiennniknlaaW.PrintWords Go.Proofs.Ytmeoiennniknlaa.Lb Go.Proofs.Ytmeoiennniknlaa.Frames
open Go.Proofs.Ytmeoiennniknlaa.Disk (Chg Chg.cell Sec secC secC_at agg8 thB Dsk cur upd)
open Go.Proofs.Ytmeoiennniknlaa.Anchor (Blk zero8 below_set8)
open Go.Proofs.Ytmeoiennniknlaa.RDisk (RDk curL)
set_option linter.unusedVariables false
set_option linter.unusedSimpArgs false

section
variable {w W : World} {ga gb d x fr n ep : Nat} {ws : List Int} {fs : List Fr} {OW OF OB : Nat → Prop}
theorem sframes_at (h : Hid (Lg w ga d fr n ep ws fs OW OF)) (hfs : Hid (fs.length ≤ 1000)) (h2 : Hid (∀ f ∈ fs, f.f1.length ≤ 2000)) (hB : Hid (Below w.heap.size w W)) :
    Calls Try.prog 96 #[.pointer (some ⟨ga, 0, none⟩)] W fun en w' => ∃ A c, en = .returned (.slice A fs.length c) ∧ fs.length ≤ c ∧ Hid (kF.C w' A fs.length fs) ∧ Hid (Below w.heap.size w w') := by
  have h3 := hfs.out
  exact (frames_any (h.out.below hB.out) (by omega) h2.out).mono fun en w' ⟨A, c, g1, g2, g3, g4⟩ => ⟨A, c, g1, g2, Lib.hid g3, Lib.hid (hB.out.trans (g4.mono hB.out.size))⟩
theorem ssame_at {A0 A1 : Option Addr} {c0 c1 : Nat} (hfs : Hid (fs.length ≤ 1000)) (h2 : Hid (∀ f ∈ fs, f.f1.length ≤ 2000)) (hC0 : Hid (kF.C W A0 fs.length fs)) (hc0 : fs.length ≤ c0) (hC1 : Hid (Kd.F kF w OB A1 fs.length fs)) (hc1 : Hid (fs.length ≤ c1)) (hO : Hid (∀ k, OB k → k < w.heap.size)) (hB : Hid (Below w.heap.size w W)) :
    Calls Try.prog 34 #[.slice A0 fs.length c0, .slice A1 fs.length c1] W fun en w' => en = .returned (.bool true) ∧ Hid (Below w.heap.size w w') := by
  have h3 := hfs.out
  exact (same_any W A0 A1 c0 c1 fs (by omega) (fun f hf => by have := h2.out f hf; omega) hC0.out hc0 (Kd.F_now (Kd.F_step hC1.out (fun k hk hlt => hB.out.block k hlt))) hc1.out).mono fun en w' ⟨g1, g2⟩ => ⟨g1, Lib.hid (hB.out.trans (g2.mono hB.out.size))⟩
theorem swords_at {lw : Nat} (h : Hid (Lg w ga d fr n ep ws fs OW OF)) (hl : Hid (ws.length = lw)) (hB : Hid (Below w.heap.size w W)) :
    Calls Try.prog 88 #[.pointer (some ⟨ga, 0, none⟩)] W fun en w' => en = .returned (.int .i64 (lw : Int)) ∧ W = w' := by
  have e := hl.out
  subst e
  exact words_any (h.out.below hB.out)
theorem sepoch_at (h : Hid (Lg w ga d fr n ep ws fs OW OF)) (hB : Hid (Below w.heap.size w W)) :
    Calls Try.prog 97 #[.pointer (some ⟨ga, 0, none⟩)] W fun en w' => en = .returned (.int .i64 (ep : Int)) ∧ W = w' := epoch_any (h.out.below hB.out)
theorem sroom_at {y : Int} (h : Hid (Lg w ga d fr n ep ws fs OW OF)) (hn : Hid (n ≤ 4096)) (hw : Hid (ws.length ≤ n * 8)) (hy : Hid ((n : Int) * 8 - (ws.length : Int) = y)) (hB : Hid (Below w.heap.size w W)) :
    Calls Try.prog 89 #[.pointer (some ⟨ga, 0, none⟩)] W fun en w' => en = .returned (.int .i64 y) ∧ Hid (Below w.heap.size w w') :=
  (room_at (Lib.hid (h.out.below hB.out)) hn hw hy).mono fun en w' ⟨g1, g2⟩ => ⟨g1, Lib.hid (hB.out.trans (g2.out.mono hB.out.size))⟩
theorem sused_at {lw : Nat} (h : Hid (Rg w gb x fr n ep fs OB)) (hl : Hid (used fs = lw)) (hm : Hid (lw ≤ 100000)) (hB : Hid (Below w.heap.size w W)) :
    Calls Try.prog 95 #[.pointer (some ⟨gb, 0, none⟩)] W fun en w' => en = .returned (.int .i64 (lw : Int)) ∧ W = w' := by
  have e := hl.out
  subst e
  exact used_any (h.out.below hB.out) hm.out

set_option maxRecDepth 100000 in
set_option maxHeartbeats 2000000 in
theorem sameLog_any (hl : Lg w ga d fr n ep ws fs OW OF) (hr : Rg w gb x fr n ep fs OB) (hfs : fs.length ≤ 1000) (h2 : ∀ f ∈ fs, f.f1.length ≤ 2000) (hn : n ≤ 4096) (hw : ws.length ≤ n * 8) (hu : used fs = ws.length) :
    Calls Try.prog 66 #[.pointer (some ⟨ga, 0, none⟩), .pointer (some ⟨gb, 0, none⟩)] w fun en w' => en = .returned (.bool true) ∧ Below w.heap.size w w' := by
  have HL := Lib.hid hl
  have HR := Lib.hid hr
  have HFS := Lib.hid hfs
  have H2 := Lib.hid h2
  have HN := Lib.hid hn
  have HW := Lib.hid hw
  obtain ⟨lw, hlw⟩ : ∃ lw, ws.length = lw := ⟨_, rfl⟩
  have HLW := Lib.hid hlw
  have HU : Hid (used fs = lw) := Lib.hid (hu.trans hlw)
  have HU9 : Hid (lw ≤ 100000) := Lib.hid (by omega)
  obtain ⟨y, hy⟩ : ∃ y, (n : Int) * 8 - (ws.length : Int) = y := ⟨_, rfl⟩
  have HY := Lib.hid hy
  obtain ⟨Ab, cb, h1, hcb, hF⟩ := hr.mem
  have HCB := Lib.hid hcb
  have HF := Lib.hid hF
  have HOB := Lib.hid hr.bb
  have HB0 : Hid (Below w.heap.size w w.drew) := Lib.hid (RDisk.Below.drew' (Below.refl _ w))
  have HCells : Hid (∀ W, Hid (Below w.heap.size w W) → W.cell? ⟨gb, 4, none⟩ = some (.slice Ab fs.length cb) ∧ W.cell? ⟨gb, 2, none⟩ = some (.int .i64 (n : Int)) ∧ W.cell? ⟨gb, 3, none⟩ = some (.int .i64 (ep : Int))) := Lib.hid (fun W hW => ⟨(h1.below hW.out).cell 4, (h1.below hW.out).cell 2, (h1.below hW.out).cell 3⟩)
  have i1 : IntKind.i64.wrap (8 * (n : Int)) = 8 * (n : Int) := IntWalk.i64_in _ (by omega)
  have i2 : IntKind.i64.wrap (8 * (n : Int) - (lw : Int)) = y := by rw [IntWalk.i64_in _ (by omega)]; omega
  have i3 : wrap64 (8 * (n : Int)) = 8 * (n : Int) := by unfold wrap64; omega
  have i4 : wrap64 (8 * (n : Int) - (lw : Int)) = y := by unfold wrap64; omega
  clear hl hr hfs h2 hn hw hu hlw hy h1 hcb hF
  go_enter Try.func66, Try.ntmps66
  go_wp2
  go_region_held3 (fun W => W.cell? ⟨gb, 4, none⟩ = some (.slice Ab fs.length cb) ∧ W.cell? ⟨gb, 2, none⟩ = some (.int .i64 (n : Int)) ∧ W.cell? ⟨gb, 3, none⟩ = some (.int .i64 (ep : Int)))
    (exact HCells.out _ (by assumption))
    (first
      | (go_at_call 96; (with_reducible refine (sframes_at HL HFS H2 HB0).mono ?_); rintro en w1 ⟨A1, c1, rfl, hc1, HC1, HB1⟩)
      | (go_at_call 34; (with_reducible refine (ssame_at HFS H2 HC1 hc1 HF HCB HOB HB1).mono ?_); rintro en w2 ⟨rfl, HB2⟩)
      | (go_at_call 88; (with_reducible refine (swords_at HL HLW (by assumption)).mono ?_); rintro en w3 ⟨rfl, rfl⟩)
      | (go_at_call 95; (with_reducible refine (sused_at HR HU HU9 (by assumption)).mono ?_); rintro en w3 ⟨rfl, rfl⟩)
      | (go_at_call 89; (with_reducible refine (sroom_at HL HN HW HY (by assumption)).mono ?_); rintro en w4 ⟨rfl, HB4⟩)
      | (go_at_call 97; (with_reducible refine (sepoch_at HL (by assumption)).mono ?_); rintro en w5 ⟨rfl, rfl⟩))
  go_wp2
  go_ret
  exact ⟨rfl, HB4.out⟩
end
end Go.Proofs.Ytmeoiennniknlaa.Log

namespace Go.Proofs.Ytmeoiennniknlaa.Log
open Go.RowKit Go.Shelf Go.Proofs.YtmeoiennniknlaaW.PrintWords Go.Proofs.Ytmeoiennniknlaa.Lb Go.Proofs.Ytmeoiennniknlaa.Frames
open Go.Proofs.Ytmeoiennniknlaa.Disk (Chg Chg.cell Sec secC secC_at agg8 thB Dsk cur upd)
open Go.Proofs.Ytmeoiennniknlaa.Anchor (Blk zero8 below_set8)
open Go.Proofs.Ytmeoiennniknlaa.RDisk (RDk curL)
set_option linter.unusedVariables false
set_option linter.unusedSimpArgs false

theorem dnew_dsk (W : World) (n : Nat) (h1 : 1 ≤ n) (h2 : n ≤ 4096) :
    Calls Try.prog 45 #[.int .i64 (n : Int)] W fun en W' => ∃ d lb mb, en = .returned (.pointer (some ⟨d, 0, none⟩)) ∧ Dsk W' d lb mb (List.replicate n zero8) (fun _ => none) ∧
      (W.heap.size ≤ d ∧ W.heap.size ≤ lb ∧ W.heap.size ≤ mb) ∧ Below W.heap.size W W' := by
  refine (Disk.new_any W n h1 h2).mono ?_
  rintro en W' ⟨rfl, rfl⟩
  refine ⟨_, W.heap.size, W.heap.size + 1, rfl, ⟨by simpa using ⟨h1, h2⟩, ?_, ?_, ⟨0, 0, ?_⟩, ?_, ⟨.map [], Disk.MapIs.empty _, ?_⟩⟩, ⟨by omega, Nat.le_refl _, by omega⟩, ?_⟩
  · intro s hs
    rw [(List.mem_replicate.1 hs).2]
    exact Disk.Sec.zero
  · intro i s hs; cases hs
  · have h := Blk.new ((W.alloc (.cells (secC (List.replicate n zero8)).toArray 59)).alloc (.map #[] 0)) [.slice (some ⟨W.heap.size, 0, none⟩) n n, .map (some (W.heap.size + 1)), .int .i64 0, .int .i64 0] 118
    simp only [World.size_alloc] at h
    rw [List.length_replicate]
    exact h
  · exact ((Blk.new W (secC (List.replicate n zero8)) 59).alloc _).alloc _
  · have h := (World.ownsMap_made (w := W.alloc (.cells (secC (List.replicate n zero8)).toArray 59)) Try.prog 3 Disk.secR)
    rw [World.size_alloc] at h
    exact h.alloc _
  · exact (((Below.refl _ W).alloc (Nat.le_refl _) _).alloc (by simp) _).alloc (by simp; omega) _
theorem dnew_at {W : World} {n : Nat} {m : Int} (hm : Hid ((n : Int) = m)) (h : Hid (1 ≤ n ∧ n ≤ 4096)) :
    Calls Try.prog 45 #[.int .i64 m] W fun en W' => ∃ d lb mb, en = .returned (.pointer (some ⟨d, 0, none⟩)) ∧ Hid (Dsk W' d lb mb (List.replicate n zero8) (fun _ => none)) ∧
      Hid (W.heap.size ≤ d ∧ W.heap.size ≤ lb ∧ W.heap.size ≤ mb) ∧ Hid (Below W.heap.size W W') := by
  have e := hm.out
  subst e
  exact (dnew_dsk W n h.out.1 h.out.2).mono fun en W' ⟨d, lb, mb, h1, h2, h3, h4⟩ => ⟨d, lb, mb, h1, Lib.hid h2, Lib.hid h3, Lib.hid h4⟩
/-- log.Open where all is in range. -/
theorem open_at {w : World} {d lb mb fr n ep : Nat} {a b c : Int} {L : List (List Int)} {M : Nat → Option (List Int)} {T : List Fr × Nat} (h : Hid (Dsk w d lb mb L M)) (hab : Hid (((fr : Int) = a) ∧ ((n : Int) = b) ∧ ((ep : Int) = c))) (hn : Hid (1 ≤ n ∧ fr + n ≤ L.length ∧ ep ≤ 4294967295)) (hT : Hid (allR (ep : Int) ((rdW L M fr n).length + 1) 0 (rdW L M fr n) = T)) :
    Calls Try.prog 55 #[.pointer (some ⟨d, 0, none⟩), .int .i64 a, .int .i64 b, .int .i64 c] w fun en w' => ∃ g OW OF, en = .returned (.tuple #[.pointer (some ⟨g, 0, none⟩), .int .i64 0]) ∧
      Hid (Dsk w' d lb mb (clrR L M fr n ((rdW L M fr n).take T.2)).1 (clrR L M fr n ((rdW L M fr n).take T.2)).2) ∧ Hid (Lg w' g d fr n ep ((rdW L M fr n).take T.2) T.1 OW OF) ∧
      Hid (w.heap.size ≤ g ∧ (∀ k, OW k → w.heap.size ≤ k) ∧ (∀ k, OF k → w.heap.size ≤ k)) ∧ Hid (Chg (TD d lb mb) w w') := by
  obtain ⟨e1, e2, e3⟩ := hab.out
  subst e1 e2 e3
  exact (open_ok h.out hn.out.1 hn.out.2.1 hn.out.2.2 T hT.out).mono fun en w' ⟨g, OW, OF, h1, h2, h3, h4, h5⟩ => ⟨g, OW, OF, h1, Lib.hid h2, Lib.hid h3, Lib.hid h4, Lib.hid h5⟩
/-- Append where there is room. -/
theorem append_at {w : World} {d lb mb g fr n ep : Nat} {L : List (List Int)} {M : Nat → Option (List Int)} {ws : List Int} {fs : List Fr} {OW OF : Nat → Prop} {k : Nat} {kd : Int} {A : Option Addr} {m c : Nat} {l ys : List Int} (h : Hid (Dsk w d lb mb L M)) (hl : Hid (Lg w g d fr n ep ws fs OW OF)) (hfr : Hid (fr + n ≤ L.length ∧ ep ≤ 4294967295 ∧ fs.length ≤ 100000))
    (hg : Hid ((¬ TD d lb mb g) ∧ (∀ k, OW k → ¬ TD d lb mb k) ∧ (∀ k, OF k → ¬ TD d lb mb k))) (hk : Hid ((k : Int) = kd)) (hm : Hid (l.length = m))
    (hC : Hid (∀ w', Chg (fun k => k = g ∨ OW k) w w' → (Kd.int .u64).C w' A m l)) (hws : Hid (WS l)) (hnil : Hid (A = none → c = 0)) (hb : Hid (mayB kd m = true)) (hw : Hid (ws.length + (m + 1) ≤ n * 8)) (hy : Hid (((fmark ep fs.length k l : Nat) : Int) :: l = ys)) :
    Calls Try.prog 64 #[.pointer (some ⟨g, 0, none⟩), .agg #[.int .i64 kd, .slice A m c]] w fun en w' => ∃ OW' OF', en = .returned (.int .i64 0) ∧ Hid (Dsk w' d lb mb L (wrM M fr (ws ++ ys) (ws.length / 8) (((ws ++ ys).length - 1) / 8 + 1 - ws.length / 8))) ∧ Hid (Lg w' g d fr n ep (ws ++ ys) (fs ++ [⟨kd, l⟩]) OW' OF') ∧
    Hid ((∀ k, OW' k → OW k ∨ w.heap.size ≤ k) ∧ (∀ k, OF' k → OF k ∨ w.heap.size ≤ k)) ∧ Hid (Chg (fun k => TD d lb mb k ∨ k = g ∨ OW k ∨ OF k) w w') := by
  have e1 := hk.out
  have e2 := hm.out
  have e3 := hy.out
  have h4 := hw.out
  subst e1 e2 e3
  exact (append_ok h.out hl.out hfr.out.1 hfr.out.2.1 hfr.out.2.2 hg.out.1 hg.out.2.1 hg.out.2.2 k A c l hC.out hws.out hnil.out hb.out (by omega) hw.out).mono fun en w' ⟨OW', OF', h1, h2, h3, h4, h5, h6⟩ => ⟨OW', OF', h1, Lib.hid h2, Lib.hid h3, Lib.hid ⟨h4, h5⟩, Lib.hid h6⟩
theorem appfull_at {w : World} {g d fr n ep : Nat} {ws : List Int} {fs : List Fr} {OW OF : Nat → Prop} {k : Int} {A : Option Addr} {m c : Nat} (hl : Hid (Lg w g d fr n ep ws fs OW OF)) (hm : Hid (m ≤ 140737488351232)) (hb : Hid (mayB k m = true)) (hn : Hid (n ≤ 4096)) (hw : Hid (ws.length ≤ n * 8)) (hf : Hid (n * 8 < ws.length + (m + 1))) :
    Calls Try.prog 64 #[.pointer (some ⟨g, 0, none⟩), .agg #[.int .i64 k, .slice A m c]] w fun en w' => en = .returned (.int .i64 4) ∧ Hid (Below w.heap.size w w') :=
  (append_full hl.out k A m c hm.out hb.out hn.out hw.out hf.out).mono fun en w' ⟨h1, h2⟩ => ⟨h1, Lib.hid h2⟩
theorem rdW_zero : rdW (List.replicate 1 zero8) (fun _ => none) 0 1 = [0, 0, 0, 0, 0, 0, 0, 0] := rfl
theorem allR_zero : allR ((0 : Nat) : Int) ((rdW (List.replicate 1 zero8) (fun _ => none) 0 1).length + 1) 0 (rdW (List.replicate 1 zero8) (fun _ => none) 0 1) = ([], 0) := by
  rw [rdW_zero, List.length_cons, allR]
  have h : getR ((0 : Nat) : Int) ((0 : Nat) : Int) [0, 0, 0, 0, 0, 0, 0, 0] = none := by
    unfold getR
    rw [if_neg (by decide)]
    exact if_pos (Or.inr (Or.inl (by decide)))
  rw [h]

theorem row_of_blk {w : World} {g : Nat} {l : List Int} {t : TypeId} (h : Blk w g (nums .u64 l) t) (hl : l.length ≤ 9223372036854775807) : (Kd.int .u64).C w (some ⟨g, 0, none⟩) l.length l := by
  refine C_of_cells .u64 hl (fun j hj => ?_)
  have h5 := h.cell j
  have e1 : (⟨g, 0, none⟩ : Addr).add j = ⟨g, j, none⟩ := by unfold Addr.add; split <;> simp_all
  rw [e1]
  refine h5.trans ?_
  rw [nums, List.getElem?_map, List.getElem?_eq_getElem hj]; rfl
theorem far_dsk {w : World} {d lb mb g : Nat} {L : List (List Int)} {M : Nat → Option (List Int)} {OW OF : Nat → Prop} (h : Dsk w d lb mb L M) (hf : w.heap.size ≤ g ∧ (∀ k, OW k → w.heap.size ≤ k) ∧ (∀ k, OF k → w.heap.size ≤ k)) :
    (¬ TD d lb mb g) ∧ (∀ k, OW k → ¬ TD d lb mb k) ∧ (∀ k, OF k → ¬ TD d lb mb k) := by
  have h1 := h.ltd
  have h2 := h.ltl
  have h3 := h.ltm
  unfold TD
  exact ⟨by have := hf.1; omega, fun k hk => by have := hf.2.1 k hk; omega, fun k hk => by have := hf.2.2 k hk; omega⟩
theorem td_new {B d lb mb : Nat} (h : B ≤ d ∧ B ≤ lb ∧ B ≤ mb) (k : Nat) (hk : TD d lb mb k) : B ≤ k := by
  rcases hk with rfl | rfl | rfl
  · exact h.1
  · exact h.2.1
  · exact h.2.2
set_option maxRecDepth 100000 in
set_option maxHeartbeats 2000000 in
theorem alive8_any (w : World) :
    Calls Try.prog 53 #[] w fun en w' => en = .returned (.bool true) ∧ Below w.heap.size w w' := by
  have N1 : Hid (((1 : Nat) : Int) = 1) := Lib.hid rfl
  have R1 : Hid (1 ≤ 1 ∧ 1 ≤ 4096) := Lib.hid (by decide)
  have A1 : Hid ((((0 : Nat) : Int) = 0) ∧ (((1 : Nat) : Int) = 1) ∧ (((0 : Nat) : Int) = 0)) := Lib.hid ⟨rfl, rfl, rfl⟩
  have A2 : Hid (1 ≤ 1 ∧ 0 + 1 ≤ (List.replicate 1 zero8).length ∧ 0 ≤ 4294967295) := Lib.hid (by decide)
  have HT := Lib.hid allR_zero
  have K1 : Hid (((1 : Nat) : Int) = 1) := Lib.hid rfl
  have M7 : Hid (([0, 0, 0, 0, 0, 0, 0] : List Int).length = 7) := Lib.hid rfl
  have W7 : Hid (WS ([0, 0, 0, 0, 0, 0, 0] : List Int)) := Lib.hid (by intro x hx; simp at hx; omega)
  have B7 : Hid (mayB 1 7 = true) := Lib.hid (by decide)
  have B0 : Hid (mayB 1 0 = true) := Lib.hid (by decide)
  have N0 : Hid (0 ≤ 140737488351232) := Lib.hid (by decide)
  have N4 : Hid (1 ≤ 4096) := Lib.hid (by decide)
  have hmk : ∀ W : World, (Instr.makeSlice 23 (.int .i64 7) (.int .i64 7)).run Try.prog W = .ok (.slice (some ⟨W.heap.size, 0, none⟩) 7 7) (W.alloc (.cells #[.int .u64 0, .int .u64 0, .int .u64 0, .int .u64 0, .int .u64 0, .int .u64 0, .int .u64 0] 30)) := fun W => by kernel_rfl
  go_enter Try.func53, Try.ntmps53
  go_wp2_with (first
    | (go_at_call 45; (with_reducible refine (dnew_at N1 R1).mono ?_); rintro en w1 ⟨d, lb, mb, rfl, HD1, HN1, HB1⟩)
    | (go_at_call 55; (with_reducible refine (open_at HD1 A1 A2 HT).mono ?_); rintro en w2 ⟨g, OW, OF, rfl, HD2, HL2, HF2, HC2⟩))
  obtain ⟨V, hV⟩ : ∃ V, V = w2.alloc (.cells #[.int .u64 0, .int .u64 0, .int .u64 0, .int .u64 0, .int .u64 0, .int .u64 0, .int .u64 0] 30) := ⟨_, rfl⟩
  obtain ⟨gs, hgs⟩ : ∃ gs, gs = w2.heap.size := ⟨_, rfl⟩
  have HBV : Hid (Below w2.heap.size w2 V) := by rw [hV]; exact Lib.hid ((Below.refl _ w2).alloc (Nat.le_refl _) _)
  have BV : Hid (Blk V gs (nums .u64 [0, 0, 0, 0, 0, 0, 0]) 30) := by rw [hV, hgs]; exact Lib.hid (Blk.new w2 _ _)
  have HL3 : Hid (Lg V g d 0 1 0 [] [] OW OF) := Lib.hid (Lg.below (ws := []) (fs := []) HL2.out HBV.out)
  have HD3 := Lib.hid (HD2.out.below HBV.out)
  have hne : ¬ (gs = g ∨ OW gs) := by
    rintro (e | e)
    · have h1 := HL2.out.lt; omega
    · have h1 := HL2.out.bw gs e; omega
  have HCC : Hid (∀ w', Chg (fun k => k = g ∨ OW k) V w' → (Kd.int .u64).C w' (some ⟨gs, 0, none⟩) 7 [0, 0, 0, 0, 0, 0, 0]) := Lib.hid (fun w' hw' => row_of_blk (hw'.blk BV.out hne) (by decide))
  have HFar : Hid ((¬ TD d lb mb g) ∧ (∀ k, OW k → ¬ TD d lb mb k) ∧ (∀ k, OF k → ¬ TD d lb mb k)) := Lib.hid (far_dsk HD1.out HF2.out)
  have HLE : Hid (0 + 1 ≤ (clrR (List.replicate 1 zero8) (fun _ => none) 0 1 ((rdW (List.replicate 1 zero8) (fun _ => none) 0 1).take (([], 0) : List Fr × Nat).2)).1.length ∧ 0 ≤ 4294967295 ∧ ([] : List Fr).length ≤ 100000) := Lib.hid ⟨by rw [clrR_length]; decide, by decide, by decide⟩
  have HNI : Hid ((some ⟨gs, 0, none⟩ : Option Addr) = none → 7 = 0) := Lib.hid (fun h => by cases h)
  have HFit : Hid (([] : List Int).length + (7 + 1) ≤ 1 * 8) := Lib.hid (by decide)
  obtain ⟨ys, hys⟩ : ∃ ys, ((fmark 0 ([] : List Fr).length 1 [0, 0, 0, 0, 0, 0, 0] : Nat) : Int) :: [0, 0, 0, 0, 0, 0, 0] = ys := ⟨_, rfl⟩
  have HYS := Lib.hid hys
  have HY8 : Hid (([] ++ ys).length = 8) := by rw [← hys]; exact Lib.hid rfl
  have HYL : Hid (([] ++ ys).length ≤ 1 * 8) := Lib.hid (Nat.le_of_eq HY8.out)
  have HYF : Hid (1 * 8 < ([] ++ ys).length + (0 + 1)) := Lib.hid (by rw [HY8.out]; decide)
  have HYR : Hid (((1 : Nat) : Int) * 8 - (([] ++ ys).length : Int) = 0) := Lib.hid (by rw [HY8.out]; rfl)
  rw [← hV, ← hgs]
  clear hV hgs hne hys hmk
  go_wp2_with (first
    | (go_at_call 64; (with_reducible refine (append_at HD3 HL3 HLE HFar K1 M7 HCC W7 HNI B7 HFit HYS).mono ?_); rintro en w3 ⟨OW3, OF3, rfl, HD4, HL4, HS4, HC4⟩)
    | (go_at_call 64; (with_reducible refine (appfull_at HL4 N0 B0 N4 HYL HYF).mono ?_); rintro en w5 ⟨rfl, HB5⟩; have HL5 := Lib.hid (HL4.out.below HB5.out))
    | (go_at_call 88; (with_reducible refine (swords_at HL5 HY8 (Lib.hid (Below.refl _ _))).mono ?_); rintro en w6 ⟨rfl, rfl⟩)
    | (go_at_call 89; (with_reducible refine (room_at HL5 N4 HYL HYR).mono ?_); rintro en w7 ⟨rfl, HB7⟩))
  go_ret
  refine ⟨rfl, ?_⟩
  have hs := HB1.out.size
  have c2 : Chg (fun k => w.heap.size ≤ k) w w2 := (Chg.of_below HB1.out).trans (HC2.out.mono (td_new HN1.out))
  have c4 : Chg (fun k => w.heap.size ≤ k) V w3 := HC4.out.mono (fun k hk => by
    rcases hk with hk | hk | hk | hk
    · exact td_new HN1.out k hk
    · rw [hk]; exact Nat.le_trans hs HF2.out.1
    · exact Nat.le_trans hs (HF2.out.2.1 k hk)
    · exact Nat.le_trans hs (HF2.out.2.2 k hk))
  exact ((c2.trans (Chg.of_below HBV.out)).trans (c4.trans ((Chg.of_below HB5.out).trans (Chg.of_below HB7.out)))).below (Nat.le_refl _) (fun k hk => hk)
end Go.Proofs.Ytmeoiennniknlaa.Log

namespace Go.Proofs.Ytmeoiennniknlaa.Log
open Go.RowKit Go.Shelf Go.Proofs.YtmeoiennniknlaaW.PrintWords Go.Proofs.Ytmeoiennniknlaa.Lb Go.Proofs.Ytmeoiennniknlaa.Frames
open Go.Proofs.Ytmeoiennniknlaa.Disk (Chg Chg.cell Sec secC secC_at agg8 thB Dsk cur upd)
open Go.Proofs.Ytmeoiennniknlaa.Anchor (Blk zero8 below_set8)
open Go.Proofs.Ytmeoiennniknlaa.RDisk (RDk curL dirB)
set_option linter.unusedVariables false
set_option linter.unusedSimpArgs false

theorem rmay_at {w : World} {k : Int} {A : Option Addr} {n c : Nat} {b : Bool} (hn : Hid (n ≤ 140737488351232)) (hx : Hid (mayB k n = b)) :
    Calls Try.prog 28 #[.agg #[.int .i64 k, .slice A n c]] w fun en w' => en = .returned (.bool b) ∧ Hid (Below w.heap.size w w') := by
  have e := hx.out
  subst e
  exact (refMay_any w k A n c hn.out).mono fun en w' ⟨h1, h2⟩ => ⟨h1, Lib.hid h2⟩
theorem rput_at {w : World} {e n k : Nat} {A : Option Addr} {m c : Nat} {l ys : List Int} (he : Hid (e ≤ 4294967295)) (hn : Hid (n < 4294967296)) (hb : Hid (mayB (k : Int) m = true)) (hm : Hid (l.length = m)) (hl : Hid (WS l)) (hC : Hid ((Kd.int .u64).C w A m l)) (hy : Hid (((fmark e n k l : Nat) : Int) :: l = ys)) :
    Calls Try.prog 33 #[.int .i64 (e : Int), .int .i64 (n : Int), .agg #[.int .i64 (k : Int), .slice A m c]] w fun en w' => ∃ A1 c1, en = .returned (.slice A1 (m + 1) c1) ∧ Hid ((Kd.int .u64).R 30 w' w.heap.size (fun _ => True) (.slice A1 (m + 1) c1) ys) ∧ Hid (Below w.heap.size w w') := by
  have e1 := hm.out
  have e2 := hy.out
  subst e1 e2
  obtain ⟨h1, h2, h3⟩ := mayB_true.1 hb.out
  have he' := he.out
  exact (refPut_any w e n k (by omega) hn.out (by omega) A c l hl.out h3 hC.out).mono fun en w' ⟨A1, c1, g1, g2, g3, g4, g5⟩ => ⟨A1, c1, g1, Lib.hid g4, Lib.hid g5⟩
theorem rused_at {W : World} {gb x fr n ep lw : Nat} {fs : List Fr} {OB : Nat → Prop} (h : Hid (Rg W gb x fr n ep fs OB)) (hl : Hid (used fs = lw)) (hm : Hid (lw ≤ 100000)) :
    Calls Try.prog 95 #[.pointer (some ⟨gb, 0, none⟩)] W fun en w' => en = .returned (.int .i64 (lw : Int)) ∧ W = w' := by
  have e := hl.out
  subst e
  exact used_any h.out hm.out

theorem full_cast {n lw m : Nat} (h : n * 8 < lw + (m + 1)) : 8 * (n : Int) < (lw : Int) + ((m : Int) + 1) := by omega
set_option maxRecDepth 100000 in
set_option maxHeartbeats 1000000 in
theorem rappend_bad (w : World) (p : Option Addr) (k : Int) (A : Option Addr) (m c : Nat) (hm : m ≤ 140737488351232) (hb : mayB k m = false) :
    Calls Try.prog 65 #[.pointer p, .agg #[.int .i64 k, .slice A m c]] w fun en w' => en = .returned (.int .i64 1) ∧ Below w.heap.size w w' := by
  have HM := Lib.hid hm
  have Hb := Lib.hid hb
  have HBV := Lib.hid ((Below.refl _ w).alloc (Nat.le_refl _) (.cells #[.int .i64 k, .slice A m c] 40))
  clear hm hb
  go_enter Try.func65, Try.ntmps65
  go_wp2_with (go_at_call 28; (with_reducible refine (rmay_at HM Hb).mono ?_); rintro en w1 ⟨rfl, HB1⟩)
  go_ret
  exact ⟨rfl, HBV.out.trans (HB1.out.mono HBV.out.size)⟩

set_option maxRecDepth 100000 in
set_option maxHeartbeats 1000000 in
theorem rappend_full {w : World} {gb x fr n ep : Nat} {fs : List Fr} {OB : Nat → Prop} (hr : Rg w gb x fr n ep fs OB) (k : Nat) (A : Option Addr) (m c lw : Nat) (l : List Int) (hlm : l.length = m) (hws : WS l) (hC : (Kd.int .u64).C w A m l) (hb : mayB (k : Int) m = true) (hn : n ≤ 4096) (hep : ep ≤ 4294967295) (hfs : fs.length ≤ 100000) (hu : used fs = lw) (hw : lw ≤ n * 8) (hf : n * 8 < lw + (m + 1)) :
    Calls Try.prog 65 #[.pointer (some ⟨gb, 0, none⟩), .agg #[.int .i64 (k : Int), .slice A m c]] w fun en w' => en = .returned (.int .i64 4) ∧ Below w.heap.size w w' := by
  obtain ⟨V, hV⟩ : ∃ V, V = w.alloc (.cells #[.int .i64 (k : Int), .slice A m c] 40) := ⟨_, rfl⟩
  obtain ⟨bx, hbx⟩ : ∃ bx, bx = w.heap.size := ⟨_, rfl⟩
  have hm2 : m ≤ 2000 := (mayB_true.1 hb).2.2
  have HM : Hid (m ≤ 140737488351232) := Lib.hid (by omega)
  have Hb := Lib.hid hb
  have Hlm := Lib.hid hlm
  have HWS := Lib.hid hws
  have Hep := Lib.hid hep
  have HU := Lib.hid hu
  have HU9 : Hid (lw ≤ 100000) := Lib.hid (by omega)
  have HBV : Hid (Below w.heap.size w V) := by rw [hV]; exact Lib.hid ((Below.refl _ w).alloc (Nat.le_refl _) _)
  have BV : Hid (Blk V bx [.int .i64 (k : Int), .slice A m c] 40) := by rw [hV, hbx]; exact Lib.hid (Blk.new w _ _)
  have HR := Lib.hid (hr.below HBV.out)
  have HCV := Lib.hid (Kd.C_below hC HBV.out)
  obtain ⟨nf, hnf⟩ : ∃ nf, fs.length = nf := ⟨_, rfl⟩
  have Hnf9 : Hid (nf < 4294967296) := Lib.hid (by omega)
  obtain ⟨ys, hys⟩ : ∃ ys, ((fmark ep nf k l : Nat) : Int) :: l = ys := ⟨_, rfl⟩
  have Hys := Lib.hid hys
  obtain ⟨Af, cf, h1, _, _⟩ := hr.mem
  rw [hnf] at h1
  have BG := Lib.hid (h1.below HBV.out)
  have hlw9 : lw ≤ 32768 := by omega
  have hn9 : n ≤ 4096 := hn
  have hcmp := full_cast hf
  have q0 := BV.out.cell
  have z0 := BV.out.lt
  clear hr hb hn hw hf hlm hws hC hep hfs hu hnf hys h1
  go_enter Try.func65, Try.ntmps65
  go_wp2_with fail
  rw [← hV, ← hbx]
  clear hV hbx
  go_wp2_with (first
    | (go_at_call 28; (with_reducible refine (rmay_at HM Hb).mono ?_); rintro en w1 ⟨rfl, HB1⟩; have HR1 := Lib.hid (HR.out.below HB1.out))
    | (go_at_call 95; (with_reducible refine (rused_at HR1 HU HU9).mono ?_); rintro en w2 ⟨rfl, rfl⟩))
  have BX1 := Lib.hid (BV.out.below HB1.out)
  have BG1 := Lib.hid (BG.out.below HB1.out)
  have HCd : Hid ((Kd.int .u64).C w1.drew A m l) := Lib.hid (Kd.C_drew (Kd.C_below HCV.out HB1.out))
  have b0 : w1.cell? ⟨bx, 0, none⟩ = some (.int .i64 (k : Int)) := BX1.out.cell 0
  have b1 : w1.cell? ⟨bx, 1, none⟩ = some (.slice A m c) := BX1.out.cell 1
  have s2 : w1.cell? ⟨gb, 2, none⟩ = some (.int .i64 (n : Int)) := BG1.out.cell 2
  have s3 : w1.cell? ⟨gb, 3, none⟩ = some (.int .i64 (ep : Int)) := BG1.out.cell 3
  have s4 : w1.cell? ⟨gb, 4, none⟩ = some (.slice Af nf cf) := BG1.out.cell 4
  have zb := BX1.out.lt
  have zg := BG1.out.lt
  clear q0 z0
  go_region_held3 (fun W => W.cell? ⟨bx, 0, none⟩ = some (.int .i64 (k : Int)) ∧ W.cell? ⟨bx, 1, none⟩ = some (.slice A m c) ∧ W.cell? ⟨gb, 3, none⟩ = some (.int .i64 (ep : Int)) ∧ W.cell? ⟨gb, 4, none⟩ = some (.slice Af nf cf))
    (first | go_keep)
    (first
      | (go_at_call 33; (with_reducible refine (rput_at Hep Hnf9 Hb Hlm HWS HCd Hys).mono ?_); rintro en w4 ⟨A4, c4, rfl, HR4, HB4⟩; have t0 := (HB4.out.cell (p := ⟨bx, 0, none⟩) zb).trans b0; have t1 := (HB4.out.cell (p := ⟨bx, 1, none⟩) zb).trans b1; have t2 := (HB4.out.cell (p := ⟨gb, 2, none⟩) zg).trans s2; have t3 := (HB4.out.cell (p := ⟨gb, 3, none⟩) zg).trans s3; have t4 := (HB4.out.cell (p := ⟨gb, 4, none⟩) zg).trans s4))
  clear b0 b1 s2 s3 s4
  go_wp2
  go_ret
  exact ⟨rfl, HBV.out.trans ((HB1.out.trans ((RDisk.Below.drew' (Below.refl _ w1)).trans (HB4.out.mono (Nat.le_refl _)) |>.mono HB1.out.size)).mono HBV.out.size)⟩
end Go.Proofs.Ytmeoiennniknlaa.Log

namespace Go.Proofs.Ytmeoiennniknlaa.Log
open Go.RowKit Go.Shelf Go.Proofs.YtmeoiennniknlaaW.PrintWords Go.Proofs.Ytmeoiennniknlaa.Lb Go.Proofs.Ytmeoiennniknlaa.Frames
open Go.Proofs.Ytmeoiennniknlaa.Disk (Chg Chg.cell Sec secC secC_at agg8 thB Dsk cur upd)
open Go.Proofs.Ytmeoiennniknlaa.Anchor (Blk zero8 below_set8)
open Go.Proofs.Ytmeoiennniknlaa.RDisk (RDk curL dirB)
set_option linter.unusedVariables false
set_option linter.unusedSimpArgs false

/-- Sector i of zs in the midst of being laid: k of its words. -/
def sk (zs : List Int) (i k : Nat) : List Int := (sect zs i).take k ++ List.replicate (8 - k) 0
theorem sk_zero (zs : List Int) (i : Nat) : sk zs i 0 = zero8 := rfl
theorem sk_eight (zs : List Int) (i : Nat) : sk zs i 8 = sect zs i := by
  rw [sk, List.take_of_length_le (by rw [sect_length]; exact Nat.le_refl _)]; simp
theorem sk_length (zs : List Int) (i k : Nat) (h : k ≤ 8) : (sk zs i k).length = 8 := by
  rw [sk, List.length_append, List.length_take, sect_length, List.length_replicate]; omega
theorem sk_set (zs : List Int) (i k : Nat) (h : k < 8) : (sk zs i k).set k ((sect zs i).getD k 0) = sk zs i (k + 1) := by
  have hl : ((sect zs i).take k).length = k := by rw [List.length_take, sect_length]; omega
  have hs : k < (sect zs i).length := by rw [sect_length]; exact h
  unfold sk
  rw [show 8 - k = (8 - (k + 1)) + 1 by omega, List.replicate_succ, List.set_append_right _ _ (by rw [hl]; exact Nat.le_refl _), hl, Nat.sub_self, List.set_cons_zero, take_succ8 _ k hs, List.append_assoc]
  rfl
theorem sect_getD (zs : List Int) (i k : Nat) (h : k < 8) : (sect zs i).getD k 0 = if i * 8 + k < zs.length then zs.getD (i * 8 + k) 0 else 0 := by
  rw [List.getD_eq_getElem?_getD, sect_at zs i k h]
  split
  · rw [List.getD_eq_getElem?_getD]
  · rfl
theorem sk_get (zs : List Int) (i k : Nat) (h : k < 8) : (sk zs i k)[k]? = some 0 := by
  have hl : ((sect zs i).take k).length = k := by rw [List.length_take, sect_length]; omega
  rw [sk, List.getElem?_append_right (by rw [hl]; exact Nat.le_refl _), hl, Nat.sub_self, List.getElem?_replicate, if_pos (by omega)]
theorem sk_keep (zs : List Int) (i k : Nat) (h : k < 8) (hz : zs.length ≤ i * 8 + k) : sk zs i (k + 1) = sk zs i k := by
  rw [← sk_set zs i k h, sect_getD zs i k h, if_neg (by omega)]
  apply List.ext_getElem?
  intro j
  by_cases hj : j = k
  · subst hj
    rw [List.getElem?_set_self (by rw [sk_length _ _ _ (by omega)]; exact h), sk_get zs i j h]
  · rw [List.getElem?_set_ne (fun e => hj e.symm)]
theorem sect_old (ws ys : List Int) (i k : Nat) (h : k < 8) (ha : 8 * i + k < ws.length) : (sect (ws ++ ys) i).getD k 0 = (sect ws i).getD k 0 := by
  rw [sect_getD _ i k h, sect_getD _ i k h, if_pos (by rw [List.length_append]; omega), if_pos (by omega), List.getD_eq_getElem?_getD, List.getD_eq_getElem?_getD, List.getElem?_append_left (by omega)]
theorem sect_new (ws ys : List Int) (i k : Nat) (h : k < 8) (ha : ¬ 8 * i + k < ws.length) (hb : 8 * i + k < ws.length + ys.length) : (sect (ws ++ ys) i).getD k 0 = ys.getD (8 * i + k - ws.length) 0 := by
  rw [sect_getD _ i k h, if_pos (by rw [List.length_append]; omega), List.getD_eq_getElem?_getD, List.getD_eq_getElem?_getD, List.getElem?_append_right (by omega), show i * 8 + k - ws.length = 8 * i + k - ws.length by omega]

/-- The reference's device: j sectors written, from the f-th of the log on. -/
def rfR (RR : List (List Int)) (fr : Nat) (zs : List Int) (f : Nat) : Nat → List (List Int)
  | 0 => RR
  | j + 1 => (rfR RR fr zs f j).set (fr + (f + j)) (sect zs (f + j))
def rfD (RD : List Bool) (fr f : Nat) : Nat → List Bool
  | 0 => RD
  | j + 1 => (rfD RD fr f j).set (fr + (f + j)) true
theorem rfR_later (RR : List (List Int)) (fr : Nat) (zs : List Int) (f : Nat) : ∀ j p, fr + (f + j) ≤ p → (rfR RR fr zs f j)[p]? = RR[p]?
  | 0, _, _ => rfl
  | j + 1, p, h => by
    unfold rfR
    rw [List.getElem?_set_ne (by omega)]
    exact rfR_later RR fr zs f j p (by omega)
theorem rfR_cur {L : List (List Int)} {M : Nat → Option (List Int)} {fr f : Nat} {zs : List Int} : ∀ j, fr + (f + j) ≤ L.length → rfR (curL L M) fr zs f j = curL L (wrM M fr zs f j) ∧ rfD (dirB L M) fr f j = dirB L (wrM M fr zs f j)
  | 0, _ => ⟨rfl, rfl⟩
  | j + 1, h => by
    obtain ⟨h1, h2⟩ := rfR_cur (L := L) (M := M) (fr := fr) (f := f) (zs := zs) j (by omega)
    unfold rfR rfD wrM
    rw [h1, h2, RDisk.curL_upd (by omega), RDisk.dirB_upd (by omega)]
    exact ⟨rfl, rfl⟩
/-- What is read behind such a writing: all sectors of zs, if ahead of the f-th they stood there, and behind the last one nothing did. -/
theorem wrM_cur {L : List (List Int)} {M : Nat → Option (List Int)} {fr f : Nat} {zs : List Int} : ∀ j i, cur L (wrM M fr zs f j) (fr + i) = if f ≤ i ∧ i < f + j then sect zs i else cur L M (fr + i)
  | 0, i => by rw [if_neg (by omega)]; rfl
  | j + 1, i => by
    have ih := wrM_cur (L := L) (M := M) (fr := fr) (f := f) (zs := zs) j i
    unfold wrM
    by_cases e : i = f + j
    · subst e
      unfold cur upd
      rw [if_pos rfl, if_pos (by omega)]; rfl
    · unfold cur upd at *
      rw [if_neg (by omega), ih]
      by_cases h : f ≤ i ∧ i < f + j
      · rw [if_pos h, if_pos (by omega)]
      · rw [if_neg h, if_neg (by omega)]
theorem sect_same (ws ys : List Int) {i : Nat} (h : i < ws.length / 8) : sect (ws ++ ys) i = sect ws i := by
  apply List.ext_getElem?
  intro j
  by_cases hj : j < 8
  · rw [sect_at _ i j hj, sect_at _ i j hj, if_pos (by rw [List.length_append]; omega), if_pos (by omega), List.getElem?_append_left (by omega)]
  · rw [List.getElem?_eq_none (by rw [sect_length]; omega), List.getElem?_eq_none (by rw [sect_length]; omega)]
/-- Append keeps it: what is read is the words, and zeros. -/
theorem app_inv {L : List (List Int)} {M : Nat → Option (List Int)} {fr n : Nat} {ws ys : List Int} (h : ∀ i, i < n → cur L M (fr + i) = sect ws i) (hy : 0 < ys.length) : ∀ i, i < n → cur L (wrM M fr (ws ++ ys) (ws.length / 8) (((ws ++ ys).length - 1) / 8 + 1 - ws.length / 8)) (fr + i) = sect (ws ++ ys) i := by
  intro i hi
  rw [wrM_cur, h i hi, List.length_append]
  split
  · rfl
  · rename_i hc
    by_cases h1 : i < ws.length / 8
    · rw [sect_same ws ys h1]
    · rw [sect_none (by omega), sect_none (by rw [List.length_append]; omega)]

section
variable {P : Program} {ops : Array Oper} {o : Oper} {a : Act} {Q : Exit → Act → World → Prop} {Kc : Act → World → Prop}
/-- One frame, its words where they lie. -/
theorem f_one {W : World} {gl : Nat} {OA : Nat → Prop} {f : Fr} {A : Option Addr} {m c : Nat} (hb : Blk W gl [.int .i64 f.f0, .slice A m c] 40) (hm : f.f1.length = m) (hc : m ≤ c) (hF : Kd.F (Kd.int .u64) W OA A m f.f1) : Kd.F kF W (fun k => k = gl ∨ OA k) (some ⟨gl, 0, none⟩) 1 [f] := by
  subst hm
  intro W' hW
  have hb2 : Blk W' gl [.int .i64 f.f0, .slice A f.f1.length c] 40 := (hW gl (Or.inl rfl) hb.lt).trans hb
  have hC := hF W' (fun k hk hlt => hW k (Or.inr hk) hlt)
  refine ⟨rfl, by decide, fun _ => ⟨_, rfl, fun j p hp => ?_⟩⟩
  obtain ⟨hj, rfl⟩ := List.getElem?_eq_some_iff.1 hp
  have hj0 : j = 0 := by simpa using hj
  subst hj0
  refine ⟨[.int .i64 f.f0, .slice A f.f1.length c], rfl, PFramesGet.k40_mk W' f hc hC, fun i u hu => ?_⟩
  have h5 := hb2.cell i
  have e1 : (⟨gl, 0, none⟩ : Addr).add (0 * kF.sz + i) = ⟨gl, i, none⟩ := by rw [Nat.zero_mul, Nat.zero_add]; unfold Addr.add; split <;> simp_all
  rw [e1, h5]; exact hu
/-- []Frame{}: a row of the call's own. -/
theorem n_lit {W : World} {ge B : Nat} {ok : Nat → Prop} (hb : Blk W ge [] 40) (hB : B ≤ ge) (hok : ok ge) : Kd.N kF 40 W B ok (.slice (some ⟨ge, 0, none⟩) 0 0) [] := by
  refine Kd.R_N ⟨fun k hk => ?_, [], ⟨rfl, Or.inr ⟨ge, 0, #[], rfl, hB, hb, Nat.le_refl _, by decide, by simp, by simp⟩⟩, Reps.none _ _⟩
  simp only [Value.ownBlock, Option.map_some, Option.some.injEq] at hk
  rw [← hk]; exact hok
/-- append(v, ys...), the elements shared. -/
theorem app_n_step {w0 W : World} (B : Nat) (t : TypeId) (ht : P.underlying t = some (.slice 40)) (hinfo : (P.info? 40).map (fun i => (i.zero, i.size, i.bytes)) = some (some (.agg #[(.int .i64 0), (.slice none 0 0)]), kF.sz, 32)) (hgd : o.guard = none) (s x : Operand)
    (ho : o.op = .call { callee := .builtin .append, args := #[s, x], argTypes := #[t, t] }) (A : Option Addr) (n c : Nat) (xs ys : List Fr) (A2 : Option Addr) (m c2 : Nat) (ok okp : Nat → Prop) (hs : a.eval s = .slice A n c) (hx : a.eval x = .slice A2 m c2)
    (HN : Hid (Kd.N kF 40 W B ok (.slice A n c) xs)) (HF : Hid (Kd.F kF W okp A2 m ys)) (hn : Hid (xs.length = n)) (hok : Hid (∀ k, okp k → ok k ∧ some k ≠ (Value.slice A n c).ownBlock)) (hfresh : Hid (∀ k, W.heap.size ≤ k → ok k))
    (HB : Hid (Below B w0 W ∧ B ≤ W.heap.size)) (hl : Hid (n + m ≤ 1000000)) (L : Nat) (hL : Hid (n + m = L))
    (h : ∀ A1 c1 w1, Hid (Kd.N kF 40 w1 B ok (.slice A1 L c1) (xs ++ ys)) → Hid (Below B w0 w1) → Hid ((Value.slice A1 L c1).ownBlock = (Value.slice A n c).ownBlock ∨ ∃ b, (Value.slice A1 L c1).ownBlock = some b ∧ W.heap.size ≤ b) → Hid (Chg (fun k => (Value.slice A n c).ownBlock = some k) W w1) → Kc (a.put o.dst (.slice A1 L c1)) w1) :
    if Region.wanted o (yielded ops a.tmps) = true then Oper.wp P o a W Kc Q else Kc (a.put o.dst undef) W := by
  have hw : Region.wanted o (yielded ops a.tmps) = true := by simp [Region.wanted, hgd]
  have eL := hL.out
  subst eL
  have en := hn.out
  have hym : ys.length = m := (Kd.F_now HF.out).1
  have hl' := hl.out
  subst en
  refine Kd.N_append_rows_step kF (w0 := w0) B hw s x t 40 _ 32 ho ht hinfo rfl (by decide) (by decide) (.slice A xs.length c) xs ys A2 m c2 ok okp hs hx HN.out HF.out hok.out hfresh.out HB.out.1 HB.out.2 (by omega) ?_
  intro v1 w1 h1 h2 h3 h4
  obtain ⟨A1, c1, rfl⟩ := Kd.N_slice h1
  have el : (xs ++ ys).length = xs.length + m := by rw [List.length_append, hym]
  rw [el] at h1 h4 ⊢
  exact h A1 c1 w1 (Lib.hid h1) (Lib.hid h2) (Lib.hid h4) (Lib.hid (Chg.grown h3 (fun k hk => hk)))
/-- Two operations may come up. -/
theorem branch2 {md : Region.Mode} {k : Nat} {S : World → Prop} {i j : Nat} {oi oj : Oper} {fuel : Nat} {listed : Array Bool} {a : Act} {w : World} (hr : Region.ready md ops listed = [i, j]) (hoi : ops[i]? = some oi) (hoj : ops[j]? = some oj)
    (hi : ∀ K' : Act → World → Prop, Shut (∀ a w, S w → (S w → HeldK.wpAnyK P md ops Q k S fuel (listed.setIfInBounds i true) a w) → K' a w) → if Region.wanted oi (yielded ops a.tmps) = true then Oper.wp P oi a w K' Q else K' (a.put oi.dst undef) w)
    (hj : ∀ K' : Act → World → Prop, Shut (∀ a w, S w → (S w → HeldK.wpAnyK P md ops Q k S fuel (listed.setIfInBounds j true) a w) → K' a w) → if Region.wanted oj (yielded ops a.tmps) = true then Oper.wp P oj a w K' Q else K' (a.put oj.dst undef) w) :
    HeldK.wpAnyK P md ops Q k S (fuel + 1) listed a w := by
  refine ⟨fun h0 => (by rw [hr] at h0; cases h0), fun p hp => ?_⟩
  rw [hr] at hp
  rcases List.mem_cons.1 hp with rfl | hp
  · exact wpOp_step hoi (fun K' hK => hi K' (fun a w hS hW => hK a w ⟨fun _ => hS, hW hS⟩))
  · obtain rfl : p = j := by simpa using hp
    exact wpOp_step hoj (fun K' hK => hj K' (fun a w hS hW => hK a w ⟨fun _ => hS, hW hS⟩))
end
theorem room_cast {n lw m : Nat} (h : lw + (m + 1) ≤ n * 8) : (lw : Int) + ((m : Int) + 1) ≤ 8 * (n : Int) := by omega
theorem rf_lt {f j i Z cnt : Nat} (hi : f + j = i) (hc : (Z - 1) / 8 + 1 - f = cnt) (h : i * 8 < Z) : j < cnt := by omega
theorem rf_end {f j i Z cnt q : Nat} (hi : f + j = i) (hc : (Z - 1) / 8 + 1 - f = cnt) (hq : j + q = cnt) (hz : 0 < Z) (h : ¬ i * 8 < Z) : j = cnt := by omega
theorem rf_cast {i lw m : Nat} (h : i * 8 < lw + (m + 1)) : (i : Int) * 8 < (lw : Int) + ((m : Int) + 1) := by omega
theorem rf_ncast {i lw m : Nat} (h : ¬ i * 8 < lw + (m + 1)) : (lw : Int) + ((m : Int) + 1) ≤ (i : Int) * 8 := by omega
theorem rf_n {i lw m n : Nat} (h : i * 8 < lw + (m + 1)) (hn : lw + (m + 1) ≤ n * 8) : i < n := by omega
theorem rf_div {lw f : Nat} (h : lw / 8 = f) : (lw : Int) / 8 = (f : Int) := by omega
theorem old_cast {i k lw : Nat} (h : 8 * i + k < lw) : 8 * (i : Int) + (k : Int) < (lw : Int) := by omega
theorem old_ncast {i k lw : Nat} (h : ¬ 8 * i + k < lw) : (lw : Int) ≤ 8 * (i : Int) + (k : Int) := by omega
theorem new_cast {i k lw m : Nat} (h : 8 * i + k < lw + (m + 1)) : 8 * (i : Int) + (k : Int) < (lw : Int) + ((m : Int) + 1) := by omega
theorem new_ncast {i k lw m : Nat} (h : ¬ 8 * i + k < lw + (m + 1)) : (lw : Int) + ((m : Int) + 1) ≤ 8 * (i : Int) + (k : Int) := by omega
theorem sub_cast {i k lw q : Nat} (h : ¬ 8 * i + k < lw) (hq : 8 * i + k - lw = q) : 8 * (i : Int) + (k : Int) - (lw : Int) = (q : Int) := by omega
theorem qm_cast {q m : Nat} (h : q < m + 1) : (q : Int) < (m : Int) + 1 := by omega
theorem rf_bd {f j i lw m cnt n : Nat} (hi : f + j = i) (hc : (lw + (m + 1) - 1) / 8 + 1 - f = cnt) (hj : j ≤ cnt) (hn : lw + (m + 1) ≤ n * 8) (h9 : n ≤ 4096) (hf : lw / 8 = f) : i ≤ 100000 := by omega
theorem rg_app {wc wr : World} {gb x rl rr rd fr n ep N c B : Nat} {A : Option Addr} {fs : List Fr} {OB OA : Nat → Prop} (hb : Blk wc gb [.pointer (some ⟨x, 0, none⟩), .int .i64 (fr : Int), .int .i64 (n : Int), .int .i64 (ep : Int), .slice A N c] 131) (hn : fs.length = N) (hc : N ≤ c)
    (hF : Kd.F kF wc (fun k => (OB k ∨ OA k ∨ B ≤ k) ∧ k < wc.heap.size) A N fs) (hg : ¬ (OB gb ∨ OA gb ∨ B ≤ gb)) (hT : ∀ k, TR rl rr rd k → k < B) (hfar : (¬ TR rl rr rd gb) ∧ (∀ k, OB k → ¬ TR rl rr rd k) ∧ (∀ k, OA k → ¬ TR rl rr rd k)) (h : Chg (TR rl rr rd) wc wr) :
    Rg wr gb x fr n ep fs (fun k => (OB k ∨ OA k ∨ B ≤ k) ∧ k < wc.heap.size) := by
  subst hn
  have h1 : Rg wc gb x fr n ep fs (fun k => (OB k ∨ OA k ∨ B ≤ k) ∧ k < wc.heap.size) := ⟨fun h => hg h.1, fun k hk => hk.2, A, c, hb, hc, hF⟩
  refine h1.kept h hfar.1 (fun k hk ht => ?_)
  rcases hk.1 with h2 | h2 | h2
  · exact hfar.2.1 k h2 ht
  · exact hfar.2.2 k h2 ht
  · have := hT k ht; omega
theorem rok_one {W : World} {B gl : Nat} {OB OA : Nat → Prop} {v : Value} {xs : List Fr} (hne : some gl ≠ v.ownBlock) (hgl : B ≤ gl) (hOA : ∀ k, OA k → k < B) (hN : Kd.N kF 40 W B (fun k => OB k ∨ OA k ∨ B ≤ k) v xs) :
    ∀ k, (k = gl ∨ OA k) → (OB k ∨ OA k ∨ B ≤ k) ∧ some k ≠ v.ownBlock := by
  rintro k (rfl | h)
  · exact ⟨Or.inr (Or.inr hgl), hne⟩
  · refine ⟨Or.inr (Or.inl h), fun e => ?_⟩
    have h1 := Kd.N_base hN k e.symm
    have h2 := hOA k h
    omega
theorem rok_two {B ge n c : Nat} {OB OA : Nat → Prop} (hOB : ∀ k, OB k → k < B) (hge : B ≤ ge) : ∀ k, OB k → (OB k ∨ OA k ∨ B ≤ k) ∧ some k ≠ (Value.slice (some ⟨ge, 0, none⟩) n c).ownBlock := by
  refine fun k hk => ⟨Or.inl hk, fun e => ?_⟩
  simp only [Value.ownBlock, Option.some.injEq] at e
  have := hOB k hk
  omega
theorem rne_one {W : World} {v : Value} {ge gl n c : Nat} (h : v.ownBlock = (Value.slice (some ⟨ge, 0, none⟩) n c).ownBlock ∨ ∃ b, v.ownBlock = some b ∧ W.heap.size ≤ b) (hl : gl < W.heap.size) (hne : gl ≠ ge) : some gl ≠ v.ownBlock := by
  intro e
  rcases h with h | ⟨b, h, hb⟩
  · rw [h] at e
    simp only [Value.ownBlock, Option.some.injEq] at e
    exact hne e
  · rw [h] at e
    simp only [Option.some.injEq] at e
    omega
theorem own_ge {ge gl n c : Nat} (h : gl ≠ ge) : ¬ (Value.slice (some ⟨ge, 0, none⟩) n c).ownBlock = some gl := fun e => by
  simp only [Value.ownBlock, Option.some.injEq] at e
  exact h e.symm
/-- What stands behind the reference's append of a frame. -/
def R7 (w4 W : World) (gb x fr n ep N : Nat) (fs : List Fr) (ok : Nat → Prop) : Prop :=
  ∃ A c, Blk W gb [.pointer (some ⟨x, 0, none⟩), .int .i64 (fr : Int), .int .i64 (n : Int), .int .i64 (ep : Int), .slice A N c] 131 ∧ N ≤ c ∧ Kd.F kF W (fun k => ok k ∧ k < W.heap.size) A N fs ∧ Chg (fun k => k = gb) w4 W
theorem r7_make {w4 w7 : World} {gb x fr n ep N : Nat} {fs : List Fr} {OB OA : Nat → Prop} {v : Value} {A : Option Addr} {c : Nat} (hb : Blk w7 gb [.pointer (some ⟨x, 0, none⟩), .int .i64 (fr : Int), .int .i64 (n : Int), .int .i64 (ep : Int), v] 131) (hB : Below w4.heap.size w4 w7)
    (hN : Kd.N kF 40 w7 w4.heap.size (fun k => OB k ∨ OA k ∨ w4.heap.size ≤ k) (.slice A N c) fs) (hg : ¬ (OB gb ∨ OA gb ∨ w4.heap.size ≤ gb)) : R7 w4 (w7.setCell ⟨gb, 4, none⟩ (.slice A N c)) gb x fr n ep N fs (fun k => OB k ∨ OA k ∨ w4.heap.size ≤ k) := by
  refine ⟨A, c, hb.set 4 _, (Kd.N_reads' hN).2.1, ?_, (Chg.of_below hB).trans (Chg.set (S := fun k => k = gb) rfl _ _)⟩
  have h2 : Kd.N kF 40 (w7.setCell ⟨gb, 4, none⟩ (.slice A N c)) w4.heap.size (fun k => OB k ∨ OA k ∨ w4.heap.size ≤ k) (.slice A N c) fs := Kd.N_step hN (fun k hk hlt => Below.heap_setCell _ _ _ _ (fun e => hg (by rw [show k = gb from e] at hk; exact hk)))
  exact Kd.F_bound (Kd.N_F h2)
end Go.Proofs.Ytmeoiennniknlaa.Log
