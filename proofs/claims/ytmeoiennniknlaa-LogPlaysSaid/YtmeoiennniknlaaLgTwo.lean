/- log.Open. (*log.Log).Sync; gimmalref08.There, Used. gimmalref08: Used. log.Open: out of range; a wrong epoch. gimmalref08.Open: plain laws on zeroing what stands behind the frames. -/
import Derived.Test.YtmeoiennniknlaaLgOne
namespace Go.Proofs.Ytmeoiennniknlaa.Log
open Go.RowKit Go.Shelf Go.Proofs.YtmeoiennniknlaaW.PrintWords Go.Proofs.Ytmeoiennniknlaa.Lb Go.Proofs.Ytmeoiennniknlaa.Frames
open Go.Proofs.Ytmeoiennniknlaa.Disk (Chg Sec secC secC_at agg8 thB Dsk cur upd)
open Go.Proofs.Ytmeoiennniknlaa.Anchor (Blk zero8 below_set8)
open Go.Proofs.Ytmeoiennniknlaa.RDisk (RDk curL)
set_option linter.unusedVariables false
set_option linter.unusedSimpArgs false

theorem readsC {w : World} {B : Nat} {A : Option Addr} {n c : Nat} {l : List Int} (h : (Kd.int .u64).R 30 w B (fun _ => True) (.slice A n c) l) (hl : l.length = n) : (Kd.int .u64).C w A n l := by
  have h2 := Kd.R_reads' h
  rw [← hl]; exact h2.2.2
theorem words_foot {w w2 w3 : World} {A : Option Addr} {n c : Nat} {W0 : List Int} (HR : (Kd.int .u64).R 30 w2 w.heap.size (fun _ => True) (.slice A (n * 8) c) W0) (hb3 : Below w2.heap.size w2 w3) (o : Obj) :
    Kd.F (Kd.int .u64) (w3.alloc o) (fun k => w.heap.size ≤ k ∧ k < w2.heap.size) A (n * 8) W0 :=
  Kd.F_below (Kd.F_mono (Kd.R_F (Kd.R_bound HR)) (fun k hk => ⟨hk.2.1, hk.2.2.1⟩)) (hb3.alloc hb3.size o)
theorem lg_new {w w2 w3 : World} {d fr n ep T2 c cf : Nat} {A Af : Option Addr} {W0 : List Int} {fs : List Fr} (hb2 : Below w.heap.size w w2) (hb3 : Below w2.heap.size w2 w3) (hws : WS W0) (hl : W0.length = n * 8) (hle : T2 ≤ n * 8)
    (HR : (Kd.int .u64).R 30 w2 w.heap.size (fun _ => True) (.slice A (n * 8) c) W0) (HF : kF.R 40 w3 w2.heap.size (fun _ => True) (.slice Af fs.length cf) fs) :
    Lg (w3.alloc (.cells #[.pointer (some ⟨d, 0, none⟩), .int .i64 (fr : Int), .int .i64 (n : Int), .int .i64 (ep : Int), .slice A T2 T2, .slice Af fs.length cf] 127)) w3.heap.size d fr n ep (W0.take T2) fs (fun k => w.heap.size ≤ k ∧ k < w2.heap.size) (fun k => w2.heap.size ≤ k ∧ k < w3.heap.size) := by
  have e : (W0.take T2).length = T2 := by rw [List.length_take]; omega
  have h3 := hb3.size
  refine ⟨fun h => by omega, fun h => by omega, fun k h1 h2 => by omega, fun k hk => by rw [World.size_alloc]; omega, fun k hk => by rw [World.size_alloc]; omega, A, T2, Af, cf, ?_, ⟨by omega, fun x hx => hws x (List.mem_of_mem_take hx), ?_, Or.inl e.symm⟩, ?_⟩
  · rw [e]
    exact Blk.new w3 _ _
  · have h4 := words_foot HR hb3 (.cells #[.pointer (some ⟨d, 0, none⟩), .int .i64 (fr : Int), .int .i64 (n : Int), .int .i64 (ep : Int), .slice A T2 T2, .slice Af fs.length cf] 127)
    exact Kd.F_imp h4 (fun W' h5 => Kd.C_take (by rw [← hl] at h5; exact h5) (by omega))
  · exact Kd.R_alloc (Kd.R_lower (Kd.R_mono (Kd.R_bound HF) (fun k hk => ⟨hk.2.1, hk.2.2.1⟩)) (Nat.zero_le _)) _
theorem far_new {w w2 w3 : World} {d lb mb : Nat} {L : List (List Int)} {M : Nat → Option (List Int)} (h : Dsk w d lb mb L M) (hb2 : Below w.heap.size w w2) (hb3 : Below w2.heap.size w2 w3) :
    (¬ TD d lb mb w3.heap.size) ∧ (∀ k, (w.heap.size ≤ k ∧ k < w2.heap.size) → ¬ TD d lb mb k) ∧ (∀ k, (w2.heap.size ≤ k ∧ k < w3.heap.size) → ¬ TD d lb mb k) ∧ (∀ k, (w.heap.size ≤ k ∧ k < w2.heap.size) → ¬ TD d lb mb k) := by
  have h1 := h.ltd
  have h2 := h.ltl
  have h3 := h.ltm
  have h4 := hb2.size
  have h5 := hb3.size
  unfold TD
  exact ⟨by omega, fun k hk => by omega, fun k hk => by omega, fun k hk => by omega⟩
theorem logRead_at {w : World} {d lb mb : Nat} {L : List (List Int)} {M : Nat → Option (List Int)} {fr n : Nat} {W0 : List Int} (h : Hid (Dsk w d lb mb L M)) (hn : Hid (fr + n ≤ L.length)) (hW : Hid (rdW L M fr n = W0)) :
    Calls Try.prog 91 #[.pointer (some ⟨d, 0, none⟩), .int .i64 (fr : Int), .int .i64 (n : Int)] w fun en w' => ∃ A c, en = .returned (.tuple #[.slice A (n * 8) c, .int .i64 0]) ∧ Hid (n * 8 ≤ c) ∧ Hid ((Kd.int .u64).R 30 w' w.heap.size (fun _ => True) (.slice A (n * 8) c) W0) ∧ Hid (Below w.heap.size w w') := by
  have e := hW.out
  subst e
  exact (logRead_any h.out fr n hn.out).mono fun en w' ⟨A, c, h1, h2, h3, h4⟩ => ⟨A, c, h1, Lib.hid h2, Lib.hid h3, Lib.hid h4⟩
theorem allOwn_at {w : World} {e : Nat} {A0 : Option Addr} {n c0 : Nat} {l : List Int} {T : List Fr × Nat} (hl : Hid (WS l)) (hn : Hid (l.length = n)) (hm : Hid (n ≤ 1000000000)) (hc : Hid (n ≤ c0)) (hC : Hid ((Kd.int .u64).C w A0 n l)) (hT : Hid (allR (e : Int) (l.length + 1) 0 l = T)) :
    Calls Try.prog 36 #[.int .i64 (e : Int), .slice A0 n c0] w fun en w' => ∃ A c, en = .returned (.tuple #[.slice A T.1.length c, .int .i64 (T.2 : Int)]) ∧ Hid (kF.R 40 w' w.heap.size (fun _ => True) (.slice A T.1.length c) T.1) ∧ Hid (Below w.heap.size w w') := by
  have e1 := hn.out
  have e2 := hT.out
  subst e1 e2
  exact (all_own w (e : Int) A0 c0 l hl.out hm.out hc.out hC.out).mono fun en w' ⟨A, c, h1, h2, h3⟩ => ⟨A, c, h1, Lib.hid h2, Lib.hid h3⟩
theorem clear_at {w : World} {d lb mb g fr n ep : Nat} {L : List (List Int)} {M : Nat → Option (List Int)} {ws : List Int} {fs : List Fr} {OW OF OX : Nat → Prop} {A : Option Addr} {c : Nat} (h : Hid (Dsk w d lb mb L M)) (hl : Hid (Lg w g d fr n ep ws fs OW OF)) (hX : Hid (Kd.F (Kd.int .u64) w OX A (n * 8) (rdW L M fr n))) (hc : Hid (n * 8 ≤ c)) (hn : Hid (fr + n ≤ L.length)) (hw : Hid (ws.length ≤ 1000000))
    (hf : Hid ((¬ TD d lb mb g) ∧ (∀ k, OW k → ¬ TD d lb mb k) ∧ (∀ k, OF k → ¬ TD d lb mb k) ∧ (∀ k, OX k → ¬ TD d lb mb k))) :
    Calls Try.prog 92 #[.pointer (some ⟨g, 0, none⟩), .slice A (n * 8) c] w fun en w' => en = .returned (.tuple #[]) ∧ Hid (Dsk w' d lb mb (clrR L M fr n ws).1 (clrR L M fr n ws).2) ∧ Hid (Lg w' g d fr n ep ws fs OW OF) ∧ Hid (Chg (TD d lb mb) w w') :=
  (clear_any h.out hl.out hX.out hc.out hn.out hw.out hf.out.1 hf.out.2.1 hf.out.2.2.1 hf.out.2.2.2).mono fun en w' ⟨h1, h2, h3⟩ => ⟨h1, Lib.hid h2, Lib.hid (hl.out.kept h3 hf.out.1 hf.out.2.1 hf.out.2.2.1), Lib.hid h3⟩

set_option maxRecDepth 100000 in
set_option maxHeartbeats 1000000 in
theorem open_ok {w : World} {d lb mb fr n ep : Nat} {L : List (List Int)} {M : Nat → Option (List Int)} (h : Dsk w d lb mb L M) (hn1 : 1 ≤ n) (hn : fr + n ≤ L.length) (he : ep ≤ 4294967295) (T : List Fr × Nat) (hT : allR (ep : Int) ((rdW L M fr n).length + 1) 0 (rdW L M fr n) = T) :
    Calls Try.prog 55 #[.pointer (some ⟨d, 0, none⟩), .int .i64 (fr : Int), .int .i64 (n : Int), .int .i64 (ep : Int)] w fun en w' => ∃ g OW OF, en = .returned (.tuple #[.pointer (some ⟨g, 0, none⟩), .int .i64 0]) ∧
      Dsk w' d lb mb (clrR L M fr n ((rdW L M fr n).take T.2)).1 (clrR L M fr n ((rdW L M fr n).take T.2)).2 ∧ Lg w' g d fr n ep ((rdW L M fr n).take T.2) T.1 OW OF ∧
      (w.heap.size ≤ g ∧ (∀ k, OW k → w.heap.size ≤ k) ∧ (∀ k, OF k → w.heap.size ≤ k)) ∧ Chg (TD d lb mb) w w' := by
  have H := Lib.hid h
  have HN := Lib.hid hn
  obtain ⟨W0, hW0⟩ : ∃ W0, rdW L M fr n = W0 := ⟨_, rfl⟩
  have HW0 := Lib.hid hW0
  have hlen := rdW_length h n hn
  have hws := rdW_ws h n hn
  rw [hW0] at hT hlen hws ⊢
  have HT := Lib.hid hT
  have HLn := Lib.hid hlen
  have HWS := Lib.hid hws
  have hle := all_le (ep : Int) (W0.length + 1) 0 W0
  rw [hT, hlen] at hle
  have HLE := Lib.hid hle
  obtain ⟨ls, hls⟩ : ∃ ls, L.length = ls := ⟨_, rfl⟩
  have HLS := Lib.hid hls
  have hl4 := h.len.2
  have H1 : Hid (n * 8 ≤ 1000000000) := Lib.hid (by omega)
  have HW6 : Hid ((W0.take T.2).length ≤ 1000000) := Lib.hid (by rw [List.length_take]; omega)
  have i1 : ¬ (fr : Int) < 0 := by omega
  have i2 : ¬ (n : Int) < 1 := by omega
  have i3 : ¬ (ls : Int) < (fr : Int) := by omega
  have i4 : ¬ (ls : Int) - (fr : Int) < (n : Int) := by omega
  have i5 : ¬ (ep : Int) < 0 := by omega
  have i6 : ¬ (4294967295 : Int) < (ep : Int) := by omega
  have i7 : wrap64 ((ls : Int) - (fr : Int)) = (ls : Int) - (fr : Int) := by unfold wrap64; omega
  clear h hn hT hlen hws hle hl4 hW0 hls hn1 he
  go_enter Try.func55, Try.ntmps55
  go_wp2_with (first
    | (go_at_call 90; (with_reducible refine (Disk.len_at H HLS).mono ?_); rintro en w1 ⟨rfl, rfl⟩)
    | (go_at_call 91; (with_reducible refine (logRead_at H HN HW0).mono ?_); rintro en w2 ⟨A, c, rfl, HC2, HR2, HB2⟩; have HCr := Lib.hid (readsC HR2.out HLn.out); have hcut := cut3 A (n * 8) c T.2 (Nat.le_trans HLE.out HC2.out))
    | (go_at_call 36; (with_reducible refine (allOwn_at HWS HLn H1 HC2 HCr HT).mono ?_); rintro en w3 ⟨Af, cf, rfl, HF3, HB3⟩; have HB23 := Lib.hid (HB2.out.trans (HB3.out.mono HB2.out.size)); have HL3 := Lib.hid (lg_new (d := d) (fr := fr) (ep := ep) HB2.out HB3.out HWS.out HLn.out HLE.out HR2.out HF3.out); have HX3 := Lib.hid (fun o => words_foot HR2.out HB3.out o); have HD3 := Lib.hid (fun o => (H.out.below HB23.out).alloc o); rw [← HW0.out] at HX3; have HFar := Lib.hid (far_new H.out HB2.out HB3.out))
    | (go_at_call 92; (with_reducible refine (clear_at (Lib.hid (HD3.out _)) HL3 (Lib.hid (HX3.out _)) HC2 HN HW6 HFar).mono ?_); rintro en w4 ⟨rfl, HD4, HL4, HC4⟩))
  have hch : Chg (TD d lb mb) w w4 := (Chg.of_below (HB23.out.alloc HB23.out.size _)).trans HC4.out
  have hs2 := HB2.out.size
  exact bodyPost_ret (v := .tuple #[.pointer (some ⟨w3.heap.size, 0, none⟩), .int .i64 0]) (by simp [results, Try.results55, go_sem]) rfl ⟨w3.heap.size, _, _, rfl, HD4.out, HL4.out, ⟨HB23.out.size, fun k hk => hk.1, fun k hk => Nat.le_trans hs2 hk.1⟩, hch⟩
end Go.Proofs.Ytmeoiennniknlaa.Log

namespace Go.Proofs.Ytmeoiennniknlaa.Log
open Go.RowKit Go.Shelf Go.Proofs.YtmeoiennniknlaaW.PrintWords Go.Proofs.Ytmeoiennniknlaa.Lb Go.Proofs.Ytmeoiennniknlaa.Frames
open Go.Proofs.Ytmeoiennniknlaa.Disk (Chg Sec secC secC_at agg8 thB Dsk cur upd)
open Go.Proofs.Ytmeoiennniknlaa.Anchor (Blk zero8 below_set8)
open Go.Proofs.Ytmeoiennniknlaa.RDisk (RDk curL)
set_option linter.unusedVariables false
set_option linter.unusedSimpArgs false

set_option maxRecDepth 100000 in
set_option maxHeartbeats 400000 in
theorem logSync_any {w : World} {d lb mb g fr n ep : Nat} {L : List (List Int)} {M : Nat → Option (List Int)} {ws : List Int} {fs : List Fr} {OW OF : Nat → Prop} (h : Dsk w d lb mb L M) (hl : Lg w g d fr n ep ws fs OW OF) :
    Calls Try.prog 58 #[.pointer (some ⟨g, 0, none⟩)] w fun en w' => en = .returned (.tuple #[]) ∧ Dsk w' d lb mb (curL L M) (fun _ => none) ∧ Chg (TD d lb mb) w w' := by
  have H := Lib.hid h
  obtain ⟨Aw, cw, Af, cf, h1, _⟩ := hl.mem
  have q := h1.cell
  clear h hl h1
  go_enter Try.func58, Try.ntmps58
  go_wp2_with (go_at_call 50; (with_reducible refine (dsync_at H).mono ?_); rintro en w1 ⟨rfl, HD, HC⟩)
  go_end0
  exact ⟨rfl, HD.out, HC.out⟩
/-- Has a device of len sectors the sectors fr .. fr + n? -/
def partB (fr n : Int) (len : Nat) : Bool := decide (0 ≤ fr) && (decide (1 ≤ n) && (decide (fr ≤ (len : Int)) && decide (n ≤ (len : Int) - fr)))
set_option maxRecDepth 100000 in
set_option maxHeartbeats 1000000 in
theorem refThere_any {w : World} {x rl rr rd : Nat} {RL RR : List (List Int)} {RD : List Bool} (h : RDk w x rl rr rd RL RR RD) (fr n : Int) :
    Calls Try.prog 56 #[.pointer (some ⟨x, 0, none⟩), .int .i64 fr, .int .i64 n] w fun en w' => en = .returned (.bool (partB fr n RL.length)) ∧ w = w' := by
  have q := h.obj.cell
  have hl4 := h.len.2
  obtain ⟨len, hn⟩ : ∃ n, RL.length = n := ⟨_, rfl⟩
  rw [hn] at q hl4 ⊢
  unfold partB
  clear h hn
  by_cases h0 : 0 ≤ fr
  · by_cases h1 : 1 ≤ n
    · by_cases h2 : fr ≤ (len : Int)
      · have hw : wrap64 ((len : Int) - fr) = (len : Int) - fr := by unfold wrap64; omega
        by_cases h3 : n ≤ (len : Int) - fr
        all_goals
          go_enter Try.func56, Try.ntmps56
          go_wp2
          go_ret
          exact ⟨by simp [h0, h1, h2, h3, hw], rfl⟩
      · go_enter Try.func56, Try.ntmps56
        go_wp2
        go_ret
        exact ⟨by simp [h0, h1, h2]; omega, rfl⟩
    · go_enter Try.func56, Try.ntmps56
      go_wp2
      go_ret
      exact ⟨by simp [h0, h1]; omega, rfl⟩
  · go_enter Try.func56, Try.ntmps56
    go_wp2
    go_ret
    exact ⟨by simp [h0]; omega, rfl⟩
end Go.Proofs.Ytmeoiennniknlaa.Log

namespace Go.Proofs.Ytmeoiennniknlaa.Log
open Go.RowKit Go.Shelf Go.Proofs.YtmeoiennniknlaaW.PrintWords Go.Proofs.Ytmeoiennniknlaa.Lb Go.Proofs.Ytmeoiennniknlaa.Frames
open Go.Proofs.Ytmeoiennniknlaa.Disk (Chg Sec secC secC_at agg8 thB Dsk cur upd)
open Go.Proofs.Ytmeoiennniknlaa.Anchor (Blk zero8 below_set8)
open Go.Proofs.Ytmeoiennniknlaa.RDisk (RDk curL)
set_option linter.unusedVariables false
set_option linter.unusedSimpArgs false

def used (fs : List Fr) : Nat := (fs.map fun f => 1 + f.f1.length).sum
theorem used_take {fs : List Fr} {i : Nat} (hi : i < fs.length) : used (fs.take (i + 1)) = used (fs.take i) + 1 + fs[i].f1.length := by
  rw [List.take_succ_eq_append_getElem hi, used, used, List.map_append, List.sum_append]; simp; omega
theorem used_le {fs : List Fr} (i : Nat) : used (fs.take i) ≤ used fs := by
  have h : used fs = used (fs.take i) + used (fs.drop i) := by
    rw [used, used, used, ← List.sum_append, ← List.map_append, List.take_append_drop]
  omega
set_option maxRecDepth 100000 in
set_option maxHeartbeats 400000 in
theorem used_any {w : World} {g x fr n ep : Nat} {fs : List Fr} {OB : Nat → Prop} (h : Rg w g x fr n ep fs OB) (hu : used fs ≤ 100000) :
    Calls Try.prog 95 #[.pointer (some ⟨g, 0, none⟩)] w fun en w' => en = .returned (.int .i64 (used fs : Int)) ∧ w = w' := by
  obtain ⟨Af, cf, h1, hcf, hF⟩ := h.mem
  have q := h1.cell
  have HC := Lib.hid (Kd.F_now hF)
  have HU := Lib.hid hu
  have Hlen : Hid (fs.length ≤ 100000) := Lib.hid (by
    have h2 : ∀ l : List Fr, l.length ≤ used l := by
      intro l
      induction l with
      | nil => exact Nat.zero_le _
      | cons f l ih =>
        have h3 : used (f :: l) = 1 + f.f1.length + used l := by rw [used, used, List.map_cons, List.sum_cons]
        rw [h3, List.length_cons]; omega
    have := h2 fs; omega)
  clear h h1 hF hu
  go_enter Try.func95, Try.ntmps95
  go_wp2
  go_loopg [3, 4] fs.length (fun kq v3 v4 wr => ∃ (i u : Nat), v3 = .int .i64 (u : Int) ∧ v4 = .int .i64 (i : Int) ∧ Hid (i + kq = fs.length) ∧ Hid (used (fs.take i) = u) ∧ w = wr)
  case atStart => exact ⟨0, 0, rfl, rfl, Lib.hid (by omega), Lib.hid rfl, rfl⟩
  case round =>
    obtain ⟨i, u, rfl, rfl, Hi, Hu, rfl⟩ := hrel
    by_cases hlt : i < fs.length
    · have hii : (i : Int) < (fs.length : Int) := by omega
      obtain ⟨ad, A1, c1, rfl, x0, x1, x2, x3⟩ := k_cell HC.out i hlt
      obtain ⟨m, hm⟩ : ∃ m, fs[i].f1.length = m := ⟨_, rfl⟩
      have Hm := Lib.hid hm
      have Hs : Hid (used (fs.take (i + 1)) = u + 1 + m) := Lib.hid (by rw [used_take hlt, Hu.out, hm])
      have hb : u + 1 + m ≤ 100000 := by have h2 := used_le (fs := fs) (i + 1); have h3 := Hs.out; have h4 := HU.out; omega
      rw [hm] at x1
      have hw := w1w (i := i) (by have := Hlen.out; omega)
      have hwu := w1w (i := u) (by omega)
      have hwm : wrap64 ((u : Int) + 1 + (m : Int)) = (u : Int) + 1 + (m : Int) := by unfold wrap64; omega
      clear hm x0 x2 x3 hb
      go_wp2
      go_roundg (gk - 1)
      case measure => exact kq_less Hi.out hlt
      case rel => exact ⟨i + 1, u + 1 + m, by simp [hwu, hwm], by simp [hw], Lib.hid (kq_next Hi.out hlt), Hs, rfl⟩
    · have hii : ¬ (i : Int) < (fs.length : Int) := by omega
      have hie : i = fs.length := by have := Hi.out; omega
      subst hie
      have hu := Hu.out
      rw [List.take_length] at hu
      have HUU := Lib.hid hu
      clear hu
      go_wp2
      go_ret
      exact ⟨by rw [HUU.out]; rfl, rfl⟩
end Go.Proofs.Ytmeoiennniknlaa.Log

namespace Go.Proofs.Ytmeoiennniknlaa.Log
open Go.RowKit Go.Shelf Go.Proofs.YtmeoiennniknlaaW.PrintWords Go.Proofs.Ytmeoiennniknlaa.Lb Go.Proofs.Ytmeoiennniknlaa.Frames
open Go.Proofs.Ytmeoiennniknlaa.Disk (Chg Sec secC secC_at agg8 thB Dsk cur upd)
open Go.Proofs.Ytmeoiennniknlaa.Anchor (Blk zero8 below_set8)
open Go.Proofs.Ytmeoiennniknlaa.RDisk (RDk curL)
set_option linter.unusedVariables false
set_option linter.unusedSimpArgs false

theorem partB_false {fr n : Int} {len : Nat} (h : partB fr n len = false) : fr < 0 ∨ (0 ≤ fr ∧ n < 1) ∨ (0 ≤ fr ∧ 1 ≤ n ∧ (len : Int) < fr) ∨ (0 ≤ fr ∧ 1 ≤ n ∧ fr ≤ (len : Int) ∧ (len : Int) - fr < n) := by
  simp only [partB, Bool.and_eq_false_iff, decide_eq_false_iff_not] at h
  omega
set_option maxRecDepth 100000 in
set_option maxHeartbeats 1000000 in
theorem open_range {w : World} {d lb mb : Nat} {L : List (List Int)} {M : Nat → Option (List Int)} (h : Dsk w d lb mb L M) (fr n ep : Int) (hp : partB fr n L.length = false) :
    Calls Try.prog 55 #[.pointer (some ⟨d, 0, none⟩), .int .i64 fr, .int .i64 n, .int .i64 ep] w fun en w' => en = .returned (.tuple #[.pointer none, .int .i64 3]) ∧ w = w' := by
  have H := Lib.hid h
  obtain ⟨ls, hls⟩ : ∃ ls, L.length = ls := ⟨_, rfl⟩
  have HLS := Lib.hid hls
  have hl4 := h.len.2
  rw [hls] at hp hl4
  clear h hls
  rcases partB_false hp with h0 | ⟨h0, h1⟩ | ⟨h0, h1, h2⟩ | ⟨h0, h1, h2, h3⟩
  · clear hp
    go_enter Try.func55, Try.ntmps55
    go_wp2_with (go_at_call 90; (with_reducible refine (Disk.len_at H HLS).mono ?_); rintro en w1 ⟨rfl, rfl⟩)
    exact bodyPost_ret (v := .tuple #[.pointer none, .int .i64 3]) (by simp [results, Try.results55, go_sem]) rfl ⟨rfl, rfl⟩
  · clear hp
    go_enter Try.func55, Try.ntmps55
    go_wp2_with (go_at_call 90; (with_reducible refine (Disk.len_at H HLS).mono ?_); rintro en w1 ⟨rfl, rfl⟩)
    exact bodyPost_ret (v := .tuple #[.pointer none, .int .i64 3]) (by simp [results, Try.results55, go_sem]) rfl ⟨rfl, rfl⟩
  · clear hp
    go_enter Try.func55, Try.ntmps55
    go_wp2_with (go_at_call 90; (with_reducible refine (Disk.len_at H HLS).mono ?_); rintro en w1 ⟨rfl, rfl⟩)
    exact bodyPost_ret (v := .tuple #[.pointer none, .int .i64 3]) (by simp [results, Try.results55, go_sem]) rfl ⟨rfl, rfl⟩
  · have i7 : wrap64 ((ls : Int) - fr) = (ls : Int) - fr := by unfold wrap64; omega
    clear hp
    go_enter Try.func55, Try.ntmps55
    go_wp2_with (go_at_call 90; (with_reducible refine (Disk.len_at H HLS).mono ?_); rintro en w1 ⟨rfl, rfl⟩)
    exact bodyPost_ret (v := .tuple #[.pointer none, .int .i64 3]) (by simp [results, Try.results55, go_sem]) rfl ⟨rfl, rfl⟩
theorem partB_true {fr n : Int} {len : Nat} (h : partB fr n len = true) : 0 ≤ fr ∧ 1 ≤ n ∧ fr ≤ (len : Int) ∧ n ≤ (len : Int) - fr := by
  simp only [partB, Bool.and_eq_true, decide_eq_true_eq] at h
  omega
set_option maxRecDepth 100000 in
set_option maxHeartbeats 1000000 in
theorem open_epoch {w : World} {d lb mb : Nat} {L : List (List Int)} {M : Nat → Option (List Int)} (h : Dsk w d lb mb L M) (fr n ep : Int) (hp : partB fr n L.length = true) (he : ep < 0 ∨ 4294967295 < ep) :
    Calls Try.prog 55 #[.pointer (some ⟨d, 0, none⟩), .int .i64 fr, .int .i64 n, .int .i64 ep] w fun en w' => en = .returned (.tuple #[.pointer none, .int .i64 1]) ∧ w = w' := by
  have H := Lib.hid h
  obtain ⟨ls, hls⟩ : ∃ ls, L.length = ls := ⟨_, rfl⟩
  have HLS := Lib.hid hls
  have hl4 := h.len.2
  rw [hls] at hp hl4
  clear h hls
  obtain ⟨h0, h1, h2, h3⟩ := partB_true hp
  have i1 : ¬ fr < 0 := by omega
  have i2 : ¬ n < 1 := by omega
  have i3 : ¬ (ls : Int) < fr := by omega
  have i4 : ¬ (ls : Int) - fr < n := by omega
  have i7 : wrap64 ((ls : Int) - fr) = (ls : Int) - fr := by unfold wrap64; omega
  clear hp
  rcases he with e0 | e0
  all_goals
    go_enter Try.func55, Try.ntmps55
    go_wp2_with (go_at_call 90; (with_reducible refine (Disk.len_at H HLS).mono ?_); rintro en w1 ⟨rfl, rfl⟩)
    exact bodyPost_ret (v := .tuple #[.pointer none, .int .i64 1]) (by simp [results, Try.results55, go_sem]) rfl ⟨rfl, rfl⟩
end Go.Proofs.Ytmeoiennniknlaa.Log

namespace Go.Proofs.Ytmeoiennniknlaa.Log
open Go.Proofs.Ytmeoiennniknlaa.Frames
open Go.Proofs.Ytmeoiennniknlaa.Disk (Sec cur upd)
set_option linter.unusedVariables false

/-- k words of sector i looked at: those from e on are made zero. -/
def zl (e i : Nat) (s : List Int) : Nat → List Int
  | 0 => s
  | k + 1 => if e ≤ 8 * i + k ∧ s.getD k 0 ≠ 0 then (zl e i s k).set k 0 else zl e i s k
def zb (e i : Nat) (s : List Int) : Nat → Bool
  | 0 => false
  | k + 1 => if e ≤ 8 * i + k ∧ s.getD k 0 ≠ 0 then true else zb e i s k
theorem zl_length (e i : Nat) (s : List Int) (k : Nat) : (zl e i s k).length = s.length := by
  induction k with
  | zero => rfl
  | succ k ih => unfold zl; split <;> simp [ih]
theorem zl_at (e i : Nat) (s : List Int) : ∀ k j, j < s.length → (zl e i s k)[j]? = if j < k ∧ e ≤ 8 * i + j then some 0 else s[j]?
  | 0, j, hj => by rw [if_neg (by omega)]; rfl
  | k + 1, j, hj => by
    have ih := zl_at e i s k j hj
    unfold zl
    by_cases hjk : j = k
    · subst hjk
      split
      · rename_i h
        rw [List.getElem?_set_self (by rw [zl_length]; exact hj), if_pos ⟨Nat.lt_succ_self _, h.1⟩]
      · rename_i h
        rw [ih, if_neg (by omega)]
        by_cases he : e ≤ 8 * i + j
        · have h0 : s.getD j 0 = 0 := Classical.byContradiction fun h2 => h ⟨he, h2⟩
          rw [if_pos ⟨Nat.lt_succ_self _, he⟩, List.getElem?_eq_getElem hj]
          rw [List.getD_eq_getElem?_getD, List.getElem?_eq_getElem hj] at h0
          exact congrArg some h0
        · rw [if_neg (by omega)]
    · split
      · rw [List.getElem?_set_ne (fun h => hjk h.symm), ih]
        by_cases hc : j < k ∧ e ≤ 8 * i + j
        · rw [if_pos hc, if_pos (by omega)]
        · rw [if_neg hc, if_neg (by omega)]
      · rw [ih]
        by_cases hc : j < k ∧ e ≤ 8 * i + j
        · rw [if_pos hc, if_pos (by omega)]
        · rw [if_neg hc, if_neg (by omega)]
theorem sect_at (ws : List Int) (i j : Nat) (hj : j < 8) : (sect ws i)[j]? = if i * 8 + j < ws.length then ws[i * 8 + j]? else some 0 := by
  rw [sect]
  by_cases h : i * 8 + j < ws.length
  · rw [if_pos h, List.getElem?_append_left (by rw [List.length_take, List.length_drop]; omega), List.getElem?_take_of_lt hj, List.getElem?_drop]
  · rw [if_neg h, List.getElem?_append_right (by rw [List.length_take, List.length_drop]; omega), List.getElem?_replicate, if_pos (by rw [List.length_take, List.length_drop]; omega)]
theorem zl_sect (W0 : List Int) (e i : Nat) (h : i * 8 + 8 ≤ W0.length) (he : e ≤ W0.length) : zl e i ((W0.drop (i * 8)).take 8) 8 = sect (W0.take e) i := by
  have hs : ((W0.drop (i * 8)).take 8).length = 8 := by rw [List.length_take, List.length_drop]; omega
  apply List.ext_getElem?
  intro j
  by_cases hj : j < 8
  · rw [zl_at e i _ 8 j (by omega), sect_at _ i j hj, List.length_take, Nat.min_eq_left he]
    by_cases hc : e ≤ 8 * i + j
    · rw [if_pos ⟨hj, hc⟩, if_neg (by omega)]
    · rw [if_neg (by omega), if_pos (by omega), List.getElem?_take_of_lt hj, List.getElem?_drop, List.getElem?_take_of_lt (by omega)]
  · rw [List.getElem?_eq_none (by rw [zl_length, hs]; omega), List.getElem?_eq_none (by rw [sect_length]; omega)]
theorem zb_iff (e i : Nat) (s : List Int) : ∀ k, k ≤ s.length → (zb e i s k = true ↔ zl e i s k ≠ s)
  | 0, _ => by simp [zb, zl]
  | k + 1, hk => by
    have ih := zb_iff e i s k (by omega)
    unfold zb zl
    by_cases hc : e ≤ 8 * i + k ∧ s.getD k 0 ≠ 0
    · rw [if_pos hc, if_pos hc]
      refine ⟨fun _ he => ?_, fun _ => rfl⟩
      have h1 : ((zl e i s k).set k 0)[k]? = some 0 := List.getElem?_set_self (by rw [zl_length]; omega)
      rw [he, List.getElem?_eq_getElem (show k < s.length by omega)] at h1
      apply hc.2
      rw [List.getD_eq_getElem?_getD, List.getElem?_eq_getElem (show k < s.length by omega)]
      exact Option.some.inj h1
    · rw [if_neg hc, if_neg hc]
      exact ih
end Go.Proofs.Ytmeoiennniknlaa.Log
