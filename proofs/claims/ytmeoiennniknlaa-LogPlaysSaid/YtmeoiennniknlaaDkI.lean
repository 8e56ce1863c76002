/- The walk of (*disk.Disk).last. (*disk.Disk).Sync, Crash; gimmallaw03.Keeps. -/
import Derived.Test.YtmeoiennniknlaaDkF
namespace Go.Proofs.Ytmeoiennniknlaa.Disk
open Go.RowKit Go.Shelf Go.Proofs.YtmeoiennniknlaaW.PrintWords Go.Proofs.Ytmeoiennniknlaa.Lb Go.Proofs.Ytmeoiennniknlaa.Anchor
set_option linter.unusedVariables false
set_option linter.unusedSimpArgs false

theorem w64s {n : Int} (h0 : 0 ≤ n) (h1 : n < 9223372036854775807) : wrap64 (n + 1) = n + 1 := by unfold wrap64; omega
theorem kq_less {i g n : Nat} (h : i + g = n) (hl : i < n) : g - 1 < g := by omega
theorem kq_next {i g n : Nat} (h : i + g = n) (hl : i < n) : i + 1 + (g - 1) = n := by omega
theorem lastP_no {M : Nat → Option (List Int)} {ks : List Nat} {bit : Nat → Bool} {L : List (List Int)} {r : Nat} (h : bit r = false) : lastP M ks bit L (r + 1) = lastP M ks bit L r := by
  rw [lastP, if_neg (by rw [h]; decide)]
theorem lastP_yes {M : Nat → Option (List Int)} {ks : List Nat} {bit : Nat → Bool} {L : List (List Int)} {r i : Nat} {s : List Int} (h : bit r = true) (hi : ks.getD r 0 = i) (hs : M i = some s) : lastP M ks bit L (r + 1) = (lastP M ks bit L r).set i s := by
  rw [lastP, if_pos h, hi, hs]; rfl
theorem dirty_at {w : World} {d lb mb : Nat} {L : List (List Int)} {M : Nat → Option (List Int)} {ks : List Nat} (h : Hid (Dsk w d lb mb L M)) (hk : Hid (dirty M L.length = ks)) :
    Calls Try.prog 103 #[.pointer (some ⟨d, 0, none⟩)] w fun e w' => ∃ A c g, e = .returned (.slice A ks.length c) ∧ Hid (Ks w' w.heap.size A g ks) ∧ Hid (Below w.heap.size w w') := by
  have e := hk.out
  subst e
  exact (dirty_any h.out).mono fun en w' ⟨A, c, g, h1, h2, h3⟩ => ⟨A, c, g, h1, Lib.hid h2, Lib.hid h3⟩
theorem keep_at {g : Nat} {cap : Array Value} {S : Nat → Prop} {bit : Nat → Bool} {lb : Nat} {J : Nat → World → Prop} (h : Hid (Keep g cap S bit lb J)) {k : Nat} {b : Bool} {i : Nat} {W : World} (hk : k < 4096) (hb : Hid (bit k = b)) (hJ : Hid (J k W)) :
    Calls Try.prog g (#[.int .i64 (i : Int)] ++ cap) W fun e W' => e = .returned (.bool b) ∧ Hid (J (k + 1) W') ∧ Hid (Chg S W W') := by
  have e := hb.out
  subst e
  exact (h.out.call k i W hk hJ.out).mono fun en w' ⟨h1, h2, h3⟩ => ⟨h1, Lib.hid h2, Lib.hid h3⟩
theorem dirty_at_mem {M : Nat → Option (List Int)} {n r : Nat} {ks : List Nat} (hk : dirty M n = ks) (hr : r < ks.length) : ks.getD r 0 < n ∧ (M (ks.getD r 0)).isSome = true := by
  have h : ks.getD r 0 ∈ ks := by
    rw [List.getD_eq_getElem?_getD, List.getElem?_eq_getElem hr]
    exact List.getElem_mem hr
  rw [← hk] at h
  exact mem_dirty.1 (hk ▸ h)
theorem sec_lastP {M : Nat → Option (List Int)} {ks : List Nat} {bit : Nat → Bool} {L : List (List Int)} (hL : ∀ s ∈ L, Sec s) (hM : ∀ i s, M i = some s → Sec s) (hk : ∀ r, r < ks.length → (M (ks.getD r 0)).isSome = true) : ∀ r, r ≤ ks.length → ∀ s ∈ lastP M ks bit L r, Sec s
  | 0, _, s, hs => hL s hs
  | r + 1, hr, s, hs => by
    unfold lastP at hs
    split at hs
    · rcases mem_set hs with e | h
      · obtain ⟨t, ht⟩ := Option.isSome_iff_exists.1 (hk r (by omega))
        rw [e, ht]
        exact hM _ _ ht
      · exact sec_lastP hL hM hk r (by omega) s h
    · exact sec_lastP hL hM hk r (by omega) s hs
theorem dsk_put {w W : World} {d lb mb : Nat} {L : List (List Int)} {M : Nat → Option (List Int)} (h : Dsk w d lb mb L M) (i : Nat) (t : List Int) (ht : Sec t) (hc : Chg (fun k => k = lb) w W) (hb : Blk W lb (secC (L.set i t)) 59) : Dsk W d lb mb (L.set i t) M := by
  obtain ⟨wr, sy, ho⟩ := h.obj
  obtain ⟨D, hD, hm⟩ := h.map
  have hnl := h.nelm
  refine ⟨by simpa using h.len, fun s hs => ?_, h.mse, ⟨wr, sy, ?_⟩, hb, ⟨D, by simpa using hD, ?_⟩⟩
  · rcases mem_set hs with rfl | h1
    · exact ht
    · exact h.secs s h1
  · have h1 := hc.blk ho h.nedl
    simpa using h1
  · have hlt := hm.lt
    obtain ⟨es, ck, hb, F, hs, e⟩ := hm
    exact ⟨es, ck, (hc.block mb hlt (fun e => hnl e.symm)).trans hb, F, hs, e⟩
theorem dsk_clear {w W : World} {d lb mb : Nat} {L : List (List Int)} {M : Nat → Option (List Int)} (h : Dsk w d lb mb L M) (hc : Chg (fun k => k = mb) w W) (hm : W.ownsMap Try.prog 3 secR mb 0 (.map [])) : Dsk W d lb mb L (fun _ => none) := by
  obtain ⟨wr, sy, ho⟩ := h.obj
  exact ⟨h.len, h.secs, fun i s e => (by cases e), ⟨wr, sy, hc.blk ho h.nedm⟩, hc.blk h.las h.nelm, ⟨.map [], MapIs.empty _, hm⟩⟩
/-- The device in the midst of last. -/
structure Mid (w0 wr : World) (S : Nat → Prop) (J : Nat → World → Prop) (d lb mb : Nat) (L : List (List Int)) (M : Nat → Option (List Int)) (r : Nat) : Prop where
  dsk : Dsk wr d lb mb L M
  chg : Chg (fun k => k = lb ∨ S k) w0 wr
  j : J r wr
structure Far (w : World) (S : Nat → Prop) (d lb mb : Nat) : Prop where
  d : ¬ S d
  l : ¬ S lb
  m : ¬ S mb
  lt : ∀ k, S k → k < w.heap.size

set_option maxRecDepth 100000 in
set_option maxHeartbeats 2000000 in
theorem last_any {w : World} {d lb mb : Nat} {L : List (List Int)} {M : Nat → Option (List Int)} {g : Nat} {cap : Array Value} {S : Nat → Prop} {bit : Nat → Bool} {J : Nat → World → Prop} (h : Dsk w d lb mb L M) (hk : Keep g cap S bit lb J) (hJ : J 0 w) (hS : Far w S d lb mb) :
    Calls Try.prog 85 #[.pointer (some ⟨d, 0, none⟩), .func (.func g) #[] cap] w fun en w' => en = .returned (.tuple #[]) ∧ Dsk w' d lb mb (lastP M (dirty M L.length) bit L (dirty M L.length).length) (fun _ => none) ∧ Chg (fun k => k = lb ∨ k = mb ∨ S k) w w' := by
  have H := Lib.hid h
  have HK := Lib.hid hk
  have HS := Lib.hid hS
  have HJ := Lib.hid hJ
  have eg := hk.eg
  obtain ⟨ks, hks⟩ : ∃ ks, dirty M L.length = ks := ⟨_, rfl⟩
  have Hks := Lib.hid hks
  have HN : Hid (ks.length ≤ 4096) := Lib.hid (by have h1 := dirty_length M L.length; rw [hks] at h1; have := h.len.2; omega)
  rw [hks]
  clear h hk hJ hS hks
  go_enter Try.func85, Try.ntmps85
  go_wp2_with (go_at_call 103; (with_reducible refine (dirty_at H Hks).mono ?_); rintro en w1 ⟨A, c, gb, rfl, H1, HB⟩)
  have HM : Hid (Mid w1 w1 S J d lb mb (lastP M ks bit L 0) M 0) := Lib.hid ⟨H.out.below HB.out, Chg.refl _ _, HK.out.kept 0 _ _ HJ.out (Chg.of_below HB.out)⟩
  have HF : Hid (Far w1 S d lb mb) := Lib.hid ⟨HS.out.d, HS.out.l, HS.out.m, fun k hk => Nat.lt_of_lt_of_le (HS.out.lt k hk) HB.out.size⟩
  have HG : Hid (∀ k, S k → k < gb) := Lib.hid (fun k hk => Nat.lt_of_lt_of_le (HS.out.lt k hk) H1.out.base)
  have HGl : Hid (lb < gb) := Lib.hid (Nat.lt_of_lt_of_le H.out.ltl H1.out.base)
  go_loopg [9] ks.length (fun kq v9 wr => ∃ (r : Nat), v9 = .int .i64 (r : Int) ∧ Hid (r + kq = ks.length) ∧ Hid (Mid w1 wr S J d lb mb (lastP M ks bit L r) M r))
  case atStart => exact ⟨0, rfl, Lib.hid (by omega), HM⟩
  case round =>
    obtain ⟨r, rfl, Hr, Hm⟩ := hrel
    by_cases hlt : r < ks.length
    · have hi : (r : Int) < (ks.length : Int) := by omega
      obtain ⟨hA, hgl⟩ := H1.out.at_ (by omega)
      subst hA
      have hc : wr.cell? ⟨gb, r, none⟩ = some (.int .i64 (ks.getD r 0 : Nat)) := by
        rw [Hm.out.chg.cell hgl ?_]
        · exact H1.out.cell r hlt
        · rintro (e | e)
          · exact Nat.lt_irrefl _ (e ▸ HGl.out)
          · exact Nat.lt_irrefl _ (HG.out _ e)
      obtain ⟨hi1, hi2⟩ := dirty_at_mem Hks.out hlt
      obtain ⟨i, hie⟩ : ∃ i, ks.getD r 0 = i := ⟨_, rfl⟩
      have Hie := Lib.hid hie
      rw [hie] at hc hi1 hi2
      obtain ⟨s, hs⟩ := Option.isSome_iff_exists.1 hi2
      have Hi1 := Lib.hid hi1
      have Hs := Lib.hid hs
      have hn := HN.out
      have hw : wrap64 ((r : Int) + 1) = (r : Int) + 1 := w64s (by omega) (by omega)
      clear hgl hi1 hi2 hie hs hn
      have HR4 : Hid (r < 4096) := Lib.hid (Nat.lt_of_lt_of_le hlt HN.out)
      obtain ⟨b, hb⟩ : ∃ b, bit r = b := ⟨_, rfl⟩
      have Hb := Lib.hid hb
      clear hb
      cases b with
      | false =>
        go_wp2_with (go_at_fn g; (with_reducible refine (keep_at HK HR4.out Hb (Lib.hid Hm.out.j)).mono ?_); rintro en w2 ⟨rfl, HJ2, HC2⟩)
        go_roundg (gk - 1)
        case measure => exact kq_less Hr.out hlt
        case rel =>
          refine ⟨r + 1, by simp [hw], Lib.hid (kq_next Hr.out hlt), Lib.hid ⟨?_, Hm.out.chg.trans (HC2.out.mono fun k hk => Or.inr hk), HJ2.out⟩⟩
          rw [lastP_no Hb.out]
          exact Hm.out.dsk.kept HC2.out HS.out.d HS.out.l HS.out.m
      | true =>
        go_wp2_with (go_at_fn g; (with_reducible refine (keep_at HK HR4.out Hb (Lib.hid Hm.out.j)).mono ?_); rintro en w2 ⟨rfl, HJ2, HC2⟩)
        have hD2 := Hm.out.dsk.kept HC2.out HS.out.d HS.out.l HS.out.m
        have HD2 := Lib.hid hD2
        obtain ⟨L1, hL1⟩ : ∃ L1, lastP M ks bit L r = L1 := ⟨_, rfl⟩
        have HL1 := Lib.hid hL1
        obtain ⟨s0, s1, s2, s3, s4, s5, s6, s7, hse⟩ := (hD2.mse i s Hs.out).open
        have HSE := Lib.hid hse
        obtain ⟨wr2, sy2, ho⟩ := hD2.obj
        obtain ⟨D, hD, hm⟩ := hD2.map
        have hlen := lastP_length M ks bit L r
        have hlk : (Instr.lookup 116 (.map (some mb)) (.int .i64 (i : Int)) false).run Try.prog w2.drew = .ok (agg8 s0 s1 s2 s3 s4 s5 s6 s7) w2.drew := by
          have h1 := look_run (w := w2.drew) hm.drew hD (by have := Hi1.out; have := H.out.len.2; omega) Hs.out
          rw [hse] at h1
          exact h1
        have hla := hD2.las
        have hlen := lastP_length M ks bit L r
        rw [hL1] at hlen ho hla hD2
        rw [hlen] at ho
        have hii : (i : Int) < (L.length : Int) := by have := Hi1.out; omega
        have q0 := ho.cell
        have hiL : i < L1.length := by rw [hlen]; exact Hi1.out
        obtain ⟨y0, y1, y2, y3, y4, y5, y6, y7, hy⟩ := (hD2.secs (L1.getD i []) (by rw [List.getD_eq_getElem?_getD, List.getElem?_eq_getElem hiL]; exact List.getElem_mem hiL)).open
        have hc : ∀ j, j < 8 → w2.cell? ⟨lb, i * 8 + j, none⟩ = (nums .u64 [y0, y1, y2, y3, y4, y5, y6, y7])[j]? := fun j hj => by
          rw [hla.cell, secC_at L1 (fun s hs => (hD2.secs s hs).1) i j hiL hj, hy]
        have c0 : w2.cell? ⟨lb, i * 8, none⟩ = some (.int .u64 y0) := hc 0 (by decide)
        have c1 : w2.cell? ⟨lb, i * 8 + 1, none⟩ = some (.int .u64 y1) := hc 1 (by decide)
        have c2 : w2.cell? ⟨lb, i * 8 + 2, none⟩ = some (.int .u64 y2) := hc 2 (by decide)
        have c3 : w2.cell? ⟨lb, i * 8 + 3, none⟩ = some (.int .u64 y3) := hc 3 (by decide)
        have c4 : w2.cell? ⟨lb, i * 8 + 4, none⟩ = some (.int .u64 y4) := hc 4 (by decide)
        have c5 : w2.cell? ⟨lb, i * 8 + 5, none⟩ = some (.int .u64 y5) := hc 5 (by decide)
        have c6 : w2.cell? ⟨lb, i * 8 + 6, none⟩ = some (.int .u64 y6) := hc 6 (by decide)
        have c7 : w2.cell? ⟨lb, i * 8 + 7, none⟩ = some (.int .u64 y7) := hc 7 (by decide)
        have f1 := hla.frozen
        have z1 := hla.lt
        have HLA := Lib.hid hla
        have HII := Lib.hid hiL
        clear hD2 ho hD hm hL1 hse hla hiL hlen hy hc
        go_still_tail 12, (by kernel_rfl)
        go_wp2
        go_roundg (gk - 1)
        case measure => exact kq_less Hr.out hlt
        case rel =>
          have hc8 := (chg_set8 (S := fun k => k = lb) (Chg.refl _ w2) rfl (i * 8) (i * 8 + 1) (i * 8 + 2) (i * 8 + 3) (i * 8 + 4) (i * 8 + 5) (i * 8 + 6) (i * 8 + 7) (.int .u64 s0) (.int .u64 s1) (.int .u64 s2) (.int .u64 s3) (.int .u64 s4) (.int .u64 s5) (.int .u64 s6) (.int .u64 s7)).drew
          have HD3 : Dsk w2 d lb mb L1 M := by rw [← HL1.out]; exact HD2.out
          refine ⟨r + 1, by simp [hw], Lib.hid (kq_next Hr.out hlt), Lib.hid ⟨?_, (Hm.out.chg.trans (HC2.out.mono fun k hk => Or.inr hk)).trans (hc8.mono fun k hk => Or.inl hk), HK.out.kept _ _ _ HJ2.out hc8⟩⟩
          rw [lastP_yes Hb.out Hie.out Hs.out, HL1.out]
          have hs8 := HSE.out
          subst hs8
          exact dsk_put HD3 i _ (HD3.mse _ _ Hs.out) hc8 (blk_set HLA.out (fun s hs => (HD3.secs s hs).1) i HII.out s0 s1 s2 s3 s4 s5 s6 s7).drew
    · have hi : ¬ (r : Int) < (ks.length : Int) := by omega
      have he : r = ks.length := by have := Hr.out; omega
      subst he
      obtain ⟨wr2, sy2, ho⟩ := Hm.out.dsk.obj
      obtain ⟨D, hD, es, ck, hm, hF⟩ := Hm.out.dsk.map
      have hcl := run_clear_map (P := Try.prog) 116 3 59 0 Try.underlying116 hm
      have q0 := ho.cell
      have HMM := Lib.hid hm
      clear ho hD hF hm
      go_wp2
      go_end0
      have hce := Chg.clear (S := fun k => k = mb) (w := wr) rfl (.map #[] ck)
      exact ⟨rfl, dsk_clear Hm.out.dsk hce (ownsMap_clear HMM.out), ((Chg.of_below HB.out).trans (Hm.out.chg.mono fun k hk => hk.elim Or.inl (fun h => Or.inr (Or.inr h)))).trans (hce.mono fun k hk => Or.inr (Or.inl hk))⟩
end Go.Proofs.Ytmeoiennniknlaa.Disk

namespace Go.Proofs.Ytmeoiennniknlaa.Disk
open Go.RowKit Go.Shelf Go.Proofs.YtmeoiennniknlaaW.PrintWords Go.Proofs.Ytmeoiennniknlaa.Lb Go.Proofs.Ytmeoiennniknlaa.Anchor
set_option linter.unusedVariables false
set_option linter.unusedSimpArgs false

/-- What lasts behind a call of last. -/
def lastL (M : Nat → Option (List Int)) (bit : Nat → Bool) (L : List (List Int)) : List (List Int) := lastP M (dirty M L.length) bit L (dirty M L.length).length
theorem lastL_length (M : Nat → Option (List Int)) (bit : Nat → Bool) (L : List (List Int)) : (lastL M bit L).length = L.length := lastP_length _ _ _ _ _

set_option maxRecDepth 100000 in
set_option maxHeartbeats 400000 in
theorem keep_sync (lb : Nat) : Keep 86 #[] (fun _ => False) (fun _ => true) lb (fun _ _ => True) := by
  refine ⟨enters_of Try.func86 (by kernel_rfl) rfl, fun k i W _ _ => ?_, fun _ _ _ _ _ => trivial⟩
  show Calls Try.prog 86 #[.int .i64 (i : Int)] W _
  go_enter Try.func86, Try.ntmps86
  go_wp2
  go_ret
  exact ⟨rfl, trivial, Chg.refl _ _⟩

theorem last_at {w : World} {d lb mb : Nat} {L : List (List Int)} {M : Nat → Option (List Int)} {g : Nat} {cap : Array Value} {S : Nat → Prop} {bit : Nat → Bool} {J : Nat → World → Prop} (h : Hid (Dsk w d lb mb L M)) (hk : Hid (Keep g cap S bit lb J)) (hJ : Hid (J 0 w)) (hS : Hid (Far w S d lb mb)) :
    Calls Try.prog 85 #[.pointer (some ⟨d, 0, none⟩), .func (.func g) #[] cap] w fun en w' => en = .returned (.tuple #[]) ∧ Hid (Dsk w' d lb mb (lastL M bit L) (fun _ => none)) ∧ Hid (Chg (fun k => k = lb ∨ k = mb ∨ S k) w w') :=
  (last_any h.out hk.out hJ.out hS.out).mono fun en w' ⟨h1, h2, h3⟩ => ⟨h1, Lib.hid h2, Lib.hid h3⟩

set_option maxRecDepth 100000 in
set_option maxHeartbeats 1000000 in
theorem sync_any {w : World} {d lb mb : Nat} {L : List (List Int)} {M : Nat → Option (List Int)} (h : Dsk w d lb mb L M) :
    Calls Try.prog 50 #[.pointer (some ⟨d, 0, none⟩)] w fun en w' => en = .returned (.tuple #[]) ∧ Dsk w' d lb mb (lastL M (fun _ => true) L) (fun _ => none) ∧ Chg (fun k => k = d ∨ k = lb ∨ k = mb) w w' := by
  have H := Lib.hid h
  have HK := Lib.hid (keep_sync lb)
  have HJ : Hid ((fun (_ : Nat) (_ : World) => True) 0 w) := Lib.hid trivial
  have HS : Hid (Far w (fun _ => False) d lb mb) := Lib.hid ⟨id, id, id, fun _ h => h.elim⟩
  clear h
  go_enter Try.func50, Try.ntmps50
  go_wp2_with (go_at_call 85; (with_reducible refine (last_at H HK HJ HS).mono ?_); rintro en w1 ⟨rfl, H1, H2⟩; obtain ⟨wr, sy, ho⟩ := H1.out.obj; have HO := Lib.hid ho; have q := ho.cell; have f := ho.frozen; have z := ho.lt; clear ho)
  go_end0
  have hS := Chg.set (S := fun k => k = d ∨ k = lb ∨ k = mb) (p := ⟨d, 3, none⟩) (Or.inl rfl) w1
  refine ⟨rfl, ⟨H1.out.len, H1.out.secs, H1.out.mse, ⟨_, _, HO.out.set 3 _⟩, H1.out.las.other (fun e => H1.out.nedl e.symm) _, ?_⟩, (H2.out.mono fun k hk => ?_).trans (hS _)⟩
  · obtain ⟨D, hD, hm⟩ := H1.out.map
    exact ⟨D, hD, hm.setCell (Ne.symm H1.out.nedm) _⟩
  · rcases hk with h | h | h
    · exact Or.inr (Or.inl h)
    · exact Or.inr (Or.inr h)
    · exact h.elim

set_option maxRecDepth 100000 in
set_option maxHeartbeats 1000000 in
theorem crash_any {w : World} {d lb mb : Nat} {L : List (List Int)} {M : Nat → Option (List Int)} {g : Nat} {cap : Array Value} {S : Nat → Prop} {bit : Nat → Bool} {J : Nat → World → Prop} (h : Dsk w d lb mb L M) (hk : Keep g cap S bit lb J) (hJ : J 0 w) (hS : Far w S d lb mb) :
    Calls Try.prog 51 #[.pointer (some ⟨d, 0, none⟩), .func (.func g) #[] cap] w fun en w' => en = .returned (.tuple #[]) ∧ Dsk w' d lb mb (lastL M bit L) (fun _ => none) ∧ Chg (fun k => k = lb ∨ k = mb ∨ S k) w w' := by
  have H := Lib.hid h
  have HK := Lib.hid hk
  have HJ := Lib.hid hJ
  have HS := Lib.hid hS
  clear h hk hJ hS
  go_enter Try.func51, Try.ntmps51
  go_wp2_with (go_at_call 85; (with_reducible refine (last_at H HK HJ HS).mono ?_); rintro en w1 ⟨rfl, H1, H2⟩)
  go_end0
  exact ⟨rfl, H1.out, H2.out⟩

/-- What the function that Keeps hands back looks into: k of the list l were told. -/
structure KJ (l : List Bool) (A : Option Addr) (cap g o cb bb lb : Nat) (k : Nat) (W : World) : Prop where
  ctr : Blk W cb [.int .i64 (k : Int)] 3
  box : Blk W bb [.slice A l.length cap] 79
  ne : lb ≠ cb ∧ lb ≠ bb ∧ cb ≠ bb
  data : 0 < l.length → A = some ⟨g, o, none⟩ ∧ g < W.heap.size ∧ g ≠ lb ∧ g ≠ cb
  cell : ∀ j, j < l.length → W.cell? ⟨g, o + j, none⟩ = some (.bool (l.getD j false))

set_option maxRecDepth 100000 in
set_option maxHeartbeats 1000000 in
theorem keep_keeps (l : List Bool) (hl : l.length ≤ 1000000) (A : Option Addr) (cap g o cb bb lb : Nat) :
    Keep 87 #[.pointer (some ⟨cb, 0, none⟩), .pointer (some ⟨bb, 0, none⟩)] (fun k => k = cb) (fun k => l.getD k false) lb (KJ l A cap g o cb bb lb) := by
  refine ⟨enters_of Try.func87 (by kernel_rfl) rfl, fun k i W hk h => ?_, fun k W W' h hc => ⟨hc.blk h.ctr (fun e => h.ne.1 e.symm), hc.blk h.box (fun e => h.ne.2.1 e.symm), h.ne, fun h0 => ⟨(h.data h0).1, Nat.lt_of_lt_of_le (h.data h0).2.1 hc.size, (h.data h0).2.2⟩, fun j hj => ?_⟩⟩
  · show Calls Try.prog 87 #[.int .i64 (i : Int), .pointer (some ⟨cb, 0, none⟩), .pointer (some ⟨bb, 0, none⟩)] W _
    have H := Lib.hid h
    have q0 := h.ctr.cell
    have f0 := h.ctr.frozen
    have z0 := h.ctr.lt
    have q1 := h.box.cell
    have hne := h.ne.2.2
    have hw : wrap64 ((k : Int) + 1) = (k : Int) + 1 := w64s (by omega) (by omega)
    have hS := Chg.set (S := fun k => k = cb) (p := ⟨cb, 0, none⟩) rfl W (.int .i64 ((k : Int) + 1))
    have HE : Hid (KJ l A cap g o cb bb lb (k + 1) (W.setCell ⟨cb, 0, none⟩ (.int .i64 ((k : Int) + 1)))) := Lib.hid ⟨h.ctr.set 0 _, h.box.other (Ne.symm hne) _, h.ne, fun h0 => ⟨(h.data h0).1, Nat.lt_of_lt_of_le (h.data h0).2.1 hS.size, (h.data h0).2.2⟩, fun j hj => by
      have h1 := (h.data (by omega)).2
      rw [hS.cell h1.1 h1.2.2]
      exact h.cell j hj⟩
    have HSS := Lib.hid hS
    obtain ⟨b, hb⟩ : ∃ b, l.getD k false = b := ⟨_, rfl⟩
    have Hb := Lib.hid hb
    rw [hb]
    by_cases hlt : k < l.length
    · have hi : (k : Int) + 1 ≤ (l.length : Int) := by omega
      have hA := (h.data (by omega)).1
      subst hA
      have hc := h.cell k hlt
      rw [hb] at hc
      have hgc := (h.data (by omega)).2.2.2
      have hww : wrap64 ((k : Int) + 1 - 1) = (k : Int) := by unfold wrap64; omega
      clear h hS hb
      go_enter Try.func87, Try.ntmps87
      go_wp2

      go_ret
      exact ⟨rfl, HE.out, HSS.out⟩
    · have hi : ¬ (k : Int) + 1 ≤ (l.length : Int) := by omega
      have hbf : b = false := by
        rw [← hb, List.getD_eq_getElem?_getD, List.getElem?_eq_none (by omega)]; rfl
      subst hbf
      clear h hS hb
      go_enter Try.func87, Try.ntmps87
      go_wp2
      go_ret
      exact ⟨rfl, HE.out, HSS.out⟩
  · have h1 := (h.data (by omega)).2
    rw [hc.cell h1.1 h1.2.1]
    exact h.cell j hj

set_option maxRecDepth 100000 in
set_option maxHeartbeats 1000000 in
theorem keeps_any (W : World) (A : Option Addr) (n cap : Nat) :
    Calls Try.prog 52 #[.slice A n cap] W fun en W' => en = .returned (.func (.func 87) #[] #[.pointer (some ⟨W.heap.size + 1, 0, none⟩), .pointer (some ⟨W.heap.size, 0, none⟩)]) ∧
      W' = (W.alloc (.cells #[.slice A n cap] 79)).alloc (.cells #[.int .i64 0] 3) := by
  go_enter Try.func52, Try.ntmps52
  go_wp2
  go_ret
  exact ⟨by simp, rfl⟩
end Go.Proofs.Ytmeoiennniknlaa.Disk
