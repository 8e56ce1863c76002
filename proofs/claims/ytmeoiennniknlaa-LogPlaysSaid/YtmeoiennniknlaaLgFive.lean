/- LogPlays: the program's log and device, and the reference's, in one memory: what each call makes of them. LogPlays: both logs opened, appended to, compared. LogPlays: what holds between two calls. LogPlays: its argument; how it begins; the sectors compared. The walk of the statement LogPlays: what it refuses at once. -/
import Derived.Test.YtmeoiennniknlaaLgY
namespace Go.Proofs.Ytmeoiennniknlaa.Log
open Go.RowKit Go.Shelf Go.Proofs.YtmeoiennniknlaaW.PrintWords Go.Proofs.Ytmeoiennniknlaa.Lb Go.Proofs.Ytmeoiennniknlaa.Frames
open Go.Proofs.Ytmeoiennniknlaa.Disk (Chg Chg.cell Sec secC secC_at agg8 thB Dsk cur upd lastL)
open Go.Proofs.Ytmeoiennniknlaa.Anchor (Blk zero8 below_set8)
open Go.Proofs.Ytmeoiennniknlaa.RDisk (RDk curL dirB BRow crashN)
set_option linter.unusedVariables false
set_option linter.unusedSimpArgs false

/-- All four in memory; c tells whose a block is. -/
structure Two (W0 : World) (bo : Option (Nat × List Value × TypeId)) (w : World) (d lb mb x rl rr rd ga gb fr n ea eb : Nat) (L : List (List Int)) (M : Nat → Option (List Int)) (ws : List Int) (fs : List Fr) (RL RR : List (List Int)) (RD : List Bool) (fs2 : List Fr) (OW OF OB : Nat → Prop) (c : Nat → Nat) : Prop where
  dsk : Dsk w d lb mb L M
  lg : Lg w ga d fr n ea ws fs OW OF
  rdk : RDk w x rl rr rd RL RR RD
  rg : Rg w gb x fr n eb fs2 OB
  td : ∀ k, TD d lb mb k → c k = 1
  tx : c x = 2 ∧ ∀ k, TR rl rr rd k → c k = 2
  ga_ : c ga = 3
  ow : ∀ k, OW k → c k = 4
  of_ : ∀ k, OF k → c k = 5
  gb_ : c gb = 6
  ob : ∀ k, OB k → c k = 7
  old : ∀ k, k < W0.heap.size → c k = 7
  chg : Chg (fun k => W0.heap.size ≤ k) W0 w
  bxk : ∀ b cs t, bo = some (b, cs, t) → Blk w b cs t ∧ c b = 7
section
variable {W0 : World} {bo : Option (Nat × List Value × TypeId)} {w w' : World} {d lb mb x rl rr rd ga gb fr n ea eb : Nat} {L L' : List (List Int)} {M M' : Nat → Option (List Int)} {ws ws' : List Int} {fs fs' : List Fr} {RL RR RL' RR' : List (List Int)} {RD RD' : List Bool} {fs2 fs2' : List Fr} {OW OF OB S : Nat → Prop} {c : Nat → Nat}
theorem Two.new (h : Two W0 bo w d lb mb x rl rr rd ga gb fr n ea eb L M ws fs RL RR RD fs2 OW OF OB c) {k q : Nat} (hk : c k = q) (hq : q ≠ 7) : W0.heap.size ≤ k := by
  apply Nat.le_of_not_lt
  intro hlt
  exact hq (hk.symm.trans (h.old k hlt))
theorem Two.lts (h : Two W0 bo w d lb mb x rl rr rd ga gb fr n ea eb L M ws fs RL RR RD fs2 OW OF OB c) : (∀ k, TD d lb mb k → k < w.heap.size) ∧ x < w.heap.size ∧ (∀ k, TR rl rr rd k → k < w.heap.size) ∧ ga < w.heap.size ∧ gb < w.heap.size := by
  refine ⟨fun k hk => ?_, (RDk.lts h.rdk).1, fun k hk => ?_, h.lg.lt, h.rg.lt⟩
  · rcases hk with rfl | rfl | rfl
    · exact h.dsk.ltd
    · exact h.dsk.ltl
    · exact h.dsk.ltm
  · rcases hk with rfl | rfl | rfl
    · exact (RDk.lts h.rdk).2.1
    · exact (RDk.lts h.rdk).2.2.1
    · exact (RDk.lts h.rdk).2.2.2
theorem ne_col {c : Nat → Nat} {k p q : Nat} (h : c k = p) (h2 : c k = q) (hne : p ≠ q) : False := hne (h.symm.trans h2)
theorem Two.rdk_kept (h : Two W0 bo w d lb mb x rl rr rd ga gb fr n ea eb L M ws fs RL RR RD fs2 OW OF OB c) (hc : Chg S w w') (hS : ∀ k, k < w.heap.size → S k → c k ≠ 2) : RDk w' x rl rr rd RL RR RD :=
  h.rdk.kept (hc.mono' (S' := fun k => S k ∧ k < w.heap.size) (fun k hk hs => ⟨hs, hk⟩)) (fun hs => hS _ hs.2 hs.1 h.tx.1) (fun hs => hS _ hs.2 hs.1 (h.tx.2 _ (Or.inl rfl))) (fun hs => hS _ hs.2 hs.1 (h.tx.2 _ (Or.inr (Or.inl rfl)))) (fun hs => hS _ hs.2 hs.1 (h.tx.2 _ (Or.inr (Or.inr rfl))))
theorem Two.dsk_kept (h : Two W0 bo w d lb mb x rl rr rd ga gb fr n ea eb L M ws fs RL RR RD fs2 OW OF OB c) (hc : Chg S w w') (hS : ∀ k, k < w.heap.size → S k → c k ≠ 1) : Dsk w' d lb mb L M :=
  h.dsk.kept (hc.mono' (S' := fun k => S k ∧ k < w.heap.size) (fun k hk hs => ⟨hs, hk⟩)) (fun hs => hS _ hs.2 hs.1 (h.td _ (Or.inl rfl))) (fun hs => hS _ hs.2 hs.1 (h.td _ (Or.inr (Or.inl rfl)))) (fun hs => hS _ hs.2 hs.1 (h.td _ (Or.inr (Or.inr rfl))))
theorem Two.lg_kept (h : Two W0 bo w d lb mb x rl rr rd ga gb fr n ea eb L M ws fs RL RR RD fs2 OW OF OB c) (hc : Chg S w w') (hS : ∀ k, k < w.heap.size → S k → c k ≠ 3 ∧ c k ≠ 4 ∧ c k ≠ 5) : Lg w' ga d fr n ea ws fs OW OF :=
  h.lg.kept (hc.mono' (S' := fun k => S k ∧ k < w.heap.size) (fun k hk hs => ⟨hs, hk⟩)) (fun hs => (hS _ hs.2 hs.1).1 h.ga_) (fun k hk hs => (hS _ hs.2 hs.1).2.1 (h.ow k hk)) (fun k hk hs => (hS _ hs.2 hs.1).2.2 (h.of_ k hk))
theorem Two.rg_kept (h : Two W0 bo w d lb mb x rl rr rd ga gb fr n ea eb L M ws fs RL RR RD fs2 OW OF OB c) (hc : Chg S w w') (hS : ∀ k, k < w.heap.size → S k → c k ≠ 6 ∧ c k ≠ 7) : Rg w' gb x fr n eb fs2 OB :=
  h.rg.kept (hc.mono' (S' := fun k => S k ∧ k < w.heap.size) (fun k hk hs => ⟨hs, hk⟩)) (fun hs => (hS _ hs.2 hs.1).1 h.gb_) (fun k hk hs => (hS _ hs.2 hs.1).2 (h.ob k hk))
theorem Two.chg_to (h : Two W0 bo w d lb mb x rl rr rd ga gb fr n ea eb L M ws fs RL RR RD fs2 OW OF OB c) (hc : Chg S w w') (hS : ∀ k, k < w.heap.size → S k → c k ≠ 7) : Chg (fun k => W0.heap.size ≤ k) W0 w' :=
  h.chg.trans (hc.mono' (fun k hk hs => Nat.le_of_not_lt (fun hlt => hS k hk hs (h.old k hlt))))
theorem Two.box_kept (h : Two W0 bo w d lb mb x rl rr rd ga gb fr n ea eb L M ws fs RL RR RD fs2 OW OF OB c) (hc : Chg S w w') (hS : ∀ k, k < w.heap.size → S k → c k ≠ 7) : ∀ b cs t, bo = some (b, cs, t) → Blk w' b cs t ∧ c b = 7 := fun b cs t e =>
  ⟨hc.blk (h.bxk b cs t e).1 (fun hs => hS b (h.bxk b cs t e).1.lt hs (h.bxk b cs t e).2), (h.bxk b cs t e).2⟩
theorem Two.box_col (h : Two W0 bo w d lb mb x rl rr rd ga gb fr n ea eb L M ws fs RL RR RD fs2 OW OF OB c) (hc : Chg S w w') (hS : ∀ k, k < w.heap.size → S k → c k ≠ 7) {c' : Nat → Nat} (hc' : ∀ k, k < w.heap.size → c' k = c k) : ∀ b cs t, bo = some (b, cs, t) → Blk w' b cs t ∧ c' b = 7 := fun b cs t e =>
  ⟨(h.box_kept hc hS b cs t e).1, (hc' b (h.bxk b cs t e).1.lt).trans (h.bxk b cs t e).2⟩
/-- The program's device is turned. -/
theorem Two.main (h : Two W0 bo w d lb mb x rl rr rd ga gb fr n ea eb L M ws fs RL RR RD fs2 OW OF OB c) (hc : Chg S w w') (hS : ∀ k, k < w.heap.size → S k → c k = 1) (hd : Dsk w' d lb mb L' M') : Two W0 bo w' d lb mb x rl rr rd ga gb fr n ea eb L' M' ws fs RL RR RD fs2 OW OF OB c :=
  ⟨hd, h.lg_kept hc (fun k hk hs => by rw [hS k hk hs]; decide), h.rdk_kept hc (fun k hk hs => by rw [hS k hk hs]; decide), h.rg_kept hc (fun k hk hs => by rw [hS k hk hs]; decide), h.td, h.tx, h.ga_, h.ow, h.of_, h.gb_, h.ob, h.old, h.chg_to hc (fun k hk hs => by rw [hS k hk hs]; decide), h.box_kept hc (fun k hk hs => by rw [hS k hk hs]; decide)⟩
/-- The reference's device is turned. -/
theorem Two.ref (h : Two W0 bo w d lb mb x rl rr rd ga gb fr n ea eb L M ws fs RL RR RD fs2 OW OF OB c) (hc : Chg S w w') (hS : ∀ k, k < w.heap.size → S k → c k = 2) (hd : RDk w' x rl rr rd RL' RR' RD') : Two W0 bo w' d lb mb x rl rr rd ga gb fr n ea eb L M ws fs RL' RR' RD' fs2 OW OF OB c :=
  ⟨h.dsk_kept hc (fun k hk hs => by rw [hS k hk hs]; decide), h.lg_kept hc (fun k hk hs => by rw [hS k hk hs]; decide), hd, h.rg_kept hc (fun k hk hs => by rw [hS k hk hs]; decide), h.td, h.tx, h.ga_, h.ow, h.of_, h.gb_, h.ob, h.old, h.chg_to hc (fun k hk hs => by rw [hS k hk hs]; decide), h.box_kept hc (fun k hk hs => by rw [hS k hk hs]; decide)⟩
theorem Two.below (h : Two W0 bo w d lb mb x rl rr rd ga gb fr n ea eb L M ws fs RL RR RD fs2 OW OF OB c) (hb : Below w.heap.size w w') : Two W0 bo w' d lb mb x rl rr rd ga gb fr n ea eb L M ws fs RL RR RD fs2 OW OF OB c :=
  h.main (S := fun _ => False) (Chg.of_below hb) (fun _ _ h => h.elim) (h.dsk.below hb)
/-- New colours for new blocks. -/
theorem Two.col (h : Two W0 bo w d lb mb x rl rr rd ga gb fr n ea eb L M ws fs RL RR RD fs2 OW OF OB c) (c' : Nat → Nat) (hc : ∀ k, k < w.heap.size → c' k = c k) : Two W0 bo w d lb mb x rl rr rd ga gb fr n ea eb L M ws fs RL RR RD fs2 OW OF OB c' := by
  obtain ⟨l1, l2, l3, l4, l5⟩ := h.lts
  exact ⟨h.dsk, h.lg, h.rdk, h.rg, fun k hk => (hc k (l1 k hk)).trans (h.td k hk), ⟨(hc x l2).trans h.tx.1, fun k hk => (hc k (l3 k hk)).trans (h.tx.2 k hk)⟩, (hc ga l4).trans h.ga_, fun k hk => (hc k (h.lg.bw k hk)).trans (h.ow k hk), fun k hk => (hc k (h.lg.bf k hk)).trans (h.of_ k hk), (hc gb l5).trans h.gb_,
    fun k hk => (hc k (h.rg.bb k hk)).trans (h.ob k hk), fun k hk => (hc k (Nat.lt_of_lt_of_le hk h.chg.size)).trans (h.old k hk), h.chg, fun b cs t e => ⟨(h.bxk b cs t e).1, (hc b (h.bxk b cs t e).1.lt).trans (h.bxk b cs t e).2⟩⟩
end
def Tw (W0 : World) (bo : Option (Nat × List Value × TypeId)) (w : World) (d lb mb x rl rr rd ga gb fr n ea eb : Nat) (L : List (List Int)) (M : Nat → Option (List Int)) (ws : List Int) (fs : List Fr) (RL RR : List (List Int)) (RD : List Bool) (fs2 : List Fr) : Prop :=
  ∃ OW OF OB c, Two W0 bo w d lb mb x rl rr rd ga gb fr n ea eb L M ws fs RL RR RD fs2 OW OF OB c
section
variable {W0 : World} {bo : Option (Nat × List Value × TypeId)} {w w' : World} {d lb mb x rl rr rd ga gb fr n ea eb : Nat} {L L' : List (List Int)} {M M' : Nat → Option (List Int)} {ws ws' : List Int} {fs fs' : List Fr} {RL RR RL' RR' : List (List Int)} {RD RD' : List Bool} {fs2 fs2' : List Fr}
theorem Tw.below (h : Tw W0 bo w d lb mb x rl rr rd ga gb fr n ea eb L M ws fs RL RR RD fs2) (hb : Below w.heap.size w w') : Tw W0 bo w' d lb mb x rl rr rd ga gb fr n ea eb L M ws fs RL RR RD fs2 := by
  obtain ⟨OW, OF, OB, c, h⟩ := h
  exact ⟨OW, OF, OB, c, h.below hb⟩
theorem Tw.cells {b : Nat} {cs : List Value} {t : TypeId} (h : Tw W0 (some (b, cs, t)) w d lb mb x rl rr rd ga gb fr n ea eb L M ws fs RL RR RD fs2) : Blk w b cs t := by
  obtain ⟨OW, OF, OB, c, h⟩ := h
  exact (h.bxk b cs t rfl).1
theorem Tw.drop (h : Tw W0 bo w d lb mb x rl rr rd ga gb fr n ea eb L M ws fs RL RR RD fs2) : Tw W0 none w d lb mb x rl rr rd ga gb fr n ea eb L M ws fs RL RR RD fs2 := by
  obtain ⟨OW, OF, OB, c, h⟩ := h
  exact ⟨OW, OF, OB, c, h.dsk, h.lg, h.rdk, h.rg, h.td, h.tx, h.ga_, h.ow, h.of_, h.gb_, h.ob, h.old, h.chg, fun b cs t e => by cases e⟩
/-- A variable is made. -/
theorem Tw.box (h : Tw W0 none w d lb mb x rl rr rd ga gb fr n ea eb L M ws fs RL RR RD fs2) (cs : List Value) (t : TypeId) : Tw W0 (some (w.heap.size, cs, t)) (w.alloc (.cells cs.toArray t)) d lb mb x rl rr rd ga gb fr n ea eb L M ws fs RL RR RD fs2 := by
  obtain ⟨OW, OF, OB, c, h⟩ := h
  have h2 := (h.col (fun k => if k < w.heap.size then c k else 7) (fun k hk => if_pos hk)).below ((Below.refl _ w).alloc (Nat.le_refl _) (.cells cs.toArray t))
  exact ⟨OW, OF, OB, _, h2.dsk, h2.lg, h2.rdk, h2.rg, h2.td, h2.tx, h2.ga_, h2.ow, h2.of_, h2.gb_, h2.ob, h2.old, h2.chg, fun b cs' t' e => by
    cases e
    exact ⟨Blk.new w cs t, if_neg (Nat.lt_irrefl _)⟩⟩
theorem Tw.base (h : Tw W0 bo w d lb mb x rl rr rd ga gb fr n ea eb L M ws fs RL RR RD fs2) : Below W0.heap.size W0 w := by
  obtain ⟨OW, OF, OB, c, h⟩ := h
  exact h.chg.below (Nat.le_refl _) (fun k hk => hk)
theorem tw_lsync (h : Hid (Tw W0 bo w d lb mb x rl rr rd ga gb fr n ea eb L M ws fs RL RR RD fs2)) :
    Calls Try.prog 58 #[.pointer (some ⟨ga, 0, none⟩)] w fun en w' => en = .returned (.tuple #[]) ∧ Hid (Tw W0 bo w' d lb mb x rl rr rd ga gb fr n ea eb (curL L M) (fun _ => none) ws fs RL RR RD fs2) := by
  obtain ⟨OW, OF, OB, c, h⟩ := h.out
  exact (logSync_any h.dsk h.lg).mono fun en w' ⟨h1, h2, h3⟩ => ⟨h1, Lib.hid ⟨OW, OF, OB, c, h.main h3 (fun k _ hk => h.td k hk) h2⟩⟩
theorem tw_rsync (h : Hid (Tw W0 bo w d lb mb x rl rr rd ga gb fr n ea eb L M ws fs RL RR RD fs2)) :
    Calls Try.prog 59 #[.pointer (some ⟨x, 0, none⟩)] w fun en w' => en = .returned (.tuple #[]) ∧ Hid (Tw W0 bo w' d lb mb x rl rr rd ga gb fr n ea eb L M ws fs RR RR (List.replicate RL.length false) fs2) := by
  obtain ⟨OW, OF, OB, c, h⟩ := h.out
  exact (rsync_at (Lib.hid h.rdk)).mono fun en w' ⟨h1, h2, h3⟩ => ⟨h1, Lib.hid ⟨OW, OF, OB, c, h.ref h3.out (fun k _ hk => h.tx.2 k hk) h2.out⟩⟩
theorem tw_dwrite {i : Nat} {I : Int} {s0 s1 s2 s3 s4 s5 s6 s7 : Int} (h : Hid (Tw W0 bo w d lb mb x rl rr rd ga gb fr n ea eb L M ws fs RL RR RD fs2)) (hI : Hid ((i : Int) = I)) (hi : Hid (i < L.length)) (hs : Hid (Sec [s0, s1, s2, s3, s4, s5, s6, s7])) :
    Calls Try.prog 46 #[.pointer (some ⟨d, 0, none⟩), .int .i64 I, agg8 s0 s1 s2 s3 s4 s5 s6 s7] w fun en w' => en = .returned (.int .i64 0) ∧ Hid (Tw W0 bo w' d lb mb x rl rr rd ga gb fr n ea eb L (upd M i [s0, s1, s2, s3, s4, s5, s6, s7]) ws fs RL RR RD fs2) := by
  obtain ⟨OW, OF, OB, c, h⟩ := h.out
  rw [← hI.out]
  exact (dwrite_at (Lib.hid h.dsk) hi hs).mono fun en w' ⟨h1, h2, h3⟩ => ⟨h1, Lib.hid ⟨OW, OF, OB, c, h.main h3.out (fun k _ hk => h.td k hk) h2.out⟩⟩
theorem tw_dwrite_out {I : Int} {s0 s1 s2 s3 s4 s5 s6 s7 : Int} (h : Hid (Tw W0 bo w d lb mb x rl rr rd ga gb fr n ea eb L M ws fs RL RR RD fs2)) (hI : Hid (thB I L.length = false)) :
    Calls Try.prog 46 #[.pointer (some ⟨d, 0, none⟩), .int .i64 I, agg8 s0 s1 s2 s3 s4 s5 s6 s7] w fun en w' => en = .returned (.int .i64 3) ∧ Hid (Tw W0 bo w' d lb mb x rl rr rd ga gb fr n ea eb L M ws fs RL RR RD fs2) := by
  obtain ⟨OW, OF, OB, c, h⟩ := h.out
  exact (Disk.write_out w _ I s0 s1 s2 s3 s4 s5 s6 s7 (fun W hW => Disk.there_at (Lib.hid (h.dsk.below hW.out)) hI)).mono fun en w' ⟨h1, h2⟩ => ⟨h1, Lib.hid ⟨OW, OF, OB, c, h.below h2⟩⟩
theorem tw_rthere {I : Int} {b : Bool} (h : Hid (Tw W0 bo w d lb mb x rl rr rd ga gb fr n ea eb L M ws fs RL RR RD fs2)) (hI : Hid (thB I RL.length = b)) :
    Calls Try.prog 61 #[.pointer (some ⟨x, 0, none⟩), .int .i64 I] w fun en w' => en = .returned (.bool b) ∧ w = w' := by
  obtain ⟨OW, OF, OB, c, h⟩ := h.out
  rw [← hI.out]
  exact RDisk.there_any h.rdk I
theorem tw_rwrite {i : Nat} {I : Int} {s0 s1 s2 s3 s4 s5 s6 s7 : Int} (h : Hid (Tw W0 bo w d lb mb x rl rr rd ga gb fr n ea eb L M ws fs RL RR RD fs2)) (hI : Hid ((i : Int) = I)) (hi : Hid (i < RL.length)) (hs : Hid (Sec [s0, s1, s2, s3, s4, s5, s6, s7])) :
    Calls Try.prog 62 #[.pointer (some ⟨x, 0, none⟩), .int .i64 I, agg8 s0 s1 s2 s3 s4 s5 s6 s7] w fun en w' => en = .returned (.tuple #[]) ∧ Hid (Tw W0 bo w' d lb mb x rl rr rd ga gb fr n ea eb L M ws fs RL (RR.set i [s0, s1, s2, s3, s4, s5, s6, s7]) (RD.set i true) fs2) := by
  obtain ⟨OW, OF, OB, c, h⟩ := h.out
  rw [← hI.out]
  exact (rwrite_at (Lib.hid h.rdk) hi hs).mono fun en w' ⟨h1, h2, h3⟩ => ⟨h1, Lib.hid ⟨OW, OF, OB, c, h.ref h3.out (fun k _ hk => h.tx.2 k hk) h2.out⟩⟩
/-- Keeps: a function value, whose counter is a block of the program's device's colour. -/
def TwK (W0 : World) (bo : Option (Nat × List Value × TypeId)) (w : World) (d lb mb x rl rr rd ga gb fr n ea eb : Nat) (L : List (List Int)) (M : Nat → Option (List Int)) (ws : List Int) (fs : List Fr) (RL RR : List (List Int)) (RD : List Bool) (fs2 : List Fr) (l : List Bool) (A : Option Addr) (cap g o cb bb : Nat) : Prop :=
  ∃ OW OF OB c, Two W0 bo w d lb mb x rl rr rd ga gb fr n ea eb L M ws fs RL RR RD fs2 OW OF OB c ∧ c cb = 1 ∧ cb ≠ d ∧ cb ≠ lb ∧ cb ≠ mb ∧ Disk.KJ l A cap g o cb bb lb 0 w
theorem tw_keeps {l : List Bool} {A : Option Addr} {m cap g o : Nat} (h : Hid (Tw W0 bo w d lb mb x rl rr rd ga gb fr n ea eb L M ws fs RL RR RD fs2)) (hm : Hid (l.length = m)) (hb : Hid (BRow W0 A g o l)) :
    Calls Try.prog 52 #[.slice A m cap] w fun en w' => ∃ cb bb, en = .returned (.func (.func 87) #[] #[.pointer (some ⟨cb, 0, none⟩), .pointer (some ⟨bb, 0, none⟩)]) ∧
      Hid (TwK W0 bo w' d lb mb x rl rr rd ga gb fr n ea eb L M ws fs RL RR RD fs2 l A cap g o cb bb) := by
  obtain ⟨OW, OF, OB, c, h⟩ := h.out
  have e := hm.out
  subst e
  refine (Disk.keeps_any w A l.length cap).mono ?_
  rintro en w' ⟨rfl, rfl⟩
  have b1 := (Blk.new w [.slice A l.length cap] 79).alloc (.cells #[.int .i64 0] 3)
  have b2 := Blk.new (w.alloc (.cells #[.slice A l.length cap] 79)) [.int .i64 0] 3
  have hbl : Below w.heap.size w ((w.alloc (.cells #[.slice A l.length cap] 79)).alloc (.cells #[.int .i64 0] 3)) := ((Below.refl _ w).alloc (Nat.le_refl _) _).alloc (by simp) _
  rw [World.size_alloc] at b2
  have hl := h.dsk.ltl
  have hd := h.dsk.ltd
  have hmb := h.dsk.ltm
  have hW := h.chg.size
  have h2 := h.col (fun k => if k < w.heap.size then c k else 1) (fun k hk => if_pos hk)
  refine ⟨_, _, rfl, Lib.hid ⟨OW, OF, OB, _, h2.below hbl, if_neg (by omega), by omega, by omega, by omega, ⟨b2, b1, ⟨by omega, by omega, by omega⟩, fun h0 => ?_, fun j hj => ?_⟩⟩⟩
  · obtain ⟨e1, e2⟩ := hb.out.at_ h0
    refine ⟨e1, by rw [World.size_alloc, World.size_alloc]; omega, ?_, by omega⟩
    rintro rfl
    exact ne_col (h.old g e2) (h.td g (Or.inr (Or.inl rfl))) (by decide)
  · have h5 := (hb.out.at_ (by omega)).2
    have hbW : Below W0.heap.size W0 ((w.alloc (.cells #[.slice A l.length cap] 79)).alloc (.cells #[.int .i64 0] 3)) := (h.chg.below (Nat.le_refl _) (fun k hk => hk)).trans (hbl.mono hW)
    exact (hbW.cell (p := ⟨g, o + j, none⟩) h5).trans (hb.out.cell j hj)
theorem tw_crash {l : List Bool} {A : Option Addr} {cap g o cb bb : Nat} (h : Hid (TwK W0 bo w d lb mb x rl rr rd ga gb fr n ea eb L M ws fs RL RR RD fs2 l A cap g o cb bb)) (hl : Hid (l.length ≤ 1000000)) :
    Calls Try.prog 51 #[.pointer (some ⟨d, 0, none⟩), .func (.func 87) #[] #[.pointer (some ⟨cb, 0, none⟩), .pointer (some ⟨bb, 0, none⟩)]] w fun en w' => en = .returned (.tuple #[]) ∧ Hid (Tw W0 bo w' d lb mb x rl rr rd ga gb fr n ea eb (lastL M (fun k => l.getD k false) L) (fun _ => none) ws fs RL RR RD fs2) := by
  obtain ⟨OW, OF, OB, c, h, hcb, n1, n2, n3, hk⟩ := h.out
  refine (Disk.crash_any h.dsk (Disk.keep_keeps l hl.out A cap g o cb bb lb) hk ⟨fun e => n1 e.symm, fun e => n2 e.symm, fun e => n3 e.symm, fun k hk' => by rw [hk']; exact hk.ctr.lt⟩).mono fun en w' ⟨h1, h2, h3⟩ => ⟨h1, Lib.hid ⟨OW, OF, OB, c, h.main h3 (fun k _ hk => ?_) h2⟩⟩
  rcases hk with rfl | rfl | rfl
  · exact h.td _ (Or.inr (Or.inl rfl))
  · exact h.td _ (Or.inr (Or.inr rfl))
  · exact hcb
theorem tw_rcrash {l : List Bool} {A : Option Addr} {m cap g o : Nat} (h : Hid (Tw W0 bo w d lb mb x rl rr rd ga gb fr n ea eb L M ws fs RL RR RD fs2)) (hm : Hid (l.length = m)) (hl : Hid (l.length ≤ 1000000)) (hb : Hid (BRow W0 A g o l)) :
    Calls Try.prog 60 #[.pointer (some ⟨x, 0, none⟩), .slice A m cap] w fun en w' => en = .returned (.tuple #[]) ∧ Hid (Tw W0 bo w' d lb mb x rl rr rd ga gb fr n ea eb L M ws fs (crashN l ⟨0, RL, RR, RD⟩ RL.length).L (crashN l ⟨0, RL, RR, RD⟩ RL.length).R (crashN l ⟨0, RL, RR, RD⟩ RL.length).D fs2) := by
  obtain ⟨OW, OF, OB, c, h⟩ := h.out
  have e := hm.out
  subst e
  refine (RDisk.crash_any h.rdk A cap g o l hl.out (hb.out.chg h.chg (fun h0 hle => by have := (hb.out.at_ h0).2; omega)) (fun h0 => ?_)).mono fun en w' ⟨h1, h2, h3⟩ => ⟨h1, Lib.hid ⟨OW, OF, OB, c, h.ref h3 (fun k _ hk => h.tx.2 k hk) h2⟩⟩
  have hg := h.old g (hb.out.at_ h0).2
  refine ⟨?_, ?_, ?_⟩
  · rintro rfl; exact ne_col hg (h.tx.2 _ (Or.inl rfl)) (by decide)
  · rintro rfl; exact ne_col hg (h.tx.2 _ (Or.inr (Or.inl rfl))) (by decide)
  · rintro rfl; exact ne_col hg (h.tx.2 _ (Or.inr (Or.inr rfl))) (by decide)
end
end Go.Proofs.Ytmeoiennniknlaa.Log

namespace Go.Proofs.Ytmeoiennniknlaa.Log
open Go.RowKit Go.Shelf Go.Proofs.YtmeoiennniknlaaW.PrintWords Go.Proofs.Ytmeoiennniknlaa.Lb Go.Proofs.Ytmeoiennniknlaa.Frames
open Go.Proofs.Ytmeoiennniknlaa.Disk (Chg Chg.cell Sec secC secC_at agg8 thB Dsk cur upd lastL)
open Go.Proofs.Ytmeoiennniknlaa.Anchor (Blk zero8 below_set8)
open Go.Proofs.Ytmeoiennniknlaa.RDisk (RDk curL dirB BRow crashN)
set_option linter.unusedVariables false
set_option linter.unusedSimpArgs false

/-- Words that are read in W0 lie in its blocks. -/
theorem int_foot {W0 : World} {A : Option Addr} {m : Nat} {l : List Int} (h : (Kd.int .u64).C W0 A m l) : Kd.F (Kd.int .u64) W0 (fun k => k < W0.heap.size) A m l := by
  intro W' hW
  obtain ⟨h1, h2, h3⟩ := h
  refine ⟨h1, h2, fun h0 => ?_⟩
  obtain ⟨ad, e, hc⟩ := h3 h0
  refine ⟨ad, e, fun j p hj => ?_⟩
  obtain ⟨cs, hs, hK, hcell⟩ := hc j p hj
  refine ⟨cs, hs, hK, fun i u hu => ?_⟩
  have h5 := hcell i u hu
  have h6 := World.block_lt_of_cell? W0 _ h5
  exact (World.cell?_of_block (w := W0) (hW _ h6 h6)).trans h5
section
variable {W0 : World} {bo : Option (Nat × List Value × TypeId)} {w w' : World} {d lb mb x rl rr rd ga gb fr n ea eb : Nat} {L L' : List (List Int)} {M M' : Nat → Option (List Int)} {ws ws' : List Int} {fs fs' : List Fr} {RL RR RL' RR' : List (List Int)} {RD RD' : List Bool} {fs2 fs2' : List Fr}
open Classical in
theorem tw_open {a b e : Int} {ep : Nat} {T : List Fr × Nat} (h : Hid (Tw W0 bo w d lb mb x rl rr rd ga gb fr n ea eb L M ws fs RL RR RD fs2)) (hab : Hid (((fr : Int) = a) ∧ ((n : Int) = b) ∧ ((ep : Int) = e))) (hn : Hid (1 ≤ n ∧ fr + n ≤ L.length ∧ ep ≤ 4294967295)) (hT : Hid (allR (ep : Int) ((rdW L M fr n).length + 1) 0 (rdW L M fr n) = T)) :
    Calls Try.prog 55 #[.pointer (some ⟨d, 0, none⟩), .int .i64 a, .int .i64 b, .int .i64 e] w fun en w' => ∃ g, en = .returned (.tuple #[.pointer (some ⟨g, 0, none⟩), .int .i64 0]) ∧
      Hid (Tw W0 bo w' d lb mb x rl rr rd g gb fr n ep eb (clrR L M fr n ((rdW L M fr n).take T.2)).1 (clrR L M fr n ((rdW L M fr n).take T.2)).2 ((rdW L M fr n).take T.2) T.1 RL RR RD fs2) := by
  obtain ⟨OW, OF, OB, c, h⟩ := h.out
  refine (open_at (Lib.hid h.dsk) hab hn hT).mono fun en w' ⟨g, OW', OF', h1, h2, h3, h4, h5⟩ => ⟨g, h1, Lib.hid ⟨OW', OF', OB, fun k => if k < w.heap.size then c k else if k = g then 3 else if OW' k then 4 else 5, ?_⟩⟩
  have m := h.main h5.out (fun k _ hk => h.td k hk) h2.out
  obtain ⟨l1, l2, l3, l4, l5⟩ := h.lts
  obtain ⟨g1, g2, g3⟩ := h4.out
  exact ⟨m.dsk, h3.out, m.rdk, m.rg, fun k hk => (if_pos (l1 k hk)).trans (h.td k hk), ⟨(if_pos l2).trans h.tx.1, fun k hk => (if_pos (l3 k hk)).trans (h.tx.2 k hk)⟩, by rw [if_neg (by omega), if_pos rfl],
    fun k hk => by rw [if_neg (by have := g2 k hk; omega), if_neg (fun e : k = g => h3.out.gw (e ▸ hk)), if_pos hk], fun k hk => by rw [if_neg (by have := g3 k hk; omega), if_neg (fun e : k = g => h3.out.gf (e ▸ hk)), if_neg (fun e => h3.out.apart k e hk)], (if_pos l5).trans h.gb_, fun k hk => (if_pos (h.rg.bb k hk)).trans (h.ob k hk),
    fun k hk => (if_pos (Nat.lt_of_lt_of_le hk h.chg.size)).trans (h.old k hk), m.chg, h.box_col h5.out (fun k _ hk => by rw [h.td k hk]; decide) (fun k hk => if_pos hk)⟩
open Classical in
theorem tw_ropen {a b e : Int} {ep : Nat} {T : List Fr × Nat} (h : Hid (Tw W0 bo w d lb mb x rl rr rd ga gb fr n ea eb L M ws fs RL RR RD fs2)) (hab : Hid (((fr : Int) = a) ∧ ((n : Int) = b) ∧ ((ep : Int) = e))) (hn : Hid (fr + n ≤ RL.length)) (hT : Hid (allR (ep : Int) ((rfW RR fr n).length + 1) 0 (rfW RR fr n) = T)) (hws : Hid (WS (rfW RR fr n))) :
    Calls Try.prog 57 #[.pointer (some ⟨x, 0, none⟩), .int .i64 a, .int .i64 b, .int .i64 e] w fun en w' => ∃ g, en = .returned (.pointer (some ⟨g, 0, none⟩)) ∧
      Hid (Tw W0 bo w' d lb mb x rl rr rd ga g fr n ea ep L M ws fs (opE RL RR RD fr T.2 n).1 (opE RL RR RD fr T.2 n).2.1 (opE RL RR RD fr T.2 n).2.2 T.1) := by
  obtain ⟨OW, OF, OB, c, h⟩ := h.out
  obtain ⟨e1, e2, e3⟩ := hab.out
  subst e1 e2 e3
  refine (refOpen_any h.rdk hn.out T hT.out hws.out).mono fun en w' ⟨g, OB', h1, h2, h3, h4, h5⟩ => ⟨g, h1, Lib.hid ⟨OW, OF, OB', fun k => if k < w.heap.size then c k else if k = g then 6 else 7, ?_⟩⟩
  have m := h.ref h5 (fun k _ hk => h.tx.2 k hk) h2
  obtain ⟨l1, l2, l3, l4, l5⟩ := h.lts
  obtain ⟨g1, g2⟩ := h4
  exact ⟨m.dsk, m.lg, m.rdk, h3, fun k hk => (if_pos (l1 k hk)).trans (h.td k hk), ⟨(if_pos l2).trans h.tx.1, fun k hk => (if_pos (l3 k hk)).trans (h.tx.2 k hk)⟩, (if_pos l4).trans h.ga_,
    fun k hk => (if_pos (h.lg.bw k hk)).trans (h.ow k hk), fun k hk => (if_pos (h.lg.bf k hk)).trans (h.of_ k hk), by rw [if_neg (by omega), if_pos rfl],
    fun k hk => by rw [if_neg (by have := g2 k hk; omega), if_neg (fun e : k = g => h3.gb (e ▸ hk))], fun k hk => (if_pos (Nat.lt_of_lt_of_le hk h.chg.size)).trans (h.old k hk), m.chg, h.box_col h5 (fun k _ hk => by rw [h.tx.2 k hk]; decide) (fun k hk => if_pos hk)⟩
theorem Two.far {OW OF OB : Nat → Prop} {c : Nat → Nat} (h : Two W0 bo w d lb mb x rl rr rd ga gb fr n ea eb L M ws fs RL RR RD fs2 OW OF OB c) : (¬ TD d lb mb ga) ∧ (∀ k, OW k → ¬ TD d lb mb k) ∧ (∀ k, OF k → ¬ TD d lb mb k) :=
  ⟨fun hk => ne_col (h.td _ hk) h.ga_ (by decide), fun k h1 hk => ne_col (h.td _ hk) (h.ow k h1) (by decide), fun k h1 hk => ne_col (h.td _ hk) (h.of_ k h1) (by decide)⟩
/-- What both logs append. -/
structure Arg (W0 : World) (A : Option Addr) (m c : Nat) (l : List Int) : Prop where
  len : l.length = m
  ws : WS l
  cap : m ≤ c
  nil : A = none → c = 0
  row : (Kd.int .u64).C W0 A m l
open Classical in
theorem tw_append {k : Nat} {kd : Int} {A : Option Addr} {m c : Nat} {l ys : List Int} (h : Hid (Tw W0 bo w d lb mb x rl rr rd ga gb fr n ea eb L M ws fs RL RR RD fs2)) (ha : Hid (Arg W0 A m c l)) (hk : Hid ((k : Int) = kd)) (hfr : Hid (fr + n ≤ L.length ∧ ea ≤ 4294967295 ∧ fs.length ≤ 100000)) (hb : Hid (mayB kd m = true)) (hw : Hid (ws.length + (m + 1) ≤ n * 8)) (hy : Hid (((fmark ea fs.length k l : Nat) : Int) :: l = ys)) :
    Calls Try.prog 64 #[.pointer (some ⟨ga, 0, none⟩), .agg #[.int .i64 kd, .slice A m c]] w fun en w' => en = .returned (.int .i64 0) ∧
      Hid (Tw W0 bo w' d lb mb x rl rr rd ga gb fr n ea eb L (wrM M fr (ws ++ ys) (ws.length / 8) (((ws ++ ys).length - 1) / 8 + 1 - ws.length / 8)) (ws ++ ys) (fs ++ [⟨kd, l⟩]) RL RR RD fs2) := by
  obtain ⟨OW, OF, OB, cc, h⟩ := h.out
  refine (append_at (Lib.hid h.dsk) (Lib.hid h.lg) hfr (Lib.hid h.far) hk (Lib.hid ha.out.len) (Lib.hid fun w2 hw2 => ?_) (Lib.hid ha.out.ws) (Lib.hid ha.out.nil) hb hw hy).mono fun en w' ⟨OW', OF', h1, h2, h3, h4, h5⟩ => ⟨h1, Lib.hid ⟨OW', OF', OB, fun k => if k < w.heap.size then cc k else if OW' k then 4 else 5, ?_⟩⟩
  · exact Kd.C_below ha.out.row ((h.chg_to hw2 (fun k _ hk => hk.elim (fun e => by rw [e, h.ga_]; decide) (fun e => by rw [h.ow k e]; decide))).below (Nat.le_refl _) (fun k hk => hk))
  · obtain ⟨l1, l2, l3, l4, l5⟩ := h.lts
    obtain ⟨g1, g2⟩ := h4.out
    have hS : ∀ k, k < w.heap.size → (TD d lb mb k ∨ k = ga ∨ OW k ∨ OF k) → cc k = 1 ∨ cc k = 3 ∨ cc k = 4 ∨ cc k = 5 := fun k _ hk => by
      rcases hk with hk | hk | hk | hk
      · exact Or.inl (h.td k hk)
      · rw [hk]; exact Or.inr (Or.inl h.ga_)
      · exact Or.inr (Or.inr (Or.inl (h.ow k hk)))
      · exact Or.inr (Or.inr (Or.inr (h.of_ k hk)))
    refine ⟨h2.out, h3.out, h.rdk_kept h5.out (fun k hk hs => by have := hS k hk hs; omega), h.rg_kept h5.out (fun k hk hs => by have := hS k hk hs; omega), fun k hk => (if_pos (l1 k hk)).trans (h.td k hk), ⟨(if_pos l2).trans h.tx.1, fun k hk => (if_pos (l3 k hk)).trans (h.tx.2 k hk)⟩, (if_pos l4).trans h.ga_,
      fun k hk => ?_, fun k hk => ?_, (if_pos l5).trans h.gb_, fun k hk => (if_pos (h.rg.bb k hk)).trans (h.ob k hk), fun k hk => (if_pos (Nat.lt_of_lt_of_le hk h.chg.size)).trans (h.old k hk), h.chg_to h5.out (fun k hk hs => by have := hS k hk hs; omega), h.box_col h5.out (fun k hk hs => by have := hS k hk hs; omega) (fun k hk => if_pos hk)⟩
    · rcases g1 k hk with h6 | h6
      · exact (if_pos (h.lg.bw k h6)).trans (h.ow k h6)
      · show (if k < w.heap.size then cc k else if OW' k then 4 else 5) = 4
        rw [if_neg (by omega), if_pos hk]
    · rcases g2 k hk with h6 | h6
      · exact (if_pos (h.lg.bf k h6)).trans (h.of_ k h6)
      · show (if k < w.heap.size then cc k else if OW' k then 4 else 5) = 5
        rw [if_neg (by omega), if_neg (fun e => h3.out.apart k e hk)]
theorem tw_append_bad {kd : Int} {A : Option Addr} {m c : Nat} (h : Hid (Tw W0 bo w d lb mb x rl rr rd ga gb fr n ea eb L M ws fs RL RR RD fs2)) (hm : Hid (m ≤ 140737488351232)) (hb : Hid (mayB kd m = false)) :
    Calls Try.prog 64 #[.pointer (some ⟨ga, 0, none⟩), .agg #[.int .i64 kd, .slice A m c]] w fun en w' => en = .returned (.int .i64 1) ∧ Hid (Tw W0 bo w' d lb mb x rl rr rd ga gb fr n ea eb L M ws fs RL RR RD fs2) := by
  obtain ⟨OW, OF, OB, cc, h⟩ := h.out
  exact (append_bad h.lg kd A m c hm.out hb.out).mono fun en w' ⟨h1, h2⟩ => ⟨h1, Lib.hid ⟨OW, OF, OB, cc, h.below h2⟩⟩
theorem tw_append_full {kd : Int} {A : Option Addr} {m c : Nat} (h : Hid (Tw W0 bo w d lb mb x rl rr rd ga gb fr n ea eb L M ws fs RL RR RD fs2)) (hm : Hid (m ≤ 140737488351232)) (hb : Hid (mayB kd m = true)) (hn : Hid (n ≤ 4096)) (hw : Hid (ws.length ≤ n * 8)) (hf : Hid (n * 8 < ws.length + (m + 1))) :
    Calls Try.prog 64 #[.pointer (some ⟨ga, 0, none⟩), .agg #[.int .i64 kd, .slice A m c]] w fun en w' => en = .returned (.int .i64 4) ∧ Hid (Tw W0 bo w' d lb mb x rl rr rd ga gb fr n ea eb L M ws fs RL RR RD fs2) := by
  obtain ⟨OW, OF, OB, cc, h⟩ := h.out
  exact (append_full h.lg kd A m c hm.out hb.out hn.out hw.out hf.out).mono fun en w' ⟨h1, h2⟩ => ⟨h1, Lib.hid ⟨OW, OF, OB, cc, h.below h2⟩⟩
theorem tw_rappend {k : Nat} {kd : Int} {A : Option Addr} {m c : Nat} {l ys zs : List Int} (h : Hid (Tw W0 bo w d lb mb x rl rr rd ga gb fr n ea eb L M ws fs RL RR RD fs2)) (ha : Hid (Arg W0 A m c l)) (hk : Hid ((k : Int) = kd)) (hfr : Hid (fr + n ≤ RL.length ∧ eb ≤ 4294967295 ∧ fs2.length ≤ 100000)) (hb : Hid (mayB kd m = true)) (hzs : Hid (WS zs)) (hu : Hid (used fs2 = zs.length)) (hinv : Hid (∀ i, i < n → RR.getD (fr + i) [] = sect zs i)) (hw : Hid (zs.length + (m + 1) ≤ n * 8)) (hy : Hid (((fmark eb fs2.length k l : Nat) : Int) :: l = ys)) :
    Calls Try.prog 65 #[.pointer (some ⟨gb, 0, none⟩), .agg #[.int .i64 kd, .slice A m c]] w fun en w' => en = .returned (.int .i64 0) ∧
      Hid (Tw W0 bo w' d lb mb x rl rr rd ga gb fr n ea eb L M ws fs RL (rfR RR fr (zs ++ ys) (zs.length / 8) (((zs ++ ys).length - 1) / 8 + 1 - zs.length / 8)) (rfD RD fr (zs.length / 8) (((zs ++ ys).length - 1) / 8 + 1 - zs.length / 8)) (fs2 ++ [⟨kd, l⟩])) := by
  obtain ⟨OW, OF, OB, cc, h⟩ := h.out
  have e1 := hk.out
  have e2 := hy.out
  subst e1 e2
  have hbase : Below W0.heap.size W0 w := h.chg.below (Nat.le_refl _) (fun k hk => hk)
  refine (rappend_ok (OA := fun k => k < W0.heap.size) h.rdk h.rg hfr.out.1 ⟨fun hk => ne_col (h.tx.2 _ hk) h.gb_ (by decide), fun e => ne_col h.gb_ (e ▸ h.tx.1) (by decide), fun k h1 hk => ne_col (h.tx.2 _ hk) (h.ob k h1) (by decide), fun k h1 hk => ne_col (h.tx.2 _ hk) (h.old k h1) (by decide)⟩
    ⟨fun hk => ne_col h.gb_ (h.old _ hk) (by decide), fun k hk => Nat.lt_of_lt_of_le hk h.chg.size⟩ hinv.out hzs.out k A m c l ha.out.len ha.out.cap ha.out.ws (Kd.F_step (int_foot ha.out.row) (fun q hq _ => hbase.block q hq)) hb.out hfr.out.2.1 hfr.out.2.2 hu.out hw.out).mono fun en w' ⟨OB', h1, h2, h3, h4, h5⟩ => ⟨h1, Lib.hid ⟨OW, OF, OB', fun k => if k < w.heap.size then cc k else 7, ?_⟩⟩
  obtain ⟨l1, l2, l3, l4, l5⟩ := h.lts
  have hS : ∀ k, k < w.heap.size → (TR rl rr rd k ∨ k = gb) → cc k = 2 ∨ cc k = 6 := fun k _ hk => by
    rcases hk with hk | hk
    · exact Or.inl (h.tx.2 k hk)
    · rw [hk]; exact Or.inr h.gb_
  refine ⟨h.dsk_kept h5 (fun k hk hs => by have := hS k hk hs; omega), h.lg_kept h5 (fun k hk hs => by have := hS k hk hs; omega), h2, h3, fun k hk => (if_pos (l1 k hk)).trans (h.td k hk), ⟨(if_pos l2).trans h.tx.1, fun k hk => (if_pos (l3 k hk)).trans (h.tx.2 k hk)⟩, (if_pos l4).trans h.ga_,
    fun k hk => (if_pos (h.lg.bw k hk)).trans (h.ow k hk), fun k hk => (if_pos (h.lg.bf k hk)).trans (h.of_ k hk), (if_pos l5).trans h.gb_, fun k hk => ?_, fun k hk => (if_pos (Nat.lt_of_lt_of_le hk h.chg.size)).trans (h.old k hk), h.chg_to h5 (fun k hk hs => by have := hS k hk hs; omega), h.box_col h5 (fun k hk hs => by have := hS k hk hs; omega) (fun k hk => if_pos hk)⟩
  show (if k < w.heap.size then cc k else 7) = 7
  rcases h4 k hk with h6 | h6 | h6
  · rw [if_pos (h.rg.bb k h6), h.ob k h6]
  · rw [if_pos (Nat.lt_of_lt_of_le h6 h.chg.size), h.old k h6]
  · rw [if_neg (by omega)]
theorem tw_rappend_bad {kd : Int} {A : Option Addr} {m c : Nat} (h : Hid (Tw W0 bo w d lb mb x rl rr rd ga gb fr n ea eb L M ws fs RL RR RD fs2)) (hm : Hid (m ≤ 140737488351232)) (hb : Hid (mayB kd m = false)) :
    Calls Try.prog 65 #[.pointer (some ⟨gb, 0, none⟩), .agg #[.int .i64 kd, .slice A m c]] w fun en w' => en = .returned (.int .i64 1) ∧ Hid (Tw W0 bo w' d lb mb x rl rr rd ga gb fr n ea eb L M ws fs RL RR RD fs2) := by
  obtain ⟨OW, OF, OB, cc, h⟩ := h.out
  exact (rappend_bad w _ kd A m c hm.out hb.out).mono fun en w' ⟨h1, h2⟩ => ⟨h1, Lib.hid ⟨OW, OF, OB, cc, h.below h2⟩⟩
theorem tw_rappend_full {k : Nat} {kd : Int} {A : Option Addr} {m c lw : Nat} {l : List Int} (h : Hid (Tw W0 bo w d lb mb x rl rr rd ga gb fr n ea eb L M ws fs RL RR RD fs2)) (ha : Hid (Arg W0 A m c l)) (hk : Hid ((k : Int) = kd)) (hfr : Hid (n ≤ 4096 ∧ eb ≤ 4294967295 ∧ fs2.length ≤ 100000)) (hb : Hid (mayB kd m = true)) (hu : Hid (used fs2 = lw)) (hw : Hid (lw ≤ n * 8)) (hf : Hid (n * 8 < lw + (m + 1))) :
    Calls Try.prog 65 #[.pointer (some ⟨gb, 0, none⟩), .agg #[.int .i64 kd, .slice A m c]] w fun en w' => en = .returned (.int .i64 4) ∧ Hid (Tw W0 bo w' d lb mb x rl rr rd ga gb fr n ea eb L M ws fs RL RR RD fs2) := by
  obtain ⟨OW, OF, OB, cc, h⟩ := h.out
  have e1 := hk.out
  subst e1
  exact (rappend_full h.rg k A m c lw l ha.out.len ha.out.ws (Kd.C_below ha.out.row (h.chg.below (Nat.le_refl _) (fun k hk => hk))) hb.out hfr.out.1 hfr.out.2.1 hfr.out.2.2 hu.out hw.out hf.out).mono fun en w' ⟨h1, h2⟩ => ⟨h1, Lib.hid ⟨OW, OF, OB, cc, h.below h2⟩⟩
theorem tw_same (h : Hid (Tw W0 bo w d lb mb x rl rr rd ga gb fr n ea ea L M ws fs RL RR RD fs)) (hfs : Hid (fs.length ≤ 1000)) (h2 : Hid (∀ f ∈ fs, f.f1.length ≤ 2000)) (hn : Hid (n ≤ 4096)) (hw : Hid (ws.length ≤ n * 8)) (hu : Hid (used fs = ws.length)) :
    Calls Try.prog 66 #[.pointer (some ⟨ga, 0, none⟩), .pointer (some ⟨gb, 0, none⟩)] w fun en w' => en = .returned (.bool true) ∧ Hid (Tw W0 bo w' d lb mb x rl rr rd ga gb fr n ea ea L M ws fs RL RR RD fs) := by
  obtain ⟨OW, OF, OB, cc, h⟩ := h.out
  exact (sameLog_any h.lg h.rg hfs.out h2.out hn.out hw.out hu.out).mono fun en w' ⟨h3, h4⟩ => ⟨h3, Lib.hid ⟨OW, OF, OB, cc, h.below h4⟩⟩
end
end Go.Proofs.Ytmeoiennniknlaa.Log

namespace Go.Proofs.Ytmeoiennniknlaa.Log
open Go.RowKit Go.Shelf Go.Proofs.YtmeoiennniknlaaW.PrintWords Go.Proofs.Ytmeoiennniknlaa.Lb Go.Proofs.Ytmeoiennniknlaa.Frames
open Go.Proofs.Ytmeoiennniknlaa.Disk (Chg Chg.cell Sec secC secC_at agg8 thB Dsk cur upd lastL)
open Go.Proofs.Ytmeoiennniknlaa.Anchor (Blk zero8 below_set8)
open Go.Proofs.Ytmeoiennniknlaa.RDisk (RDk curL dirB BRow crashN curL_none dirB_none curL_length crash_eq last_sync curL_at getD_of curL_upd dirB_upd)
set_option linter.unusedVariables false
set_option linter.unusedSimpArgs false

/-- The log's words are what is read, its frames take them all. -/
structure Coh (fr n nn : Nat) (L : List (List Int)) (M : Nat → Option (List Int)) (ws : List Int) (fs : List Fr) : Prop where
  fit : fr + n ≤ nn
  used : used fs = ws.length
  wlen : ws.length ≤ n * 8
  inv : ∀ i, i < n → cur L M (fr + i) = sect ws i
  small : ∀ f ∈ fs, f.f1.length ≤ 2000
  wsw : WS ws
theorem used_ge : ∀ l : List Fr, l.length ≤ used l
  | [] => Nat.zero_le _
  | f :: l => by
    have h3 : used (f :: l) = 1 + f.f1.length + used l := by rw [used, used, List.map_cons, List.sum_cons]
    have := used_ge l
    rw [h3, List.length_cons]; omega
theorem used_snoc (fs : List Fr) (f : Fr) : used (fs ++ [f]) = used fs + 1 + f.f1.length := by
  rw [used, used, List.map_append, List.sum_append]; simp; omega
section
variable {fr n nn : Nat} {L : List (List Int)} {M : Nat → Option (List Int)} {ws : List Int} {fs : List Fr}
theorem Coh.frames (h : Coh fr n nn L M ws fs) : fs.length ≤ n * 8 := by
  have h1 := used_ge fs
  have h2 := h.used
  have h3 := h.wlen
  omega
theorem Coh.sync (h : Coh fr n nn L M ws fs) (hl : L.length = nn) : Coh fr n nn (curL L M) (fun _ => none) ws fs := by
  refine ⟨h.fit, h.used, h.wlen, fun i hi => ?_, h.small, h.wsw⟩
  have h1 := h.fit
  show ((none : Option (List Int))).getD ((curL L M).getD (fr + i) []) = sect ws i
  rw [Option.getD_none, getD_of (curL_at (by omega)), h.inv i hi]
theorem Coh.append (h : Coh fr n nn L M ws fs) {kd : Int} {l ys : List Int} {m : Nat} {y : Int} (hy : y :: l = ys) (hm : l.length = m) (hb : m ≤ 2000) (hw : ws.length + (m + 1) ≤ n * 8) (hwy : WS ys) :
    Coh fr n nn L (wrM M fr (ws ++ ys) (ws.length / 8) (((ws ++ ys).length - 1) / 8 + 1 - ws.length / 8)) (ws ++ ys) (fs ++ [⟨kd, l⟩]) := by
  have hyl : ys.length = m + 1 := by rw [← hy, List.length_cons, hm]
  refine ⟨h.fit, ?_, by rw [List.length_append, hyl]; exact hw, app_inv h.inv (by omega), fun f hf => ?_, fun z hz => ?_⟩
  · rw [used_snoc, h.used, List.length_append, hyl]
    show ws.length + 1 + l.length = ws.length + (m + 1)
    omega
  · rcases List.mem_append.1 hf with hf | hf
    · exact h.small f hf
    · have : f = ⟨kd, l⟩ := by simpa using hf
      rw [this]
      show l.length ≤ 2000
      omega
  · rcases List.mem_append.1 hz with hz | hz
    · exact h.wsw z hz
    · exact hwy z hz
theorem coh_open {w : World} {d lb mb : Nat} {e : Int} {T : List Fr × Nat} (h : Dsk w d lb mb L M) (hn : fr + n ≤ L.length) (hT : allR e ((rdW L M fr n).length + 1) 0 (rdW L M fr n) = T) :
    Coh fr n L.length (clrR L M fr n ((rdW L M fr n).take T.2)).1 (clrR L M fr n ((rdW L M fr n).take T.2)).2 ((rdW L M fr n).take T.2) T.1 := by
  have hl := rdW_length h n hn
  have hle := all_le e ((rdW L M fr n).length + 1) 0 (rdW L M fr n)
  have hsm := (allR_len e ((rdW L M fr n).length + 1) 0 (rdW L M fr n)).2
  have hsum := all_sum e ((rdW L M fr n).length + 1) 0 (rdW L M fr n)
  rw [hT] at hle hsm hsum
  refine ⟨hn, ?_, ?_, fun i hi => clrR_cur hn _ hi, hsm, fun z hz => rdW_ws h n hn z (List.mem_of_mem_take hz)⟩
  · rw [List.length_take, Nat.min_eq_left hle]; exact hsum.symm
  · rw [List.length_take]; omega
end
/-- Between two rounds. -/
def St (W0 : World) (bo : Option (Nat × List Value × TypeId)) (w : World) (d lb mb x rl rr rd ga gb fr n ep nn : Nat) : Prop :=
  ∃ L M ws fs, Tw W0 bo w d lb mb x rl rr rd ga gb fr n ep ep L M ws fs L (curL L M) (dirB L M) fs ∧ L.length = nn ∧ Coh fr n nn L M ws fs
/-- Behind an operation: both devices are one; where the log isn't opened again, it is as ever. -/
def Mid (W0 : World) (bo : Option (Nat × List Value × TypeId)) (w : World) (d lb mb x rl rr rd ga gb fr n ep nn : Nat) (ag : Bool) : Prop :=
  ∃ ea eb L M ws fs fs2, Tw W0 bo w d lb mb x rl rr rd ga gb fr n ea eb L M ws fs L (curL L M) (dirB L M) fs2 ∧ L.length = nn ∧ (ag = false → St W0 bo w d lb mb x rl rr rd ga gb fr n ep nn)
/-- The program's log is opened again. -/
def MidO (W0 : World) (bo : Option (Nat × List Value × TypeId)) (w : World) (d lb mb x rl rr rd ga gb fr n ep nn : Nat) : Prop :=
  ∃ wp eb L M T fs2, Dsk wp d lb mb L M ∧ L.length = nn ∧ fr + n ≤ nn ∧ allR (ep : Int) ((rdW L M fr n).length + 1) 0 (rdW L M fr n) = T ∧
    Tw W0 bo w d lb mb x rl rr rd ga gb fr n ep eb (clrR L M fr n ((rdW L M fr n).take T.2)).1 (clrR L M fr n ((rdW L M fr n).take T.2)).2 ((rdW L M fr n).take T.2) T.1 L (curL L M) (dirB L M) fs2
section
variable {W0 : World} {bo : Option (Nat × List Value × TypeId)} {w w' : World} {d lb mb x rl rr rd ga gb fr n ep nn : Nat}
theorem St.mid (h : St W0 bo w d lb mb x rl rr rd ga gb fr n ep nn) : Mid W0 bo w d lb mb x rl rr rd ga gb fr n ep nn false := by
  obtain ⟨L, M, ws, fs, h1, h2, h3⟩ := h
  exact ⟨ep, ep, L, M, ws, fs, fs, h1, h2, fun _ => ⟨L, M, ws, fs, h1, h2, h3⟩⟩
theorem St.below (h : St W0 bo w d lb mb x rl rr rd ga gb fr n ep nn) (hb : Below w.heap.size w w') : St W0 bo w' d lb mb x rl rr rd ga gb fr n ep nn := by
  obtain ⟨L, M, ws, fs, h1, h2, h3⟩ := h
  exact ⟨L, M, ws, fs, h1.below hb, h2, h3⟩
theorem Mid.below {ag : Bool} (h : Mid W0 bo w d lb mb x rl rr rd ga gb fr n ep nn ag) (hb : Below w.heap.size w w') : Mid W0 bo w' d lb mb x rl rr rd ga gb fr n ep nn ag := by
  obtain ⟨ea, eb, L, M, ws, fs, fs2, h1, h2, h3⟩ := h
  exact ⟨ea, eb, L, M, ws, fs, fs2, h1.below hb, h2, fun e => (h3 e).below hb⟩
theorem St.cells {b : Nat} {cs : List Value} {t : TypeId} (h : St W0 (some (b, cs, t)) w d lb mb x rl rr rd ga gb fr n ep nn) : Blk w b cs t := by
  obtain ⟨L, M, ws, fs, h1, h2, h3⟩ := h
  exact h1.cells
theorem St.drop (h : St W0 bo w d lb mb x rl rr rd ga gb fr n ep nn) : St W0 none w d lb mb x rl rr rd ga gb fr n ep nn := by
  obtain ⟨L, M, ws, fs, h1, h2, h3⟩ := h
  exact ⟨L, M, ws, fs, h1.drop, h2, h3⟩
theorem St.box (h : St W0 none w d lb mb x rl rr rd ga gb fr n ep nn) (cs : List Value) (t : TypeId) : St W0 (some (w.heap.size, cs, t)) (w.alloc (.cells cs.toArray t)) d lb mb x rl rr rd ga gb fr n ep nn := by
  obtain ⟨L, M, ws, fs, h1, h2, h3⟩ := h
  exact ⟨L, M, ws, fs, h1.box cs t, h2, h3⟩
theorem Mid.cells {b : Nat} {cs : List Value} {t : TypeId} {ag : Bool} (h : Mid W0 (some (b, cs, t)) w d lb mb x rl rr rd ga gb fr n ep nn ag) : Blk w b cs t := by
  obtain ⟨ea, eb, L, M, ws, fs, fs2, h1, h2, h3⟩ := h
  exact h1.cells
theorem Mid.drop {ag : Bool} (h : Mid W0 bo w d lb mb x rl rr rd ga gb fr n ep nn ag) : Mid W0 none w d lb mb x rl rr rd ga gb fr n ep nn ag := by
  obtain ⟨ea, eb, L, M, ws, fs, fs2, h1, h2, h3⟩ := h
  exact ⟨ea, eb, L, M, ws, fs, fs2, h1.drop, h2, fun e => (h3 e).drop⟩
theorem St.base (h : St W0 bo w d lb mb x rl rr rd ga gb fr n ep nn) : Below W0.heap.size W0 w := by
  obtain ⟨L, M, ws, fs, h1, h2, h3⟩ := h
  exact h1.base
theorem Mid.base {ag : Bool} (h : Mid W0 bo w d lb mb x rl rr rd ga gb fr n ep nn ag) : Below W0.heap.size W0 w := by
  obtain ⟨ea, eb, L, M, ws, fs, fs2, h1, h2, h3⟩ := h
  exact h1.base
theorem mid_open {a b e : Int} {ag : Bool} (h : Hid (Mid W0 bo w d lb mb x rl rr rd ga gb fr n ep nn ag)) (hab : Hid (((fr : Int) = a) ∧ ((n : Int) = b) ∧ ((ep : Int) = e))) (hn : Hid (1 ≤ n ∧ fr + n ≤ nn ∧ ep ≤ 4294967295)) :
    Calls Try.prog 55 #[.pointer (some ⟨d, 0, none⟩), .int .i64 a, .int .i64 b, .int .i64 e] w fun en w' => ∃ g, en = .returned (.tuple #[.pointer (some ⟨g, 0, none⟩), .int .i64 0]) ∧ Hid (MidO W0 bo w' d lb mb x rl rr rd g gb fr n ep nn) := by
  obtain ⟨ea, eb, L, M, ws, fs, fs2, h1, h2, _⟩ := h.out
  obtain ⟨OW, OF, OB, c, h4⟩ := h1
  refine (tw_open (Lib.hid ⟨OW, OF, OB, c, h4⟩) hab (Lib.hid ⟨hn.out.1, by rw [h2]; exact hn.out.2.1, hn.out.2.2⟩) (Lib.hid rfl)).mono fun en w' ⟨g, g1, g2⟩ => ⟨g, g1, Lib.hid ⟨w, eb, L, M, _, fs2, h4.dsk, h2, hn.out.2.1, rfl, g2.out⟩⟩
theorem mid_ropen {a b e : Int} (h : Hid (MidO W0 bo w d lb mb x rl rr rd ga gb fr n ep nn)) (hab : Hid (((fr : Int) = a) ∧ ((n : Int) = b) ∧ ((ep : Int) = e))) :
    Calls Try.prog 57 #[.pointer (some ⟨x, 0, none⟩), .int .i64 a, .int .i64 b, .int .i64 e] w fun en w' => ∃ g, en = .returned (.pointer (some ⟨g, 0, none⟩)) ∧ Hid (St W0 bo w' d lb mb x rl rr rd ga g fr n ep nn) := by
  obtain ⟨wp, eb, L, M, T, fs2, h0, h1, h2, h3, h4⟩ := h.out
  have hn : fr + n ≤ L.length := by rw [h1]; exact h2
  have hW := rfW_cur L M fr n hn
  have hle := all_le (ep : Int) ((rdW L M fr n).length + 1) 0 (rdW L M fr n)
  rw [h3, rdW_length h0 n hn] at hle
  refine (tw_ropen (T := T) (Lib.hid h4) hab (Lib.hid hn) (Lib.hid (by rw [hW]; exact h3)) (Lib.hid (by rw [hW]; exact rdW_ws h0 n hn))).mono ?_
  rintro en w' ⟨g, g1, g2⟩
  obtain ⟨o1, o2, o3⟩ := open_same h0 hn hle
  have h5 := g2.out
  rw [o1, o2, o3] at h5
  have h6 := coh_open h0 hn h3
  rw [h1] at h6
  exact ⟨g, g1, Lib.hid ⟨_, _, _, _, h5, by rw [clrR_length]; exact h1, h6⟩⟩
theorem st_lsync (h : Hid (St W0 bo w d lb mb x rl rr rd ga gb fr n ep nn)) :
    Calls Try.prog 58 #[.pointer (some ⟨ga, 0, none⟩)] w fun en w' => en = .returned (.tuple #[]) ∧ ∃ L M ws fs, Hid (Tw W0 bo w' d lb mb x rl rr rd ga gb fr n ep ep (curL L M) (fun _ => none) ws fs L (curL L M) (dirB L M) fs) ∧ Hid (L.length = nn ∧ Coh fr n nn L M ws fs) := by
  obtain ⟨L, M, ws, fs, h1, h2, h3⟩ := h.out
  exact (tw_lsync (Lib.hid h1)).mono fun en w' ⟨g1, g2⟩ => ⟨g1, L, M, ws, fs, g2, Lib.hid ⟨h2, h3⟩⟩
theorem st_rsync {L : List (List Int)} {M : Nat → Option (List Int)} {ws : List Int} {fs : List Fr} (h : Hid (Tw W0 bo w d lb mb x rl rr rd ga gb fr n ep ep (curL L M) (fun _ => none) ws fs L (curL L M) (dirB L M) fs)) (hc : Hid (L.length = nn ∧ Coh fr n nn L M ws fs)) :
    Calls Try.prog 59 #[.pointer (some ⟨x, 0, none⟩)] w fun en w' => en = .returned (.tuple #[]) ∧ Hid (St W0 bo w' d lb mb x rl rr rd ga gb fr n ep nn) := by
  refine (tw_rsync h).mono ?_
  rintro en w' ⟨g1, g2⟩
  have h5 := g2.out
  have e1 := (curL_none (curL L M)).symm
  have e2 := dirB_none (curL L M)
  rw [curL_length] at e2
  have h6 : Tw W0 bo w' d lb mb x rl rr rd ga gb fr n ep ep (curL L M) (fun _ => none) ws fs (curL L M) (curL (curL L M) (fun _ => none)) (dirB (curL L M) (fun _ => none)) fs := by
    rw [← e1, e2]; exact h5
  exact ⟨g1, Lib.hid ⟨_, _, _, _, h6, by rw [curL_length]; exact hc.out.1, hc.out.2.sync hc.out.1⟩⟩
def MidK (W0 : World) (bo : Option (Nat × List Value × TypeId)) (w : World) (d lb mb x rl rr rd ga gb fr n ep nn : Nat) (l : List Bool) (A : Option Addr) (cap g o cb bb : Nat) : Prop :=
  ∃ L M ws fs, TwK W0 bo w d lb mb x rl rr rd ga gb fr n ep ep L M ws fs L (curL L M) (dirB L M) fs l A cap g o cb bb ∧ L.length = nn
def MidC (W0 : World) (bo : Option (Nat × List Value × TypeId)) (w : World) (d lb mb x rl rr rd ga gb fr n ep nn : Nat) (l : List Bool) : Prop :=
  ∃ L M ws fs, Tw W0 bo w d lb mb x rl rr rd ga gb fr n ep ep (lastL M (fun k => l.getD k false) L) (fun _ => none) ws fs L (curL L M) (dirB L M) fs ∧ L.length = nn
theorem mid_keeps {l : List Bool} {A : Option Addr} {m cap g o : Nat} (h : Hid (St W0 bo w d lb mb x rl rr rd ga gb fr n ep nn)) (hm : Hid (l.length = m)) (hb : Hid (BRow W0 A g o l)) :
    Calls Try.prog 52 #[.slice A m cap] w fun en w' => ∃ cb bb, en = .returned (.func (.func 87) #[] #[.pointer (some ⟨cb, 0, none⟩), .pointer (some ⟨bb, 0, none⟩)]) ∧ Hid (MidK W0 bo w' d lb mb x rl rr rd ga gb fr n ep nn l A cap g o cb bb) := by
  obtain ⟨L, M, ws, fs, h1, h2, h3⟩ := h.out
  exact (tw_keeps (Lib.hid h1) hm hb).mono fun en w' ⟨cb, bb, g1, g2⟩ => ⟨cb, bb, g1, Lib.hid ⟨L, M, ws, fs, g2.out, h2⟩⟩
theorem mid_crash {l : List Bool} {A : Option Addr} {cap g o cb bb : Nat} (h : Hid (MidK W0 bo w d lb mb x rl rr rd ga gb fr n ep nn l A cap g o cb bb)) (hl : Hid (l.length ≤ 1000000)) :
    Calls Try.prog 51 #[.pointer (some ⟨d, 0, none⟩), .func (.func 87) #[] #[.pointer (some ⟨cb, 0, none⟩), .pointer (some ⟨bb, 0, none⟩)]] w fun en w' => en = .returned (.tuple #[]) ∧ Hid (MidC W0 bo w' d lb mb x rl rr rd ga gb fr n ep nn l) := by
  obtain ⟨L, M, ws, fs, h1, h2⟩ := h.out
  exact (tw_crash (Lib.hid h1) hl).mono fun en w' ⟨g1, g2⟩ => ⟨g1, Lib.hid ⟨L, M, ws, fs, g2.out, h2⟩⟩
theorem MidC.cells {b : Nat} {cs : List Value} {t : TypeId} {l : List Bool} (h : MidC W0 (some (b, cs, t)) w d lb mb x rl rr rd ga gb fr n ep nn l) : Blk w b cs t := by
  obtain ⟨L, M, ws, fs, h1, h2⟩ := h
  exact h1.cells
theorem mid_rcrash {l : List Bool} {A : Option Addr} {m cap g o : Nat} (h : Hid (MidC W0 bo w d lb mb x rl rr rd ga gb fr n ep nn l)) (hm : Hid (l.length = m)) (hl : Hid (l.length ≤ 1000000)) (hb : Hid (BRow W0 A g o l)) :
    Calls Try.prog 60 #[.pointer (some ⟨x, 0, none⟩), .slice A m cap] w fun en w' => en = .returned (.tuple #[]) ∧ Hid (Mid W0 bo w' d lb mb x rl rr rd ga gb fr n ep nn true) := by
  obtain ⟨L, M, ws, fs, h1, h2⟩ := h.out
  refine (tw_rcrash (Lib.hid h1) hm hl hb).mono ?_
  rintro en w' ⟨g1, g2⟩
  obtain ⟨c1, c2, c3⟩ := crash_eq l L M
  have h5 := g2.out
  rw [c1, c2, c3] at h5
  have h6 : Tw W0 bo w' d lb mb x rl rr rd ga gb fr n ep ep (lastL M (fun k => l.getD k false) L) (fun _ => none) ws fs (lastL M (fun k => l.getD k false) L) (curL (lastL M (fun k => l.getD k false) L) (fun _ => none)) (dirB (lastL M (fun k => l.getD k false) L) (fun _ => none)) fs := by
    rw [curL_none, dirB_none, Disk.lastL_length]; exact h5
  exact ⟨g1, Lib.hid ⟨ep, ep, _, _, ws, fs, fs, h6, by rw [Disk.lastL_length]; exact h2, fun e => by cases e⟩⟩
def MidW (W0 : World) (bo : Option (Nat × List Value × TypeId)) (w : World) (d lb mb x rl rr rd ga gb fr n ep nn : Nat) (I : Int) (s : List Int) : Prop :=
  ∃ L M ws fs, L.length = nn ∧ ((∃ i : Nat, (i : Int) = I ∧ i < nn ∧ Tw W0 bo w d lb mb x rl rr rd ga gb fr n ep ep L (upd M i s) ws fs L (curL L M) (dirB L M) fs) ∨ (thB I nn = false ∧ Tw W0 bo w d lb mb x rl rr rd ga gb fr n ep ep L M ws fs L (curL L M) (dirB L M) fs))
theorem mid_dwrite {I : Int} {s0 s1 s2 s3 s4 s5 s6 s7 : Int} (h : Hid (St W0 bo w d lb mb x rl rr rd ga gb fr n ep nn)) (hs : Hid (Sec [s0, s1, s2, s3, s4, s5, s6, s7])) :
    Calls Try.prog 46 #[.pointer (some ⟨d, 0, none⟩), .int .i64 I, agg8 s0 s1 s2 s3 s4 s5 s6 s7] w fun en w' => ∃ q : Int, en = .returned (.int .i64 q) ∧ Hid (MidW W0 bo w' d lb mb x rl rr rd ga gb fr n ep nn I [s0, s1, s2, s3, s4, s5, s6, s7]) := by
  obtain ⟨L, M, ws, fs, h1, h2, h3⟩ := h.out
  cases hb : thB I nn with
  | true =>
    simp only [thB, decide_eq_true_eq] at hb
    obtain ⟨i, hi⟩ : ∃ i : Nat, (i : Int) = I := ⟨I.toNat, by omega⟩
    have hil : i < nn := by omega
    exact (tw_dwrite (Lib.hid h1) (Lib.hid hi) (Lib.hid (by rw [h2]; exact hil)) hs).mono fun en w' ⟨g1, g2⟩ => ⟨0, g1, Lib.hid ⟨L, M, ws, fs, h2, Or.inl ⟨i, hi, hil, g2.out⟩⟩⟩
  | false =>
    exact (tw_dwrite_out (Lib.hid h1) (Lib.hid (by rw [h2]; exact hb))).mono fun en w' ⟨g1, g2⟩ => ⟨3, g1, Lib.hid ⟨L, M, ws, fs, h2, Or.inr ⟨hb, g2.out⟩⟩⟩
theorem MidW.cells {b : Nat} {cs : List Value} {t : TypeId} {I : Int} {s : List Int} (h : MidW W0 (some (b, cs, t)) w d lb mb x rl rr rd ga gb fr n ep nn I s) : Blk w b cs t := by
  obtain ⟨L, M, ws, fs, h2, h1⟩ := h
  rcases h1 with ⟨i, hi, hil, h1⟩ | ⟨_, h1⟩
  · exact h1.cells
  · exact h1.cells
theorem mid_rthere {I : Int} {s : List Int} {b : Bool} (h : Hid (MidW W0 bo w d lb mb x rl rr rd ga gb fr n ep nn I s)) (hb : Hid (thB I nn = b)) :
    Calls Try.prog 61 #[.pointer (some ⟨x, 0, none⟩), .int .i64 I] w fun en w' => en = .returned (.bool b) ∧ w = w' := by
  obtain ⟨L, M, ws, fs, h2, h1⟩ := h.out
  rcases h1 with ⟨i, hi, hil, h1⟩ | ⟨_, h1⟩
  · exact tw_rthere (Lib.hid h1) (Lib.hid (by rw [h2]; exact hb.out))
  · exact tw_rthere (Lib.hid h1) (Lib.hid (by rw [h2]; exact hb.out))
theorem mid_rwrite {I : Int} {s0 s1 s2 s3 s4 s5 s6 s7 : Int} (h : Hid (MidW W0 bo w d lb mb x rl rr rd ga gb fr n ep nn I [s0, s1, s2, s3, s4, s5, s6, s7])) (hb : Hid (thB I nn = true)) (hs : Hid (Sec [s0, s1, s2, s3, s4, s5, s6, s7])) :
    Calls Try.prog 62 #[.pointer (some ⟨x, 0, none⟩), .int .i64 I, agg8 s0 s1 s2 s3 s4 s5 s6 s7] w fun en w' => en = .returned (.tuple #[]) ∧ Hid (Mid W0 bo w' d lb mb x rl rr rd ga gb fr n ep nn true) := by
  obtain ⟨L, M, ws, fs, h2, h1⟩ := h.out
  rcases h1 with ⟨i, hi, hil, h1⟩ | ⟨hf, _⟩
  · refine (tw_rwrite (Lib.hid h1) (Lib.hid hi) (Lib.hid (by rw [h2]; exact hil)) hs).mono ?_
    rintro en w' ⟨g1, g2⟩
    have h5 := g2.out
    rw [← curL_upd (by rw [h2]; exact hil), ← dirB_upd (by rw [h2]; exact hil)] at h5
    exact ⟨g1, Lib.hid ⟨ep, ep, L, _, ws, fs, fs, h5, h2, fun e => by cases e⟩⟩
  · rw [hb.out] at hf; cases hf
theorem MidW.out {I : Int} {s : List Int} (h : MidW W0 bo w d lb mb x rl rr rd ga gb fr n ep nn I s) (hb : thB I nn = false) : Mid W0 bo w d lb mb x rl rr rd ga gb fr n ep nn true := by
  obtain ⟨L, M, ws, fs, h2, h1⟩ := h
  rcases h1 with ⟨i, hi, hil, h1⟩ | ⟨hf, h1⟩
  · exfalso
    simp only [thB, decide_eq_false_iff_not] at hb
    exact hb ⟨by omega, by omega⟩
  · exact ⟨ep, ep, L, M, ws, fs, fs, h1, h2, fun e => by cases e⟩
theorem St.again {ep' : Nat} (h : St W0 bo w d lb mb x rl rr rd ga gb fr n ep nn) : Mid W0 bo w d lb mb x rl rr rd ga gb fr n ep' nn true := by
  obtain ⟨L, M, ws, fs, h1, h2, h3⟩ := h
  exact ⟨ep, ep, L, M, ws, fs, fs, h1, h2, fun e => by cases e⟩
/-- Append, the program's: an answer; and what it takes for the reference's to answer so. -/
def MidA (W0 : World) (bo : Option (Nat × List Value × TypeId)) (w : World) (d lb mb x rl rr rd ga gb fr n ep nn : Nat) (kd : Int) (m : Nat) (l : List Int) (q : Int) : Prop :=
  ∃ L M ws fs, L.length = nn ∧ Coh fr n nn L M ws fs ∧
    ((q = 1 ∧ mayB kd m = false ∧ Tw W0 bo w d lb mb x rl rr rd ga gb fr n ep ep L M ws fs L (curL L M) (dirB L M) fs) ∨
     (q = 4 ∧ mayB kd m = true ∧ n * 8 < ws.length + (m + 1) ∧ Tw W0 bo w d lb mb x rl rr rd ga gb fr n ep ep L M ws fs L (curL L M) (dirB L M) fs) ∨
     (q = 0 ∧ mayB kd m = true ∧ ws.length + (m + 1) ≤ n * 8 ∧ ∃ ys, ((fmark ep fs.length kd.toNat l : Nat) : Int) :: l = ys ∧
       Tw W0 bo w d lb mb x rl rr rd ga gb fr n ep ep L (wrM M fr (ws ++ ys) (ws.length / 8) (((ws ++ ys).length - 1) / 8 + 1 - ws.length / 8)) (ws ++ ys) (fs ++ [⟨kd, l⟩]) L (curL L M) (dirB L M) fs))
theorem st_append {kd : Int} {A : Option Addr} {m c : Nat} {l : List Int} (h : Hid (St W0 bo w d lb mb x rl rr rd ga gb fr n ep nn)) (ha : Hid (Arg W0 A m c l)) (hn : Hid (n ≤ 4096 ∧ ep ≤ 4294967295)) (hm : Hid (m ≤ 140737488351232)) :
    Calls Try.prog 64 #[.pointer (some ⟨ga, 0, none⟩), .agg #[.int .i64 kd, .slice A m c]] w fun en w' => ∃ q : Int, en = .returned (.int .i64 q) ∧ Hid (MidA W0 bo w' d lb mb x rl rr rd ga gb fr n ep nn kd m l q) := by
  obtain ⟨L, M, ws, fs, h1, h2, h3⟩ := h.out
  cases hb : mayB kd m with
  | false => exact (tw_append_bad (Lib.hid h1) hm (Lib.hid hb)).mono fun en w' ⟨g1, g2⟩ => ⟨1, g1, Lib.hid ⟨L, M, ws, fs, h2, h3, Or.inl ⟨rfl, hb, g2.out⟩⟩⟩
  | true =>
    by_cases hf : n * 8 < ws.length + (m + 1)
    · exact (tw_append_full (Lib.hid h1) hm (Lib.hid hb) (Lib.hid hn.out.1) (Lib.hid h3.wlen) (Lib.hid hf)).mono fun en w' ⟨g1, g2⟩ => ⟨4, g1, Lib.hid ⟨L, M, ws, fs, h2, h3, Or.inr (Or.inl ⟨rfl, hb, hf, g2.out⟩)⟩⟩
    · have hk : ((kd.toNat : Nat) : Int) = kd := by have := (mayB_true.1 hb).1; omega
      have hfr := h3.frames
      have hfit := h3.fit
      refine (tw_append (ys := ((fmark ep fs.length kd.toNat l : Nat) : Int) :: l) (Lib.hid h1) ha (Lib.hid hk) (Lib.hid ⟨by rw [h2]; exact hfit, hn.out.2, by have := hn.out.1; omega⟩) (Lib.hid hb) (Lib.hid (by omega)) (Lib.hid rfl)).mono fun en w' ⟨g1, g2⟩ => ⟨0, g1, Lib.hid ⟨L, M, ws, fs, h2, h3, Or.inr (Or.inr ⟨rfl, hb, by omega, _, rfl, g2.out⟩)⟩⟩
theorem MidA.cells {b : Nat} {cs : List Value} {t : TypeId} {kd q : Int} {m : Nat} {l : List Int} (h : MidA W0 (some (b, cs, t)) w d lb mb x rl rr rd ga gb fr n ep nn kd m l q) : Blk w b cs t := by
  obtain ⟨L, M, ws, fs, h2, h3, h4⟩ := h
  rcases h4 with ⟨rfl, hb, h1⟩ | ⟨rfl, hb, hf, h1⟩ | ⟨rfl, hb, hf, ys, hy, h1⟩
  · exact h1.cells
  · exact h1.cells
  · exact h1.cells
theorem st_rappend {kd q : Int} {A : Option Addr} {m c : Nat} {l : List Int} (h : Hid (MidA W0 bo w d lb mb x rl rr rd ga gb fr n ep nn kd m l q)) (ha : Hid (Arg W0 A m c l)) (hn : Hid (n ≤ 4096 ∧ ep ≤ 4294967295)) (hm : Hid (m ≤ 140737488351232)) :
    Calls Try.prog 65 #[.pointer (some ⟨gb, 0, none⟩), .agg #[.int .i64 kd, .slice A m c]] w fun en w' => en = .returned (.int .i64 q) ∧ Hid (St W0 bo w' d lb mb x rl rr rd ga gb fr n ep nn) := by
  obtain ⟨L, M, ws, fs, h2, h3, h4⟩ := h.out
  have hfr := h3.frames
  have hfit := h3.fit
  have hnn := hn.out.1
  rcases h4 with ⟨rfl, hb, h1⟩ | ⟨rfl, hb, hf, h1⟩ | ⟨rfl, hb, hf, ys, hy, h1⟩
  · exact (tw_rappend_bad (Lib.hid h1) hm (Lib.hid hb)).mono fun en w' ⟨g1, g2⟩ => ⟨g1, Lib.hid ⟨L, M, ws, fs, g2.out, h2, h3⟩⟩
  · have hk : ((kd.toNat : Nat) : Int) = kd := by have := (mayB_true.1 hb).1; omega
    exact (tw_rappend_full (k := kd.toNat) (Lib.hid h1) ha (Lib.hid hk) (Lib.hid ⟨hnn, hn.out.2, by omega⟩) (Lib.hid hb) (Lib.hid h3.used) (Lib.hid h3.wlen) (Lib.hid hf)).mono fun en w' ⟨g1, g2⟩ => ⟨g1, Lib.hid ⟨L, M, ws, fs, g2.out, h2, h3⟩⟩
  · have hk : ((kd.toNat : Nat) : Int) = kd := by have := (mayB_true.1 hb).1; omega
    refine (tw_rappend (zs := ws) (Lib.hid h1) ha (Lib.hid hk) (Lib.hid ⟨by rw [h2]; exact hfit, hn.out.2, by omega⟩) (Lib.hid hb) (Lib.hid h3.wsw) (Lib.hid h3.used) (Lib.hid (fun i hi => ?_)) (Lib.hid hf) (Lib.hid hy)).mono ?_
    · rw [getD_of (curL_at (by omega)), h3.inv i hi]
    · rintro en w' ⟨g1, g2⟩
      have hyl : ys.length = m + 1 := by rw [← hy, List.length_cons, ha.out.len]
      obtain ⟨r1, r2⟩ := rfR_cur (L := L) (M := M) (fr := fr) (f := ws.length / 8) (zs := ws ++ ys) (((ws ++ ys).length - 1) / 8 + 1 - ws.length / 8) (by rw [List.length_append, hyl, h2]; omega)
      have h5 := g2.out
      rw [r1, r2] at h5
      exact ⟨g1, Lib.hid ⟨L, _, _, _, h5, h2, h3.append (kd := kd) hy ha.out.len (mayB_true.1 hb).2.2 hf (ws_put hy ha.out.ws ha.out.len (by rw [hk]; exact hb))⟩⟩
theorem st_same (h : Hid (St W0 bo w d lb mb x rl rr rd ga gb fr n ep nn)) (hn : Hid (n ≤ 40)) :
    Calls Try.prog 66 #[.pointer (some ⟨ga, 0, none⟩), .pointer (some ⟨gb, 0, none⟩)] w fun en w' => en = .returned (.bool true) ∧ Hid (St W0 bo w' d lb mb x rl rr rd ga gb fr n ep nn) := by
  obtain ⟨L, M, ws, fs, h1, h2, h3⟩ := h.out
  have hfr := h3.frames
  have h4 := hn.out
  exact (tw_same (Lib.hid h1) (Lib.hid (by omega)) (Lib.hid h3.small) (Lib.hid (by omega)) (Lib.hid h3.wlen) (Lib.hid h3.used)).mono fun en w' ⟨g1, g2⟩ => ⟨g1, Lib.hid ⟨L, M, ws, fs, g2.out, h2, h3⟩⟩
end
end Go.Proofs.Ytmeoiennniknlaa.Log

namespace Go.Proofs.Ytmeoiennniknlaa.Log
open Go.RowKit Go.Shelf Go.Proofs.YtmeoiennniknlaaW.PrintWords Go.Proofs.Ytmeoiennniknlaa.Lb Go.Proofs.Ytmeoiennniknlaa.Frames
open Go.Proofs.Ytmeoiennniknlaa.Disk (Chg Chg.cell Sec secC secC_at agg8 thB Dsk cur upd lastL)
open Go.Proofs.Ytmeoiennniknlaa.Anchor (Blk zero8 below_set8)
open Go.Proofs.Ytmeoiennniknlaa.RDisk (RDk curL dirB BRow crashN curL_none dirB_none curL_length crash_eq last_sync curL_at getD_of curL_upd dirB_upd)
set_option linter.unusedVariables false
set_option linter.unusedSimpArgs false

/-- An operation on a log. -/
structure OpV where
  kd : Int
  fk : Int
  A : Option Addr
  l : List Int
  c : Nat
  KA : Option Addr
  keep : List Bool
  kc : Nat
  g : Nat
  o : Nat
  I : Int
  s : List Int
def OpV.cells (x : OpV) : List Value := [.int .u8 x.kd, .int .i64 x.fk, .slice x.A x.l.length x.c, .slice x.KA x.keep.length x.kc, .int .i64 x.I] ++ nums .u64 x.s
structure OpV.ok (W0 : World) (x : OpV) : Prop where
  kd : 0 ≤ x.kd ∧ x.kd < 256
  arg : Arg W0 x.A x.l.length x.c x.l
  keep : BRow W0 x.KA x.g x.o x.keep
  sec : Sec x.s
def kO (W0 : World) : Kd OpV where
  sz := 13
  E := []
  K := fun _ x cs => cs = x.cells ∧ x.ok W0
  M := fun _ _ _ x cs => cs = x.cells ∧ x.ok W0
  K_len := fun {w x cs} h => by rw [h.1, OpV.cells, List.length_append, nums_length, h.2.sec.1]; rfl
  K_one := fun {w x cs} h u hu => by
    rw [h.1, OpV.cells] at hu
    rcases List.mem_append.1 hu with hu | hu
    · simp only [List.mem_cons, List.not_mem_nil, or_false] at hu
      rcases hu with rfl | rfl | rfl | rfl | rfl <;> rfl
    · exact Anchor.nums_one _ _ u hu
  K_below := fun _ h => h
  K_of_M := fun h => h
  M_mono := fun _ h => h
  M_bound := fun h => h
  M_move := fun _ h => h
  M_lower := fun _ h => h
theorem op_cell {W0 : World} {A : Option Addr} {ops : List OpV} (h : (kO W0).C W0 A ops.length ops) (j : Nat) (hj : j < ops.length) : ∃ (ad : Addr) (x : OpV), A = some ad ∧ x.ok W0 ∧ ∀ w, Below W0.heap.size W0 w →
    w.cell? (ad.add (j * 13)) = some (.int .u8 x.kd) ∧ ∀ i u, 0 < i → x.cells[i]? = some u → w.cell? ⟨(ad.add (j * 13)).block, (ad.add (j * 13)).off + i, none⟩ = some u := by
  obtain ⟨ad, e, hc⟩ := h.2.2 (by omega)
  obtain ⟨cs, hs, hK, hcell⟩ := hc j _ (List.getElem?_eq_getElem hj)
  obtain ⟨rfl, hok⟩ := hK
  refine ⟨ad, ops[j], e, hok, fun w hw => ⟨?_, fun i u hi hu => ?_⟩⟩
  · have h5 := hcell 0 _ rfl
    have h6 := World.block_lt_of_cell? W0 _ h5
    exact (hw.cell h6).trans h5
  · have h5 := hcell i u hu
    have e2 : ad.add (j * 13 + i) = ⟨(ad.add (j * 13)).block, (ad.add (j * 13)).off + i, none⟩ := add_field ad (j * 13) i (by omega)
    rw [show (kO W0).sz = 13 from rfl, e2] at h5
    have h6 := World.block_lt_of_cell? W0 _ h5
    exact (hw.cell h6).trans h5

section
variable {W0 : World} {bo : Option (Nat × List Value × TypeId)} {w w' : World} {d lb mb x rl rr rd ga gb fr n ep nn : Nat}
open Classical in
/-- Both logs opened for the first time. -/
theorem st_start {W1 W2 W3 W4 : World} {T : List Fr × Nat} {OW OF OB : Nat → Prop} (b1 : Below W0.heap.size W0 W1) (hd : Dsk W1 d lb mb (List.replicate nn zero8) (fun _ => none)) (hdn : W0.heap.size ≤ d ∧ W0.heap.size ≤ lb ∧ W0.heap.size ≤ mb)
    (b2 : Below W1.heap.size W1 W2) (hx : RDk W2 x rl rr rd (List.replicate nn zero8) (List.replicate nn zero8) (List.replicate nn false)) (hxn : W1.heap.size ≤ x ∧ W1.heap.size ≤ rl ∧ W1.heap.size ≤ rr ∧ W1.heap.size ≤ rd)
    (c3 : Chg (TD d lb mb) W2 W3) (hn : fr + n ≤ nn) (hT : allR (ep : Int) ((rdW (List.replicate nn zero8) (fun _ => none) fr n).length + 1) 0 (rdW (List.replicate nn zero8) (fun _ => none) fr n) = T)
    (hd3 : Dsk W3 d lb mb (clrR (List.replicate nn zero8) (fun _ => none) fr n ((rdW (List.replicate nn zero8) (fun _ => none) fr n).take T.2)).1 (clrR (List.replicate nn zero8) (fun _ => none) fr n ((rdW (List.replicate nn zero8) (fun _ => none) fr n).take T.2)).2)
    (hl3 : Lg W3 ga d fr n ep ((rdW (List.replicate nn zero8) (fun _ => none) fr n).take T.2) T.1 OW OF) (hln : W2.heap.size ≤ ga ∧ (∀ k, OW k → W2.heap.size ≤ k) ∧ (∀ k, OF k → W2.heap.size ≤ k))
    (c4 : Chg (TR rl rr rd) W3 W4) (hx4 : RDk W4 x rl rr rd (opE (List.replicate nn zero8) (List.replicate nn zero8) (List.replicate nn false) fr T.2 n).1 (opE (List.replicate nn zero8) (List.replicate nn zero8) (List.replicate nn false) fr T.2 n).2.1 (opE (List.replicate nn zero8) (List.replicate nn zero8) (List.replicate nn false) fr T.2 n).2.2)
    (hr4 : Rg W4 gb x fr n ep T.1 OB) (hrn : W3.heap.size ≤ gb ∧ (∀ k, OB k → W3.heap.size ≤ k)) : St W0 none W4 d lb mb x rl rr rd ga gb fr n ep nn := by
  have hl : (List.replicate nn zero8).length = nn := List.length_replicate
  have hn' : fr + n ≤ (List.replicate nn zero8).length := by rw [hl]; exact hn
  have hle := all_le (ep : Int) ((rdW (List.replicate nn zero8) (fun _ => none) fr n).length + 1) 0 (rdW (List.replicate nn zero8) (fun _ => none) fr n)
  rw [hT, rdW_length hd n hn'] at hle
  obtain ⟨o1, o2, o3⟩ := open_same hd hn' hle
  rw [curL_none, dirB_none, hl] at o1 o2 o3
  rw [o1, o2, o3] at hx4
  have hcoh := coh_open hd hn' hT
  rw [hl] at hcoh
  have s1 := b1.size
  have s2 := b2.size
  have s3 := c3.size
  have s4 := c4.size
  have d1 := hd.ltd
  have d2 := hd.ltl
  have d3 := hd.ltm
  obtain ⟨x1, x2, x3, x4⟩ := RDk.lts hx
  have hg := hl3.lt
  have hTD : ∀ k, TD d lb mb k → W0.heap.size ≤ k ∧ k < W1.heap.size := by
    rintro k (rfl | rfl | rfl)
    · exact ⟨hdn.1, d1⟩
    · exact ⟨hdn.2.1, d2⟩
    · exact ⟨hdn.2.2, d3⟩
  have hTR : ∀ k, TR rl rr rd k → W1.heap.size ≤ k ∧ k < W2.heap.size := by
    rintro k (rfl | rfl | rfl)
    · exact ⟨hxn.2.1, x2⟩
    · exact ⟨hxn.2.2.1, x3⟩
    · exact ⟨hxn.2.2.2, x4⟩
  refine ⟨_, _, _, _, ⟨OW, OF, OB, fun k => if k < W0.heap.size then 7 else if k < W1.heap.size then 1 else if k < W2.heap.size then 2 else if k < W3.heap.size then (if k = ga then 3 else if OW k then 4 else 5) else if k = gb then 6 else 7, ?_⟩, by rw [clrR_length]; exact hl, hcoh⟩
  refine ⟨hd3.kept c4 (fun hk => ?_) (fun hk => ?_) (fun hk => ?_), hl3.kept c4 (fun hk => ?_) (fun k h1 hk => ?_) (fun k h1 hk => ?_), hx4, hr4, fun k hk => ?_, ⟨?_, fun k hk => ?_⟩, ?_, fun k hk => ?_, fun k hk => ?_, ?_, fun k hk => ?_, fun k hk => if_pos hk, ?_, ?_⟩
  · have := hTR _ hk; omega
  · have := hTR _ hk; omega
  · have := hTR _ hk; omega
  · have := hTR _ hk; omega
  · have := hTR _ hk; have := hln.2.1 k h1; omega
  · have := hTR _ hk; have := hln.2.2 k h1; omega
  · have := hTD k hk
    show (if k < W0.heap.size then 7 else if k < W1.heap.size then 1 else _) = 1
    rw [if_neg (by omega), if_pos (by omega)]
  · show (if x < W0.heap.size then 7 else if x < W1.heap.size then 1 else if x < W2.heap.size then 2 else _) = 2
    rw [if_neg (by omega), if_neg (by omega), if_pos (by omega)]
  · have := hTR k hk
    show (if k < W0.heap.size then 7 else if k < W1.heap.size then 1 else if k < W2.heap.size then 2 else _) = 2
    rw [if_neg (by omega), if_neg (by omega), if_pos (by omega)]
  · show (if ga < W0.heap.size then 7 else if ga < W1.heap.size then 1 else if ga < W2.heap.size then 2 else if ga < W3.heap.size then (if ga = ga then 3 else _) else _) = 3
    rw [if_neg (by omega), if_neg (by omega), if_neg (by omega), if_pos (by omega), if_pos rfl]
  · have h1 := hln.2.1 k hk
    have h2 := hl3.bw k hk
    show (if k < W0.heap.size then 7 else if k < W1.heap.size then 1 else if k < W2.heap.size then 2 else if k < W3.heap.size then (if k = ga then 3 else if OW k then 4 else 5) else _) = 4
    rw [if_neg (by omega), if_neg (by omega), if_neg (by omega), if_pos (by omega), if_neg (fun e : k = ga => hl3.gw (e ▸ hk)), if_pos hk]
  · have h1 := hln.2.2 k hk
    have h2 := hl3.bf k hk
    show (if k < W0.heap.size then 7 else if k < W1.heap.size then 1 else if k < W2.heap.size then 2 else if k < W3.heap.size then (if k = ga then 3 else if OW k then 4 else 5) else _) = 5
    rw [if_neg (by omega), if_neg (by omega), if_neg (by omega), if_pos (by omega), if_neg (fun e : k = ga => hl3.gf (e ▸ hk)), if_neg (fun e => hl3.apart k e hk)]
  · show (if gb < W0.heap.size then 7 else if gb < W1.heap.size then 1 else if gb < W2.heap.size then 2 else if gb < W3.heap.size then _ else if gb = gb then 6 else 7) = 6
    rw [if_neg (by omega), if_neg (by omega), if_neg (by omega), if_neg (by omega), if_pos rfl]
  · have h1 := hrn.2 k hk
    show (if k < W0.heap.size then 7 else if k < W1.heap.size then 1 else if k < W2.heap.size then 2 else if k < W3.heap.size then _ else if k = gb then 6 else 7) = 7
    rw [if_neg (by omega), if_neg (by omega), if_neg (by omega), if_neg (by omega), if_neg (fun e : k = gb => hr4.gb (e ▸ hk))]
  · refine (Chg.of_below b1).trans (((Chg.of_below b2).mono (S' := fun k => W0.heap.size ≤ k) (S := fun _ => False) (fun k h => h.elim)).trans ((c3.mono (fun k hk => (hTD k hk).1)).trans (c4.mono (fun k hk => Nat.le_trans s1 (hTR k hk).1))))
  · exact fun b cs t e => by cases e
/-- Sector k, as it is read and as it lasts, on both sides. -/
theorem st_secs (h : St W0 bo w d lb mb x rl rr rd ga gb fr n ep nn) : ∃ (L : List (List Int)) (M : Nat → Option (List Int)), Dsk w d lb mb L M ∧ RDk w x rl rr rd L (curL L M) (dirB L M) ∧ L.length = nn := by
  obtain ⟨L, M, ws, fs, ⟨OW, OF, OB, c, h1⟩, h2, _⟩ := h
  exact ⟨L, M, h1.dsk, h1.rdk, h2⟩
end
theorem rnew_at {W : World} {n : Nat} {m : Int} (hm : Hid ((n : Int) = m)) (h : Hid (1 ≤ n ∧ n ≤ 4096)) :
    Calls Try.prog 54 #[.int .i64 m] W fun en W' => ∃ x rl rr rd, en = .returned (.pointer (some ⟨x, 0, none⟩)) ∧ Hid (RDk W' x rl rr rd (List.replicate n zero8) (List.replicate n zero8) (List.replicate n false)) ∧
      Hid (W.heap.size ≤ x ∧ W.heap.size ≤ rl ∧ W.heap.size ≤ rr ∧ W.heap.size ≤ rd) ∧ Hid (Below W.heap.size W W') := by
  have e := hm.out
  subst e
  exact (RDisk.new_any W n h.out.1 h.out.2).mono fun en W' ⟨x, rl, rr, rd, h1, h2, h3, h4⟩ => ⟨x, rl, rr, rd, h1, Lib.hid h2, Lib.hid h3, Lib.hid h4⟩
theorem rthere8_at {w : World} {x rl rr rd nn : Nat} {RL RR : List (List Int)} {RD : List Bool} {a b : Int} {q : Bool} (h : Hid (RDk w x rl rr rd RL RR RD)) (hn : Hid (RL.length = nn)) (hq : Hid (partB a b nn = q)) :
    Calls Try.prog 56 #[.pointer (some ⟨x, 0, none⟩), .int .i64 a, .int .i64 b] w fun en w' => en = .returned (.bool q) ∧ w = w' := by
  rw [← hq.out, ← hn.out]
  exact refThere_any h.out a b
theorem rnum_at {w : World} {n : Int} {b : Bool} (hb : Hid (numB n = b)) :
    Calls Try.prog 29 #[.int .i64 n] w fun e w' => e = .returned (.bool b) ∧ w = w' := by
  rw [← hb.out]
  exact refNumber_any w n
theorem alive8_at (w : World) : Calls Try.prog 53 #[] w fun en w' => en = .returned (.bool true) ∧ Hid (Below w.heap.size w w') := (alive8_any w).mono fun _ _ h => ⟨h.1, Lib.hid h.2⟩
theorem orange_at {w : World} {d lb mb nn : Nat} {L : List (List Int)} {M : Nat → Option (List Int)} {a b e : Int} (h : Hid (Dsk w d lb mb L M)) (hn : Hid (L.length = nn)) (hp : Hid (partB a b nn = false)) :
    Calls Try.prog 55 #[.pointer (some ⟨d, 0, none⟩), .int .i64 a, .int .i64 b, .int .i64 e] w fun en w' => en = .returned (.tuple #[.pointer none, .int .i64 3]) ∧ w = w' := open_range h.out a b e (by rw [hn.out]; exact hp.out)
theorem oepoch_at {w : World} {d lb mb nn : Nat} {L : List (List Int)} {M : Nat → Option (List Int)} {a b e : Int} (h : Hid (Dsk w d lb mb L M)) (hn : Hid (L.length = nn)) (hp : Hid (partB a b nn = true)) (he : Hid (numB e = false)) :
    Calls Try.prog 55 #[.pointer (some ⟨d, 0, none⟩), .int .i64 a, .int .i64 b, .int .i64 e] w fun en w' => en = .returned (.tuple #[.pointer none, .int .i64 1]) ∧ w = w' := by
  refine open_epoch h.out a b e (by rw [hn.out]; exact hp.out) ?_
  have h2 := he.out
  simp only [numB, Bool.and_eq_false_iff, decide_eq_false_iff_not] at h2
  omega
theorem ropen_at {w : World} {x rl rr rd fr n ep : Nat} {a b e : Int} {RL RR : List (List Int)} {RD : List Bool} {T : List Fr × Nat} (h : Hid (RDk w x rl rr rd RL RR RD)) (hab : Hid (((fr : Int) = a) ∧ ((n : Int) = b) ∧ ((ep : Int) = e))) (hn : Hid (fr + n ≤ RL.length)) (hT : Hid (allR (ep : Int) ((rfW RR fr n).length + 1) 0 (rfW RR fr n) = T)) (hws : Hid (WS (rfW RR fr n))) :
    Calls Try.prog 57 #[.pointer (some ⟨x, 0, none⟩), .int .i64 a, .int .i64 b, .int .i64 e] w fun en w' => ∃ g OB, en = .returned (.pointer (some ⟨g, 0, none⟩)) ∧
      Hid (RDk w' x rl rr rd (opE RL RR RD fr T.2 n).1 (opE RL RR RD fr T.2 n).2.1 (opE RL RR RD fr T.2 n).2.2) ∧ Hid (Rg w' g x fr n ep T.1 OB) ∧ Hid (w.heap.size ≤ g ∧ (∀ k, OB k → w.heap.size ≤ k)) ∧ Hid (Chg (TR rl rr rd) w w') := by
  obtain ⟨e1, e2, e3⟩ := hab.out
  subst e1 e2 e3
  exact (refOpen_any h.out hn.out T hT.out hws.out).mono fun en w' ⟨g, OB, h1, h2, h3, h4, h5⟩ => ⟨g, OB, h1, Lib.hid h2, Lib.hid h3, Lib.hid h4, Lib.hid h5⟩
end Go.Proofs.Ytmeoiennniknlaa.Log

namespace Go.Proofs.Ytmeoiennniknlaa.Log
open Go.RowKit Go.Shelf Go.Proofs.YtmeoiennniknlaaW.PrintWords Go.Proofs.Ytmeoiennniknlaa.Lb Go.Proofs.Ytmeoiennniknlaa.Frames
open Go.Proofs.Ytmeoiennniknlaa.Disk (Chg Chg.cell Sec secC secC_at agg8 thB Dsk cur upd lastL)
open Go.Proofs.Ytmeoiennniknlaa.Anchor (Blk zero8 below_set8)
open Go.Proofs.Ytmeoiennniknlaa.RDisk (RDk curL dirB BRow crashN)
set_option linter.unusedVariables false
set_option linter.unusedSimpArgs false

theorem bel_drew {w w' : World} (h : Below w.drew.heap.size w.drew w') : Below w.heap.size w w' := (RDisk.Below.drew' (Below.refl _ w)).trans h
theorem lasting_at {w0 W : World} {d lb mb i : Nat} {L : List (List Int)} {M : Nat → Option (List Int)} {s0 s1 s2 s3 s4 s5 s6 s7 : Int} (h : Hid (Dsk w0 d lb mb L M)) (hB : Hid (Below w0.heap.size w0 W)) (hi : Hid (i < L.length)) (hs : Hid (L.getD i [] = [s0, s1, s2, s3, s4, s5, s6, s7])) :
    Calls Try.prog 68 #[.pointer (some ⟨d, 0, none⟩), .int .i64 (i : Int)] W fun en w' => en = .returned (agg8 s0 s1 s2 s3 s4 s5 s6 s7) ∧ Hid (Below w0.heap.size w0 w') :=
  (lasting_any (h.out.below hB.out) i hi.out _ _ _ _ _ _ _ _ hs.out).mono fun en w' ⟨h1, h2⟩ => ⟨h1, Lib.hid (hB.out.trans (h2.mono hB.out.size))⟩
theorem far_new2 {w : World} {d lb mb x rl rr rd : Nat} {L : List (List Int)} {M : Nat → Option (List Int)} (h : Dsk w d lb mb L M) (hx : w.heap.size ≤ x ∧ w.heap.size ≤ rl ∧ w.heap.size ≤ rr ∧ w.heap.size ≤ rd) : (¬ TD d lb mb x) ∧ (¬ TD d lb mb rl) ∧ (¬ TD d lb mb rr) ∧ (¬ TD d lb mb rd) := by
  have h1 := h.ltd
  have h2 := h.ltl
  have h3 := h.ltm
  unfold TD
  omega
set_option maxRecDepth 100000 in
set_option maxHeartbeats 2000000 in
theorem plays_n (W : World) (n fr N ep : Int) (ov : Value) (h : n < 1 ∨ 40 < n) :
    Calls Try.prog 15 #[.int .i64 n, .int .i64 fr, .int .i64 N, .int .i64 ep, ov] W fun en w' => en = .returned (.bool true) ∧ Below W.heap.size W w' := by
  rcases h with h | h
  · go_enter Try.func15, Try.ntmps15
    go_wp2_with (go_at_call 53; (with_reducible refine (alive8_at _).mono ?_); rintro en w1 ⟨rfl, HB1⟩)
    go_ret
    exact ⟨rfl, HB1.out⟩
  · have h' : ¬ n < 1 := by omega
    go_enter Try.func15, Try.ntmps15
    go_wp2_with (go_at_call 53; (with_reducible refine (alive8_at _).mono ?_); rintro en w1 ⟨rfl, HB1⟩)
    go_ret
    exact ⟨rfl, HB1.out⟩
set_option maxRecDepth 100000 in
set_option maxHeartbeats 2000000 in
theorem plays_range (W : World) (n fr N ep : Int) (ov : Value) (h1 : 1 ≤ n) (h2 : n ≤ 40) (hp : partB fr N n.toNat = false) :
    Calls Try.prog 15 #[.int .i64 n, .int .i64 fr, .int .i64 N, .int .i64 ep, ov] W fun en w' => en = .returned (.bool true) ∧ Below W.heap.size W w' := by
  obtain ⟨nn, hnn⟩ : ∃ nn, n.toNat = nn := ⟨_, rfl⟩
  rw [hnn] at hp
  have HN : Hid ((nn : Int) = n) := Lib.hid (by omega)
  have HN2 : Hid (1 ≤ nn ∧ nn ≤ 4096) := Lib.hid (by omega)
  have HP := Lib.hid hp
  have HL : Hid ((List.replicate nn zero8).length = nn) := Lib.hid List.length_replicate
  clear hnn hp
  go_enter Try.func15, Try.ntmps15
  go_wp2_with (first
    | (go_at_call 53; (with_reducible refine (alive8_at _).mono ?_); rintro en w1 ⟨rfl, HB1⟩)
    | (go_at_call 45; (with_reducible refine (dnew_at HN HN2).mono ?_); rintro en w2 ⟨d, lb, mb, rfl, HD2, HDn, HB2⟩)
    | (go_at_call 54; (with_reducible refine (rnew_at HN HN2).mono ?_); rintro en w3 ⟨x, rl, rr, rd, rfl, HX3, HXn, HB3⟩; have HD3 := Lib.hid (HD2.out.below HB3.out))
    | (go_at_call 55; (with_reducible refine (orange_at HD3 HL HP).mono ?_); rintro en w4 ⟨rfl, rfl⟩)
    | (go_at_call 56; (with_reducible refine (rthere8_at HX3 HL HP).mono ?_); rintro en w5 ⟨rfl, rfl⟩))
  go_ret
  exact ⟨rfl, HB1.out.trans ((HB2.out.trans (HB3.out.mono HB2.out.size)).mono HB1.out.size)⟩
set_option maxRecDepth 100000 in
set_option maxHeartbeats 2000000 in
theorem plays_epoch (W : World) (n fr N ep : Int) (ov : Value) (h1 : 1 ≤ n) (h2 : n ≤ 40) (hp : partB fr N n.toNat = true) (he : numB ep = false) :
    Calls Try.prog 15 #[.int .i64 n, .int .i64 fr, .int .i64 N, .int .i64 ep, ov] W fun en w' => en = .returned (.bool true) ∧ Below W.heap.size W w' := by
  obtain ⟨nn, hnn⟩ : ∃ nn, n.toNat = nn := ⟨_, rfl⟩
  rw [hnn] at hp
  have HN : Hid ((nn : Int) = n) := Lib.hid (by omega)
  have HN2 : Hid (1 ≤ nn ∧ nn ≤ 4096) := Lib.hid (by omega)
  have HP := Lib.hid hp
  have HE := Lib.hid he
  have HL : Hid ((List.replicate nn zero8).length = nn) := Lib.hid List.length_replicate
  clear hnn hp he
  go_enter Try.func15, Try.ntmps15
  go_wp2_with (first
    | (go_at_call 53; (with_reducible refine (alive8_at _).mono ?_); rintro en w1 ⟨rfl, HB1⟩)
    | (go_at_call 45; (with_reducible refine (dnew_at HN HN2).mono ?_); rintro en w2 ⟨d, lb, mb, rfl, HD2, HDn, HB2⟩)
    | (go_at_call 54; (with_reducible refine (rnew_at HN HN2).mono ?_); rintro en w3 ⟨x, rl, rr, rd, rfl, HX3, HXn, HB3⟩; have HD3 := Lib.hid (HD2.out.below HB3.out))
    | (go_at_call 55; (with_reducible refine (oepoch_at HD3 HL HP HE).mono ?_); rintro en w4 ⟨rfl, rfl⟩)
    | (go_at_call 56; (with_reducible refine (rthere8_at HX3 HL HP).mono ?_); rintro en w5 ⟨rfl, rfl⟩)
    | (go_at_call 29; (with_reducible refine (rnum_at HE).mono ?_); rintro en w6 ⟨rfl, rfl⟩))
  go_ret
  exact ⟨rfl, HB1.out.trans ((HB2.out.trans (HB3.out.mono HB2.out.size)).mono HB1.out.size)⟩
end Go.Proofs.Ytmeoiennniknlaa.Log
