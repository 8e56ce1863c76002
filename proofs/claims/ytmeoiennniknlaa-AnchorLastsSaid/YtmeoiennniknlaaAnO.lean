/- For the statement AnchorLasts: what stands on the device; contracts that keep one more block. The walk of the statement AnchorLasts. The walk of AnchorLasts, in the order of its row. -/
import Derived.Test.YtmeoiennniknlaaAnM
import Derived.Test.YtmeoiennniknlaaDkI
namespace Go.Proofs.Ytmeoiennniknlaa.Anchor
open Go.RowKit Go.Shelf Go.Proofs.YtmeoiennniknlaaW.PrintWords Go.Proofs.Ytmeoiennniknlaa.Lb Go.Proofs.Ytmeoiennniknlaa.Sums
open Go.Proofs.Ytmeoiennniknlaa.Disk (Dsk Chg Sec cur upd thB dirty lastL lastP KJ)
set_option linter.unusedVariables false
set_option linter.unusedSimpArgs false

def secA (x : Anc) : List Int := [(amark x.n x.e x.a x.w : Int), x.n, x.e, x.a, x.w, 0, 0, 0]
theorem dirty_one {k n : Nat} (hk : k < n) (s : List Int) : dirty (upd (fun _ => none) k s) n = [k] := by
  have hp := Disk.dirty_sorted (upd (fun _ => none) k s) n
  have hm : ∀ j, j ∈ dirty (upd (fun _ => none) k s) n ↔ j = k := by
    intro j
    rw [Disk.mem_dirty]
    unfold upd
    by_cases e : j = k
    · subst e; simp [hk]
    · simp [e]
  generalize dirty (upd (fun _ => none) k s) n = l at hp hm
  match l, hp, hm with
  | [], _, hm => exact absurd ((hm k).2 rfl) (by simp)
  | [x], _, hm => rw [(hm x).1 (by simp)]
  | x :: y :: l, hp, hm =>
    have h1 := (hm x).1 (by simp)
    have h2 := (hm y).1 (by simp)
    have h3 := (List.pairwise_cons.1 hp).1 y (by simp)
    omega
theorem lastL_one {k : Nat} {L : List (List Int)} (hk : k < L.length) (s : List Int) (bit : Nat → Bool) : lastL (upd (fun _ => none) k s) bit L = if bit 0 = true then L.set k s else L := by
  unfold lastL
  rw [dirty_one hk]
  show lastP _ [k] bit L 1 = _
  unfold lastP
  show (if bit 0 = true then (lastP _ [k] bit L 0).set k ((upd (fun _ => none) k s k).getD []) else lastP _ [k] bit L 0) = _
  have e : (upd (fun _ => none) k s k).getD [] = s := by unfold upd; simp
  rw [e]; rfl

/-- What the two sectors say: the anchors of numbers up to i; r is told. -/
def St (i : Nat) (L : List (List Int)) (r : Option Anc) : Prop :=
  ∃ s0 s1 s2 s3 s4 s5 s6 s7 t0 t1 t2 t3 t4 t5 t6 t7 : Int, L = [[s0, s1, s2, s3, s4, s5, s6, s7], [t0, t1, t2, t3, t4, t5, t6, t7]] ∧ Sec [s0, s1, s2, s3, s4, s5, s6, s7] ∧ Sec [t0, t1, t2, t3, t4, t5, t6, t7] ∧
    (∀ x, rdA s0 s1 s2 s3 s4 s5 s6 s7 = some x → x.n ≤ i) ∧ (∀ x, rdA t0 t1 t2 t3 t4 t5 t6 t7 = some x → x.n ≤ i) ∧ findA (rdA s0 s1 s2 s3 s4 s5 s6 s7) (rdA t0 t1 t2 t3 t4 t5 t6 t7) = r
theorem St.zero : St 0 (List.replicate 2 zero8) none :=
  ⟨0, 0, 0, 0, 0, 0, 0, 0, 0, 0, 0, 0, 0, 0, 0, 0, rfl, Disk.Sec.zero, Disk.Sec.zero, fun x h => (by rw [zero_none] at h; cases h), fun x h => (by rw [zero_none] at h; cases h), by rw [zero_none]; rfl⟩
theorem St.len {i : Nat} {L : List (List Int)} {r : Option Anc} (h : St i L r) : L.length = 2 := by
  obtain ⟨s0, s1, s2, s3, s4, s5, s6, s7, t0, t1, t2, t3, t4, t5, t6, t7, rfl, _⟩ := h
  rfl
theorem findA_left {x : Anc} {r : Option Anc} (h0 : x.n % 2 = 0) (h : ∀ y, r = some y → y.n < x.n) : findA (some x) r = some x := by
  have e1 : (some x).filter (fun x => x.n % 2 == 0) = some x := by simp [Option.filter, h0]
  unfold findA
  rw [e1]
  cases r with
  | none => rfl
  | some y =>
    have hy := h y rfl
    cases e : (some y).filter (fun x => x.n % 2 == 1) with
    | none => rfl
    | some z =>
      have hz : z = y := by
        simp only [Option.filter] at e
        split at e
        · exact (Option.some.inj e).symm
        · cases e
      subst hz
      show (if x.n < z.n then some z else some x) = some x
      rw [if_neg (by omega)]
theorem findA_right {x : Anc} {r : Option Anc} (h0 : x.n % 2 = 1) (h : ∀ y, r = some y → y.n < x.n) : findA r (some x) = some x := by
  have e1 : (some x).filter (fun x => x.n % 2 == 1) = some x := by simp [Option.filter, h0]
  unfold findA
  rw [e1]
  cases r with
  | none => rfl
  | some y =>
    have hy := h y rfl
    cases e : (some y).filter (fun x => x.n % 2 == 0) with
    | none => rfl
    | some z =>
      have hz : z = y := by
        simp only [Option.filter] at e
        split at e
        · exact (Option.some.inj e).symm
        · cases e
      subst hz
      show (if z.n < x.n then some x else some z) = some x
      rw [if_pos (by omega)]
theorem St.step {i : Nat} {L : List (List Int)} {r : Option Anc} (h : St i L r) (x : Anc) (hx : ancB x.n x.e x.a x.w = true) (hn : x.n = (i : Int) + 1) : St (i + 1) (L.set (x.n.toNat % 2) (secA x)) (some x) := by
  obtain ⟨s0, s1, s2, s3, s4, s5, s6, s7, t0, t1, t2, t3, t4, t5, t6, t7, rfl, h1, h2, h3, h4, _⟩ := h
  have hr : rdA (amark x.n x.e x.a x.w : Int) x.n x.e x.a x.w 0 0 0 = some x := rdA_anc hx
  by_cases hp : x.n % 2 = 0
  · have e : x.n.toNat % 2 = 0 := by omega
    rw [e]
    refine ⟨_, _, _, _, _, _, _, _, t0, t1, t2, t3, t4, t5, t6, t7, rfl, ancSec hx, h2, fun y hy => ?_, fun y hy => ?_, ?_⟩
    · rw [hr] at hy; cases hy; omega
    · have := h4 y hy; omega
    · rw [hr]
      exact findA_left hp (fun y hy => by have := h4 y hy; omega)
  · have hp1 : x.n % 2 = 1 := by omega
    have e : x.n.toNat % 2 = 1 := by omega
    rw [e]
    refine ⟨s0, s1, s2, s3, s4, s5, s6, s7, _, _, _, _, _, _, _, _, rfl, h1, ancSec hx, fun y hy => ?_, fun y hy => ?_, ?_⟩
    · have := h3 y hy; omega
    · rw [hr] at hy; cases hy; omega
    · rw [hr]
      exact findA_right hp1 (fun y hy => by have := h3 y hy; omega)
theorem St.find {i : Nat} {L : List (List Int)} {r : Option Anc} (h : St i L r) : ∃ s0 s1 s2 s3 s4 s5 s6 s7 t0 t1 t2 t3 t4 t5 t6 t7, cur L (fun _ => none) 0 = [s0, s1, s2, s3, s4, s5, s6, s7] ∧ cur L (fun _ => none) 1 = [t0, t1, t2, t3, t4, t5, t6, t7] ∧ Sec [s0, s1, s2, s3, s4, s5, s6, s7] ∧ Sec [t0, t1, t2, t3, t4, t5, t6, t7] ∧ findA (rdA s0 s1 s2 s3 s4 s5 s6 s7) (rdA t0 t1 t2 t3 t4 t5 t6 t7) = r := by
  obtain ⟨s0, s1, s2, s3, s4, s5, s6, s7, t0, t1, t2, t3, t4, t5, t6, t7, rfl, h1, h2, h3, h4, h5⟩ := h
  exact ⟨s0, s1, s2, s3, s4, s5, s6, s7, t0, t1, t2, t3, t4, t5, t6, t7, rfl, rfl, h1, h2, h5⟩

/-- The statement's memory: the device, and one anchor in a block of its own. -/
structure LJ (W V : World) (d lb mb g : Nat) (L : List (List Int)) (M : Nat → Option (List Int)) (x : Anc) : Prop where
  dsk : Dsk V d lb mb L M
  las : Blk V g [.int .i64 x.n, .int .i64 x.e, .int .i64 x.a, .int .i64 x.w] 58
  bel : Below W.heap.size W V
  old : W.heap.size ≤ d ∧ W.heap.size ≤ lb ∧ W.heap.size ≤ mb ∧ W.heap.size ≤ g
  ne : d ≠ g ∧ lb ≠ g ∧ mb ≠ g
section
variable {W V V' : World} {d lb mb g : Nat} {L : List (List Int)} {M : Nat → Option (List Int)} {x : Anc}
theorem LJ.below (h : LJ W V d lb mb g L M x) (hb : Below V.heap.size V V') : LJ W V' d lb mb g L M x := ⟨h.dsk.below hb, h.las.below hb, h.bel.trans (hb.mono h.bel.size), h.old, h.ne⟩
theorem LJ.alloc (h : LJ W V d lb mb g L M x) (o : Obj) : LJ W (V.alloc o) d lb mb g L M x := h.below ((Below.refl _ V).alloc (Nat.le_refl _) o)
theorem LJ.put (h : LJ W V d lb mb g L M x) (n e a w : Int) : LJ W ((((V.setCell ⟨g, 0, none⟩ (.int .i64 n)).setCell ⟨g, 1, none⟩ (.int .i64 e)).setCell ⟨g, 2, none⟩ (.int .i64 a)).setCell ⟨g, 3, none⟩ (.int .i64 w)) d lb mb g L M ⟨n, e, a, w⟩ := by
  have hc : Chg (fun k => k = g) V ((((V.setCell ⟨g, 0, none⟩ (.int .i64 n)).setCell ⟨g, 1, none⟩ (.int .i64 e)).setCell ⟨g, 2, none⟩ (.int .i64 a)).setCell ⟨g, 3, none⟩ (.int .i64 w)) :=
    (((Chg.set (S := fun k => k = g) (p := ⟨g, 0, none⟩) rfl V _).trans (Chg.set (S := fun k => k = g) (p := ⟨g, 1, none⟩) rfl _ _)).trans (Chg.set (S := fun k => k = g) (p := ⟨g, 2, none⟩) rfl _ _)).trans (Chg.set (S := fun k => k = g) (p := ⟨g, 3, none⟩) rfl _ _)
  exact ⟨h.dsk.kept hc h.ne.1 h.ne.2.1 h.ne.2.2, (((h.las.set 0 _).set 1 _).set 2 _).set 3 _, below_set4 h.bel h.old.2.2.2 _ _ _ _, h.old, h.ne⟩
theorem LJ.chg {S : Nat → Prop} {L' : List (List Int)} {M' : Nat → Option (List Int)} (h : LJ W V d lb mb g L M x) (hd : Dsk V' d lb mb L' M') (hc : Chg S V V') (hg : ¬ S g) (hS : ∀ k, S k → W.heap.size ≤ k) : LJ W V' d lb mb g L' M' x :=
  ⟨hd, hc.blk h.las hg, h.bel.trans (hc.below h.bel.size hS), h.old, h.ne⟩
theorem awrite_lj {n e a w : Int} (h : Hid (LJ W V d lb mb g L M x)) (hL : Hid (L.length = 2)) (hm : Hid (ancB n e a w = true)) :
    Calls Try.prog 49 #[.pointer (some ⟨d, 0, none⟩), agg4 n e a w] V fun en V' => en = .returned (.int .i64 0) ∧ Hid (LJ W V' d lb mb g L (upd M (n.toNat % 2) (secA ⟨n, e, a, w⟩)) x) ∧ Hid (Chg (fun k => k = d ∨ k = lb ∨ k = mb) V V') := by
  refine (aWrite_in h.out.dsk (by have := hL.out; omega) n e a w hm.out).mono fun en V' ⟨h1, h2, h3⟩ => ⟨h1, Lib.hid (h.out.chg h2 h3 ?_ ?_), Lib.hid (h3.mono fun k hk => ?_)⟩
  · rintro (e | e)
    · exact h.out.ne.1 e.symm
    · exact h.out.ne.2.2 e.symm
  · rintro k (rfl | rfl)
    · exact h.out.old.1
    · exact h.out.old.2.2.1
  · rcases hk with h | h
    · exact Or.inl h
    · exact Or.inr (Or.inr h)
theorem sync_lj (h : Hid (LJ W V d lb mb g L M x)) :
    Calls Try.prog 50 #[.pointer (some ⟨d, 0, none⟩)] V fun en V' => en = .returned (.tuple #[]) ∧ Hid (LJ W V' d lb mb g (lastL M (fun _ => true) L) (fun _ => none) x) := by
  refine (Disk.sync_any h.out.dsk).mono fun en V' ⟨h1, h2, h3⟩ => ⟨h1, Lib.hid (h.out.chg h2 h3 ?_ ?_)⟩
  · rintro (e | e | e)
    · exact h.out.ne.1 e.symm
    · exact h.out.ne.2.1 e.symm
    · exact h.out.ne.2.2 e.symm
  · rintro k (rfl | rfl | rfl)
    · exact h.out.old.1
    · exact h.out.old.2.1
    · exact h.out.old.2.2.1
theorem keeps_lj {b : Bool} (h : Hid (LJ W V d lb mb g L M x)) :
    Calls Try.prog 52 #[.slice (some ⟨V.heap.size, 0, none⟩) 1 1] (V.alloc (.cells #[.bool b] 4)) fun en V' => ∃ cb bb, en = .returned (.func (.func 87) #[] #[.pointer (some ⟨cb, 0, none⟩), .pointer (some ⟨bb, 0, none⟩)]) ∧
      Hid (LJ W V' d lb mb g L M x) ∧ Hid (Below V.heap.size V V') ∧ Hid (V.heap.size ≤ cb ∧ cb < V'.heap.size) ∧ Hid (KJ [b] (some ⟨V.heap.size, 0, none⟩) 1 V.heap.size 0 cb bb lb 0 V') := by
  refine (Disk.keeps_any _ _ _ _).mono ?_
  rintro en V' ⟨rfl, rfl⟩
  have b0 := ((Blk.new V [.bool b] 4).alloc (.cells #[.slice (some ⟨V.heap.size, 0, none⟩) 1 1] 79)).alloc (.cells #[.int .i64 0] 3)
  have b1 := (Blk.new (V.alloc (.cells #[.bool b] 4)) [.slice (some ⟨V.heap.size, 0, none⟩) 1 1] 79).alloc (.cells #[.int .i64 0] 3)
  have b2 := Blk.new ((V.alloc (.cells #[.bool b] 4)).alloc (.cells #[.slice (some ⟨V.heap.size, 0, none⟩) 1 1] 79)) [.int .i64 0] 3
  have hl := h.out.dsk.ltl
  have hb : Below V.heap.size V (((V.alloc (.cells #[.bool b] 4)).alloc (.cells #[.slice (some ⟨V.heap.size, 0, none⟩) 1 1] 79)).alloc (.cells #[.int .i64 0] 3)) :=
    (((Below.refl _ V).alloc (Nat.le_refl _) _).alloc (by simp) _).alloc (by simp; omega) _
  rw [World.size_alloc] at b1
  rw [World.size_alloc, World.size_alloc] at b2
  rw [World.size_alloc]
  refine ⟨_, _, rfl, Lib.hid (h.out.below hb), Lib.hid hb, Lib.hid ⟨by omega, by simp⟩, Lib.hid ⟨b2, b1, ⟨by omega, by omega, by omega⟩, fun _ => ⟨rfl, b0.lt, by omega, by omega⟩, fun j hj => ?_⟩⟩
  have e : j = 0 := by simpa using hj
  subst e
  rw [b0.cell]; rfl
theorem crash_lj {l : List Bool} {A : Option Addr} {cap g' o cb bb : Nat} (h : Hid (LJ W V d lb mb g L M x)) (hl : Hid (l.length ≤ 1000000)) (hk : Hid (KJ l A cap g' o cb bb lb 0 V)) (hc : Hid (d < cb ∧ lb < cb ∧ mb < cb ∧ g < cb)) :
    Calls Try.prog 51 #[.pointer (some ⟨d, 0, none⟩), .func (.func 87) #[] #[.pointer (some ⟨cb, 0, none⟩), .pointer (some ⟨bb, 0, none⟩)]] V fun en V' => en = .returned (.tuple #[]) ∧ Hid (LJ W V' d lb mb g (lastL M (fun k => l.getD k false) L) (fun _ => none) x) ∧ Hid (Chg (fun k => k = lb ∨ k = mb ∨ k = cb) V V') := by
  obtain ⟨c1, c2, c3, c4⟩ := hc.out
  refine (Disk.crash_any h.out.dsk (Disk.keep_keeps l hl.out A cap g' o cb bb lb) hk.out ⟨by omega, by omega, by omega, fun k hk' => by rw [hk']; exact hk.out.ctr.lt⟩).mono fun en V' ⟨h1, h2, h3⟩ => ⟨h1, Lib.hid (h.out.chg h2 h3 ?_ ?_), Lib.hid h3⟩
  · rintro (e | e | e)
    · exact h.out.ne.2.1 e.symm
    · exact h.out.ne.2.2 e.symm
    · omega
  · rintro k (rfl | rfl | rfl)
    · exact h.out.old.2.1
    · exact h.out.old.2.2.1
    · have := h.out.old.2.2.2; omega
theorem findS_lj {i : Nat} {y : Anc} (h : Hid (LJ W V d lb mb g L (fun _ => none) x)) (hs : Hid (St i L (some y))) :
    Calls Try.prog 47 #[.pointer (some ⟨d, 0, none⟩)] V fun en V' => en = .returned (.tuple #[agg4 y.n y.e y.a y.w, .int .i64 0]) ∧ Hid (LJ W V' d lb mb g L (fun _ => none) x) ∧ Hid (Below V.heap.size V V') := by
  have H := finds_at (W := V) (r := some y) (Lib.hid h.out.dsk) (Lib.hid (by have := hs.out.len; omega)) (Lib.hid hs.out.find) (Lib.hid (Below.refl _ V))
  exact H.mono fun en V' ⟨h1, h2, _⟩ => ⟨h1, Lib.hid (h.out.below h2.out), h2⟩
theorem findN_lj {i : Nat} (h : Hid (LJ W V d lb mb g L (fun _ => none) x)) (hs : Hid (St i L none)) :
    Calls Try.prog 47 #[.pointer (some ⟨d, 0, none⟩)] V fun en V' => en = .returned (.tuple #[agg4 0 0 0 0, .int .i64 5]) ∧ Hid (LJ W V' d lb mb g L (fun _ => none) x) ∧ Hid (Below V.heap.size V V') := by
  have H := finds_at (W := V) (r := none) (Lib.hid h.out.dsk) (Lib.hid (by have := hs.out.len; omega)) (Lib.hid hs.out.find) (Lib.hid (Below.refl _ V))
  exact H.mono fun en V' ⟨h1, h2, _⟩ => ⟨h1, Lib.hid (h.out.below h2.out), h2⟩
end
end Go.Proofs.Ytmeoiennniknlaa.Anchor

namespace Go.Proofs.Ytmeoiennniknlaa.Anchor
open Go.RowKit Go.Shelf Go.Proofs.YtmeoiennniknlaaW.PrintWords Go.Proofs.Ytmeoiennniknlaa.Lb Go.Proofs.Ytmeoiennniknlaa.Sums
open Go.Proofs.Ytmeoiennniknlaa.Disk (Dsk Chg Sec cur upd thB dirty lastL lastP KJ w64s kq_less kq_next)
set_option linter.unusedVariables false
set_option linter.unusedSimpArgs false

theorem tmod2 (i : Nat) : ((i : Int).tmod 2) = (i : Int) % 2 := Int.tmod_eq_emod_of_nonneg (by omega)
def lastR (i : Nat) (x : Anc) : Option Anc := if i = 0 then none else some x
theorem far_cb {W V : World} {d lb mb g cb : Nat} {L : List (List Int)} {M : Nat → Option (List Int)} {x : Anc} (h : LJ W V d lb mb g L M x) (hc : V.heap.size ≤ cb) : d < cb ∧ lb < cb ∧ mb < cb ∧ g < cb := by
  have h1 := h.dsk.ltd
  have h2 := h.dsk.ltl
  have h3 := h.dsk.ltm
  have h4 := h.las.lt
  omega
theorem far_ne {n d lb mb m cb : Nat} (h : ¬ (n = d ∨ n = lb ∨ n = mb)) (h1 : n < m) (h2 : m ≤ cb) : ¬ (n = lb ∨ n = mb ∨ n = cb) := by omega
set_option maxRecDepth 100000 in
set_option maxHeartbeats 1000000 in
theorem lasts_walk (W : World) (A : Option Addr) (c : Nat) (l : List Int) (hl : ∀ x ∈ l, 0 ≤ x ∧ x < 256) (hC : (Kd.int .u8).C W A l.length l) (hlen : l.length ≤ 140737488351232) (ep : Int) (he : 0 ≤ ep ∧ ep < 65536) (keep : Bool) :
    Calls Try.prog 14 #[.slice A l.length c, .int .u16 ep, .bool keep] W fun en W' => en = .returned (.bool true) ∧ Below W.heap.size W W' := by
  by_cases h40 : 40 < l.length
  · have i40 : (40 : Int) < (l.length : Int) := by omega
    go_enter Try.func14, Try.ntmps14
    go_wp2_with (go_at_call 39; (with_reducible refine (alive7_any _).mono ?_); rintro en w1 ⟨rfl, hb⟩; have K1 := Lib.hid hb; clear hb)
    go_ret
    exact ⟨rfl, K1.out⟩
  · have i40 : ¬ (40 : Int) < (l.length : Int) := by omega
    have HN := Lib.hid h40
    have HL := Lib.hid hl
    have HC := Lib.hid hC
    have HE := Lib.hid he
    have N2 : Hid (((2 : Nat) : Int) = 2) := Lib.hid rfl
    have R2 : Hid (1 ≤ 2 ∧ 2 ≤ 4096) := Lib.hid (by decide)
    clear hl hC he h40 hlen
    go_enter Try.func14, Try.ntmps14
    go_wp2_with (first
      | (go_at_call 39; (with_reducible refine (alive7_any _).mono ?_); rintro en w1 ⟨rfl, hb⟩; have K1 := Lib.hid hb; clear hb)
      | (go_at_call 45; (with_reducible refine (new_at N2 R2).mono ?_); rintro en w2 ⟨d, lb, mb, rfl, HD2, HB, KW2⟩))
    obtain ⟨V, hV⟩ : ∃ V, V = w2.alloc (.cells #[.int .i64 0, .int .i64 0, .int .i64 0, .int .i64 0] 58) := ⟨_, rfl⟩
    obtain ⟨g, hg⟩ : ∃ g, g = w2.heap.size := ⟨_, rfl⟩
    have HJ : Hid (LJ W V d lb mb g (List.replicate 2 zero8) (fun _ => none) ⟨0, 0, 0, 0⟩) := by
      rw [hV, hg]
      have h1 := K1.out.size
      have h2 := HB.out
      have h3 := HD2.out.ltd
      have h4 := HD2.out.ltl
      have h5 := HD2.out.ltm
      exact Lib.hid ⟨HD2.out.alloc _, Blk.new w2 _ _, ((K1.out.trans (KW2.out.mono h1)).alloc (by omega) _), ⟨by omega, by omega, by omega, by omega⟩, ⟨by omega, by omega, by omega⟩⟩
    rw [← hV, ← hg]
    clear hV hg HD2 HB KW2
    go_loopg [8, 10] l.length (fun kq v8 v10 wr => ∃ (i : Nat) (x : Anc) (L : List (List Int)), v8 = .int .i64 (i : Int) ∧ v10 = .int .i64 (i : Int) ∧ Hid (i + kq = l.length) ∧ Hid (LJ W wr d lb mb g L (fun _ => none) x) ∧ Hid (St i L (lastR i x)))
    case atStart => exact ⟨0, _, _, rfl, rfl, Lib.hid (by omega), HJ, Lib.hid St.zero⟩
    case round =>
      obtain ⟨i, x, L, rfl, rfl, Hi, Hj, Hs⟩ := hrel
      by_cases h : i < l.length
      · have hi : (i : Int) < (l.length : Int) := by omega
        obtain ⟨ad, rfl, hz⟩ := Frames.C_cell (Kd.C_below HC.out Hj.out.bel) i h
        obtain ⟨hz0, hz1⟩ := HL.out _ (List.getElem_mem h)
        obtain ⟨z, hze⟩ : ∃ z, l[i] = z := ⟨_, rfl⟩
        rw [hze] at hz hz0 hz1
        have hn := HN.out
        have hw : wrap64 ((i : Int) + 1) = (i : Int) + 1 := w64s (by omega) (by omega)
        have htm := tmod2 i
        have HA : Hid (ancB ((i : Int) + 1) z ((i : Int) % 2) (i : Int) = true) := Lib.hid (ancB_true.2 ⟨⟨by omega, by omega⟩, ⟨by omega, by omega⟩, ⟨by omega, by omega⟩, ⟨by omega, by omega⟩⟩)
        have q := Hj.out.las.cell
        have f := Hj.out.las.frozen
        have zl := Hj.out.las.lt
        have HP := Lib.hid (Hj.out.put ((i : Int) + 1) z ((i : Int) % 2) (i : Int))
        have H2 : Hid (L.length = 2) := Lib.hid Hs.out.len
        clear hze hn
        go_wp2_with (first
          | (go_at_call 49; (with_reducible refine (awrite_lj HP H2 HA).mono ?_); rintro en w3 ⟨rfl, HJ3, _⟩)
          | (go_at_call 50; (with_reducible refine (sync_lj HJ3).mono ?_); rintro en w4 ⟨rfl, HJ4⟩))
        go_roundg (gk - 1)
        case measure => exact kq_less Hi.out h
        case rel =>
          have HS4 := Hs.out.step ⟨(i : Int) + 1, z, (i : Int) % 2, (i : Int)⟩ HA.out rfl
          have HJ5 := HJ4.out
          rw [lastL_one (by have := H2.out; omega), if_pos rfl] at HJ5
          exact ⟨i + 1, _, _, by simp, by simp [hw], Lib.hid (kq_next Hi.out h), Lib.hid HJ5, Lib.hid HS4⟩
      · have hi : ¬ (i : Int) < (l.length : Int) := by omega
        have hie : i = l.length := by have := Hi.out; omega
        subst hie
        have hn := HN.out
        obtain ⟨he0, he1⟩ := HE.out
        have HA : Hid (ancB ((l.length : Int) + 1) ep 0 0 = true) := Lib.hid (ancB_true.2 ⟨⟨by omega, by omega⟩, ⟨by omega, by omega⟩, ⟨by omega, by omega⟩, ⟨by omega, by omega⟩⟩)
        have H2 : Hid (L.length = 2) := Lib.hid Hs.out.len
        have BN : Hid (∀ X : World, Blk (X.alloc (.cells #[.int .i64 ((l.length : Int) + 1), .int .i64 ep, .int .i64 0, .int .i64 0] 58)) X.heap.size [.int .i64 ((l.length : Int) + 1), .int .i64 ep, .int .i64 0, .int .i64 0] 58) := Lib.hid (fun X => Blk.new X [.int .i64 ((l.length : Int) + 1), .int .i64 ep, .int .i64 0, .int .i64 0] 58)
        have H1 := Lib.hid (Hj.out.alloc (.cells #[.int .i64 ((l.length : Int) + 1), .int .i64 ep, .int .i64 0, .int .i64 0] 58))
        have NE : Hid (¬ (wr.heap.size = d ∨ wr.heap.size = lb ∨ wr.heap.size = mb)) := Lib.hid (by
          have h3 := Hj.out.dsk.ltd
          have h4 := Hj.out.dsk.ltl
          have h5 := Hj.out.dsk.ltm
          omega)
        have HLT := Lib.hid Hj.out.las.lt
        have hk2 : (((l.length : Int) + 1).toNat % 2) < L.length := by have := H2.out; omega
        have L1 : Hid ([keep].length ≤ 1000000) := Lib.hid (by simp)
        have hw : wrap64 ((l.length : Int) + 1) = (l.length : Int) + 1 := w64s (by omega) (by omega)
        clear hn
        cases keep with
        | true =>
          have HS8 : Hid (St (l.length + 1) (lastL (upd (fun _ => none) (((l.length : Int) + 1).toNat % 2) (secA ⟨(l.length : Int) + 1, ep, 0, 0⟩)) (fun k => [true].getD k false) L) (some ⟨(l.length : Int) + 1, ep, 0, 0⟩)) := by
            rw [lastL_one hk2, if_pos (show [true].getD 0 false = true from rfl)]
            exact Lib.hid (Hs.out.step ⟨(l.length : Int) + 1, ep, 0, 0⟩ HA.out rfl)
          clear hk2
          go_wp2_with (first
            | (go_at_call 49; (with_reducible refine (awrite_lj H1 H2 HA).mono ?_); rintro en w6 ⟨rfl, HJ6, HC6⟩; have HB6 := Lib.hid (HC6.out.blk (BN.out wr) NE.out))
            | (go_at_call 52; (with_reducible refine (keeps_lj HJ6).mono ?_); rintro en w7 ⟨cb, bb, rfl, HJ7, HW7, HCB, HKJ⟩; have HB7 := Lib.hid (HB6.out.below HW7.out); have HQ := Lib.hid (far_cb HJ6.out HCB.out.1))
            | (go_at_call 51; (with_reducible refine (crash_lj HJ7 L1 HKJ HQ).mono ?_); rintro en w8 ⟨rfl, HJ8, HC8⟩; have HB8 := Lib.hid (HC8.out.blk HB7.out (far_ne NE.out HB6.out.lt HCB.out.1)))
            | (go_at_call 47; (with_reducible refine (findS_lj HJ8 HS8).mono ?_); rintro en w9 ⟨rfl, HJ9, HB9⟩; have cB := (HB8.out.below HB9.out).cell; have zB := (HB8.out.below HB9.out).lt))
          go_ret
          exact ⟨rfl, HJ9.out.bel.alloc HJ9.out.bel.size _⟩
        | false =>
          have HS8 : Hid (St l.length (lastL (upd (fun _ => none) (((l.length : Int) + 1).toNat % 2) (secA ⟨(l.length : Int) + 1, ep, 0, 0⟩)) (fun k => [false].getD k false) L) (lastR l.length x)) := by
            rw [lastL_one hk2, if_neg (by decide)]
            exact Hs
          clear hk2
          by_cases h0 : l.length = 0
          · have H0 := Lib.hid h0
            have hd : ((l.length : Int) == 0) = true := by simp [h0]
            have HS9 : Hid (St l.length (lastL (upd (fun _ => none) (((l.length : Int) + 1).toNat % 2) (secA ⟨(l.length : Int) + 1, ep, 0, 0⟩)) (fun k => [false].getD k false) L) none) := by
              have e : lastR l.length x = none := if_pos h0
              rw [e] at HS8
              exact HS8
            clear h0 HS8
            go_wp2_with (first
              | (go_at_call 49; (with_reducible refine (awrite_lj H1 H2 HA).mono ?_); rintro en w6 ⟨rfl, HJ6, HC6⟩; have HB6 := Lib.hid (HC6.out.blk (BN.out wr) NE.out))
              | (go_at_call 52; (with_reducible refine (keeps_lj HJ6).mono ?_); rintro en w7 ⟨cb, bb, rfl, HJ7, HW7, HCB, HKJ⟩; have HB7 := Lib.hid (HB6.out.below HW7.out); have HQ := Lib.hid (far_cb HJ6.out HCB.out.1))
              | (go_at_call 51; (with_reducible refine (crash_lj HJ7 L1 HKJ HQ).mono ?_); rintro en w8 ⟨rfl, HJ8, HC8⟩; have HB8 := Lib.hid (HC8.out.blk HB7.out (far_ne NE.out HB6.out.lt HCB.out.1)))
              | (go_at_call 47; (with_reducible refine (findN_lj HJ8 HS9).mono ?_); rintro en w9 ⟨rfl, HJ9, HB9⟩; have cB := (HB8.out.below HB9.out).cell; have zB := (HB8.out.below HB9.out).lt))
            all_goals first
              | (exfalso; have e := H0.out; omega)
              | (go_ret; exact ⟨rfl, HJ9.out.bel.alloc HJ9.out.bel.size _⟩)
          · have hd : ((l.length : Int) == 0) = false := by simp [h0]
            have HS9 : Hid (St l.length (lastL (upd (fun _ => none) (((l.length : Int) + 1).toNat % 2) (secA ⟨(l.length : Int) + 1, ep, 0, 0⟩)) (fun k => [false].getD k false) L) (some x)) := by
              have e : lastR l.length x = some x := if_neg h0
              rw [e] at HS8
              exact HS8
            have A0 : Hid (ancB 0 0 0 0 = false) := Lib.hid (by decide)
            clear h0 HS8
            go_wp2_with (first
              | (go_at_call 49; (with_reducible refine (awrite_lj H1 H2 HA).mono ?_); rintro en w6 ⟨rfl, HJ6, HC6⟩; have HB6 := Lib.hid (HC6.out.blk (BN.out wr) NE.out))
              | (go_at_call 52; (with_reducible refine (keeps_lj HJ6).mono ?_); rintro en w7 ⟨cb, bb, rfl, HJ7, HW7, HCB, HKJ⟩; have HB7 := Lib.hid (HB6.out.below HW7.out); have HQ := Lib.hid (far_cb HJ6.out HCB.out.1))
              | (go_at_call 51; (with_reducible refine (crash_lj HJ7 L1 HKJ HQ).mono ?_); rintro en w8 ⟨rfl, HJ8, HC8⟩; have HB8 := Lib.hid (HC8.out.blk HB7.out (far_ne NE.out HB6.out.lt HCB.out.1)))
              | (go_at_call 47; (with_reducible refine (findS_lj HJ8 HS9).mono ?_); rintro en w9 ⟨rfl, HJ9, HB9⟩; have cB := (HB8.out.below HB9.out).cell; have zB := (HB8.out.below HB9.out).lt; have cX := HJ9.out.las.cell; have zX := HJ9.out.las.lt)
              | (go_at_call 49; (with_reducible refine (aWrite_no _ _ 0 0 0 0 A0.out).mono ?_); rintro en wX ⟨rfl, hb⟩; have HBX := Lib.hid hb; clear hb))
            go_ret
            exact ⟨rfl, (HJ9.out.bel.alloc HJ9.out.bel.size _).trans (HBX.out.mono (Nat.le_trans HJ9.out.bel.size (by simp)))⟩
end Go.Proofs.Ytmeoiennniknlaa.Anchor

namespace Go.Proofs.Ytmeoiennniknlaa.Anchor
open Go.RowKit Go.Shelf Go.Proofs.YtmeoiennniknlaaW.PrintWords Go.Proofs.Ytmeoiennniknlaa.Lb Go.Proofs.Ytmeoiennniknlaa.Sums
theorem lasts_law (W : World) {a0 : Option Addr} {cap0 : Nat} (l0 : List Int) (_ : l0.length ≤ maxLen) (y0 : l0.length * 1 ≤ 140737488351232) (hw0 : ∀ x ∈ l0, (Lit.int .u8 x).wf = true) (_ : l0.length ≤ cap0) (hr0 : (Kd.int .u8).C W a0 l0.length l0) (a1 : Int) (w1 : (Lit.int .u16 a1).wf = true) (a2 : Bool) :
    Calls Try.prog 14 #[.slice a0 l0.length cap0, .int .u16 a1, .bool a2] W fun e W' => e = .returned (.bool true) ∧ Below W.heap.size W W' :=
  lasts_walk W a0 cap0 l0 (fun x hx => by have h := Go.bounds_u8 (hw0 x hx); omega) hr0 (by omega) a1 (by have h := Go.bounds_u16 w1; omega) a2
end Go.Proofs.Ytmeoiennniknlaa.Anchor
