/- The reference's device (package gimmalref03) in memory: New, There, Write. The reference's device: There, Write. The reference's device: Sync. The reference's device: Crash. What a crash, and a sync, leave: one on both sides. -/
import Derived.Test.YtmeoiennniknlaaDkI
import Derived.RegionTactic
namespace Go.Proofs.Ytmeoiennniknlaa.RDisk
open Go.RowKit Go.Shelf Go.Proofs.YtmeoiennniknlaaW.PrintWords Go.Proofs.Ytmeoiennniknlaa.Lb Go.Proofs.Ytmeoiennniknlaa.Anchor
open Go.Proofs.Ytmeoiennniknlaa.Disk (Chg Sec secC secC_at agg8)
set_option linter.unusedVariables false
set_option linter.unusedSimpArgs false

/-- A device of the reference's at block x: what lasts, what is read, which are dirty. -/
structure RDk (w : World) (x rl rr rd : Nat) (RL RR : List (List Int)) (RD : List Bool) : Prop where
  len : 1 ≤ RL.length ∧ RL.length ≤ 4096
  lenR : RR.length = RL.length
  lenD : RD.length = RL.length
  secL : ∀ s ∈ RL, Sec s
  secR : ∀ s ∈ RR, Sec s
  ne : rl ≠ rr
  obj : Blk w x [.slice (some ⟨rl, 0, none⟩) RL.length RL.length, .slice (some ⟨rr, 0, none⟩) RL.length RL.length, .slice (some ⟨rd, 0, none⟩) RL.length RL.length] 101
  las : Blk w rl (secC RL) 59
  red : Blk w rr (secC RR) 59
  dir : Blk w rd (RD.map Value.bool) 4
theorem blk_ne {w : World} {a b : Nat} {cs ds : List Value} {s t : TypeId} (h : Blk w a cs s) (k : Blk w b ds t) (hst : s ≠ t) : a ≠ b := by
  rintro rfl
  have h2 := (show w.heap[a]? = _ from h).symm.trans (show w.heap[a]? = _ from k)
  simp only [Option.some.injEq, Obj.cells.injEq] at h2
  exact hst h2.2.1
section
variable {w w' : World} {x rl rr rd : Nat} {RL RR : List (List Int)} {RD : List Bool} {S : Nat → Prop}
theorem RDk.nxl (h : RDk w x rl rr rd RL RR RD) : x ≠ rl := blk_ne h.obj h.las (by decide)
theorem RDk.nxr (h : RDk w x rl rr rd RL RR RD) : x ≠ rr := blk_ne h.obj h.red (by decide)
theorem RDk.nxd (h : RDk w x rl rr rd RL RR RD) : x ≠ rd := blk_ne h.obj h.dir (by decide)
theorem RDk.nld (h : RDk w x rl rr rd RL RR RD) : rl ≠ rd := blk_ne h.las h.dir (by decide)
theorem RDk.nrd (h : RDk w x rl rr rd RL RR RD) : rr ≠ rd := blk_ne h.red h.dir (by decide)
theorem RDk.kept (h : RDk w x rl rr rd RL RR RD) (hc : Chg S w w') (h0 : ¬ S x) (h1 : ¬ S rl) (h2 : ¬ S rr) (h3 : ¬ S rd) : RDk w' x rl rr rd RL RR RD :=
  ⟨h.len, h.lenR, h.lenD, h.secL, h.secR, h.ne, hc.blk h.obj h0, hc.blk h.las h1, hc.blk h.red h2, hc.blk h.dir h3⟩
theorem RDk.below (h : RDk w x rl rr rd RL RR RD) (hb : Below w.heap.size w w') : RDk w' x rl rr rd RL RR RD := h.kept (S := fun _ => False) (Chg.of_below hb) id id id id
theorem RDk.alloc (h : RDk w x rl rr rd RL RR RD) (o : Obj) : RDk (w.alloc o) x rl rr rd RL RR RD := h.below ((Below.refl _ w).alloc (Nat.le_refl _) o)
end

theorem infoBool : (Try.prog.info? 4).map (fun i => (i.zero, i.size, i.bytes)) = some (some (.bool false), 1, 1) := by kernel_rfl
theorem run_bools (n : Nat) (hn : n ≤ 1000000) (W : World) : (Instr.makeSlice 79 (.int .i64 (n : Int)) (.int .i64 (n : Int))).run Try.prog W = .ok (.slice (some ⟨W.heap.size, 0, none⟩) n n) (W.alloc (.cells (List.replicate n (Value.bool false)).toArray 4)) := by
  obtain ⟨i, hi, hz⟩ := Option.map_eq_some_iff.1 infoBool
  simp only [Prod.mk.injEq] at hz
  obtain ⟨hz0, hz1, hz2⟩ := hz
  have h := run_make (P := Try.prog) W 79 4 i _ Try.underlying79 hi hz0 .i64 .i64 (n : Int) (n : Int) (by omega) (Int.le_refl _) (by rw [hz2]; omega) (by omega)
  simp only [Int.toNat_natCast, hz1, Value.cells, Nat.mul_one] at h
  rw [show madeCells #[Value.bool false] n = (List.replicate n (Value.bool false)).toArray from ?_] at h
  · exact h
  · apply Array.ext
    · simp [madeCells]
    · intro j h1 h2
      simp [madeCells, Nat.mod_one]

theorem alloc4_3 (W : World) (a b c d : Obj) : ((((W.alloc a).alloc b).alloc c).alloc d).drew.heap[W.heap.size + 1 + 1 + 1]? = some d := by
  have h := heap_alloc_new (((W.alloc a).alloc b).alloc c) d
  simp only [World.size_alloc] at h
  exact h
theorem alloc4_2 (W : World) (a b c d : Obj) : ((((W.alloc a).alloc b).alloc c).alloc d).drew.heap[W.heap.size + 1 + 1]? = some c := by
  have h := heap_alloc_new ((W.alloc a).alloc b) c
  simp only [World.size_alloc] at h
  exact (Below.heap_alloc _ d _ (by simp)).trans h
theorem alloc4_1 (W : World) (a b c d : Obj) : ((((W.alloc a).alloc b).alloc c).alloc d).drew.heap[W.heap.size + 1]? = some b := by
  have h := heap_alloc_new (W.alloc a) b
  simp only [World.size_alloc] at h
  exact (Below.heap_alloc _ d _ (by simp)).trans ((Below.heap_alloc _ c _ (by simp)).trans h)
theorem alloc4_0 (W : World) (a b c d : Obj) : ((((W.alloc a).alloc b).alloc c).alloc d).drew.heap[W.heap.size]? = some a :=
  (Below.heap_alloc _ d _ (by simp; omega)).trans ((Below.heap_alloc _ c _ (by simp; omega)).trans ((Below.heap_alloc _ b _ (by simp)).trans (heap_alloc_new W a)))
theorem Below.drew' {B : Nat} {w w' : World} (h : Below B w w') : Below B w w'.drew := ⟨h.os, h.tape, h.output, h.size, h.block⟩
theorem below_alloc4 (W : World) (a b c d : Obj) : Below W.heap.size W ((((W.alloc a).alloc b).alloc c).alloc d).drew :=
  Below.drew' (((((Below.refl _ W).alloc (Nat.le_refl _) a).alloc (by simp) b).alloc (by simp; omega) c).alloc (by simp; omega) d)
theorem rdk_new (W V : World) (n x rl rr rd : Nat) (h1 : 1 ≤ n) (h2 : n ≤ 4096) (hne : rl ≠ rr)
    (ho : V.heap[x]? = some (.cells #[.slice (some ⟨rl, 0, none⟩) n n, .slice (some ⟨rr, 0, none⟩) n n, .slice (some ⟨rd, 0, none⟩) n n] 101 (0, 0)))
    (hl : V.heap[rl]? = some (.cells (secC (List.replicate n zero8)).toArray 59 (0, 0))) (hr : V.heap[rr]? = some (.cells (secC (List.replicate n zero8)).toArray 59 (0, 0)))
    (hd : V.heap[rd]? = some (.cells (List.replicate n (Value.bool false)).toArray 4 (0, 0))) :
    RDk V x rl rr rd (List.replicate n zero8) (List.replicate n zero8) (List.replicate n false) := by
  have hz : ∀ s ∈ List.replicate n zero8, Sec s := fun s hs => by rw [(List.mem_replicate.1 hs).2]; exact Disk.Sec.zero
  refine ⟨by simpa using ⟨h1, h2⟩, by simp, by simp, hz, hz, hne, ?_, hl, hr, ?_⟩
  · rw [List.length_replicate]; exact ho
  · rw [List.map_replicate]; exact hd

set_option maxRecDepth 100000 in
set_option maxHeartbeats 1000000 in
theorem new_any (W : World) (n : Nat) (h1 : 1 ≤ n) (h2 : n ≤ 4096) :
    Calls Try.prog 54 #[.int .i64 (n : Int)] W fun en W' => ∃ x rl rr rd, en = .returned (.pointer (some ⟨x, 0, none⟩)) ∧ RDk W' x rl rr rd (List.replicate n zero8) (List.replicate n zero8) (List.replicate n false) ∧
      (W.heap.size ≤ x ∧ W.heap.size ≤ rl ∧ W.heap.size ≤ rr ∧ W.heap.size ≤ rd) ∧ Below W.heap.size W W' := by
  have hmk := Disk.run_sectors n (by omega)
  have hmb := run_bools n (by omega)
  obtain ⟨cs, hcs⟩ : ∃ cs, (secC (List.replicate n zero8)).toArray = cs := ⟨_, rfl⟩
  obtain ⟨bs, hbs⟩ : ∃ bs, (List.replicate n (Value.bool false)).toArray = bs := ⟨_, rfl⟩
  rw [hcs] at hmk
  rw [hbs] at hmb
  have HCS := Lib.hid hcs
  have HBS := Lib.hid hbs
  clear hcs hbs
  go_enter Try.func54, Try.ntmps54
  go_wp2
  go_region
  all_goals
    go_wp2
    go_ret
    refine ⟨_, _, _, _, rfl, rdk_new W _ n _ _ _ _ h1 h2 ?_ (alloc4_3 W _ _ _ _) ?_ ?_ ?_, ⟨?_, ?_, ?_, ?_⟩, below_alloc4 W _ _ _ _⟩
    all_goals first
      | omega
      | (rw [HBS.out]; first | exact alloc4_0 W _ _ _ _ | exact alloc4_1 W _ _ _ _ | exact alloc4_2 W _ _ _ _)
      | (rw [HCS.out]; first | exact alloc4_0 W _ _ _ _ | exact alloc4_1 W _ _ _ _ | exact alloc4_2 W _ _ _ _)
end Go.Proofs.Ytmeoiennniknlaa.RDisk

namespace Go.Proofs.Ytmeoiennniknlaa.RDisk
open Go.RowKit Go.Shelf Go.Proofs.YtmeoiennniknlaaW.PrintWords Go.Proofs.Ytmeoiennniknlaa.Lb Go.Proofs.Ytmeoiennniknlaa.Anchor
open Go.Proofs.Ytmeoiennniknlaa.Disk (Chg Sec secC secC_at agg8 thB)
set_option linter.unusedVariables false
set_option linter.unusedSimpArgs false

set_option maxRecDepth 100000 in
set_option maxHeartbeats 400000 in
theorem there_any {w : World} {x rl rr rd : Nat} {RL RR : List (List Int)} {RD : List Bool} (h : RDk w x rl rr rd RL RR RD) (i : Int) :
    Calls Try.prog 61 #[.pointer (some ⟨x, 0, none⟩), .int .i64 i] w fun en w' => en = .returned (.bool (thB i RL.length)) ∧ w = w' := by
  have q := h.obj.cell
  obtain ⟨n, hn⟩ : ∃ n, RL.length = n := ⟨_, rfl⟩
  rw [hn] at q ⊢
  unfold thB
  clear h hn
  by_cases h0 : 0 ≤ i
  · by_cases h1 : i < (n : Int)
    all_goals
      go_enter Try.func61, Try.ntmps61
      go_wp2
      go_ret
      exact ⟨by simp [h0, h1], rfl⟩
  · go_enter Try.func61, Try.ntmps61
    go_wp2
    go_ret
    exact ⟨by simp; omega, rfl⟩

theorem RDk.put {w W : World} {x rl rr rd : Nat} {RL RR : List (List Int)} {RD : List Bool} (h : RDk w x rl rr rd RL RR RD) (i : Nat) (t : List Int) (ht : Sec t) (hc : Chg (fun k => k = rr) w W) (hb : Blk W rr (secC (RR.set i t)) 59) : RDk W x rl rr rd RL (RR.set i t) RD := by
  refine ⟨h.len, by simpa using h.lenR, h.lenD, h.secL, fun s hs => ?_, h.ne, hc.blk h.obj h.nxr, hc.blk h.las h.ne, hb, hc.blk h.dir (fun e => h.nrd e.symm)⟩
  rcases Disk.mem_set hs with rfl | h1
  · exact ht
  · exact h.secR s h1
theorem RDk.putL {w W : World} {x rl rr rd : Nat} {RL RR : List (List Int)} {RD : List Bool} (h : RDk w x rl rr rd RL RR RD) (i : Nat) (t : List Int) (ht : Sec t) (hc : Chg (fun k => k = rl) w W) (hb : Blk W rl (secC (RL.set i t)) 59) : RDk W x rl rr rd (RL.set i t) RR RD := by
  refine ⟨by simpa using h.len, by simpa using h.lenR, by simpa using h.lenD, fun s hs => ?_, h.secR, h.ne, by simpa using hc.blk h.obj h.nxl, hb, hc.blk h.red (fun e => h.ne e.symm), hc.blk h.dir (fun e => h.nld e.symm)⟩
  rcases Disk.mem_set hs with rfl | h1
  · exact ht
  · exact h.secL s h1
theorem RDk.mark {w : World} {x rl rr rd : Nat} {RL RR : List (List Int)} {RD : List Bool} (h : RDk w x rl rr rd RL RR RD) (i : Nat) (b : Bool) : RDk (w.setCell ⟨rd, i, none⟩ (.bool b)) x rl rr rd RL RR (RD.set i b) := by
  refine ⟨h.len, h.lenR, by simpa using h.lenD, h.secL, h.secR, h.ne, h.obj.other h.nxd _, h.las.other h.nld _, h.red.other h.nrd _, ?_⟩
  rw [List.map_set]
  exact h.dir.set i _
theorem RDk.drew {w : World} {x rl rr rd : Nat} {RL RR : List (List Int)} {RD : List Bool} (h : RDk w x rl rr rd RL RR RD) : RDk w.drew x rl rr rd RL RR RD := h.kept (S := fun _ => False) (Chg.refl _ w).drew id id id id
theorem bool_cell {w : World} {rd : Nat} {RD : List Bool} {t : TypeId} (h : Blk w rd (RD.map Value.bool) t) (i : Nat) (hi : i < RD.length) : w.cell? ⟨rd, i, none⟩ = some (.bool (RD.getD i false)) := by
  rw [h.cell, List.getElem?_map, List.getElem?_eq_getElem hi, List.getD_eq_getElem?_getD, List.getElem?_eq_getElem hi]
  rfl

set_option maxRecDepth 100000 in
set_option maxHeartbeats 1000000 in
theorem write_any {w : World} {x rl rr rd : Nat} {RL RR : List (List Int)} {RD : List Bool} (h : RDk w x rl rr rd RL RR RD) (i : Nat) (hi : i < RL.length) (s0 s1 s2 s3 s4 s5 s6 s7 : Int) (hs : Sec [s0, s1, s2, s3, s4, s5, s6, s7]) :
    Calls Try.prog 62 #[.pointer (some ⟨x, 0, none⟩), .int .i64 (i : Int), agg8 s0 s1 s2 s3 s4 s5 s6 s7] w fun en w' => en = .returned (.tuple #[]) ∧ RDk w' x rl rr rd RL (RR.set i [s0, s1, s2, s3, s4, s5, s6, s7]) (RD.set i true) ∧ Chg (fun k => k = rr ∨ k = rd) w w' := by
  obtain ⟨V, hV⟩ : ∃ V, V = w.alloc (.cells #[.int .u64 s0, .int .u64 s1, .int .u64 s2, .int .u64 s3, .int .u64 s4, .int .u64 s5, .int .u64 s6, .int .u64 s7] 59) := ⟨_, rfl⟩
  have BV : Hid (Blk V w.heap.size (nums .u64 [s0, s1, s2, s3, s4, s5, s6, s7]) 59) := by rw [hV]; exact Lib.hid (Blk.new w (nums .u64 [s0, s1, s2, s3, s4, s5, s6, s7]) 59)
  have HV : Hid (RDk V x rl rr rd RL RR RD) := by rw [hV]; exact Lib.hid (h.alloc _)
  have HBV : Hid (Below w.heap.size w V) := by rw [hV]; exact Lib.hid ((Below.refl _ w).alloc (Nat.le_refl _) _)
  have HS := Lib.hid hs
  have HI := Lib.hid hi
  have hiR : i < RR.length := by rw [h.lenR]; exact hi
  have hiD : i < RD.length := by rw [h.lenD]; exact hi
  have HR := Lib.hid hiR
  have hii : (i : Int) < (RL.length : Int) := by omega
  clear h hs hi
  go_enter Try.func62, Try.ntmps62
  go_wp2_with fail
  rw [← hV]
  clear hV
  have q0 := HV.out.obj.cell
  have q5 := BV.out.cell
  simp only [nums, List.map_cons, List.map_nil] at q5
  obtain ⟨y0, y1, y2, y3, y4, y5, y6, y7, hy⟩ := (HV.out.secR (RR.getD i []) (by rw [List.getD_eq_getElem?_getD, List.getElem?_eq_getElem hiR]; exact List.getElem_mem hiR)).open
  have hc : ∀ j, j < 8 → V.cell? ⟨rr, i * 8 + j, none⟩ = (nums .u64 [y0, y1, y2, y3, y4, y5, y6, y7])[j]? := fun j hj => by
    rw [HV.out.red.cell, secC_at RR (fun s hs => (HV.out.secR s hs).1) i j hiR hj, hy]
  have c0 : V.cell? ⟨rr, i * 8, none⟩ = some (.int .u64 y0) := hc 0 (by decide)
  have c1 : V.cell? ⟨rr, i * 8 + 1, none⟩ = some (.int .u64 y1) := hc 1 (by decide)
  have c2 : V.cell? ⟨rr, i * 8 + 2, none⟩ = some (.int .u64 y2) := hc 2 (by decide)
  have c3 : V.cell? ⟨rr, i * 8 + 3, none⟩ = some (.int .u64 y3) := hc 3 (by decide)
  have c4 : V.cell? ⟨rr, i * 8 + 4, none⟩ = some (.int .u64 y4) := hc 4 (by decide)
  have c5 : V.cell? ⟨rr, i * 8 + 5, none⟩ = some (.int .u64 y5) := hc 5 (by decide)
  have c6 : V.cell? ⟨rr, i * 8 + 6, none⟩ = some (.int .u64 y6) := hc 6 (by decide)
  have c7 : V.cell? ⟨rr, i * 8 + 7, none⟩ = some (.int .u64 y7) := hc 7 (by decide)
  have f1 := HV.out.red.frozen
  have z1 := HV.out.red.lt
  have cd := bool_cell HV.out.dir i hiD
  have fd := HV.out.dir.frozen
  have zd := HV.out.dir.lt
  have n1 := HV.out.nrd
  have n2 := HV.out.nxr
  have n3 := HV.out.nxd
  clear hy hc hiR hiD
  go_still_tail 7, (by kernel_rfl)
  go_wp2
  go_end0
  have hc8 := Disk.chg_set8 (S := fun k => k = rr) (Chg.refl _ V) rfl (i * 8) (i * 8 + 1) (i * 8 + 2) (i * 8 + 3) (i * 8 + 4) (i * 8 + 5) (i * 8 + 6) (i * 8 + 7) (.int .u64 s0) (.int .u64 s1) (.int .u64 s2) (.int .u64 s3) (.int .u64 s4) (.int .u64 s5) (.int .u64 s6) (.int .u64 s7)
  exact ⟨rfl, ((HV.out.put i _ HS.out hc8 (Disk.blk_set HV.out.red (fun s hs => (HV.out.secR s hs).1) i HR.out s0 s1 s2 s3 s4 s5 s6 s7)).mark i true).drew, (((Chg.of_below HBV.out).trans (hc8.mono fun k hk => Or.inl hk)).trans (Chg.set (Or.inr rfl) _ _)).drew⟩
end Go.Proofs.Ytmeoiennniknlaa.RDisk

namespace Go.Proofs.Ytmeoiennniknlaa.RDisk
open Go.RowKit Go.Shelf Go.Proofs.YtmeoiennniknlaaW.PrintWords Go.Proofs.Ytmeoiennniknlaa.Lb Go.Proofs.Ytmeoiennniknlaa.Anchor
open Go.Proofs.Ytmeoiennniknlaa.Disk (Chg Sec secC secC_at agg8 thB w64s kq_less kq_next)
set_option linter.unusedVariables false
set_option linter.unusedSimpArgs false

def copyN (RR : List (List Int)) (RL : List (List Int)) : Nat → List (List Int)
  | 0 => RL
  | i + 1 => (copyN RR RL i).set i (RR.getD i [])
def clearN (RD : List Bool) : Nat → List Bool
  | 0 => RD
  | i + 1 => (clearN RD i).set i false
theorem copyN_length (RR RL : List (List Int)) (i : Nat) : (copyN RR RL i).length = RL.length := by
  induction i with
  | zero => rfl
  | succ i ih => simp [copyN, ih]
theorem clearN_length (RD : List Bool) (i : Nat) : (clearN RD i).length = RD.length := by
  induction i with
  | zero => rfl
  | succ i ih => simp [clearN, ih]
theorem copyN_at (RR RL : List (List Int)) (h : RR.length = RL.length) : ∀ i j, j < RL.length → (copyN RR RL i)[j]? = if j < i then RR[j]? else RL[j]?
  | 0, j, hj => by rw [if_neg (Nat.not_lt_zero _)]; rfl
  | i + 1, j, hj => by
    have ih := copyN_at RR RL h i j hj
    rw [copyN]
    by_cases e : i = j
    · subst e
      rw [List.getElem?_set_self (by rw [copyN_length]; exact hj), if_pos (Nat.lt_succ_self _), List.getD_eq_getElem?_getD, List.getElem?_eq_getElem (show i < RR.length by omega)]; rfl
    · rw [List.getElem?_set_ne e, ih]
      by_cases h2 : j < i
      · rw [if_pos h2, if_pos (by omega)]
      · rw [if_neg h2, if_neg (by omega)]
theorem copyN_full (RR RL : List (List Int)) (h : RR.length = RL.length) : copyN RR RL RL.length = RR := by
  apply List.ext_getElem?
  intro j
  by_cases hj : j < RL.length
  · rw [copyN_at RR RL h _ j hj, if_pos hj]
  · rw [List.getElem?_eq_none (by rw [copyN_length]; omega), List.getElem?_eq_none (by omega)]
theorem clearN_at (RD : List Bool) : ∀ i j, j < RD.length → (clearN RD i)[j]? = if j < i then some false else RD[j]?
  | 0, j, hj => by rw [if_neg (Nat.not_lt_zero _)]; rfl
  | i + 1, j, hj => by
    have ih := clearN_at RD i j hj
    rw [clearN]
    by_cases e : i = j
    · subst e
      rw [List.getElem?_set_self (by rw [clearN_length]; exact hj), if_pos (Nat.lt_succ_self _)]
    · rw [List.getElem?_set_ne e, ih]
      by_cases h2 : j < i
      · rw [if_pos h2, if_pos (by omega)]
      · rw [if_neg h2, if_neg (by omega)]
theorem clearN_full (RD : List Bool) : clearN RD RD.length = List.replicate RD.length false := by
  apply List.ext_getElem?
  intro j
  by_cases hj : j < RD.length
  · rw [clearN_at RD _ j hj, if_pos hj, List.getElem?_replicate, if_pos hj]
  · rw [List.getElem?_eq_none (by rw [clearN_length]; omega), List.getElem?_eq_none (by simp; omega)]

/-- Eight cells of a row of sectors. -/
theorem sec_cells {w : World} {g : Nat} {L : List (List Int)} {t : TypeId} (h : Blk w g (secC L) t) (hs : ∀ s ∈ L, Sec s) (i : Nat) (hi : i < L.length) : ∃ y0 y1 y2 y3 y4 y5 y6 y7 : Int, L.getD i [] = [y0, y1, y2, y3, y4, y5, y6, y7] ∧
    w.cell? ⟨g, i * 8, none⟩ = some (.int .u64 y0) ∧ w.cell? ⟨g, i * 8 + 1, none⟩ = some (.int .u64 y1) ∧ w.cell? ⟨g, i * 8 + 2, none⟩ = some (.int .u64 y2) ∧ w.cell? ⟨g, i * 8 + 3, none⟩ = some (.int .u64 y3) ∧
    w.cell? ⟨g, i * 8 + 4, none⟩ = some (.int .u64 y4) ∧ w.cell? ⟨g, i * 8 + 5, none⟩ = some (.int .u64 y5) ∧ w.cell? ⟨g, i * 8 + 6, none⟩ = some (.int .u64 y6) ∧ w.cell? ⟨g, i * 8 + 7, none⟩ = some (.int .u64 y7) := by
  obtain ⟨y0, y1, y2, y3, y4, y5, y6, y7, hy⟩ := (hs (L.getD i []) (by rw [List.getD_eq_getElem?_getD, List.getElem?_eq_getElem hi]; exact List.getElem_mem hi)).open
  have hc : ∀ j, j < 8 → w.cell? ⟨g, i * 8 + j, none⟩ = (nums .u64 [y0, y1, y2, y3, y4, y5, y6, y7])[j]? := fun j hj => by
    rw [h.cell, secC_at L (fun s h => (hs s h).1) i j hi hj, hy]
  exact ⟨y0, y1, y2, y3, y4, y5, y6, y7, hy, hc 0 (by decide), hc 1 (by decide), hc 2 (by decide), hc 3 (by decide), hc 4 (by decide), hc 5 (by decide), hc 6 (by decide), hc 7 (by decide)⟩

set_option maxRecDepth 100000 in
set_option maxHeartbeats 2000000 in
theorem sync_any {w : World} {x rl rr rd : Nat} {RL RR : List (List Int)} {RD : List Bool} (h : RDk w x rl rr rd RL RR RD) :
    Calls Try.prog 59 #[.pointer (some ⟨x, 0, none⟩)] w fun en w' => en = .returned (.tuple #[]) ∧ RDk w' x rl rr rd RR RR (List.replicate RL.length false) ∧ Chg (fun k => k = rl ∨ k = rd) w w' := by
  have H0 : Hid (RDk w x rl rr rd (copyN RR RL 0) RR (clearN RD 0)) := Lib.hid h
  have HLR := Lib.hid h.lenR
  have HLD := Lib.hid h.lenD
  have HLL := Lib.hid h.len
  obtain ⟨n, hn⟩ : ∃ n, RL.length = n := ⟨_, rfl⟩
  have HN := Lib.hid hn
  rw [hn]
  have HCH : Hid (Chg (fun k => k = rl ∨ k = rd) w w) := Lib.hid (Chg.refl _ _)
  clear h hn
  go_enter Try.func59, Try.ntmps59
  go_wp2
  go_loopg [2] n (fun kq v2 wr => ∃ i : Nat, v2 = .int .i64 (i : Int) ∧ Hid (i + kq = n) ∧ Hid (RDk wr x rl rr rd (copyN RR RL i) RR (clearN RD i)) ∧ Hid (Chg (fun k => k = rl ∨ k = rd) w wr))
  case atStart => exact ⟨0, rfl, Lib.hid (by omega), H0, HCH⟩
  case round =>
    obtain ⟨i, rfl, Hi, Hd, Hc⟩ := hrel
    have hcl : (copyN RR RL i).length = n := by rw [copyN_length]; exact HN.out
    have q0 := Hd.out.obj.cell
    rw [hcl] at q0
    by_cases hlt : i < n
    · have hii : (i : Int) < (n : Int) := by omega
      obtain ⟨L1, hL1⟩ : ∃ L1, copyN RR RL i = L1 := ⟨_, rfl⟩
      obtain ⟨D1, hD1⟩ : ∃ D1, clearN RD i = D1 := ⟨_, rfl⟩
      have HL1 := Lib.hid hL1
      have HD1 := Lib.hid hD1
      have HX : Hid (RDk wr x rl rr rd L1 RR D1) := by rw [← hL1, ← hD1]; exact Hd
      have hiL : i < L1.length := by rw [← hL1, hcl]; exact hlt
      have hiR : i < RR.length := by have := HLR.out; have := HN.out; omega
      have hiD : i < D1.length := by rw [← hD1, clearN_length]; have := HLD.out; have := HN.out; omega
      have HiL := Lib.hid hiL
      obtain ⟨y0, y1, y2, y3, y4, y5, y6, y7, hy, cy0, cy1, cy2, cy3, cy4, cy5, cy6, cy7⟩ := sec_cells HX.out.red HX.out.secR i hiR
      obtain ⟨u0, u1, u2, u3, u4, u5, u6, u7, _, cu0, cu1, cu2, cu3, cu4, cu5, cu6, cu7⟩ := sec_cells HX.out.las HX.out.secL i hiL
      have HY := Lib.hid hy
      have f1 := HX.out.las.frozen
      have z1 := HX.out.las.lt
      have cd := bool_cell HX.out.dir i hiD
      have fd := HX.out.dir.frozen
      have zd := HX.out.dir.lt
      have n1 := HX.out.nld
      have n2 := HX.out.nxl
      have n3 := HX.out.nxd
      have hw : wrap64 ((i : Int) + 1) = (i : Int) + 1 := w64s (by omega) (by have := HLL.out; have := HN.out; omega)
      clear hy hL1 hD1 hcl hiL hiR hiD
      go_wp2
      go_still_tail 13, (by kernel_rfl)
      go_wp2
      go_roundg (gk - 1)
      case measure => exact kq_less Hi.out hlt
      case rel =>
        have hc8 := Disk.chg_set8 (S := fun k => k = rl) (Chg.refl _ wr) rfl (i * 8) (i * 8 + 1) (i * 8 + 2) (i * 8 + 3) (i * 8 + 4) (i * 8 + 5) (i * 8 + 6) (i * 8 + 7) (.int .u64 y0) (.int .u64 y1) (.int .u64 y2) (.int .u64 y3) (.int .u64 y4) (.int .u64 y5) (.int .u64 y6) (.int .u64 y7)
        have hs : Sec [y0, y1, y2, y3, y4, y5, y6, y7] := by
          have hiR : i < RR.length := by have := HLR.out; have := HN.out; omega
          rw [← HY.out]; exact HX.out.secR _ (by rw [List.getD_eq_getElem?_getD, List.getElem?_eq_getElem hiR]; exact List.getElem_mem hiR)
        refine ⟨i + 1, by simp [hw], Lib.hid (kq_next Hi.out hlt), Lib.hid ?_, Lib.hid ((Hc.out.trans (hc8.mono fun k hk => Or.inl hk)).trans (Chg.set (Or.inr rfl) _ _)).drew⟩
        rw [copyN, clearN, HL1.out, HD1.out, HY.out]
        exact ((HX.out.putL i _ hs hc8 (Disk.blk_set HX.out.las (fun s hs => (HX.out.secL s hs).1) i HiL.out y0 y1 y2 y3 y4 y5 y6 y7)).mark i false).drew
    · have hii : ¬ (i : Int) < (n : Int) := by omega
      have hie : i = n := by have := Hi.out; omega
      subst hie
      clear hcl
      go_wp2
      go_end0
      refine ⟨rfl, ?_, Hc.out⟩
      have h1 := Hd.out
      have e1 := copyN_full RR RL HLR.out
      have e2 := clearN_full RD
      rw [HN.out] at e1
      rw [HLD.out, HN.out] at e2
      rw [e1, e2] at h1
      exact h1
end Go.Proofs.Ytmeoiennniknlaa.RDisk

namespace Go.Proofs.Ytmeoiennniknlaa.RDisk
open Go.RowKit Go.Shelf Go.Proofs.YtmeoiennniknlaaW.PrintWords Go.Proofs.Ytmeoiennniknlaa.Lb Go.Proofs.Ytmeoiennniknlaa.Anchor
open Go.Proofs.Ytmeoiennniknlaa.Disk (Chg Sec secC secC_at agg8 thB w64s kq_less kq_next)
set_option linter.unusedVariables false
set_option linter.unusedSimpArgs false

/-- What stands behind i rounds of a crash that keeps what the list says. -/
structure CS where
  k : Nat
  L : List (List Int)
  R : List (List Int)
  D : List Bool
def CS.ask (l : List Bool) (i : Nat) (s : CS) : CS := if l.getD s.k false = true then { s with L := s.L.set i (s.R.getD i []) } else s
def CS.drop (i : Nat) (s : CS) : CS := ⟨s.k + 1, s.L, s.R.set i (s.L.getD i []), s.D.set i false⟩
def CS.step (l : List Bool) (i : Nat) (s : CS) : CS := if s.D.getD i false = true then (s.ask l i).drop i else s
def crashN (l : List Bool) (s : CS) : Nat → CS
  | 0 => s
  | i + 1 => (crashN l s i).step l i
theorem CS.step_len (l : List Bool) (i : Nat) (s : CS) : (s.step l i).L.length = s.L.length ∧ (s.step l i).R.length = s.R.length ∧ (s.step l i).D.length = s.D.length ∧ (s.step l i).k ≤ s.k + 1 := by
  unfold CS.step CS.ask CS.drop
  split
  · split <;> simp
  · simp
theorem crashN_len (l : List Bool) (s : CS) (n : Nat) : (crashN l s n).L.length = s.L.length ∧ (crashN l s n).R.length = s.R.length ∧ (crashN l s n).D.length = s.D.length ∧ (crashN l s n).k ≤ s.k + n := by
  induction n with
  | zero => exact ⟨rfl, rfl, rfl, Nat.le_refl _⟩
  | succ n ih =>
    obtain ⟨h1, h2, h3, h4⟩ := CS.step_len l n (crashN l s n)
    obtain ⟨i1, i2, i3, i4⟩ := ih
    exact ⟨h1.trans i1, h2.trans i2, h3.trans i3, by rw [crashN]; omega⟩
theorem ask_k {l : List Bool} {i : Nat} {s : CS} : (s.ask l i).k = s.k := by unfold CS.ask; split <;> rfl
theorem ask_R {l : List Bool} {i : Nat} {s : CS} : (s.ask l i).R = s.R := by unfold CS.ask; split <;> rfl
theorem ask_D {l : List Bool} {i : Nat} {s : CS} : (s.ask l i).D = s.D := by unfold CS.ask; split <;> rfl
theorem ask_len {l : List Bool} {i : Nat} {s : CS} : (s.ask l i).L.length = s.L.length := by unfold CS.ask; split <;> simp
theorem ask_yes {l : List Bool} {i : Nat} {s : CS} (h : l.getD s.k false = true) : (s.ask l i).L = s.L.set i (s.R.getD i []) := by unfold CS.ask; rw [if_pos h]
theorem ask_no {l : List Bool} {i : Nat} {s : CS} (h : l.getD s.k false = false) : (s.ask l i).L = s.L := by unfold CS.ask; rw [if_neg (by rw [h]; decide)]
/-- A list of bools that is read. -/
structure BRow (w : World) (A : Option Addr) (g o : Nat) (l : List Bool) : Prop where
  at_ : 0 < l.length → A = some ⟨g, o, none⟩ ∧ g < w.heap.size
  cell : ∀ j, j < l.length → w.cell? ⟨g, o + j, none⟩ = some (.bool (l.getD j false))
theorem BRow.chg {S : Nat → Prop} {w w' : World} {A : Option Addr} {g o : Nat} {l : List Bool} (h : BRow w A g o l) (hc : Chg S w w') (hg : 0 < l.length → ¬ S g) : BRow w' A g o l :=
  ⟨fun h0 => ⟨(h.at_ h0).1, Nat.lt_of_lt_of_le (h.at_ h0).2 hc.size⟩, fun j hj => by
    rw [hc.cell (h.at_ (by omega)).2 (hg (by omega))]
    exact h.cell j hj⟩

set_option maxRecDepth 100000 in
set_option maxHeartbeats 4000000 in
theorem crash_any {w : World} {x rl rr rd : Nat} {RL RR : List (List Int)} {RD : List Bool} (h : RDk w x rl rr rd RL RR RD) (A : Option Addr) (c g o : Nat) (l : List Bool) (hl : l.length ≤ 1000000) (hb : BRow w A g o l) (hg : 0 < l.length → g ≠ rl ∧ g ≠ rr ∧ g ≠ rd) :
    Calls Try.prog 60 #[.pointer (some ⟨x, 0, none⟩), .slice A l.length c] w fun en w' => en = .returned (.tuple #[]) ∧ RDk w' x rl rr rd (crashN l ⟨0, RL, RR, RD⟩ RL.length).L (crashN l ⟨0, RL, RR, RD⟩ RL.length).R (crashN l ⟨0, RL, RR, RD⟩ RL.length).D ∧ Chg (fun k => k = rl ∨ k = rr ∨ k = rd) w w' := by
  obtain ⟨s0, hs0⟩ : ∃ s : CS, s = ⟨0, RL, RR, RD⟩ := ⟨_, rfl⟩
  have H0 : Hid (RDk w x rl rr rd (crashN l s0 0).L (crashN l s0 0).R (crashN l s0 0).D) := by rw [hs0]; exact Lib.hid h
  have HLL := Lib.hid h.len
  obtain ⟨n, hn⟩ : ∃ n, RL.length = n := ⟨_, rfl⟩
  have HN := Lib.hid hn
  have HS : Hid (s0.k = 0 ∧ s0.L.length = n ∧ s0.R.length = n ∧ s0.D.length = n) := by rw [hs0]; exact Lib.hid ⟨rfl, hn, h.lenR.trans hn, h.lenD.trans hn⟩
  have HBR := Lib.hid hb
  have HG := Lib.hid hg
  have Hl := Lib.hid hl
  rw [hn, ← hs0]
  have HCH : Hid (Chg (fun k => k = rl ∨ k = rr ∨ k = rd) w w) := Lib.hid (Chg.refl _ _)
  have hk0 : s0.k = 0 := HS.out.1
  have HK0 : Hid ((crashN l s0 0).k = 0) := Lib.hid hk0
  clear h hn hs0 hb hg hl hk0
  go_enter Try.func60, Try.ntmps60
  go_wp2
  go_loopg [4, 5] n (fun kq v4 v5 wr => ∃ (i k : Nat), v4 = .int .i64 (k : Int) ∧ v5 = .int .i64 (i : Int) ∧ Hid (i + kq = n) ∧ Hid ((crashN l s0 i).k = k) ∧ Hid (RDk wr x rl rr rd (crashN l s0 i).L (crashN l s0 i).R (crashN l s0 i).D) ∧ Hid (Chg (fun k => k = rl ∨ k = rr ∨ k = rd) w wr))
  case atStart => exact ⟨0, 0, rfl, rfl, Lib.hid (by omega), HK0, H0, HCH⟩
  case round =>
    obtain ⟨i, k, rfl, rfl, Hi, Hk, Hd, Hc⟩ := hrel
    obtain ⟨e1, e2, e3, e4⟩ := crashN_len l s0 i
    have q0 := Hd.out.obj.cell
    rw [e1, HS.out.2.1] at q0
    by_cases hlt : i < n
    · have hii : (i : Int) < (n : Int) := by omega
      obtain ⟨t, ht⟩ : ∃ t, crashN l s0 i = t := ⟨_, rfl⟩
      have HT := Lib.hid ht
      have HX : Hid (RDk wr x rl rr rd t.L t.R t.D) := by rw [← ht]; exact Hd
      have Htk : Hid (t.k = k) := by rw [← ht]; exact Hk
      have hiL : i < t.L.length := by rw [← ht, e1, HS.out.2.1]; exact hlt
      have hiR : i < t.R.length := by rw [← ht, e2, HS.out.2.2.1]; exact hlt
      have hiD : i < t.D.length := by rw [← ht, e3, HS.out.2.2.2]; exact hlt
      have hkb : k < 1000000 := by have h1 := Hk.out; have h2 := HS.out.1; have h3 := HLL.out; have h4 := HN.out; omega
      have HiL := Lib.hid hiL
      have HiR := Lib.hid hiR
      have HiD := Lib.hid hiD
      obtain ⟨y0, y1, y2, y3, y4, y5, y6, y7, hy, cy0, cy1, cy2, cy3, cy4, cy5, cy6, cy7⟩ := sec_cells HX.out.red HX.out.secR i hiR
      obtain ⟨u0, u1, u2, u3, u4, u5, u6, u7, hu, cu0, cu1, cu2, cu3, cu4, cu5, cu6, cu7⟩ := sec_cells HX.out.las HX.out.secL i hiL
      have HY := Lib.hid hy
      have HU := Lib.hid hu
      have hsY : Sec [y0, y1, y2, y3, y4, y5, y6, y7] := by rw [← hy]; exact HX.out.secR _ (by rw [List.getD_eq_getElem?_getD, List.getElem?_eq_getElem hiR]; exact List.getElem_mem hiR)
      have hsU : Sec [u0, u1, u2, u3, u4, u5, u6, u7] := by rw [← hu]; exact HX.out.secL _ (by rw [List.getD_eq_getElem?_getD, List.getElem?_eq_getElem hiL]; exact List.getElem_mem hiL)
      have HSY := Lib.hid hsY
      have HSU := Lib.hid hsU
      have f1 := HX.out.las.frozen
      have z1 := HX.out.las.lt
      have f2 := HX.out.red.frozen
      have z2 := HX.out.red.lt
      have cd := bool_cell HX.out.dir i hiD
      have fd := HX.out.dir.frozen
      have zd := HX.out.dir.lt
      have n1 := HX.out.nld
      have n2 := HX.out.nxl
      have n3 := HX.out.nxd
      have n4 := HX.out.nrd
      have n5 := HX.out.nxr
      have n6 := HX.out.ne
      obtain ⟨b, hb⟩ : ∃ b, t.D.getD i false = b := ⟨_, rfl⟩
      have HBB := Lib.hid hb
      rw [hb] at cd
      clear hy hu ht hiL hiR hiD hb hsY hsU e1 e2 e3 e4
      cases b with
      | false =>
        have hw : wrap64 ((i : Int) + 1) = (i : Int) + 1 := w64s (by omega) (by have := HLL.out; have := HN.out; omega)
        clear hkb
        go_wp2
        go_roundg (gk - 1)
        case measure => exact kq_less Hi.out hlt
        case rel =>
          have hst : crashN l s0 (i + 1) = t := by rw [crashN, HT.out, CS.step, if_neg (by rw [HBB.out]; decide)]
          refine ⟨i + 1, k, rfl, by simp [hw], Lib.hid (kq_next Hi.out hlt), ?_, ?_, Hc⟩
          · rw [hst]; exact Htk
          · rw [hst]; exact HX
      | true =>
        obtain ⟨a, ha⟩ : ∃ a, l.getD k false = a := ⟨_, rfl⟩
        have HAA := Lib.hid ha
        have HWK : Hid (wrap64 ((k : Int) + 1) = (k : Int) + 1) := Lib.hid (w64s (by omega) (by omega))
        have HW : Hid (wrap64 ((i : Int) + 1) = (i : Int) + 1) := Lib.hid (w64s (by omega) (by have := HLL.out; have := HN.out; omega))
        have HL1 : Hid ((t.ask l i).L.length = n) := Lib.hid (by rw [ask_len, ← HT.out, (crashN_len l s0 i).1]; exact HS.out.2.1)
        by_cases hkl : k < l.length
        · have hki : (k : Int) < (l.length : Int) := by omega
          have hA := (HBR.out.at_ (by omega)).1
          subst hA
          have hcl := (HBR.out.chg Hc.out (fun h => by have := HG.out h; omega)).cell k hkl
          rw [ha] at hcl
          clear ha hkb
          cases a with
          | true =>
            go_wp2
            go_still_tail 13, (by kernel_rfl)
            go_wp2
            have hc8y := Disk.chg_set8 (S := fun k => k = rl) (Chg.refl _ wr) rfl (i * 8) (i * 8 + 1) (i * 8 + 2) (i * 8 + 3) (i * 8 + 4) (i * 8 + 5) (i * 8 + 6) (i * 8 + 7) (.int .u64 y0) (.int .u64 y1) (.int .u64 y2) (.int .u64 y3) (.int .u64 y4) (.int .u64 y5) (.int .u64 y6) (.int .u64 y7)
            have hb8 := (Disk.blk_set HX.out.las (fun s hs => (HX.out.secL s hs).1) i HiL.out y0 y1 y2 y3 y4 y5 y6 y7)
            have hRD := (HX.out.putL i _ HSY.out hc8y hb8).drew
            have hCh := (hc8y.mono (S' := fun k => k = rl ∨ k = rr ∨ k = rd) fun k hk => Or.inl hk).drew
            rw [← HY.out, show t.L.set i (t.R.getD i []) = (t.ask l i).L from (ask_yes (by rw [Htk.out]; exact HAA.out)).symm] at hRD
            generalize ((((((((wr.setCell ⟨rl, i * 8, none⟩ (.int .u64 y0)).setCell ⟨rl, i * 8 + 1, none⟩ (.int .u64 y1)).setCell ⟨rl, i * 8 + 2, none⟩ (.int .u64 y2)).setCell ⟨rl, i * 8 + 3, none⟩ (.int .u64 y3)).setCell ⟨rl, i * 8 + 4, none⟩ (.int .u64 y4)).setCell ⟨rl, i * 8 + 5, none⟩ (.int .u64 y5)).setCell ⟨rl, i * 8 + 6, none⟩ (.int .u64 y6)).setCell ⟨rl, i * 8 + 7, none⟩ (.int .u64 y7)).drew = V1 at hRD hCh ⊢
            have HX1 := Lib.hid hRD
            have HC1 := Lib.hid hCh
            clear hc8y hb8 hRD hCh
            have q1 := HX1.out.obj.cell
            rw [show (t.ask l i).L.length = n from HL1.out] at q1
            obtain ⟨v0, v1, v2, v3, v4, v5, v6, v7, hv, cv0, cv1, cv2, cv3, cv4, cv5, cv6, cv7⟩ := sec_cells HX1.out.las HX1.out.secL i (by rw [HL1.out]; exact hlt)
            obtain ⟨r0, r1, r2, r3, r4, r5, r6, r7, _, cr0, cr1, cr2, cr3, cr4, cr5, cr6, cr7⟩ := sec_cells HX1.out.red HX1.out.secR i HiR.out
            have HV := Lib.hid hv
            have HSV : Hid (Sec [v0, v1, v2, v3, v4, v5, v6, v7]) := by
              have hiL1 : i < (t.ask l i).L.length := by rw [HL1.out]; exact hlt
              rw [← hv]; exact Lib.hid (HX1.out.secL _ (by rw [List.getD_eq_getElem?_getD, List.getElem?_eq_getElem hiL1]; exact List.getElem_mem hiL1))
            have g2 := HX1.out.red.frozen
            have y2' := HX1.out.red.lt
            have cd1 := bool_cell HX1.out.dir i HiD.out
            have gd := HX1.out.dir.frozen
            have yd := HX1.out.dir.lt
            clear hv
            go_wp2
            go_still_tail 13, (by kernel_rfl)
            go_wp2
            go_roundg (gk - 1)
            case measure => exact kq_less Hi.out hlt
            case rel =>
              have hst : crashN l s0 (i + 1) = (t.ask l i).drop i := by rw [crashN, HT.out, CS.step, if_pos HBB.out]
              have hc8 := Disk.chg_set8 (S := fun k => k = rr) (Chg.refl _ V1) rfl (i * 8) (i * 8 + 1) (i * 8 + 2) (i * 8 + 3) (i * 8 + 4) (i * 8 + 5) (i * 8 + 6) (i * 8 + 7) (.int .u64 v0) (.int .u64 v1) (.int .u64 v2) (.int .u64 v3) (.int .u64 v4) (.int .u64 v5) (.int .u64 v6) (.int .u64 v7)
              refine ⟨i + 1, k + 1, by simp [HWK.out], by simp [HW.out], Lib.hid (kq_next Hi.out hlt), ?_, ?_, Lib.hid (((Hc.out.trans HC1.out).trans (hc8.mono fun k hk => Or.inr (Or.inl hk))).trans (Chg.set (Or.inr (Or.inr rfl)) _ _)).drew⟩
              · rw [hst]; exact Lib.hid (by rw [CS.drop]; show (t.ask l i).k + 1 = _ ; rw [ask_k, Htk.out])
              · rw [hst]
                show Hid (RDk _ x rl rr rd (t.ask l i).L ((t.ask l i).R.set i ((t.ask l i).L.getD i [])) ((t.ask l i).D.set i false))
                rw [HV.out, ask_R, ask_D]
                exact Lib.hid ((HX1.out.put i _ HSV.out hc8 (Disk.blk_set HX1.out.red (fun s hs => (HX1.out.secR s hs).1) i HiR.out v0 v1 v2 v3 v4 v5 v6 v7)).mark i false).drew
          | false =>
            go_wp2
            obtain ⟨V1, hV1⟩ : ∃ V1, wr = V1 := ⟨_, rfl⟩
            have HX1 : Hid (RDk V1 x rl rr rd (t.ask l i).L t.R t.D) := by rw [← hV1, ask_no (by rw [Htk.out]; exact HAA.out)]; exact HX
            have HC1 : Hid (Chg (fun k => k = rl ∨ k = rr ∨ k = rd) wr V1) := by rw [← hV1]; exact Lib.hid (Chg.refl _ _)
            rw [hV1]
            clear hV1
            have q1 := HX1.out.obj.cell
            rw [show (t.ask l i).L.length = n from HL1.out] at q1
            obtain ⟨v0, v1, v2, v3, v4, v5, v6, v7, hv, cv0, cv1, cv2, cv3, cv4, cv5, cv6, cv7⟩ := sec_cells HX1.out.las HX1.out.secL i (by rw [HL1.out]; exact hlt)
            obtain ⟨r0, r1, r2, r3, r4, r5, r6, r7, _, cr0, cr1, cr2, cr3, cr4, cr5, cr6, cr7⟩ := sec_cells HX1.out.red HX1.out.secR i HiR.out
            have HV := Lib.hid hv
            have HSV : Hid (Sec [v0, v1, v2, v3, v4, v5, v6, v7]) := by
              have hiL1 : i < (t.ask l i).L.length := by rw [HL1.out]; exact hlt
              rw [← hv]; exact Lib.hid (HX1.out.secL _ (by rw [List.getD_eq_getElem?_getD, List.getElem?_eq_getElem hiL1]; exact List.getElem_mem hiL1))
            have g2 := HX1.out.red.frozen
            have y2' := HX1.out.red.lt
            have cd1 := bool_cell HX1.out.dir i HiD.out
            have gd := HX1.out.dir.frozen
            have yd := HX1.out.dir.lt
            clear hv
            go_wp2
            go_still_tail 13, (by kernel_rfl)
            go_wp2
            go_roundg (gk - 1)
            case measure => exact kq_less Hi.out hlt
            case rel =>
              have hst : crashN l s0 (i + 1) = (t.ask l i).drop i := by rw [crashN, HT.out, CS.step, if_pos HBB.out]
              have hc8 := Disk.chg_set8 (S := fun k => k = rr) (Chg.refl _ V1) rfl (i * 8) (i * 8 + 1) (i * 8 + 2) (i * 8 + 3) (i * 8 + 4) (i * 8 + 5) (i * 8 + 6) (i * 8 + 7) (.int .u64 v0) (.int .u64 v1) (.int .u64 v2) (.int .u64 v3) (.int .u64 v4) (.int .u64 v5) (.int .u64 v6) (.int .u64 v7)
              refine ⟨i + 1, k + 1, by simp [HWK.out], by simp [HW.out], Lib.hid (kq_next Hi.out hlt), ?_, ?_, Lib.hid (((Hc.out.trans HC1.out).trans (hc8.mono fun k hk => Or.inr (Or.inl hk))).trans (Chg.set (Or.inr (Or.inr rfl)) _ _)).drew⟩
              · rw [hst]; exact Lib.hid (by rw [CS.drop]; show (t.ask l i).k + 1 = _ ; rw [ask_k, Htk.out])
              · rw [hst]
                show Hid (RDk _ x rl rr rd (t.ask l i).L ((t.ask l i).R.set i ((t.ask l i).L.getD i [])) ((t.ask l i).D.set i false))
                rw [HV.out, ask_R, ask_D]
                exact Lib.hid ((HX1.out.put i _ HSV.out hc8 (Disk.blk_set HX1.out.red (fun s hs => (HX1.out.secR s hs).1) i HiR.out v0 v1 v2 v3 v4 v5 v6 v7)).mark i false).drew
        · have hki : ¬ (k : Int) < (l.length : Int) := by omega
          have hag : a = false := by rw [← ha, List.getD_eq_getElem?_getD, List.getElem?_eq_none (by omega)]; rfl
          subst hag
          clear ha hkb
          go_wp2
          obtain ⟨V1, hV1⟩ : ∃ V1, wr = V1 := ⟨_, rfl⟩
          have HX1 : Hid (RDk V1 x rl rr rd (t.ask l i).L t.R t.D) := by rw [← hV1, ask_no (by rw [Htk.out]; exact HAA.out)]; exact HX
          have HC1 : Hid (Chg (fun k => k = rl ∨ k = rr ∨ k = rd) wr V1) := by rw [← hV1]; exact Lib.hid (Chg.refl _ _)
          rw [hV1]
          clear hV1
          have q1 := HX1.out.obj.cell
          rw [show (t.ask l i).L.length = n from HL1.out] at q1
          obtain ⟨v0, v1, v2, v3, v4, v5, v6, v7, hv, cv0, cv1, cv2, cv3, cv4, cv5, cv6, cv7⟩ := sec_cells HX1.out.las HX1.out.secL i (by rw [HL1.out]; exact hlt)
          obtain ⟨r0, r1, r2, r3, r4, r5, r6, r7, _, cr0, cr1, cr2, cr3, cr4, cr5, cr6, cr7⟩ := sec_cells HX1.out.red HX1.out.secR i HiR.out
          have HV := Lib.hid hv
          have HSV : Hid (Sec [v0, v1, v2, v3, v4, v5, v6, v7]) := by
            have hiL1 : i < (t.ask l i).L.length := by rw [HL1.out]; exact hlt
            rw [← hv]; exact Lib.hid (HX1.out.secL _ (by rw [List.getD_eq_getElem?_getD, List.getElem?_eq_getElem hiL1]; exact List.getElem_mem hiL1))
          have g2 := HX1.out.red.frozen
          have y2' := HX1.out.red.lt
          have cd1 := bool_cell HX1.out.dir i HiD.out
          have gd := HX1.out.dir.frozen
          have yd := HX1.out.dir.lt
          clear hv
          go_wp2
          go_still_tail 13, (by kernel_rfl)
          go_wp2
          go_roundg (gk - 1)
          case measure => exact kq_less Hi.out hlt
          case rel =>
            have hst : crashN l s0 (i + 1) = (t.ask l i).drop i := by rw [crashN, HT.out, CS.step, if_pos HBB.out]
            have hc8 := Disk.chg_set8 (S := fun k => k = rr) (Chg.refl _ V1) rfl (i * 8) (i * 8 + 1) (i * 8 + 2) (i * 8 + 3) (i * 8 + 4) (i * 8 + 5) (i * 8 + 6) (i * 8 + 7) (.int .u64 v0) (.int .u64 v1) (.int .u64 v2) (.int .u64 v3) (.int .u64 v4) (.int .u64 v5) (.int .u64 v6) (.int .u64 v7)
            refine ⟨i + 1, k + 1, by simp [HWK.out], by simp [HW.out], Lib.hid (kq_next Hi.out hlt), ?_, ?_, Lib.hid (((Hc.out.trans HC1.out).trans (hc8.mono fun k hk => Or.inr (Or.inl hk))).trans (Chg.set (Or.inr (Or.inr rfl)) _ _)).drew⟩
            · rw [hst]; exact Lib.hid (by rw [CS.drop]; show (t.ask l i).k + 1 = _ ; rw [ask_k, Htk.out])
            · rw [hst]
              show Hid (RDk _ x rl rr rd (t.ask l i).L ((t.ask l i).R.set i ((t.ask l i).L.getD i [])) ((t.ask l i).D.set i false))
              rw [HV.out, ask_R, ask_D]
              exact Lib.hid ((HX1.out.put i _ HSV.out hc8 (Disk.blk_set HX1.out.red (fun s hs => (HX1.out.secR s hs).1) i HiR.out v0 v1 v2 v3 v4 v5 v6 v7)).mark i false).drew
    · have hii : ¬ (i : Int) < (n : Int) := by omega
      have hie : i = n := by have := Hi.out; omega
      subst hie
      clear e1 e2 e3 e4
      go_wp2
      go_end0
      exact ⟨rfl, Hd.out, Hc.out⟩
end Go.Proofs.Ytmeoiennniknlaa.RDisk

namespace Go.Proofs.Ytmeoiennniknlaa.RDisk
open Go.Proofs.Ytmeoiennniknlaa.Disk (Sec dirty lastP lastL lastL_length lastP_length mem_dirty cur upd)
open Go.Proofs.Ytmeoiennniknlaa.Anchor
set_option linter.unusedVariables false

def curL (L : List (List Int)) (M : Nat → Option (List Int)) : List (List Int) := (List.range L.length).map (cur L M)
def dirB (L : List (List Int)) (M : Nat → Option (List Int)) : List Bool := (List.range L.length).map fun i => (M i).isSome
theorem curL_length (L : List (List Int)) (M : Nat → Option (List Int)) : (curL L M).length = L.length := by simp [curL]
theorem dirB_length (L : List (List Int)) (M : Nat → Option (List Int)) : (dirB L M).length = L.length := by simp [dirB]
theorem curL_at {L : List (List Int)} {M : Nat → Option (List Int)} {i : Nat} (hi : i < L.length) : (curL L M)[i]? = some (cur L M i) := by
  rw [curL, List.getElem?_map, List.getElem?_range hi]; rfl
theorem dirB_at {L : List (List Int)} {M : Nat → Option (List Int)} {i : Nat} (hi : i < L.length) : (dirB L M)[i]? = some (M i).isSome := by
  rw [dirB, List.getElem?_map, List.getElem?_range hi]; rfl
theorem curL_none (L : List (List Int)) : curL L (fun _ => none) = L := by
  apply List.ext_getElem?
  intro j
  by_cases hj : j < L.length
  · rw [curL_at hj, cur, List.getElem?_eq_getElem hj, List.getD_eq_getElem?_getD, List.getElem?_eq_getElem hj]; rfl
  · rw [List.getElem?_eq_none (by rw [curL_length]; omega), List.getElem?_eq_none (by omega)]
theorem dirB_none (L : List (List Int)) : dirB L (fun _ => none) = List.replicate L.length false := by
  apply List.ext_getElem?
  intro j
  by_cases hj : j < L.length
  · rw [dirB_at hj, List.getElem?_replicate, if_pos hj]; rfl
  · rw [List.getElem?_eq_none (by rw [dirB_length]; omega), List.getElem?_eq_none (by simp; omega)]
theorem curL_upd {L : List (List Int)} {M : Nat → Option (List Int)} {i : Nat} (hi : i < L.length) (s : List Int) : curL L (upd M i s) = (curL L M).set i s := by
  apply List.ext_getElem?
  intro j
  by_cases hj : j < L.length
  · rw [curL_at hj]
    by_cases e : i = j
    · subst e
      rw [List.getElem?_set_self (by rw [curL_length]; exact hj), cur, upd, if_pos rfl]; rfl
    · rw [List.getElem?_set_ne e, curL_at hj, cur, cur, upd, if_neg (fun h => e h.symm)]
  · rw [List.getElem?_eq_none (by rw [curL_length]; omega), List.getElem?_eq_none (by simp [curL_length]; omega)]
theorem dirB_upd {L : List (List Int)} {M : Nat → Option (List Int)} {i : Nat} (hi : i < L.length) (s : List Int) : dirB L (upd M i s) = (dirB L M).set i true := by
  apply List.ext_getElem?
  intro j
  by_cases hj : j < L.length
  · rw [dirB_at hj]
    by_cases e : i = j
    · subst e
      rw [List.getElem?_set_self (by rw [dirB_length]; exact hj), upd, if_pos rfl]; rfl
    · rw [List.getElem?_set_ne e, dirB_at hj, upd, if_neg (fun h => e h.symm)]
  · rw [List.getElem?_eq_none (by rw [dirB_length]; omega), List.getElem?_eq_none (by simp [dirB_length]; omega)]

theorem dirty_succ (M : Nat → Option (List Int)) (i : Nat) : dirty M (i + 1) = dirty M i ++ (if (M i).isSome then [i] else []) := by
  unfold dirty
  rw [List.range_succ, List.filter_append]
  congr 1
  cases h : (M i).isSome <;> simp [h]
theorem dirty_prefix (M : Nat → Option (List Int)) {i n : Nat} (h : i ≤ n) : ∃ t, dirty M n = dirty M i ++ t := by
  induction n with
  | zero => exact ⟨[], by rw [show i = 0 by omega, List.append_nil]⟩
  | succ n ih =>
    by_cases e : i = n + 1
    · exact ⟨[], by rw [e, List.append_nil]⟩
    · obtain ⟨t, ht⟩ := ih (by omega)
      exact ⟨t ++ (if (M n).isSome then [n] else []), by rw [dirty_succ, ht, List.append_assoc]⟩
theorem dirty_nth {M : Nat → Option (List Int)} {i n : Nat} (h : i < n) (hs : (M i).isSome = true) : (dirty M n).getD (dirty M i).length 0 = i := by
  obtain ⟨t, ht⟩ := dirty_prefix M (show i + 1 ≤ n by omega)
  rw [dirty_succ, hs, if_pos rfl] at ht
  rw [ht, List.getD_eq_getElem?_getD, List.append_assoc, List.getElem?_append_right (Nat.le_refl _), Nat.sub_self]
  rfl

/-- What stands behind i rounds of the reference's crash. -/
structure Inv (l : List Bool) (L : List (List Int)) (M : Nat → Option (List Int)) (i : Nat) (s : CS) : Prop where
  ek : s.k = (dirty M i).length
  eL : s.L = lastP M (dirty M L.length) (fun k => l.getD k false) L (dirty M i).length
  eR : ∀ j, j < L.length → s.R[j]? = if j < i then s.L[j]? else some (cur L M j)
  eD : ∀ j, j < L.length → s.D[j]? = if j < i then some false else some (M j).isSome
  lenR : s.R.length = L.length
  lenD : s.D.length = L.length
theorem Inv.start (l : List Bool) (L : List (List Int)) (M : Nat → Option (List Int)) : Inv l L M 0 ⟨0, L, curL L M, dirB L M⟩ :=
  ⟨rfl, rfl, fun j hj => by rw [if_neg (Nat.not_lt_zero _)]; exact curL_at hj, fun j hj => by rw [if_neg (Nat.not_lt_zero _)]; exact dirB_at hj, curL_length _ _, dirB_length _ _⟩
theorem getD_of {α : Type} {l : List α} {i : Nat} {x d : α} (h : l[i]? = some x) : l.getD i d = x := by rw [List.getD_eq_getElem?_getD, h]; rfl
theorem Inv.step {l : List Bool} {L : List (List Int)} {M : Nat → Option (List Int)} {i : Nat} {s : CS} (h : Inv l L M i s) (hi : i < L.length) : Inv l L M (i + 1) (s.step l i) := by
  have hd : s.D.getD i false = (M i).isSome := getD_of (by rw [h.eD i hi, if_neg (Nat.lt_irrefl _)])
  have hr : s.R.getD i [] = cur L M i := getD_of (by rw [h.eR i hi, if_neg (Nat.lt_irrefl _)])
  have hlen : s.L.length = L.length := by rw [h.eL, lastP_length]
  cases hm : (M i).isSome with
  | false =>
    rw [CS.step, hd, hm, if_neg (by decide)]
    have e : dirty M (i + 1) = dirty M i := by rw [dirty_succ, hm]; simp
    have hn : M i = none := by cases hh : M i with
      | none => rfl
      | some s => rw [hh] at hm; cases hm
    refine ⟨by rw [e]; exact h.ek, by rw [e]; exact h.eL, fun j hj => ?_, fun j hj => ?_, h.lenR, h.lenD⟩
    · rw [h.eR j hj]
      by_cases h1 : j < i
      · rw [if_pos h1, if_pos (by omega)]
      · rw [if_neg h1]
        by_cases h2 : j = i
        · subst h2
          rw [if_pos (Nat.lt_succ_self _), h.eL]
          -- not dirty: what lasts there is what lasted
          have h3 : ∀ r, r ≤ (dirty M j).length → (lastP M (dirty M L.length) (fun k => l.getD k false) L r)[j]? = L[j]? := by
            intro r
            induction r with
            | zero => intro _; rfl
            | succ r ih =>
              intro hr'
              unfold lastP
              split
              · have h5 : (dirty M L.length).getD r 0 ≠ j := by
                  intro e'
                  have h6 : (dirty M L.length).getD r 0 ∈ dirty M L.length := by
                    have h7 : r < (dirty M L.length).length := by
                      obtain ⟨t, ht⟩ := dirty_prefix M (show j ≤ L.length by omega)
                      rw [ht, List.length_append]; omega
                    rw [List.getD_eq_getElem?_getD, List.getElem?_eq_getElem h7]
                    exact List.getElem_mem h7
                  rw [e'] at h6
                  have h8 := (mem_dirty.1 h6).2
                  rw [hm] at h8; cases h8
                rw [List.getElem?_set_ne h5]
                exact ih (by omega)
              · exact ih (by omega)
          rw [h3 _ (Nat.le_refl _), cur, hn, List.getElem?_eq_getElem hi, List.getD_eq_getElem?_getD, List.getElem?_eq_getElem hi]; rfl
        · rw [if_neg (by omega)]
    · rw [h.eD j hj]
      by_cases h1 : j < i
      · rw [if_pos h1, if_pos (by omega)]
      · rw [if_neg h1]
        by_cases h2 : j = i
        · subst h2; rw [if_pos (Nat.lt_succ_self _), hm]
        · rw [if_neg (by omega)]
  | true =>
    rw [CS.step, hd, hm, if_pos rfl]
    have e : (dirty M (i + 1)).length = (dirty M i).length + 1 := by rw [dirty_succ, hm]; simp
    have hnth := dirty_nth hi hm
    obtain ⟨v, hv⟩ := Option.isSome_iff_exists.1 hm
    have hcur : cur L M i = (M i).getD [] := by rw [cur, hv]; rfl
    have hL' : (s.ask l i).L = lastP M (dirty M L.length) (fun k => l.getD k false) L ((dirty M i).length + 1) := by
      rw [lastP, hnth]
      cases hb : l.getD (dirty M i).length false with
      | true => rw [if_pos rfl, ask_yes (by rw [h.ek]; exact hb), hr, hcur, h.eL]
      | false => rw [if_neg (by decide), ask_no (by rw [h.ek]; exact hb), h.eL]
    have hask : ∀ j, j ≠ i → (s.ask l i).L[j]? = s.L[j]? := by
      intro j hj
      unfold CS.ask
      split
      · exact List.getElem?_set_ne (fun e => hj e.symm)
      · rfl
    refine ⟨?_, by rw [e]; exact hL', fun j hj => ?_, fun j hj => ?_, ?_, ?_⟩
    · show (s.ask l i).k + 1 = _
      rw [ask_k, e, h.ek]
    · show ((s.ask l i).R.set i _)[j]? = if j < i + 1 then (s.ask l i).L[j]? else _
      rw [ask_R]
      by_cases h2 : j = i
      · subst h2
        rw [List.getElem?_set_self (by rw [h.lenR]; exact hj), if_pos (Nat.lt_succ_self _), List.getD_eq_getElem?_getD, List.getElem?_eq_getElem (by rw [ask_len, hlen]; exact hj)]; rfl
      · rw [List.getElem?_set_ne (fun e => h2 e.symm), h.eR j hj]
        by_cases h1 : j < i
        · rw [if_pos h1, if_pos (by omega), hask j h2]
        · rw [if_neg h1, if_neg (by omega)]
    · show ((s.ask l i).D.set i false)[j]? = _
      rw [ask_D]
      by_cases h2 : j = i
      · subst h2
        rw [List.getElem?_set_self (by rw [h.lenD]; exact hj), if_pos (Nat.lt_succ_self _)]
      · rw [List.getElem?_set_ne (fun e => h2 e.symm), h.eD j hj]
        by_cases h1 : j < i
        · rw [if_pos h1, if_pos (by omega)]
        · rw [if_neg h1, if_neg (by omega)]
    · show ((s.ask l i).R.set i _).length = _
      rw [List.length_set, ask_R, h.lenR]
    · show ((s.ask l i).D.set i false).length = _
      rw [List.length_set, ask_D, h.lenD]
theorem crash_eq (l : List Bool) (L : List (List Int)) (M : Nat → Option (List Int)) :
    (crashN l ⟨0, L, curL L M, dirB L M⟩ L.length).L = lastL M (fun k => l.getD k false) L ∧ (crashN l ⟨0, L, curL L M, dirB L M⟩ L.length).R = lastL M (fun k => l.getD k false) L ∧ (crashN l ⟨0, L, curL L M, dirB L M⟩ L.length).D = List.replicate L.length false := by
  have h : ∀ i, i ≤ L.length → Inv l L M i (crashN l ⟨0, L, curL L M, dirB L M⟩ i) := by
    intro i
    induction i with
    | zero => intro _; exact Inv.start l L M
    | succ i ih => intro hi; exact (ih (by omega)).step hi
  have hI := h _ (Nat.le_refl _)
  refine ⟨hI.eL, ?_, ?_⟩
  · apply List.ext_getElem?
    intro j
    by_cases hj : j < L.length
    · rw [hI.eR j hj, if_pos hj, hI.eL]; rfl
    · rw [List.getElem?_eq_none (by rw [hI.lenR]; omega), List.getElem?_eq_none (by rw [lastL_length]; omega)]
  · apply List.ext_getElem?
    intro j
    by_cases hj : j < L.length
    · rw [hI.eD j hj, if_pos hj, List.getElem?_replicate, if_pos hj]
    · rw [List.getElem?_eq_none (by rw [hI.lenD]; omega), List.getElem?_eq_none (by simp; omega)]
theorem last_sync (L : List (List Int)) (M : Nat → Option (List Int)) : lastL M (fun _ => true) L = curL L M := by
  have h : ∀ i, i ≤ L.length → ∀ j, j < L.length → (lastP M (dirty M L.length) (fun _ => true) L (dirty M i).length)[j]? = if j < i then some (cur L M j) else L[j]? := by
    intro i
    induction i with
    | zero => intro _ j hj; rw [if_neg (Nat.not_lt_zero _)]; rfl
    | succ i ih =>
      intro hi j hj
      have ihj := ih (by omega) j hj
      cases hm : (M i).isSome with
      | false =>
        have e : dirty M (i + 1) = dirty M i := by rw [dirty_succ, hm]; simp
        rw [e, ihj]
        by_cases h1 : j < i
        · rw [if_pos h1, if_pos (by omega)]
        · rw [if_neg h1]
          by_cases h2 : j = i
          · subst h2
            have hn : M j = none := by cases hh : M j with
              | none => rfl
              | some s => rw [hh] at hm; cases hm
            rw [if_pos (Nat.lt_succ_self _), cur, hn, List.getElem?_eq_getElem hj, List.getD_eq_getElem?_getD, List.getElem?_eq_getElem hj]; rfl
          · rw [if_neg (by omega)]
      | true =>
        have e : (dirty M (i + 1)).length = (dirty M i).length + 1 := by rw [dirty_succ, hm]; simp
        obtain ⟨v, hv⟩ := Option.isSome_iff_exists.1 hm
        rw [e, lastP, if_pos rfl, dirty_nth (by omega) hm]
        by_cases h2 : j = i
        · subst h2
          rw [List.getElem?_set_self (by rw [lastP_length]; exact hj), if_pos (Nat.lt_succ_self _), cur, hv]; rfl
        · rw [List.getElem?_set_ne (fun e => h2 e.symm), ihj]
          by_cases h1 : j < i
          · rw [if_pos h1, if_pos (by omega)]
          · rw [if_neg h1, if_neg (by omega)]
  apply List.ext_getElem?
  intro j
  by_cases hj : j < L.length
  · rw [curL_at hj]
    have := h _ (Nat.le_refl _) j hj
    rw [if_pos hj] at this
    exact this
  · rw [List.getElem?_eq_none (by rw [lastL_length]; omega), List.getElem?_eq_none (by rw [curL_length]; omega)]
end Go.Proofs.Ytmeoiennniknlaa.RDisk
