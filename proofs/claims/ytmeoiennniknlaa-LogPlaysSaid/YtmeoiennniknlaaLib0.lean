/- Small laws for walks: append, literals, with the result's length as the caller spells it. A region that draws its order, in a round of a range over a function: what only reads, ahead of one tail, walked once in the order of the text. A range over a function whose iterator tells, at its end, of the world that it leaves (what it has handed out lies in memory that it made). A drawn region taken by hand: an operation that its guard passes over; one operation that comes up alone. For the rows: an argument's reading as cells. -/
import Derived.Test.YtmeoiennniknlaaWWords
import Derived.Lib.Hide
import Derived.StillTail
import Derived.StillTactics
import Derived.TacticsIn
import Derived.OrdersIn
import Derived.RangeFuncCalls
import Derived.RangeFuncNested
import Derived.RangeFuncBound
import Derived.RangeFuncLeaves
import Derived.RangeFuncFrom
import Derived.RangeFuncBox
import Derived.Deep.RegionHeld3
import Derived.ProofKit
import Derived.SizedLaws
namespace Go.Proofs.Ytmeoiennniknlaa.Lb
open Go.RowKit Go.Proofs.YtmeoiennniknlaaW.PrintWords
set_option linter.unusedVariables false
set_option linter.unusedSimpArgs false

/-- Lists of numbers as the model has them. -/
def il (l : List Nat) : List Int := l.map fun (n : Nat) => (n : Int)
theorem il_length (l : List Nat) : (il l).length = l.length := by simp [il]
theorem il_append (a b : List Nat) : il (a ++ b) = il a ++ il b := by simp [il]
theorem il_cons (a : Nat) (b : List Nat) : il (a :: b) = (a : Int) :: il b := by simp [il]
theorem rd_il (l : List Nat) (k : Nat) (h : k < l.length) : rd (il l) (k : Int) = ((l[k] : Nat) : Int) := by
  simp [rd, il, List.getD_eq_getElem?_getD, h]
/-- A list of such, out of numbers that are such. -/
theorem il_of (l : List Int) (h : ∀ x ∈ l, 0 ≤ x) : il (l.map Int.toNat) = l := by
  unfold il
  rw [List.map_map]
  conv => rhs; rw [← List.map_id l]
  apply List.map_congr_left
  intro x hx
  have := h x hx
  simp [Function.comp]
  omega

/-- A slice of whole numbers that is read, by its cells. -/
theorem C_of_cells (k : IntKind) {w : World} {ad : Addr} {l : List Int} (hn : l.length ≤ 9223372036854775807) (h : ∀ j (hj : j < l.length), w.cell? (ad.add j) = some (.int k l[j])) : (Kd.int k).C w (some ad) l.length l := by
  refine ⟨rfl, hn, fun _ => ⟨ad, rfl, fun j p hp => ⟨[.int k p], rfl, rfl, fun i u hu => ?_⟩⟩⟩
  obtain ⟨hj, rfl⟩ := List.getElem?_eq_some_iff.1 hp
  have hi : i = 0 := by
    rcases i with _ | i
    · rfl
    · simp at hu
  subst hi
  simp at hu
  subst hu
  have := h j hj
  simpa [Kd.int, Kd.scalar] using this

/-- A row of whole numbers of one's own: where it lies, what a store makes of it. -/
theorem R_form {k : IntKind} {e : TypeId} {w : World} {base : Nat} {A1 : Option Addr} {c1 L : Nat} {zs : List Int} (h : (Kd.int k).R e w base (fun _ => True) (.slice A1 L c1) zs) (hL : 0 < L) (hz : zs.length = L) :
    ∃ g, A1 = some ⟨g, 0, none⟩ ∧ base ≤ g ∧ (∀ i, i < L → w.cell? ⟨g, i, none⟩ = some (.int k (zs.getD i 0)) ∧ w.frozen? ⟨g, i, none⟩ = false) ∧
      (∀ i x, i < L → (Kd.int k).R e (w.setCell ⟨g, i, none⟩ (.int k x)) base (fun _ => True) (.slice (some ⟨g, 0, none⟩) L c1) (zs.set i x)) := by
  have ho := Kd.own_of_R h
  have ho' : w.ownsRow base e 1 (.slice A1 L c1) L (nums k zs) := by rw [hz] at ho; exact ho
  obtain ⟨g, cap, hv, hgb, hgl⟩ := ho'.form hL
  simp only [Value.slice.injEq] at hv
  obtain ⟨rfl, _, rfl⟩ := hv
  refine ⟨g, rfl, hgb, fun i hi => ?_, fun i x hi => ?_⟩
  · have := own_at ho' (i : Int) (by omega) (by omega)
    simpa [rd] using this
  · have hs := (own_store ho' (i : Int) x).1
    simp only [Int.toNat_natCast] at hs
    refine Kd.R_of_own ?_ (fun _ _ => trivial)
    have e1 : (zs.set i x).length = L := by rw [List.length_set, hz]
    rw [e1]; exact hs

/-- xs[a:b] of a slice that isn't nil. -/
theorem mid_ints {P : Program} (t e : TypeId) {i : TypeInfo} (k : IntKind) (ht : P.underlying t = some (.slice e)) (hi : P.info? e = some i) (hsz : i.size = 1) (ad : Addr) (c : Nat) (l : List Int) (a b : Nat) (hab : a ≤ b) (hb : b ≤ l.length) (hc : l.length ≤ c) :
    ∃ ad', (∀ W : World, (Instr.slice t (.slice (some ad) l.length c) (some (.int .i64 (a : Int))) (some (.int .i64 (b : Int))) none).run P W = .ok (.slice (some ad') (b - a) (c - a)) W) ∧
      (∀ w : World, (Kd.int k).C w (some ad) l.length l → (Kd.int k).C w (some ad') (b - a) ((l.take b).drop a)) := by
  refine ⟨if c = a then ad else ad.add a, fun W => ?_, fun w h => ?_⟩
  · have hel : P.elem t = e := by simp [Program.elem, ht]
    have hu : P.underlying t = some (.slice (P.elem t)) := by rw [hel]; exact ht
    rw [run_slice_lh W t (some ad) l.length c hu .i64 .i64 (a : Int) (b : Int) (by omega) (by omega) (by omega), hel]
    by_cases h : c = a <;> simp [sizeOf, typeInfo, hi, hsz, sliced, Result.andThen, h]
  · have h1 : ReadsOf (Value.int k) (0 : Int) w (some ad) l.length l := Kd.reads_of_C h
    have h2 := (h1.take_ b hb).drop_ (c := c) a hab (by omega)
    have h3 := Kd.C_of_reads (h1 := fun _ => rfl) h2
    have e1 : (if c = a then some ad else (some ad).map (·.add a)) = some (if c = a then ad else ad.add a) := by
      by_cases h : c = a <;> simp [h]
    rw [e1] at h3
    exact h3

section
variable {P : Program} {ops : Array Oper} {rest : List Oper} {o : Oper} {a : Act} {Q : Exit → Act → World → Prop}

theorem below_base {B : Nat} {w0 W w1 : World} (h : Below B w0 W) : B ≤ w0.heap.size → B ≤ W.heap.size := fun hb => Nat.le_trans hb h.size

/-- append(v, ys...): whole numbers. -/
theorem app_ints {w0 W : World} (k : IntKind) (t e : TypeId) (bytes : Nat) (ht : P.underlying t = some (.slice e)) (hinfo : (P.info? e).map (fun i => (i.zero, i.size, i.bytes)) = some (some (.int k 0), 1, bytes)) (hb0 : 0 < bytes)
    (hgd : o.guard = none) (s x : Operand) (ho : o.op = .call { callee := .builtin .append, args := #[s, x], argTypes := #[t, t] })
    (v : Value) (xs ys zs : List Int) (A : Option Addr) (m c L : Nat) (hs : a.eval s = v) (hx : a.eval x = .slice A m c)
    (HO : (Kd.int k).R e W w0.heap.size (fun _ => True) v xs) (HR : (Kd.int k).C W A m ys) (HB : Below w0.heap.size w0 W) (hz : xs ++ ys = zs) (hL : zs.length = L) (hl : L * bytes ≤ 140737488355328)
    (h : ∀ A1 c1 w1, L ≤ c1 → (Kd.int k).C w1 A1 L zs → (Kd.int k).R e w1 w0.heap.size (fun _ => True) (.slice A1 L c1) zs → Below w0.heap.size w0 w1 → wpList P ops Q rest (a.put o.dst (.slice A1 L c1)) w1) :
    wpList P ops Q (o :: rest) a W := by
  have hm : ys.length = m := HR.1
  refine Kd.R_append_row (Value.int k) 0 (w0 := w0) w0.heap.size hgd s x t e (.int k 0) bytes ho ht hinfo rfl hb0 v xs ys A m c (fun _ => True) hs hx (fun _ _ => trivial) HO HR HB HB.size (by
    have : xs.length + m = L := by rw [← hL, ← hz, List.length_append, hm]
    rw [this]; exact hl) ?_
  intro v1 w1 HR1 hb1 _ _
  rw [hz] at HR1
  obtain ⟨A1, c1, hv, hl1, hC1⟩ := Kd.R_reads HR1
  rw [hL] at hv hl1 hC1
  subst hv
  exact h A1 c1 w1 hl1 hC1 HR1 hb1

/-- What a literal of whole numbers owns. -/
theorem lit_R (w0 W : World) (hB : Below w0.heap.size w0 W) (k : IntKind) (e : TypeId) (xs : List Int) (hm : xs.length ≤ 9223372036854775807) :
    (Kd.int k).R e (W.alloc (.cells (nums k xs).toArray e)) w0.heap.size (fun _ => True) (.slice (some ⟨W.heap.size, 0, none⟩) xs.length xs.length) xs :=
  Kd.R_of_own (own_lit W w0.heap.size e k xs hB.size hm) (fun _ _ => trivial)
/-- append(literal, ys...): whole numbers; ys was read in w0. -/
theorem app_lit_ints {w0 W : World} (k : IntKind) (t e : TypeId) (bytes : Nat) (ht : P.underlying t = some (.slice e)) (hinfo : (P.info? e).map (fun i => (i.zero, i.size, i.bytes)) = some (some (.int k 0), 1, bytes)) (hb0 : 0 < bytes)
    (hgd : o.guard = none) (s x : Operand) (ho : o.op = .call { callee := .builtin .append, args := #[s, x], argTypes := #[t, t] })
    (xs ys zs : List Int) (A : Option Addr) (m c L n : Nat) (cs : Array Value) (hcs : (nums k xs).toArray = cs) (hn : xs.length = n) (hs : a.eval s = .slice (some ⟨W.heap.size, 0, none⟩) n n) (hx : a.eval x = .slice A m c)
    (HR : Hid ((Kd.int k).C w0 A m ys)) (HB : Hid (Below w0.heap.size w0 W)) (hz : xs ++ ys = zs) (hL : zs.length = L) (hl : L * bytes ≤ 140737488355328)
    (h : ∀ A1 c1 w1, L ≤ c1 → Hid ((Kd.int k).C w1 A1 L zs) → Hid ((Kd.int k).R e w1 w0.heap.size (fun _ => True) (.slice A1 L c1) zs) → Hid (Below w0.heap.size w0 w1) → wpList P ops Q rest (a.put o.dst (.slice A1 L c1)) w1) :
    wpList P ops Q (o :: rest) a (W.alloc (.cells cs e)) := by
  subst hcs; subst hn
  have hl2 : xs.length ≤ L := by rw [← hL, ← hz, List.length_append]; omega
  have hl3 : L ≤ 140737488355328 := Nat.le_trans (Nat.le_mul_of_pos_right _ hb0) hl
  have hB1 := HB.out.alloc HB.out.size (.cells (nums k xs).toArray e)
  exact app_ints (w0 := w0) k t e bytes ht hinfo hb0 hgd s x ho _ xs ys zs A m c L hs hx (lit_R w0 W HB.out k e xs (by omega)) (Kd.C_below HR.out hB1) hB1 hz hL hl (fun A1 c1 w1 h1 h2 h3 h4 => h A1 c1 w1 h1 (Lib.hid h2) (Lib.hid h3) (Lib.hid h4))
/-- The same in a region that draws its order. -/
theorem app_lit_ints_step {Kc : Act → World → Prop} {w0 W : World} (k : IntKind) (t e : TypeId) (bytes : Nat) (ht : P.underlying t = some (.slice e)) (hinfo : (P.info? e).map (fun i => (i.zero, i.size, i.bytes)) = some (some (.int k 0), 1, bytes)) (hb0 : 0 < bytes)
    (hw : Region.wanted o (yielded ops a.tmps) = true) (s x : Operand) (ho : o.op = .call { callee := .builtin .append, args := #[s, x], argTypes := #[t, t] })
    (xs ys zs : List Int) (A : Option Addr) (m c L n : Nat) (cs : Array Value) (hcs : (nums k xs).toArray = cs) (hn : xs.length = n) (hs : a.eval s = .slice (some ⟨W.heap.size, 0, none⟩) n n) (hx : a.eval x = .slice A m c)
    (HR : Hid ((Kd.int k).C w0 A m ys)) (HB : Hid (Below w0.heap.size w0 W)) (hz : xs ++ ys = zs) (hL : zs.length = L) (hl : L * bytes ≤ 140737488355328)
    (h : ∀ A1 c1 w1, L ≤ c1 → Hid ((Kd.int k).C w1 A1 L zs) → Hid ((Kd.int k).R e w1 w0.heap.size (fun _ => True) (.slice A1 L c1) zs) → Hid (Below w0.heap.size w0 w1) → Kc (a.put o.dst (.slice A1 L c1)) w1) :
    if Region.wanted o (yielded ops a.tmps) = true then Oper.wp P o a (W.alloc (.cells cs e)) Kc Q else Kc (a.put o.dst undef) (W.alloc (.cells cs e)) := by
  subst hcs; subst hn
  have hm : ys.length = m := HR.out.1
  have hl2 : xs.length ≤ L := by rw [← hL, ← hz, List.length_append]; omega
  have hl3 : L ≤ 140737488355328 := Nat.le_trans (Nat.le_mul_of_pos_right _ hb0) hl
  have hB1 := HB.out.alloc HB.out.size (.cells (nums k xs).toArray e)
  refine Kd.R_append_rows_step (Kd.int k) (Rr := (Kd.int k).K W) (w0 := w0) w0.heap.size hw s x t e (.int k 0) bytes ho ht hinfo rfl (Nat.zero_lt_one) hb0 _ xs ys A m c (fun _ => True) (fun k' => w0.heap.size + 1 ≤ k' ∧ False) hs hx (lit_R w0 W HB.out k e xs (by omega)) (Kd.C_below HR.out hB1) (fun _ _ h => h) (fun _ h => h.2.elim) (fun _ _ => trivial) hB1 hB1.size (by
    have : xs.length + m = L := by rw [← hL, ← hz, List.length_append, hm]
    rw [this]; exact hl) ?_
  intro v1 w1 HR1 hb1 _ _
  rw [hz] at HR1
  obtain ⟨A1, c1, hv, hl1, hC1⟩ := Kd.R_reads HR1
  rw [hL] at hv hl1 hC1
  subst hv
  exact h A1 c1 w1 hl1 (Lib.hid hC1) (Lib.hid HR1) (Lib.hid hb1)
end
end Go.Proofs.Ytmeoiennniknlaa.Lb

namespace Go.Proofs.Ytmeoiennniknlaa.StillIn

/-- A fence that lets all in. -/
structure Wide (F : Fence) : Prop where
  fn : ∀ g, F.fn g
  depth : F.depth = none
  calls : ∀ (n : Nat) (P : Program) (f : FuncId) (args : Array Value) (w : World) (R : Ending → World → Prop), Calls P f args w R → CallsIn F n P f args w R
theorem wide : Wide Fence.wide := ⟨fun _ => trivial, rfl, fun _ _ _ _ _ _ h => callsIn_wide.2 h⟩
theorem wideRound (l : Nat) : Wide (Fence.wide.inRound l) := ⟨fun _ => trivial, rfl, fun _ _ _ _ _ _ h => CallsIn.inRound l (callsIn_wide.2 h)⟩

section
variable {F : Fence} {n : Nat} {P : Program} {ops : Array Oper} {md : Region.Mode} {w : World}

theorem wpIn_of_still (hF : Wide F) {o : Oper} {a : Act} {K : Act → Prop} {K' : Act → World → Prop} {Q' : Exit → Act → World → Prop} (h : ∀ a, K a → K' a w) (hh : o.still P a w K) : o.wpIn F n P a w K' Q' := by
  refine ⟨fun f _ => hF.fn f, ?_⟩
  unfold Oper.still at hh
  have hs : (o.semAt F.round a.eval).run P w = (execOp a.eval o).run P w := by
    cases ho : o.op with
    | defer c =>
      exfalso
      unfold execOp at hh
      simp only [ho, Sem.run_bind] at hh
      cases hr : (resolve a.eval c o.type).run P w with
      | ok d w' => rw [hr] at hh; exact hh
      | halt x w' => rw [hr] at hh; exact hh
    | _ => rw [Oper.semAt_eq _ _ _ (by rw [ho]; intro c e; cases e)]
  rw [hs]
  generalize (execOp a.eval o).run P w = r at *
  cases r with
  | ok m w' =>
    cases m <;> simp only [Oper.stillUpon] at hh <;> simp only [Oper.uponIn]
    case enter f args =>
      obtain ⟨rfl, v, hc, hn⟩ := hh
      refine ⟨fun hd => (by rw [hF.depth] at hd; cases hd), hF.calls _ _ _ _ _ _ (hc.mono fun e w'' ⟨he, hw⟩ => ?_)⟩
      subst he; subst hw; exact h _ hn
    all_goals (obtain ⟨rfl, h2⟩ := hh; exact h _ h2)
  | halt x w' => simp only [Oper.stillUpon] at hh

theorem wpOpIn_of_stOp (hF : Wide F) {i : Nat} {a : Act} {K : Act → Prop} {K' : Act → World → Prop} {Q' : Exit → Act → World → Prop} (h : ∀ a, K a → K' a w) (hh : stOp P ops w i K a) : wpOpIn F n P ops Q' i K' a w := by
  unfold stOp at hh
  unfold wpOpIn
  split
  · rename_i ho; simp only [ho] at hh; exact h _ hh
  · rename_i o ho
    simp only [ho] at hh
    split
    · rename_i hw; simp only [hw, if_true] at hh; exact wpIn_of_still hF h hh
    · rename_i hw; simp only [hw] at hh; exact ⟨fun f _ => hF.fn f, h _ hh⟩

theorem wpAnyIn_of_still (hF : Wide F) {Q : Act → Prop} {Q' : Exit → Act → World → Prop} (hQ : ∀ a, Q a → Q' .normal a w) : ∀ (fuel : Nat) (listed : Array Bool) (a : Act),
    wpAnyS P md ops w Q fuel listed a → wpAnyIn F n P md ops Q' fuel listed a w
  | 0, _, _, h => ⟨h.1, hQ _ h.2⟩
  | fuel + 1, _, _, h => ⟨fun h0 => hQ _ (h.1 h0), fun i hi => wpOpIn_of_stOp hF (fun a' => wpAnyIn_of_still hF hQ fuel _ a') (h.2 i hi)⟩

/-- All only reads. -/
theorem wpIn_region_still_lit (hF : Wide F) {id : Nat} {Q : Exit → Act → World → Prop} {a : Act} {w : World} {l : List Oper} (hm : P.follows .mixedOrders = true) (hB : Region.lexB .any l.toArray = true)
    (h : wpStill P l.toArray w.drew (fun a' => Q .normal a' w.drew) l a) : (Code.region id l.toArray true).wpIn F n P Q a w := by
  simp only [Region.lexB, Bool.and_eq_true] at hB
  refine wpIn_region_any hm (wpAnyIn_of_still hF (Q := fun a' => Q .normal a' w.drew) (fun _ h => h) _ _ _ ?_)
  have := wpAnyS_lex (md := .any) (w := w.drew) hB.1 l 0 (Array.replicate l.toArray.size false) a (by simp) (by simpa using hB.2) h
  simpa using this

theorem wpAnyIn_of_head (hF : Wide F) {m g : Nat} {L : Array Bool → Act → Prop} {Q' : Exit → Act → World → Prop} (hL : ∀ listed a, L listed a → wpAnyIn F n P md ops Q' g listed a w) :
    ∀ (f : Nat) (listed : Array Bool) (a : Act), wpAnyL P md ops w m L f listed a → wpAnyIn F n P md ops Q' (f + g) listed a w
  | 0, listed, a, h => by rw [Nat.zero_add]; exact hL _ _ h
  | f + 1, listed, a, h => by
    rw [show f + 1 + g = (f + g) + 1 by omega]
    exact ⟨fun h0 => absurd h0 h.1, fun i hi => wpOpIn_of_stOp hF (fun a' h' => wpAnyIn_of_head hF hL f _ a' h') (h.2 i hi).2⟩

theorem wpAnyIn_of_seq {Q' : Exit → Act → World → Prop} : ∀ (l : List Oper) (k : Nat) (listed : Array Bool) (a : Act) (w : World), (∀ j, l[j]? = ops[k + j]?) →
    Region.seqB md ops l.length k listed = true → wpListIn F n P ops Q' l a w → wpAnyIn F n P md ops Q' l.length listed a w
  | [], _, _, _, _, _, hB, h => ⟨by simpa [Region.seqB] using hB, h⟩
  | o :: l, k, listed, a, w, hl, hB, h => by
    have h0 : ops[k]? = some o := by simpa using (hl 0).symm
    simp only [List.length_cons, Region.seqB, Bool.and_eq_true, decide_eq_true_eq] at hB
    refine ⟨fun h1 => (by rw [hB.1] at h1; cases h1), fun i hi => ?_⟩
    rw [hB.1] at hi
    have hik : i = k := by simpa using hi
    subst hik
    have hw : wpOpIn F n P ops Q' i (wpListIn F n P ops Q' l) a w := by unfold wpOpIn; simp only [h0]; exact h
    exact wpOpIn_mono (fun a' w' h' => wpAnyIn_of_seq l (i + 1) _ a' w' (fun j => by have := hl (j + 1); simpa [Nat.add_assoc, Nat.add_comm 1 j] using this) hB.2 h') hw

/-- The first m only read; the others come behind them, one by one. -/
theorem wpIn_region_still_tail (hF : Wide F) {id : Nat} {Q : Exit → Act → World → Prop} {a : Act} {w : World} {l : List Oper} (m : Nat) (hm : P.follows .mixedOrders = true) (hB : Region.lexTailB .any l.toArray m = true)
    (h : wpStill P l.toArray w.drew (fun a' => wpListIn F n P l.toArray Q (l.drop m) a' w.drew) (l.take m) a) : (Code.region id l.toArray true).wpIn F n P Q a w := by
  simp only [Region.lexTailB, Bool.and_eq_true, decide_eq_true_eq] at hB
  obtain ⟨⟨⟨⟨hsel, hn⟩, hs⟩, hc⟩, hlex⟩ := hB
  have hn' : m < l.length := by simpa using hn
  have htl : (l.take m).length = m := by simp; omega
  have hdl : (l.drop m).length = l.toArray.size - m := by simp
  have inv0 : HeadInv .any l.toArray m (Array.replicate l.toArray.size false) :=
    ⟨by simp, fun j oj _ hl => (by rw [getD_replicate_false] at hl; cases hl), fun t _ ht => getD_in (by simpa using ht) (getD_replicate_false _ _)⟩
  have H := wpAnyL_lex (md := .any) (w := w.drew) (g := l.toArray.size - m) hsel hs hc hn (l.take m) 0 _ a (fun j hj => by
    have hj' : j < m := by rw [htl] at hj; exact hj
    simp [hj']) (by simpa using htl) inv0 (by rw [htl]; exact hlex) h
  refine wpIn_region_any hm ?_
  have := wpAnyIn_of_head hF (n := n) (Q' := Q) (g := l.toArray.size - m) (fun listed a' hL => by
    have := wpAnyIn_of_seq (F := F) (n := n) (md := .any) (Q' := Q) (l.drop m) m listed a' w.drew (fun j => by simp [List.getElem?_drop]) (by rw [hdl]; exact hL.1) hL.2
    rwa [hdl] at this) _ _ _ H
  rw [htl, show m + (l.toArray.size - m) = l.toArray.size by omega] at this
  exact this
end
end Go.Proofs.Ytmeoiennniknlaa.StillIn

namespace Go.Proofs.Ytmeoiennniknlaa.RangeW
open Go Go.RowKit
set_option linter.unusedVariables false

theorem tells {α : Type} {P : Program} {n : Nat} {g : Operand} {ps : Array Tmp} {assign body : Code} {Q : Exit → Act → World → Prop} {a : Act} {w : World} (h1 : 1 ≤ n) {gf : Nat} {lb : Array Value} (hg : a.eval g = .func (.func gf) #[] lb)
    (eg : ∀ args w, (callFunc gf args).run P w = .ok (.enter gf args) w) (encs : α → Array Value) (hps : ∀ x, (encs x).size = ps.size) (Kp : World → World → Prop)
    (hKt : ∀ {A B C : World}, Kp A B → Kp B C → Kp A C) (hKb : ∀ (W : World) (l : Nat) (o o' : Obj), w.heap.size ≤ l → W.heap[l]? = some o → o.isCells = false → Kp W (W.putObj l o'))
    (N : Nat) (I S : List α → World → Prop) (hI : OwnFrom w.heap.size I) (hS : OwnFrom w.heap.size S) (h0 : I [] w)
    (hiter : ∀ (l : Nat) (J : List α → World → Prop) (W : World), Below w.heap.size w W → (∀ xs A B, J xs A → A.grownBy B none → J xs B) →
      (∀ pre x W1, J pre W1 → pre.length < N → YieldAt Fence.wide (n - 1 - 1) P l (encs x) W1 fun e W' => e = .returned (.bool true) ∧ J (pre ++ [x]) W' ∧ Kp W1 W') → J [] W →
      CallsIn Fence.wide (n - 1) P gf (#[.func (.yield l) #[] #[]] ++ lb) W fun e W' => (∃ v, e = .returned v) ∧ ∃ xs, S xs W' ∧ J xs W')
    (Ax : α → Act → World → Prop) (hAx : ∀ x a', OwnFrom w.heap.size (fun (_ : Unit) W => Ax x a' W))
    (hassign : ∀ (l : Nat) (pre : List α) (x : α) (W : World) (K : Act → World → Prop), I pre W → (∀ a' W', KeepsOthers W W' → Kp W W' → I pre W' → Ax x a' W' → K a' W') →
      assign.wpIn (Fence.wide.inRound l) (n - 1 - 1) P (Exit.then K (fun _ _ _ => False)) { tmps := (ps.zip (encs x)).foldl (fun t (p, v) => t.setIfInBounds p v) a.tmps, defers := [] } W)
    (hbody : ∀ (l : Nat) (pre : List α) (x : α) (a' : Act) (W : World), I pre W → Ax x a' W → pre.length < N → body.wpIn (Fence.wide.inRound l) (n - 1 - 1) P (fun e _ W' => e = .normal ∧ KeepsOthers W W' ∧ Kp W W' ∧ I (pre ++ [x]) W') a' W)
    (hdone : ∀ (D : Nat) (xs : List α) (W : World), w.heap.size ≤ D → S xs W → I xs W → W.heap[D]? = some (.deferred (some [])) → Q .normal { a with defers := { target := .collected D, args := #[] } :: a.defers } W) :
    (Code.rangeFunc g ps assign body).wpIn Fence.wide n P Q a w := by
  refine wpIn_rangeFunc fun fn hfn => ?_
  -- the loop's record, by its state
  let R : LoopState → Option Code → Obj := fun st pe => .loop { state := st, pending := pe, fn, tmps := a.tmps, params := ps, assign, body, defers := w.heap.size }
  have hRc : ∀ st pe, (R st pe).isCells = false := fun _ _ => rfl
  obtain ⟨V, hV⟩ : ∃ V, (w.alloc (.deferred (some []))).alloc (R .ready none) = V := ⟨_, rfl⟩
  have hb : Below w.heap.size w V := by rw [← hV]; exact ((Below.refl _ w).alloc (Nat.le_refl _) _).alloc (by simp) _
  have hl0 : V.heap[w.heap.size + 1]? = some (R .ready none) := by
    rw [← hV]; have := World.alloc_heap_new (w.alloc (.deferred (some []))) (R .ready none); rwa [World.size_alloc] at this
  have hd0 : V.heap[w.heap.size]? = some (.deferred (some [])) := by
    rw [← hV]; exact (Below.heap_alloc _ _ _ (by simp)).trans (World.alloc_heap_new w _)
  have hi0 : I [] V := by rw [← hV]; exact hI.alloc _ (hI.alloc _ h0)
  refine ⟨w.heap.size + 1, [{ target := .collected w.heap.size, args := #[] }], V, { target := .fn (.func gf) lb, args := #[.func (.yield (w.heap.size + 1)) #[] #[]] }, V, gf, #[.func (.yield (w.heap.size + 1)) #[] #[]] ++ lb, V,
    by rw [← hV]; exact run_enterLoop_outer _ _ _ _ _, by simp only [resolve, hg]; simp [go_sem], fun f' _ => trivial, by simp [invoke, go_sem, eg], fun _ => h1, ?_⟩
  refine (hiter (w.heap.size + 1) (fun pre W => I pre W ∧ W.heap[w.heap.size + 1]? = some (R .ready none) ∧ W.heap[w.heap.size]? = some (.deferred (some []))) V hb ?_ ?_ ⟨hi0, hl0, hd0⟩).mono ?_
  · rintro xs A B ⟨hi, hl, hd⟩ hgr
    have hk : ∀ k o, A.heap[k]? = some o → B.heap[k]? = some o := fun k o h => (hgr.block k (Array.getElem?_eq_some_iff.1 h).1 (by simp)).trans h
    exact ⟨hI xs A B none hi hgr (fun r h => by cases h), hk _ _ hl, hk _ _ hd⟩
  · rintro pre x W ⟨hi, hl, hd⟩ hlen
    refine ⟨fn, _, assign, body, run_yield (P := P) (args := encs x) hl (hps x), roundIn_of_wpIn hfn (hassign _ pre x W _ hi ?_)⟩
    intro a' Wa hka hpa hia hax
    have hla := hka.same _ _ hl (hRc _ _)
    have hda := hka.same _ _ hd rfl
    have hlt : w.heap.size + 1 < Wa.heap.size := (Array.getElem?_eq_some_iff.1 hla).1
    refine ⟨_, run_beginRound hla rfl, ?_⟩
    have hlb : (Wa.putObj (w.heap.size + 1) (R .busy none)).heap[w.heap.size + 1]? = some (R .busy none) := World.putObj_heap_same hlt
    have hdb : (Wa.putObj (w.heap.size + 1) (R .busy none)).heap[w.heap.size]? = some (.deferred (some [])) := (World.putObj_heap_other (by omega)).trans hda
    have hpb : Kp Wa (Wa.putObj (w.heap.size + 1) (R .busy none)) := hKb _ _ _ _ (by omega) hla (hRc _ _)
    refine wpIn_mono (hbody _ pre x a' (Wa.putObj (w.heap.size + 1) (R .busy none)) (hI.putObj _ hia (by omega) hla (hRc _ _)) ((hAx x a').putObj (s := ()) _ hax (by omega) hla (hRc _ _)) hlen) ?_
    rintro e a3 W3 ⟨rfl, hk3, hp3, hi3⟩
    have hl3 := hk3.same _ _ hlb (hRc _ _)
    have hd3 := hk3.same _ _ hdb rfl
    have hlt3 : w.heap.size + 1 < W3.heap.size := (Array.getElem?_eq_some_iff.1 hl3).1
    exact ⟨_, _, run_endRound (P := P) none hl3, rfl, ⟨hI.putObj _ hi3 (by omega) hl3 (hRc _ _), World.putObj_heap_same hlt3, (World.putObj_heap_other (by omega)).trans hd3⟩,
      hKt hpa (hKt (hKt hpb hp3) (hKb _ _ _ _ (by omega) hl3 (hRc _ _)))⟩
  · rintro e W2 ⟨⟨v, rfl⟩, xs, hs, hi, hl, hd⟩
    exact ⟨none, _, run_endLoop (P := P) hl (by simp), hdone _ xs _ (Nat.le_refl _) (hS.putObj _ hs (by omega) hl (hRc _ _)) (hI.putObj _ hi (by omega) hl (hRc _ _)) ((World.putObj_heap_other (by omega)).trans hd)⟩
end Go.Proofs.Ytmeoiennniknlaa.RangeW

namespace Go.Proofs.Ytmeoiennniknlaa.Held
open Go
section
variable {P : Program} {ops : Array Oper} {Q : Exit → Act → World → Prop} {md : Region.Mode} {S : World → Prop}

/-- An operation that is passed over is taken first. -/
theorem take_pass {i : Nat} (d : Option Tmp) {fuel : Nat} {listed : Array Bool} {a : Act} {w : World} (hd : (ops[i]?).map (·.dst) = some d)
    (hw : (ops[i]?).map (fun o => Region.wanted o (yielded ops a.tmps)) = some false)
    (hs : Region.noSelect ops = true) (hf : Region.free md ops listed i = true) (hr : (Region.ready md ops listed).contains i = true)
    (hQ : ∀ c a w, Q (.panic c) (a.put d undef) w → Q (.panic c) a w) (hS : S w)
    (h : wpAnyH P md ops Q S fuel (listed.setIfInBounds i true) (a.put d undef) w) : wpAnyH P md ops Q S (fuel + 1) listed a w := by
  cases ho : ops[i]? with
  | none => rw [ho] at hd; cases hd
  | some o =>
    rw [ho] at hd hw
    simp only [Option.map_some, Option.some.injEq] at hd hw
    subst hd
    exact wpAnyH_take (v := undef) ho hs hf hr hQ (Or.inr ⟨hw, rfl⟩) hS h

/-- An operation that yields wherever S holds is taken first; its place is named. -/
theorem take_val {i : Nat} (d : Option Tmp) (v : Value) {fuel : Nat} {listed : Array Bool} {a : Act} {w : World} (hd : (ops[i]?).map (·.dst) = some d)
    (hw : (ops[i]?).map (fun o => Region.wanted o (yielded ops a.tmps)) = some true)
    (hs : Region.noSelect ops = true) (hf : Region.free md ops listed i = true) (hr : (Region.ready md ops listed).contains i = true)
    (hQ : ∀ c a w, Q (.panic c) (a.put d v) w → Q (.panic c) a w)
    (hy : ∀ w, S w → (ops[i]?).map (fun o => (execOp a.eval o).run P w) = some (.ok (.value v) w)) (hS : S w)
    (h : wpAnyH P md ops Q S fuel (listed.setIfInBounds i true) (a.put d v) w) : wpAnyH P md ops Q S (fuel + 1) listed a w := by
  cases ho : ops[i]? with
  | none => rw [ho] at hd; cases hd
  | some o =>
    simp only [ho] at hd hw hy
    simp only [Option.map_some, Option.some.injEq] at hd hw hy
    subst hd
    exact wpAnyH_take (v := v) ho hs hf hr hQ (Or.inl ⟨hw, hy⟩) hS h

/-- One operation comes up alone. -/
theorem one_ready {i : Nat} {fuel : Nat} {listed : Array Bool} {a : Act} {w : World} (hr : Region.ready md ops listed = [i])
    (h : AllReadyH P md ops Q S fuel listed a w [i]) : wpAnyH P md ops Q S (fuel + 1) listed a w := wpAnyH_ready hr (by simp) h
end
end Go.Proofs.Ytmeoiennniknlaa.Held

namespace Go.Proofs.Ytmeoiennniknlaa
open Go.ChangeShapes Go.WideShapes Go.ChangeAt Go.RowKit
set_option linter.unusedVariables false

def IsRow (k : IntKind) (w : World) (a : Option Addr) (len cap : Nat) (zs : List Int) : Prop :=
  (a = none ∧ len = 0 ∧ cap = 0 ∧ zs = []) ∨
  ∃ x, a = some x ∧ len ≤ cap ∧ cap ≤ maxLen ∧ zs.length = cap ∧ (∀ i, i < zs.length → w.cell? (x.add i) = some (.int k (zs.getD i 0))) ∧ ∀ n ∈ zs, (Lit.int k n).wf = true
theorem rowOf {H : Type} {enc : TypeId × Value → H} {P : Program} {W : World} {base : Nat} {held : Bool} {t e : TypeId} {k : IntKind} {a : Option Addr} {len cap fuel : Nat} {d : DataW H} {ps : List MemPlace}
    (hu : P.underlying t = some (.slice e)) (he : P.underlying e = some (.int k)) (hc : P.cellsOf e = 1) (hf : DataW.trod enc P W base (fun _ => true) held fuel t (Value.slice a len cap).cells.toList = some (d, ps)) : ∃ zs, IsRow k W a len cap zs := by
  rcases open_ints hu he hc hf with ⟨hcs, _⟩ | ⟨x, l, c, zs, hcs, _, hl, hm, hz, _, hcell, hwz⟩
  · simp [Value.cells] at hcs
    obtain ⟨rfl, rfl, rfl⟩ := hcs
    exact ⟨[], .inl ⟨rfl, rfl, rfl, rfl⟩⟩
  · simp [Value.cells] at hcs
    obtain ⟨rfl, rfl, rfl⟩ := hcs
    exact ⟨zs, .inr ⟨_, rfl, hl, hm, by simpa using hz, hcell, hwz⟩⟩
theorem sliceOf {H : Type} {enc : TypeId × Value → H} {P : Program} {W : World} {base : Nat} {held : Bool} {t e : TypeId} {k : IntKind} {a : Option Addr} {len cap : Nat} {d : DataW H} {ps : List MemPlace}
    (hu : P.underlying t = some (.slice e)) (he : P.underlying e = some (.int k)) (hc : P.cellsOf e = 1) (h : DataW.Trod enc P W base (fun _ => true) held t (Value.slice a len cap) d ps) :
    ∃ l : List Int, len = l.length ∧ (Go.Proofs.YtmeoiennniknlaaW.PrintWords.Kd.int k).C W a l.length l ∧ l.length ≤ maxLen ∧ (∀ x ∈ l, (Lit.int k x).wf = true) ∧ l.length ≤ cap := by
  obtain ⟨fuel, hf⟩ := h
  obtain ⟨zs, hz⟩ := rowOf hu he hc hf
  obtain ⟨l, hl, hr, hm, hw, hcap⟩ := Go.Proofs.YtmeoiennniknlaaW.PrintWords.ReadsInt.ofRowC hz
  exact ⟨l, hl, Go.Proofs.YtmeoiennniknlaaW.PrintWords.Kd.C_of_reads (d := (0 : Int)) (h1 := fun _ => rfl) hr, hm, hw, hcap⟩
end Go.Proofs.Ytmeoiennniknlaa
