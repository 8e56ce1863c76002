/- The walk of the statement FramesMore. -/
import Derived.Test.YtmeoiennniknlaaFrE
namespace Go.Proofs.Ytmeoiennniknlaa.Frames
open Go.RowKit Go.Shelf Go.Proofs.YtmeoiennniknlaaW.PrintWords Go.Proofs.Ytmeoiennniknlaa.Lb Go.Proofs.Ytmeoiennniknlaa.Sums
set_option linter.unusedVariables false
set_option linter.unusedSimpArgs false

section
variable {P : Program} {ops : Array Oper} {rest : List Oper} {o : Oper} {a : Act} {Q : Exit → Act → World → Prop}
/-- append(v, fs...) where the frames' words lie where they lay. -/
theorem app_frames {w0 W : World} (t : TypeId) (ht : P.underlying t = some (.slice 40)) (hinfo : (P.info? 40).map (fun i => (i.zero, i.size, i.bytes)) = some (some (.agg #[(.int .i64 0), (.slice none 0 0)]), kF.sz, 32))
    (hw : Region.wanted o (yielded ops a.tmps) = true) (s x : Operand) (ho : o.op = .call { callee := .builtin .append, args := #[s, x], argTypes := #[t, t] })
    (v : Value) (xs ys : List Fr) (zs : List Fr) (A : Option Addr) (m c L : Nat) (hs : a.eval s = v) (hx : a.eval x = .slice A m c)
    (HR : Hid ((Kd.fixed kF w0).R 40 W w0.heap.size (fun _ => True) v xs)) (HC : Hid (kF.C w0 A m ys)) (HB : Hid (Below w0.heap.size w0 W)) (hz : xs ++ ys = zs) (hL : zs.length = L) (hl : L * 32 ≤ 140737488355328)
    (h : ∀ A1 c1 w1, L ≤ c1 → Hid ((Kd.fixed kF w0).R 40 w1 w0.heap.size (fun _ => True) (.slice A1 L c1) zs) → Hid (kF.C w1 A1 L zs) → Hid (Below w0.heap.size w0 w1) → wpList P ops Q rest (a.put o.dst (.slice A1 L c1)) w1) :
    wpList P ops Q (o :: rest) a W := by
  have hm : ys.length = m := HC.out.1
  have hR : ReadsRow (kF.K w0) kF.sz W A m ys := ReadsRow.imp_ HC.out HB.out (fun _ _ hp => hp)
  refine wpList_step fun K hK => ?_
  refine Kd.R_append_rows_step (Kd.fixed kF w0) (Rr := kF.K w0) (w0 := w0) w0.heap.size hw s x t 40 _ 32 ho ht hinfo rfl (show 0 < kF.sz by decide) (by decide) v xs ys A m c (fun _ => True) (fun k => some k ≠ v.ownBlock) hs hx HR.out hR (fun _ _ h => h) (fun _ h => ⟨trivial, h⟩) (fun _ _ => trivial) HB.out HB.out.size (by
    have : xs.length + m = L := by rw [← hL, ← hz, List.length_append, hm]
    rw [this]; exact hl) ?_
  intro v1 w1 HR1 hb1 _ _
  rw [hz] at HR1
  obtain ⟨A1, c1, hv, hl1, hC1⟩ := Kd.R_reads HR1
  rw [hL] at hv hl1 hC1
  subst hv
  have hC2 : kF.C w1 A1 L zs := ReadsRow.imp_ hC1 (Below.refl _ _) (fun x cs hp => kF.K_below hb1 hp)
  exact hK _ _ (h A1 c1 w1 hl1 (Lib.hid HR1) (Lib.hid hC2) (Lib.hid hb1))
/-- []Frame{}. -/
theorem lit_frames (w0 W : World) (hB : Hid (Below w0.heap.size w0 W)) : Hid ((Kd.fixed kF w0).R 40 (W.alloc (.cells #[] 40)) w0.heap.size (fun _ => True) (.slice (some ⟨W.heap.size, 0, none⟩) 0 0) []) := by
  refine Lib.hid ⟨fun k _ => trivial, ?_⟩
  refine ⟨[], ?_, Reps.none _ _⟩
  have h := World.ownsRow_lit (base := w0.heap.size) (e := 40) (size := 2) W #[] 0 hB.out.size (by decide) (by simp)
  exact (by simpa using h : (W.alloc (.cells #[] 40)).ownsRow w0.heap.size 40 2 (.slice (some ⟨W.heap.size, 0, none⟩) 0 0) 0 [])
end

theorem great_at {w : World} {A : Option Addr} {n c : Nat} {l : List Fr} {g : Bool} (hn : Hid (l.length = n)) (hC : Hid (kF.C w A n l)) (hl : Hid (n ≤ 140737488351232)) (hg : Hid (greatB l = g)) :
    Calls Try.prog 26 #[.slice A n c] w fun e w' => e = .returned (.bool g) ∧ w = w' := by
  have e1 := hn.out
  subst e1
  have h := great_any w A c l hl.out hC.out
  rw [hg.out] at h
  exact h
theorem stream_at {w : World} {e : Nat} (he : e < 4294967296) {A : Option Addr} {n c : Nat} {l : List Fr} (hn : Hid (l.length = n)) (hlen : n ≤ 1000) (hws : Hid (∀ f ∈ l, WS f.f1)) (hC : Hid (kF.C w A n l)) (h : Hid (badB l = false)) :
    Calls Try.prog 38 #[.int .i64 (e : Int), .slice A n c] w fun en w' => ∃ A1 n1 c1, en = .returned (.slice A1 n1 c1) ∧ Hid (n1 = (strW e 0 l).length) ∧ n1 ≤ c1 ∧
      Hid ((Kd.int .u64).R 30 w' w.heap.size (fun _ => True) (.slice A1 n1 c1) (strW e 0 l)) ∧ Hid (Below w.heap.size w w') := by
  have e1 := hn.out
  subst e1
  exact (stream_yes w e he A c l hlen hws.out hC.out h.out).mono fun en w' ⟨A1, c1, h1, h2, h3, h4⟩ => ⟨A1, _, c1, h1, Lib.hid rfl, h2, Lib.hid h3, Lib.hid h4⟩
theorem lj_sum {j la n : Nat} (h : j < n) (hn : la + n ≤ 60) : wrap64 ((la : Int) + (j : Int)) = ((la + j : Nat) : Int) := by unfold wrap64; omega
theorem cell_keep {w w' : World} {a : Addr} {v : Value} (hb : Below w.heap.size w w') (h : w.cell? a = some v) : w'.cell? a = some v := (hb.cell (World.block_lt_of_cell? w a h)).trans h
theorem put_at {w : World} {e k : Nat} {n : Int} (m : Nat) (hn : (m : Int) = n) (he : e < 4294967296) (hm : m < 4294967296) (hk1 : 1 ≤ k) (hk2 : k ≤ 255) (A : Option Addr) (c : Nat) (l : List Int) (hl : WS l) (hlen : l.length ≤ 2000) (hC : (Kd.int .u64).C w A l.length l) :
    Calls Try.prog 27 #[.int .i64 (e : Int), .int .i64 n, .agg #[.int .i64 (k : Int), .slice A l.length c]] w fun en w' => ∃ A1 c1, en = .returned (.slice A1 (l.length + 1) c1) ∧ l.length + 1 ≤ c1 ∧
      (Kd.int .u64).C w' A1 (l.length + 1) (((fmark e m k l : Nat) : Int) :: l) ∧ (Kd.int .u64).R 30 w' w.heap.size (fun _ => True) (.slice A1 (l.length + 1) c1) (((fmark e m k l : Nat) : Int) :: l) ∧ Below w.heap.size w w' := by
  rw [← hn]
  exact put_any w e m k he hm hk1 hk2 A c l hl hlen hC
theorem lj_lt {j la n : Nat} (h : j < n) (hn : la + n ≤ 60) : la + j < 4294967296 := by omega
theorem strW_two (e : Nat) (a b : List Fr) (i : Nat) (h : i < b.length) : strW e 0 (a ++ b.take (i + 1)) = strW e 0 (a ++ b.take i) ++ putW e (a.length + i) b[i] := by
  rw [strW_append, strW_append, List.take_succ_eq_append_getElem h, strW_append, Nat.zero_add, List.length_take, Nat.min_eq_left (Nat.le_of_lt h), List.append_assoc]
  simp [strW]

set_option maxRecDepth 100000 in
set_option maxHeartbeats 400000 in
theorem moreLaw_out (w : World) (e : Int) (A B : Option Addr) (c d : Nat) (a b : List Fr) (hla : a.length ≤ 140737488351232) (hlb : b.length ≤ 140737488351232) (hCa : kF.C w A a.length a) (hCb : kF.C w B b.length b) (hg : greatB a = true ∨ greatB b = true) :
    Calls Try.prog 10 #[.int .u16 e, .slice A a.length c, .slice B b.length d] w fun en w' => en = .returned (.bool true) ∧ Below w.heap.size w w' := by
  have Hla := Lib.hid hla
  have Hlb := Lib.hid hlb
  have HCa := Lib.hid hCa
  have HCb := Lib.hid hCb
  obtain ⟨g1, hg1⟩ : ∃ g, greatB a = g := ⟨_, rfl⟩
  obtain ⟨g2, hg2⟩ : ∃ g, greatB b = g := ⟨_, rfl⟩
  rw [hg1, hg2] at hg
  have Hg1 := Lib.hid hg1
  have Hg2 := Lib.hid hg2
  have h2 : g1 = true ∨ (g1 = false ∧ g2 = true) := by
    cases g1
    · exact Or.inr ⟨rfl, by simpa using hg⟩
    · exact Or.inl rfl
  clear hla hlb hCa hCb hg hg1 hg2
  rcases h2 with rfl | ⟨rfl, rfl⟩
  all_goals
    go_enter Try.func10, Try.ntmps10
    go_wp2_with (first
      | (go_at_call 25; (with_reducible refine (alive6_any _).mono ?_); rintro en w1 ⟨rfl, hb⟩; have Hb1 := Lib.hid hb; clear hb)
      | (go_at_call 26; (with_reducible refine (great_any _ A _ _ Hla.out (Kd.C_below HCa.out Hb1.out)).mono ?_); rw [Hg1.out]; rintro en w2 ⟨rfl, rfl⟩)
      | (go_at_call 26; (with_reducible refine (great_any _ B _ _ Hlb.out (Kd.C_below HCb.out Hb1.out)).mono ?_); rw [Hg2.out]; rintro en w2 ⟨rfl, rfl⟩))
    go_ret
    exact ⟨rfl, Hb1.out⟩

set_option maxRecDepth 100000 in
set_option maxHeartbeats 1000000 in
theorem moreLaw_bad (w : World) (e : Nat) (he : e < 65536) (A B : Option Addr) (c d : Nat) (a b : List Fr) (hCa : kF.C w A a.length a) (hCb : kF.C w B b.length b) (hga : greatB a = false) (hgb : greatB b = false) (h : badB a = true) :
    Calls Try.prog 10 #[.int .u16 (e : Int), .slice A a.length c, .slice B b.length d] w fun en w' => en = .returned (.bool true) ∧ Below w.heap.size w w' := by
  have Hga := Lib.hid hga
  have Hgb := Lib.hid hgb
  have Hla := Lib.hid (greatB_false hga).1
  have Hfa := Lib.hid (greatB_false hga).2
  have Hlb := Lib.hid (greatB_false hgb).1
  have HCa := Lib.hid hCa
  have HCb := Lib.hid hCb
  have Hla2 : Hid (a.length ≤ 140737488351232) := Lib.hid (Nat.le_trans Hla.out (by decide))
  have Hlb2 : Hid (b.length ≤ 140737488351232) := Lib.hid (Nat.le_trans Hlb.out (by decide))
  have Hfa2 : Hid (∀ f ∈ a, f.f1.length ≤ 140737488351232) := Lib.hid (fun f hf => Nat.le_trans (Hfa.out f hf) (by decide))
  have Hbad := Lib.hid h
  clear hCa hCb hga hgb h
  go_enter Try.func10, Try.ntmps10
  go_wp2_with (first
    | (go_at_call 25; (with_reducible refine (alive6_any _).mono ?_); rintro en w1 ⟨rfl, hb⟩; have Hb1 := Lib.hid hb; clear hb)
    | (go_at_call 26; (with_reducible refine (great_any _ A c a Hla2.out (Kd.C_below HCa.out Hb1.out)).mono ?_); rw [Hga.out]; rintro en w2 ⟨rfl, rfl⟩)
    | (go_at_call 26; (with_reducible refine (great_any _ B d b Hlb2.out (Kd.C_below HCb.out Hb1.out)).mono ?_); rw [Hgb.out]; rintro en w2 ⟨rfl, rfl⟩)
    | (go_at_call 38; (with_reducible refine (stream_no _ _ _ _ _ Hla2.out Hfa2.out (Kd.C_below HCa.out Hb1.out) (Or.inr Hbad.out)).mono ?_); rintro en w3 ⟨rfl, hb⟩; have Hb3 := Lib.hid (Hb1.out.trans (hb.mono Hb1.out.size)); clear hb))
  go_loopg [8] a.length (fun kq v8 wr => ∃ (i : Nat), v8 = .int .i64 (i : Int) ∧ Hid (i + kq = a.length) ∧ Hid (∀ f ∈ a.take i, mayB f.f0 f.f1.length = true) ∧ Hid (Below w.heap.size w wr))
  case atStart => exact ⟨0, rfl, Lib.hid (Nat.zero_add _), Lib.hid (by simp), Hb3⟩
  case round =>
    obtain ⟨i, rfl, Hi, Hf, Hb⟩ := hrel
    by_cases h : i < a.length
    · have hi : (i : Int) < (a.length : Int) := by omega
      obtain ⟨ad, A1, c1, rfl, x0, x1, x2, x3⟩ := k_cell (Kd.C_below HCa.out Hb.out) i h
      have Hwl := Lib.hid (Hfa2.out a[i] (List.getElem_mem h))
      have hwp := w64n h Hla.out
      have hsn : mayB a[i].f0 a[i].f1.length = true → ∀ f ∈ a.take (i + 1), mayB f.f0 f.f1.length = true := by
        intro h1 f hf
        rw [List.take_succ_eq_append_getElem h] at hf
        rcases List.mem_append.1 hf with hf | hf
        · exact Hf.out f hf
        · rw [List.mem_singleton.1 hf]; exact h1
      have Hsn := Lib.hid hsn
      obtain ⟨kd, hkd⟩ : ∃ k, k = a[i].f0 := ⟨_, rfl⟩
      obtain ⟨n, hn⟩ : ∃ n, n = a[i].f1.length := ⟨_, rfl⟩
      rw [← hkd, ← hn] at Hsn
      rw [← hkd] at x0
      rw [← hn] at x1 Hwl
      obtain ⟨m, hm⟩ : ∃ m, mayB kd n = m := ⟨_, rfl⟩
      have Hm := Lib.hid hm
      clear hkd hn x2 x3 hm hsn
      cases m with
      | false =>
        go_wp2_with (go_at_call 28; (with_reducible refine (refMay_any _ _ _ _ _ Hwl.out).mono ?_); rw [Hm.out]; rintro en w5 ⟨rfl, hb⟩; have Hb5 := Lib.hid (Hb.out.trans (hb.mono Hb.out.size)); clear hb)
        go_ret
        exact ⟨rfl, Hb5.out⟩
      | true =>
        go_wp2_with (go_at_call 28; (with_reducible refine (refMay_any _ _ _ _ _ Hwl.out).mono ?_); rw [Hm.out]; rintro en w5 ⟨rfl, hb⟩; have Hb5 := Lib.hid (Hb.out.trans (hb.mono Hb.out.size)); clear hb)
        go_roundg (gk - 1)
        case measure => exact kq_less Hi.out h
        case rel => exact ⟨i + 1, by simp [hwp], Lib.hid (kq_next Hi.out h), Lib.hid (Hsn.out Hm.out), Hb5⟩
    · exfalso
      have h1 := badB_of (l := a) (fun f hf => Hf.out f (by rw [List.take_of_length_le (by omega)]; exact hf))
      rw [Hbad.out] at h1
      cases h1

set_option maxRecDepth 100000 in
set_option maxHeartbeats 4000000 in
theorem moreLaw_main (w : World) (e : Nat) (he : e < 65536) (A B : Option Addr) (c d : Nat) (a b : List Fr) (hwa : ∀ f ∈ a, WS f.f1) (hwb : ∀ f ∈ b, WS f.f1) (hca : a.length ≤ c) (hcb : b.length ≤ d) (hCa : kF.C w A a.length a) (hCb : kF.C w B b.length b) (hga : greatB a = false) (hgb : greatB b = false) (h : badB a = false) :
    Calls Try.prog 10 #[.int .u16 (e : Int), .slice A a.length c, .slice B b.length d] w fun en w' => en = .returned (.bool true) ∧ Below w.heap.size w w' := by
  have he2 : e < 4294967296 := Nat.lt_trans he (by decide)
  have Hga := Lib.hid hga
  have Hgb := Lib.hid hgb
  have Hla := Lib.hid (greatB_false hga).1
  have Hlb := Lib.hid (greatB_false hgb).1
  have Hfb := Lib.hid (greatB_false hgb).2
  have HCa := Lib.hid hCa
  have HCb := Lib.hid hCb
  have HSa := Lib.hid hwa
  have HSb := Lib.hid hwb
  have Hla2 : Hid (a.length ≤ 140737488351232) := Lib.hid (Nat.le_trans Hla.out (by decide))
  have Hlb2 : Hid (b.length ≤ 140737488351232) := Lib.hid (Nat.le_trans Hlb.out (by decide))
  have Hla3 : Hid (a.length ≤ 1000) := Lib.hid (Nat.le_trans Hla.out (by decide))
  have Hfb2 : Hid (∀ f ∈ b, f.f1.length ≤ 140737488351232) := Lib.hid (fun f hf => Nat.le_trans (Hfb.out f hf) (by decide))
  have Hbad := Lib.hid h
  have Hmay := Lib.hid (badB_false h)
  have Hfa : Hid (∀ f ∈ a, f.f1.length ≤ 2000) := Lib.hid (fun f hf => (mayB_true.1 (Hmay.out f hf)).2.2)
  have Hlens : Hid (∀ i, (strW e 0 (a ++ b.take i)).length ≤ 126060) := Lib.hid (fun i => by
    have h1 := strW_len e (a ++ b.take i) 0 (fun f hf => by
      rcases List.mem_append.1 hf with hf | hf
      · have := Hfa.out f hf; omega
      · exact Hfb.out f (List.mem_of_mem_take hf))
    have h2 : (a ++ b.take i).length ≤ 60 := by
      rw [List.length_append, List.length_take]
      have := Hla.out
      have := Hlb.out
      omega
    omega)
  have Hab : Hid (a.length + b.length ≤ 60) := Lib.hid (by have := Hla.out; have := Hlb.out; omega)
  obtain ⟨la, hla⟩ : ∃ n, a.length = n := ⟨_, rfl⟩
  have hlai : (la : Int) ≤ 30 := by have := Hla.out; omega
  have HLa := Lib.hid hla
  rw [hla]
  rw [hla] at HCa hca Hla Hla2 Hla3 Hab
  clear hCa hCb hga hgb hwa hwb h hla
  go_enter Try.func10, Try.ntmps10
  go_wp2_with (first
    | (go_at_call 25; (with_reducible refine (alive6_any _).mono ?_); rintro en w1 ⟨rfl, hb⟩; have Hb1 := Lib.hid hb; clear hb)
    | (go_at_call 26; (with_reducible refine (great_at HLa (Lib.hid (Kd.C_below HCa.out Hb1.out)) Hla2 Hga).mono ?_); rintro en w2 ⟨rfl, rfl⟩)
    | (go_at_call 26; (with_reducible refine (great_any _ B d b Hlb2.out (Kd.C_below HCb.out Hb1.out)).mono ?_); rw [Hgb.out]; rintro en w2 ⟨rfl, rfl⟩)
    | (go_at_call 38; (with_reducible refine (stream_at he2 HLa Hla3.out HSa (Lib.hid (Kd.C_below HCa.out Hb1.out)) Hbad).mono ?_); rintro en w3 ⟨A3, n3, c3, rfl, Hn3, hl3, HR3, hb⟩; have Hb3 := Lib.hid (Hb1.out.trans (hb.out.mono Hb1.out.size)); have HR3' := Lib.hid (Kd.R_lower HR3.out Hb1.out.size); clear hb HR3))
  go_loopg [8] la (fun kq v8 wr => ∃ (i : Nat), v8 = .int .i64 (i : Int) ∧ Hid (i + kq = la) ∧ Hid (Below w3.heap.size w3 wr))
  case atStart => exact ⟨0, rfl, Lib.hid (Nat.zero_add _), Lib.hid (Below.refl _ _)⟩
  case round =>
    obtain ⟨i, rfl, Hi, Hb⟩ := hrel
    by_cases h : i < la
    · have hi : (i : Int) < (la : Int) := by omega
      have h' : i < a.length := by rw [HLa.out]; exact h
      obtain ⟨ad, A1, c1, rfl, x0, x1, x2, x3⟩ := k_cell (l := a) (by rw [HLa.out]; exact Kd.C_below (Kd.C_below HCa.out Hb3.out) Hb.out) i h'
      have Hwl := Lib.hid (Nat.le_trans (Hfa.out a[i] (List.getElem_mem h')) (show 2000 ≤ 140737488351232 by decide))
      have hwp := w64n h Hla.out
      have hmay := Hmay.out a[i] (List.getElem_mem h')
      obtain ⟨kd, hkd⟩ : ∃ k, k = a[i].f0 := ⟨_, rfl⟩
      obtain ⟨n, hn⟩ : ∃ n, n = a[i].f1.length := ⟨_, rfl⟩
      rw [← hkd, ← hn] at hmay
      rw [← hkd] at x0
      rw [← hn] at x1 Hwl
      have Hm := Lib.hid hmay
      clear hkd hn x2 x3 hmay
      go_wp2_with (go_at_call 28; (with_reducible refine (refMay_any _ _ _ _ _ Hwl.out).mono ?_); rw [Hm.out]; rintro en w5 ⟨rfl, hb⟩; have Hb5 := Lib.hid (Hb.out.trans (hb.mono Hb.out.size)); clear hb)
      go_roundg (gk - 1)
      case measure => exact kq_less Hi.out h
      case rel => exact ⟨i + 1, by simp [hwp], Lib.hid (kq_next Hi.out h), Hb5⟩
    · have hi : (la : Int) ≤ (i : Int) := by omega
      have hd : decide (i < la) = false := decide_eq_false h
      have HR4 := Lib.hid (Kd.R_below HR3'.out Hb.out)
      have Hb4 := Lib.hid (Hb3.out.trans (Hb.out.mono Hb3.out.size))
      clear HR3' Hb3 Hb1 Hb Hi h
      go_wp2
      go_loopg [7, 9] b.length (fun kq v7 v9 wx => ∃ (j : Nat) (A7 : Option Addr) (n7 c7 : Nat), v7 = .slice A7 n7 c7 ∧ v9 = .int .i64 (j : Int) ∧ Hid (j + kq = b.length) ∧ Hid (n7 = (strW e 0 (a ++ b.take j)).length) ∧
        Hid ((Kd.int .u64).R 30 wx w.heap.size (fun _ => True) (.slice A7 n7 c7) (strW e 0 (a ++ b.take j))) ∧ Hid (∀ f ∈ b.take j, mayB f.f0 f.f1.length = true) ∧ Hid (Below w.heap.size w wx))
      case atStart => exact ⟨0, A3, n3, c3, rfl, rfl, Lib.hid (Nat.zero_add _), by rw [List.take_zero, List.append_nil]; exact Hn3, by rw [List.take_zero, List.append_nil]; exact HR4, Lib.hid (by simp), Hb4⟩
      case round =>
        obtain ⟨j, A7, n7, c7, rfl, rfl, Hj, Hn7, HR7, Hf, Hb⟩ := hrel
        by_cases h : j < b.length
        · have hj : (j : Int) < (b.length : Int) := by omega
          obtain ⟨ad, A1, c1, rfl, x0, x1, x2, x3⟩ := k_cell (Kd.C_below HCb.out Hb.out) j h
          have Hwl := Lib.hid (Hfb2.out b[j] (List.getElem_mem h))
          have Hs := Lib.hid (HSb.out b[j] (List.getElem_mem h))
          have hwp := w64n h Hlb.out
          have hsn : mayB b[j].f0 b[j].f1.length = true → ∀ f ∈ b.take (j + 1), mayB f.f0 f.f1.length = true := by
            intro h1 f hf
            rw [List.take_succ_eq_append_getElem h] at hf
            rcases List.mem_append.1 hf with hf | hf
            · exact Hf.out f hf
            · rw [List.mem_singleton.1 hf]; exact h1
          have Hsn := Lib.hid hsn
          have Htw := Lib.hid (strW_two e a b j h)
          obtain ⟨ws, hws⟩ : ∃ ws, ws = b[j].f1 := ⟨_, rfl⟩
          obtain ⟨m, hm⟩ : ∃ m, mayB b[j].f0 ws.length = m := ⟨_, rfl⟩
          have Hm := Lib.hid hm
          rw [← hws] at x1 x3 Hs Hwl Hsn
          clear hsn hm x2
          cases m with
          | false =>
            clear hws
            go_wp2_with (go_at_call 28; (with_reducible refine (refMay_any _ _ _ _ _ Hwl.out).mono ?_); rw [Hm.out]; rintro en w5 ⟨rfl, hb⟩; have Hb5 := Lib.hid (Hb.out.trans (hb.mono Hb.out.size)); clear hb)
            go_ret
            exact ⟨rfl, Hb5.out⟩
          | true =>
            obtain ⟨k, hk⟩ : ∃ k : Nat, (k : Int) = b[j].f0 := ⟨b[j].f0.toNat, by have := (mayB_true.1 Hm.out).1; omega⟩
            have Hput : Hid (putW e (la + j) b[j] = ((fmark e (la + j) k ws : Nat) : Int) :: ws) := Lib.hid (by
              unfold putW; rw [← hk, ← hws]; simp)
            rw [HLa.out, Hput.out] at Htw
            rw [← hk] at x0 Hm Hsn
            have HX := Lib.hid x3
            have Hk := Lib.hid (mayB_true.1 Hm.out)
            have hlj : wrap64 ((la : Int) + (j : Int)) = ((la + j : Nat) : Int) := lj_sum h Hab.out
            clear hk hws x3 Hput
            go_wp2_with (first
              | (go_at_call 28; (with_reducible refine (refMay_any _ _ _ _ _ Hwl.out).mono ?_); rw [Hm.out]; rintro en w5 ⟨rfl, hb⟩; have q0 := cell_keep hb x0; have q1 := cell_keep hb x1; have Hb5 := Lib.hid (Hb.out.trans (hb.mono Hb.out.size)); have HR5 := Lib.hid (Kd.R_below HR7.out hb); have HX5 := Lib.hid (Kd.C_below HX.out hb); clear hb)
              | (go_at_call 27; (with_reducible refine (put_at (n := (la : Int) + (j : Int)) (la + j) (Int.natCast_add la j) he2 (lj_lt h Hab.out) (by have := Hk.out; omega) (by have := Hk.out; omega) _ _ _ Hs.out Hk.out.2.2 HX5.out).mono ?_); rintro en w6 ⟨A2, c2, rfl, hl2, hC2, hR2, hb2⟩; have HC2 := Lib.hid hC2; have Hb6 := Lib.hid (Hb5.out.trans (hb2.mono Hb5.out.size)); have HR6 := Lib.hid (Kd.R_below HR5.out hb2); clear hC2 hR2 hb2)
              | (at_builtin; refine app_ints (w0 := w) .u64 23 30 8 Try.underlying23 infoU64 (by decide) rfl _ _ rfl (.slice A7 n7 c7) (strW e 0 (a ++ b.take j)) (((fmark e (la + j) k ws : Nat) : Int) :: ws) (strW e 0 (a ++ b.take (j + 1))) A2 (ws.length + 1) c2 _ rfl rfl HR6.out HC2.out Hb6.out Htw.out.symm rfl (Nat.le_trans (Nat.mul_le_mul_right 8 (Hlens.out (j + 1))) (by decide)) ?_; intro A8 c8 w8 hl8 hC8 hR8 hb8; have HR8 := Lib.hid hR8; have Hb8 := Lib.hid hb8; clear hC8 hR8 hb8))
            go_roundg (gk - 1)
            case measure => exact kq_less Hj.out h
            case rel => exact ⟨j + 1, A8, _, c8, rfl, by simp [hwp], Lib.hid (kq_next Hj.out h), Lib.hid rfl, HR8, Lib.hid (Hsn.out Hm.out), Hb8⟩
        · have hj : (b.length : Int) ≤ (j : Int) := by omega
          have htk : b.take j = b := List.take_of_length_le (by omega)
          rw [htk] at Hn7 HR7 Hf
          have Hgood : Hid (∀ f ∈ a ++ b, Good f) := Lib.hid (fun f hf => by
            rcases List.mem_append.1 hf with hf | hf
            · exact Good.may.2 (Hmay.out f hf)
            · exact Good.may.2 (Hf.out f hf))
          have Hwab : Hid (∀ f ∈ a ++ b, WS f.f1) := Lib.hid (fun f hf => by
            rcases List.mem_append.1 hf with hf | hf
            · exact HSa.out f hf
            · exact HSb.out f hf)
          have Hlab : Hid ((a ++ b).length ≤ 1000 ∧ ∀ f ∈ a ++ b, f.f1.length ≤ 2000) := Lib.hid ⟨by rw [List.length_append, HLa.out]; have := Hab.out; omega, fun f hf => (Hgood.out f hf).2.2⟩
          have Hnl : Hid ((a ++ b).length = la + b.length) := Lib.hid (by rw [List.length_append, HLa.out])
          have HC7 : Hid ((Kd.int .u64).C wr A7 n7 (strW e 0 (a ++ b))) := Lib.hid (by rw [Hn7.out]; exact (Kd.R_reads' HR7.out).2.2)
          have hl7 : n7 ≤ c7 := (Kd.R_reads' HR7.out).2.1
          have hn7 : n7 ≤ 126060 := by have := Hlens.out b.length; rw [List.take_length, ← Hn7.out] at this; exact this
          have HW7 : Hid (WS (strW e 0 (a ++ b))) := Lib.hid (strW_WS e (a ++ b) 0 Hgood.out Hwab.out)
          have HT : Hid (allR (e : Int) ((strW e 0 (a ++ b)).length + 1) 0 (strW e 0 (a ++ b)) = (a ++ b, n7)) := Lib.hid (by
            have := allR_str he2 (a ++ b) ((strW e 0 (a ++ b)).length + 1) 0 [] (by have := Hlab.out.1; omega) Hgood.out (getR_nil _ _) (by rw [List.append_nil]; omega)
            rw [List.append_nil] at this
            rw [this, ← Hn7.out])
          obtain ⟨F, hF⟩ : ∃ F, a ++ b = F := ⟨_, rfl⟩
          have HF := Lib.hid hF.symm
          rw [show (a ++ b, n7) = (F, n7) by rw [hF]] at HT
          clear hF
          clear htk HR7 Hf h
          have hab60 : la + b.length ≤ 60 := Hab.out
          go_wp2_with (first
            | (go_at_call 36; (with_reducible refine (all_at HW7 (Lib.hid Hn7.out.symm) (by omega) hl7 HC7 HT).mono ?_); rintro en w8 ⟨A8, c8, rfl, hl8, HC8, Hb8⟩; have HbA := Lib.hid (Hb.out.trans (Hb8.out.mono Hb.out.size)); have HCaA := Lib.hid (Kd.C_below HCa.out HbA.out); have HCbA := Lib.hid (Kd.C_below HCb.out HbA.out); have HL0 := lit_frames w8 w8 (Lib.hid (Below.refl _ _)); have HB0 := Lib.hid ((Below.refl w8.heap.size w8).alloc (Nat.le_refl _) (.cells #[] 40)))
            | (at_builtin; refine app_frames (w0 := w8) 42 Try.underlying42 infoFr (by rfl) _ _ rfl _ [] a a A la c la rfl rfl HL0 HCaA HB0 rfl HLa.out (by omega) ?_; intro A9 c9 w9 hl9 HR9 HC9 Hb9)
            | (at_builtin; refine app_frames (w0 := w8) 42 Try.underlying42 infoFr (by rfl) _ _ rfl (.slice A9 la c9) a b (a ++ b) B b.length d (la + b.length) rfl rfl HR9 HCbA Hb9 rfl Hnl.out (by omega) ?_; intro AX cX wX hlX HRX HCX HbX)
            | (go_at_call 34; (with_reducible refine (same_at HF (Lib.hid rfl) (Lib.hid Hnl.out.symm) Hlab (Lib.hid (Kd.C_below HC8.out HbX.out)) hl8 HCX hlX).mono ?_); rintro en wY ⟨rfl, HbY⟩; have HbZ := Lib.hid (HbA.out.trans ((HbX.out.trans (HbY.out.mono HbX.out.size)).mono HbA.out.size))))
          go_ret
          exact ⟨rfl, HbZ.out⟩

theorem moreLaw (w : World) (e : Int) (he : 0 ≤ e ∧ e < 65536) (A B : Option Addr) (c d : Nat) (a b : List Fr) (hla : a.length ≤ 140737488351232) (hlb : b.length ≤ 140737488351232) (hwa : ∀ f ∈ a, WS f.f1) (hwb : ∀ f ∈ b, WS f.f1) (hca : a.length ≤ c) (hcb : b.length ≤ d) (hCa : kF.C w A a.length a) (hCb : kF.C w B b.length b) :
    Calls Try.prog 10 #[.int .u16 e, .slice A a.length c, .slice B b.length d] w fun en w' => en = .returned (.bool true) ∧ Below w.heap.size w w' := by
  cases hga : greatB a with
  | true => exact moreLaw_out w e A B c d a b hla hlb hCa hCb (Or.inl hga)
  | false =>
    cases hgb : greatB b with
    | true => exact moreLaw_out w e A B c d a b hla hlb hCa hCb (Or.inr hgb)
    | false =>
      obtain ⟨n, rfl⟩ : ∃ n : Nat, e = (n : Int) := ⟨e.toNat, by omega⟩
      cases h : badB a with
      | true => exact moreLaw_bad w n (by omega) A B c d a b hCa hCb hga hgb h
      | false => exact moreLaw_main w n (by omega) A B c d a b hwa hwb hca hcb hCa hCb hga hgb h
theorem framesMore_law (W : World) (x0 : Int) (w0 : (Lit.int .u16 x0).wf = true) {a1 : Option Addr} {cap1 : Nat} (l1 : List Fr) (y1 : l1.length * 32 ≤ 140737488351232) (hw1 : ∀ x ∈ l1, WS x.f1 ∧ x.f1.length ≤ maxLen) (hc1 : l1.length ≤ cap1) (hr1 : kF.C W a1 l1.length l1)
    {a2 : Option Addr} {cap2 : Nat} (l2 : List Fr) (y2 : l2.length * 32 ≤ 140737488351232) (hw2 : ∀ x ∈ l2, WS x.f1 ∧ x.f1.length ≤ maxLen) (hc2 : l2.length ≤ cap2) (hr2 : kF.C W a2 l2.length l2) :
    Calls Try.prog 10 #[.int .u16 x0, .slice a1 l1.length cap1, .slice a2 l2.length cap2] W fun e W' => e = .returned (.bool true) ∧ Below W.heap.size W W' := by
  have b0 := Go.bounds_u16 w0
  exact moreLaw W x0 ⟨by omega, by omega⟩ a1 a2 cap1 cap2 l1 l2 (by omega) (by omega) (fun f hf => (hw1 f hf).1) (fun f hf => (hw2 f hf).1) hc1 hc2 hr1 hr2
end Go.Proofs.Ytmeoiennniknlaa.Frames
