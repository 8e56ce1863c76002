/- The device: its map of what was written since the last sync; the device as a whole. -/
import Derived.Test.YtmeoiennniknlaaDkA
namespace Go.Proofs.Ytmeoiennniknlaa.Disk
open Go.RowKit Go.Shelf Go.Proofs.YtmeoiennniknlaaW.PrintWords Go.Proofs.Ytmeoiennniknlaa.Lb Go.Proofs.Ytmeoiennniknlaa.Anchor
set_option linter.unusedVariables false
set_option linter.unusedSimpArgs false

def sv (s : List Int) : Value := .agg (nums .u64 s).toArray
def secR (v : Value) : Option (DataW Value × List MemPlace) := some (.held v, [])
def secD : Option (List Int) → DataW Value
  | none => .nil
  | some s => .held (sv s)
def keyL (i : Nat) : Lit := .int .i64 (i : Int)
theorem keyL_lit (i : Nat) : WideAt.IsKeyLit (keyL i) := by simp [WideAt.IsKeyLit, keyL]
theorem keyL_ne {i j : Nat} (h : i ≠ j) : keyL i ≠ keyL j := by
  intro e
  simp only [keyL, Lit.int.injEq, true_and] at e
  omega
def entries : DataW Value → List (Lit × DataW Value)
  | .map es => es
  | _ => []
/-- The map holds M, at keys below n. -/
structure MapIs (D : DataW Value) (n : Nat) (M : Nat → Option (List Int)) : Prop where
  tidy : Maps.Tidy D
  has : ∀ i : Nat, Maps.has D (keyL i) = (M i).isSome
  val : ∀ i : Nat, D.atKey (keyL i) .nil = secD (M i)
  keys : ∀ p ∈ entries D, ∃ i : Nat, i < n ∧ p.1 = keyL i
  low : ∀ i s, M i = some s → i < n

theorem MapIs.empty (n : Nat) : MapIs (.map []) n (fun _ => none) := ⟨Maps.tidy_empty, fun i => rfl, fun i => rfl, fun p hp => (by cases hp), fun i s h => (by cases h)⟩
theorem mem_insert {x p : Lit × DataW Value} : ∀ l, p ∈ DataW.insert x l → p = x ∨ p ∈ l
  | [], h => by simp [DataW.insert] at h; exact Or.inl h
  | y :: r, h => by
    unfold DataW.insert at h
    split at h
    · rcases List.mem_cons.1 h with h | h
      · exact Or.inl h
      · exact Or.inr h
    · rcases List.mem_cons.1 h with h | h
      · exact Or.inr (h ▸ List.mem_cons_self)
      · rcases mem_insert r h with h | h
        · exact Or.inl h
        · exact Or.inr (List.mem_cons_of_mem _ h)
theorem MapIs.put {D : DataW Value} {n : Nat} {M : Nat → Option (List Int)} (h : MapIs D n M) (i : Nat) (hi : i < n) (s : List Int) : MapIs (D.put (keyL i) (.held (sv s))) n (fun k => if k = i then some s else M k) := by
  refine ⟨h.tidy.put (keyL_lit i) _, fun k => ?_, fun k => ?_, fun p hp => ?_, fun k t ht => ?_⟩
  · by_cases hk : k = i
    · subst hk
      rw [Maps.has_put_same h.tidy.isMap (keyL_lit k), if_pos rfl]; rfl
    · rw [Maps.has_put_other (keyL_ne hk), if_neg hk]; exact h.has k
  · by_cases hk : k = i
    · subst hk
      rw [Maps.atKey_put_same h.tidy.isMap (keyL_lit k), if_pos rfl]; rfl
    · rw [Maps.atKey_put_other (keyL_ne hk), if_neg hk]; exact h.val k
  · obtain ⟨es, rfl, _⟩ := h.tidy
    rcases mem_insert _ hp with rfl | hp
    · exact ⟨i, hi, rfl⟩
    · exact h.keys p ((List.mem_filter.1 hp).1)
  · split at ht
    · rename_i e; rw [e]; exact hi
    · exact h.low k t ht
theorem nodup_le : ∀ (n : Nat) (l : List Nat), l.Nodup → (∀ x ∈ l, x < n) → l.length ≤ n
  | 0, l, _, h => by
    cases l with
    | nil => simp
    | cons x l => exact absurd (h x List.mem_cons_self) (Nat.not_lt_zero _)
  | n + 1, l, hd, h => by
    by_cases hm : n ∈ l
    · have h1 := nodup_le n (l.erase n) (hd.erase n) (fun x hx => by
        have h2 := h x (List.mem_of_mem_erase hx)
        have h3 : x ≠ n := fun e => by rw [e] at hx; exact List.Nodup.not_mem_erase hd hx
        omega)
      rw [List.length_erase_of_mem hm] at h1
      omega
    · have h1 := nodup_le n l hd (fun x hx => by
        have h2 := h x hx
        have h3 : x ≠ n := fun e => hm (e ▸ hx)
        omega)
      omega
def keyN : Lit → Nat
  | .int _ a => a.toNat
  | _ => 0
theorem keyN_L (i : Nat) : keyN (keyL i) = i := by simp [keyN, keyL]
theorem MapIs.size {D : DataW Value} {n : Nat} {M : Nat → Option (List Int)} (h : MapIs D n M) : Maps.size D ≤ n := by
  obtain ⟨es, rfl, hp⟩ := h.tidy
  have h1 := nodup_le n (es.map (fun p => keyN p.1)) ?_ ?_
  · simpa [Maps.size] using h1
  · rw [List.Nodup, List.pairwise_map]
    refine List.Pairwise.imp_of_mem (fun {p q} hp' hq' hne => ?_) hp
    obtain ⟨i, _, e1⟩ := h.keys p hp'
    obtain ⟨j, _, e2⟩ := h.keys q hq'
    rw [e1, e2, keyN_L, keyN_L]
    intro e
    exact hne (by rw [e1, e2, e])
  · intro x hx
    obtain ⟨p, hp', rfl⟩ := List.mem_map.1 hx
    obtain ⟨i, hi, e1⟩ := h.keys p hp'
    rw [e1, keyN_L]; exact hi
end Go.Proofs.Ytmeoiennniknlaa.Disk
