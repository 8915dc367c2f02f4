/-
  Scopes come back from their text; laws of sets: plain.
-/
import Derived.Test.YtomkdnapnjkclaaDoorScoParse
import Derived.Test.YtomkdnapnjkclaaDoorScoCheck
namespace Go.Proofs.YtomkdnapnjkclaaDoor.Sco
open Go.RowKit Go.Proofs.YtomkdnapnjkclaaDoor
set_option linter.unusedVariables false
set_option linter.unusedSimpArgs false
theorem name_no32 {x : ByteArray} (h : nameB x = true) : (32 : UInt8) ∉ x.data.toList := by
  intro hm
  unfold nameB nameL at h
  rw [Bool.and_eq_true] at h
  have h9 := List.all_eq_true.1 h.1 32 hm
  exact absurd h9 (by decide)
theorem name_ne {x : ByteArray} (h : nameB x = true) : x.data.toList ≠ [] := by
  intro e
  unfold nameB at h
  rw [Bool.and_eq_true, Bool.and_eq_true] at h
  have h9 := of_decide_eq_true h.2.1
  apply h9
  rw [← str_len, e]; rfl
theorem splitS_app {c : UInt8} {a : List UInt8} (h : c ∉ a) (b : List UInt8) : splitS c (a ++ c :: b) = a :: splitS c b := by
  have := splitS_at (c := c) (l := a ++ c :: b) (m := a.length) (by simp) (fun k hk e => by
    rw [List.getElem?_append_left hk] at e
    exact h (List.mem_of_getElem? e))
  rw [this]
  simp
theorem split_print (xs : List ByteArray) : ∀ x : ByteArray, (∀ y ∈ x :: xs, nameB y = true) → splitS 32 (x.data.toList ++ tailS xs) = (x :: xs).map (·.data.toList) := by
  induction xs with
  | nil =>
    intro x h
    rw [tailS, List.append_nil, splitS_none (name_no32 (h x (by simp)))]
    rfl
  | cons y ys ih =>
    intro x h
    rw [tailS, splitS_app (name_no32 (h x (by simp))), ih y (fun z hz => h z (List.mem_cons_of_mem _ hz))]
    rfl
/-- Scopes come back from their text. -/
theorem parse_print {xs : List ByteArray} (h : Good xs) : parseS (printS xs) = some xs := by
  cases xs with
  | nil => rw [printS_nil]; unfold parseS; rw [if_pos rfl]
  | cons x xs =>
    have hn := good_name h
    rw [printS_cons]
    unfold parseS
    rw [if_neg (by
      intro e
      have := congrArg List.length e
      rw [List.length_append] at this
      exact name_ne (hn x (by simp)) (List.eq_nil_of_length_eq_zero (by rw [List.length_nil] at this; omega))), split_print xs x hn]
    have hmk : mk ((x :: xs).map (·.data.toList)) = x :: xs := by
      unfold mk
      rw [List.map_map]
      have : ((fun l : List UInt8 => (⟨l.toArray⟩ : ByteArray)) ∘ fun p : ByteArray => p.data.toList) = id := by funext p; exact ba_eta p
      rw [this, List.map_id]
    have hany : ((x :: xs).any fun s => !nameB s) = false := by
      rw [List.any_eq_false]
      intro y hy
      simp [hn y hy]
    rw [hmk, set_of_rise (good_rise h), if_pos ⟨hany, good_len h⟩]
theorem mem_both (a b : List ByteArray) (z : ByteArray) : z ∈ bothS a b ↔ z ∈ a ∧ z ∈ b := by unfold bothS; rw [set_mem, List.mem_filter, decide_eq_true_eq]
theorem mem_less (a b : List ByteArray) (z : ByteArray) : z ∈ lessS a b ↔ z ∈ a ∧ z ∉ b := by unfold lessS; rw [set_mem, List.mem_filter, decide_eq_true_eq]
theorem mem_all (a b : List ByteArray) (z : ByteArray) : z ∈ allS a b ↔ z ∈ a ∨ z ∈ b := by unfold allS; rw [set_mem, List.mem_append]
theorem law_ba (a b : List ByteArray) : withinB (bothS a b) a = true := (within_iff _ _).2 (fun z hz => ((mem_both _ _ _).1 hz).1)
theorem law_bb (a b : List ByteArray) : withinB (bothS a b) b = true := (within_iff _ _).2 (fun z hz => ((mem_both _ _ _).1 hz).2)
theorem law_aa (a b : List ByteArray) : withinB a (allS a b) = true := (within_iff _ _).2 (fun z hz => (mem_all _ _ _).2 (.inl hz))
theorem law_ab (a b : List ByteArray) : withinB b (allS a b) = true := (within_iff _ _).2 (fun z hz => (mem_all _ _ _).2 (.inr hz))
theorem law_sum (a b : List ByteArray) : allS (bothS a b) (lessS a b) = allS a [] := by
  refine rise_ext _ _ (set_rise _) (set_rise _) (fun z => ?_)
  rw [mem_all, mem_all, mem_both, mem_less]
  by_cases h : z ∈ b <;> simp [h]
theorem law_none (a b : List ByteArray) : (bothS (lessS a b) b).length = 0 := by
  rw [List.length_eq_zero_iff, List.eq_nil_iff_forall_not_mem]
  intro z hz
  rw [mem_both, mem_less] at hz
  exact hz.1.2 hz.2
theorem law_sym (a b : List ByteArray) : bothS a b = bothS b a := rise_ext _ _ (set_rise _) (set_rise _) (fun z => by rw [mem_both, mem_both]; exact And.comm)
theorem law_com (a b : List ByteArray) : allS a b = allS b a := rise_ext _ _ (set_rise _) (set_rise _) (fun z => by rw [mem_all, mem_all]; exact Or.comm)
theorem tail_lenG (xs : List ByteArray) (m : Nat) (h : ∀ x ∈ xs, x.size ≤ m) : (tailS xs).length ≤ xs.length * (m + 1) := by
  induction xs with
  | nil => simp [tailS]
  | cons x xs ih =>
    have h1 := ih (fun y hy => h y (by simp [hy]))
    have h2 := h x (by simp)
    rw [← str_len] at h2
    rw [tailS, List.length_cons, List.length_append, List.length_cons, Nat.add_mul]
    omega
theorem join_lenG (xs : List ByteArray) (m : Nat) (h : ∀ x ∈ xs, x.size ≤ m) : (printS xs).length ≤ xs.length * (m + 1) := by
  cases xs with
  | nil => simp [printS_nil]
  | cons x xs =>
    have h1 := tail_lenG xs m (fun y hy => h y (by simp [hy]))
    have h2 := h x (by simp)
    rw [← str_len] at h2
    rw [printS_cons, List.length_append, List.length_cons, Nat.add_mul]
    omega
theorem both_len (a b : List ByteArray) : (bothS a b).length ≤ a.length := Nat.le_trans (set_len _) (List.length_filter_le _ _)
theorem less_len (a b : List ByteArray) : (lessS a b).length ≤ a.length := Nat.le_trans (set_len _) (List.length_filter_le _ _)
theorem all_len (a b : List ByteArray) : (allS a b).length ≤ a.length + b.length := by have := set_len (a ++ b); rw [List.length_append] at this; exact this
end Go.Proofs.YtomkdnapnjkclaaDoor.Sco
