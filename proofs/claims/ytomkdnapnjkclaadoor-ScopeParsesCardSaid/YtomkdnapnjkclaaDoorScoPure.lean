/-
  Sets of names: a list that rises, put, what sort and compact come to; plain.
-/
import Derived.Test.YtomkdnapnjkclaaDoorWords
import Derived.Sort.Walk0
import Derived.Lib.SlicesCompact
namespace Go.Proofs.YtomkdnapnjkclaaDoor.Sco
open Go.RowKit Go.Proofs.YtomkdnapnjkclaaDoor
set_option linter.unusedVariables false
theorem bl_tri (a b : List UInt8) (h1 : ¬ a < b) (h2 : ¬ b < a) : a = b := by
  induction a generalizing b with
  | nil => cases b with
    | nil => rfl
    | cons y ys => exact absurd (List.nil_lt_cons y ys) h1
  | cons x xs ih => cases b with
    | nil => exact absurd (List.nil_lt_cons x xs) h2
    | cons y ys =>
      rw [List.cons_lt_cons_iff] at h1 h2
      have hxy : x = y := by
        rcases Nat.lt_trichotomy x.toNat y.toNat with e | e | e
        · exact absurd (.inl (UInt8.lt_iff_toNat_lt.2 e)) h1
        · exact UInt8.toNat_inj.1 e
        · exact absurd (.inl (UInt8.lt_iff_toNat_lt.2 e)) h2
      subst hxy
      rw [ih ys (fun e => h1 (.inr ⟨rfl, e⟩)) (fun e => h2 (.inr ⟨rfl, e⟩))]
theorem bl_irr (a : List UInt8) : ¬ a < a := List.lt_irrefl a
theorem bl_trans {a b c : List UInt8} (h : a < b) (k : b < c) : a < c := List.lt_trans h k
theorem bl_le {a b : List UInt8} : a ≤ b ↔ ¬ b < a := Iff.rfl
theorem bl_le_trans {a b c : List UInt8} (h : a ≤ b) (k : b ≤ c) : a ≤ c := by
  rw [bl_le] at h k ⊢
  intro e
  by_cases h1 : b < c
  · exact h (bl_trans h1 e)
  · have := bl_tri b c h1 k
    subst this
    exact h e
theorem bl_total (a b : List UInt8) : a ≤ b ∨ b ≤ a := by
  by_cases h : a ≤ b
  · exact .inl h
  · refine .inr ?_
    rw [bl_le] at h ⊢
    intro e
    exact h (fun e2 => bl_irr _ (bl_trans e e2))
theorem ba_inj {a b : ByteArray} (h : a.data.toList = b.data.toList) : a = b := by
  apply ByteArray.ext
  exact Array.toList_inj.1 h
theorem ba_injL {a b : ByteArray} (h : a.toList = b.toList) : a = b := by
  rw [str_toList, str_toList] at h
  exact ba_inj h
theorem ba_eta (b : ByteArray) : (⟨b.data.toList.toArray⟩ : ByteArray) = b := by apply ByteArray.ext; simp
def BLt (a b : ByteArray) : Prop := a.data.toList < b.data.toList
instance (a b : ByteArray) : Decidable (BLt a b) := inferInstanceAs (Decidable (a.data.toList < b.data.toList))
theorem less_iff (a b : ByteArray) : Op.bytesLess a.toList b.toList = true ↔ BLt a b := by
  rw [bytesLess_eq, str_toList, str_toList, decide_eq_true_eq]; rfl
theorem lt_irr (a : ByteArray) : ¬ BLt a a := bl_irr _
theorem lt_trans {a b c : ByteArray} (h : BLt a b) (k : BLt b c) : BLt a c := bl_trans h k
theorem lt_tri {a b : ByteArray} (h1 : ¬ BLt a b) (h2 : ¬ BLt b a) : a = b := ba_inj (bl_tri _ _ h1 h2)
def Rise (xs : List ByteArray) : Prop := xs.Pairwise BLt
theorem rise_cons {x : ByteArray} {xs : List ByteArray} (h : Rise (x :: xs)) : (∀ y ∈ xs, BLt x y) ∧ Rise xs := List.pairwise_cons.1 h
/-- Two lists that rise and hold the same are one. -/
theorem rise_ext (xs ys : List ByteArray) (hx : Rise xs) (hy : Rise ys) (h : ∀ z, z ∈ xs ↔ z ∈ ys) : xs = ys := by
  induction xs generalizing ys with
  | nil => cases ys with
    | nil => rfl
    | cons y ys => exact absurd ((h y).2 (by simp)) (by simp)
  | cons x xs ih => cases ys with
    | nil => exact absurd ((h x).1 (by simp)) (by simp)
    | cons y ys =>
      obtain ⟨hx1, hx2⟩ := rise_cons hx
      obtain ⟨hy1, hy2⟩ := rise_cons hy
      have exy : x = y := by
        rcases List.mem_cons.1 ((h x).1 (by simp)) with e | e
        · exact e
        · rcases List.mem_cons.1 ((h y).2 (by simp)) with e2 | e2
          · exact e2.symm
          · exact absurd (lt_trans (hy1 x e) (hx1 y e2)) (lt_irr _)
      subst exy
      rw [ih ys hx2 hy2 (fun z => ?_)]
      have hz := h z
      rw [List.mem_cons, List.mem_cons] at hz
      constructor
      · intro hm
        rcases hz.1 (.inr hm) with e | e
        · subst e; exact absurd (hx1 z hm) (lt_irr _)
        · exact e
      · intro hm
        rcases hz.2 (.inr hm) with e | e
        · subst e; exact absurd (hy1 z hm) (lt_irr _)
        · exact e
instance decBA : DecidableEq ByteArray := fun a b => decidable_of_iff (a.data = b.data) ⟨fun h => ByteArray.ext h, fun h => by rw [h]⟩
instance decMemBA (x : ByteArray) (l : List ByteArray) : Decidable (x ∈ l) := decidable_of_iff (∃ y, y ∈ l ∧ y = x) ⟨fun ⟨y, h, e⟩ => e ▸ h, fun h => ⟨x, h, rfl⟩⟩
/-- A name goes in ahead of the first greater one. -/
def insS (x : ByteArray) : List ByteArray → List ByteArray
  | [] => [x]
  | y :: ys => if BLt x y then x :: y :: ys else y :: insS x ys
def putS (l : List ByteArray) (x : ByteArray) : List ByteArray := if x ∈ l then l else insS x l
theorem ins_mem (x z : ByteArray) (l : List ByteArray) : z ∈ insS x l ↔ z = x ∨ z ∈ l := by
  induction l with
  | nil => simp [insS]
  | cons y ys ih =>
    rw [insS]
    by_cases h : BLt x y
    · rw [if_pos h]; simp
    · rw [if_neg h, List.mem_cons, ih, List.mem_cons]
      constructor
      · rintro (h | h | h) <;> simp [h]
      · rintro (h | h | h) <;> simp [h]
theorem ins_rise (x : ByteArray) (l : List ByteArray) (h : Rise l) (hx : x ∉ l) : Rise (insS x l) := by
  induction l with
  | nil => exact List.pairwise_singleton _ _
  | cons y ys ih =>
    obtain ⟨h1, h2⟩ := rise_cons h
    rw [List.mem_cons, not_or] at hx
    rw [insS]
    by_cases hlt : BLt x y
    · rw [if_pos hlt]
      refine List.pairwise_cons.2 ⟨fun z hz => ?_, h⟩
      rcases List.mem_cons.1 hz with rfl | hz
      · exact hlt
      · exact lt_trans hlt (h1 z hz)
    · rw [if_neg hlt]
      refine List.pairwise_cons.2 ⟨fun z hz => ?_, ih h2 hx.2⟩
      rcases (ins_mem x z ys).1 hz with rfl | hz
      · by_cases h3 : BLt y z
        · exact h3
        · exact absurd (lt_tri hlt h3) hx.1
      · exact h1 z hz
theorem put_mem (l : List ByteArray) (x z : ByteArray) : z ∈ putS l x ↔ z = x ∨ z ∈ l := by
  unfold putS
  by_cases h : x ∈ l
  · rw [if_pos h]
    constructor
    · exact .inr
    · rintro (rfl | h2)
      · exact h
      · exact h2
  · rw [if_neg h]; exact ins_mem x z l
theorem put_rise (l : List ByteArray) (x : ByteArray) (h : Rise l) : Rise (putS l x) := by
  unfold putS
  by_cases hx : x ∈ l
  · rw [if_pos hx]; exact h
  · rw [if_neg hx]; exact ins_rise x l h hx
theorem ins_len (x : ByteArray) (l : List ByteArray) : (insS x l).length = l.length + 1 := by
  induction l with
  | nil => rfl
  | cons y ys ih =>
    rw [insS]
    by_cases h : BLt x y
    · rw [if_pos h]; rfl
    · rw [if_neg h, List.length_cons, ih]; rfl
theorem put_len (l : List ByteArray) (x : ByteArray) : (putS l x).length ≤ l.length + 1 := by
  unfold putS
  by_cases hx : x ∈ l
  · rw [if_pos hx]; omega
  · rw [if_neg hx, ins_len]; omega
/-- The set of a list's names. -/
def setS (xs : List ByteArray) : List ByteArray := xs.foldl putS []
theorem fold_mem (xs : List ByteArray) : ∀ (acc : List ByteArray) (z : ByteArray), z ∈ xs.foldl putS acc ↔ z ∈ acc ∨ z ∈ xs := by
  induction xs with
  | nil => intro acc z; simp
  | cons x xs ih =>
    intro acc z
    rw [List.foldl_cons, ih, put_mem, List.mem_cons]
    constructor
    · rintro ((h | h) | h) <;> simp [h]
    · rintro (h | h | h) <;> simp [h]
theorem fold_rise (xs : List ByteArray) : ∀ acc : List ByteArray, Rise acc → Rise (xs.foldl putS acc) := by
  induction xs with
  | nil => intro acc h; exact h
  | cons x xs ih => intro acc h; exact ih _ (put_rise acc x h)
theorem fold_len (xs : List ByteArray) : ∀ acc : List ByteArray, (xs.foldl putS acc).length ≤ acc.length + xs.length := by
  induction xs with
  | nil => intro acc; simp
  | cons x xs ih => intro acc; have h1 := ih (putS acc x); have h2 := put_len acc x; rw [List.foldl_cons, List.length_cons]; omega
theorem set_mem (xs : List ByteArray) (z : ByteArray) : z ∈ setS xs ↔ z ∈ xs := by unfold setS; rw [fold_mem]; simp
theorem set_rise (xs : List ByteArray) : Rise (setS xs) := fold_rise xs [] List.Pairwise.nil
theorem set_len (xs : List ByteArray) : (setS xs).length ≤ xs.length := by have := fold_len xs []; simpa [setS] using this
theorem set_of_rise {xs : List ByteArray} (h : Rise xs) : setS xs = xs := rise_ext _ _ (set_rise xs) h (set_mem xs)
theorem set_eq {xs ys : List ByteArray} (h : ∀ z, z ∈ xs ↔ z ∈ ys) : setS xs = setS ys := rise_ext _ _ (set_rise xs) (set_rise ys) (fun z => by rw [set_mem, set_mem]; exact h z)
def allS (a b : List ByteArray) : List ByteArray := setS (a ++ b)
def bothS (a b : List ByteArray) : List ByteArray := setS (a.filter (fun x => decide (x ∈ b)))
def lessS (a b : List ByteArray) : List ByteArray := setS (a.filter (fun x => decide (x ∉ b)))
def withinB (a b : List ByteArray) : Bool := decide ((lessS a b).length = 0)
theorem within_iff (a b : List ByteArray) : withinB a b = true ↔ ∀ z ∈ a, z ∈ b := by
  unfold withinB lessS
  rw [decide_eq_true_eq, List.length_eq_zero_iff]
  constructor
  · intro h z hz
    by_cases hb : z ∈ b
    · exact hb
    · have : z ∈ setS (a.filter (fun x => decide (x ∉ b))) := (set_mem _ _).2 (List.mem_filter.2 ⟨hz, by simpa using hb⟩)
      rw [h] at this
      exact absurd this (by simp)
  · intro h
    have : a.filter (fun x => decide (x ∉ b)) = [] := List.filter_eq_nil_iff.2 (fun z hz => by simpa using h z hz)
    rw [this]; rfl
/-! ### sort, compact -/
theorem sort_le (ss : List (List UInt8)) : (ss.mergeSort fun x y => decide (x ≤ y)).Pairwise (· ≤ ·) := by
  have h := List.pairwise_mergeSort (le := fun x y : List UInt8 => decide (x ≤ y)) (fun a b c h1 h2 => by rw [decide_eq_true_eq] at *; exact bl_le_trans h1 h2) (fun a b => by rw [Bool.or_eq_true, decide_eq_true_eq, decide_eq_true_eq]; exact bl_total a b) ss
  exact h.imp (fun h => by rwa [decide_eq_true_eq] at h)
theorem comp_up {d : List (List UInt8)} (hd : d.Pairwise (· ≤ ·)) (m : Nat) (hm : m ≤ d.length) :
    (Lib.compactUpTo d.toArray m).Pairwise (· < ·) ∧ (∀ z, z ∈ Lib.compactUpTo d.toArray m ↔ ∃ j, j < m ∧ d[j]? = some z) := by
  have hget : ∀ j, j < d.length → d.toArray[j]! = d[j]! := fun j hj => by simp
  induction m with
  | zero => exact ⟨List.Pairwise.nil, fun z => by simp [Lib.compactUpTo]⟩
  | succ m ih =>
    obtain ⟨h1, h2⟩ := ih (by omega)
    have hml : m < d.length := by omega
    have hmd : d[m]? = some d.toArray[m]! := by rw [List.getElem?_eq_getElem hml]; simp [getElem!_pos, hml]
    rw [Lib.compactUpTo_succ]
    by_cases hk : Lib.keeps d.toArray m = true
    · rw [if_pos hk]
      constructor
      · rw [List.pairwise_append]
        refine ⟨h1, List.pairwise_singleton _ _, fun a ha b hb => ?_⟩
        rw [List.mem_singleton] at hb
        subst hb
        obtain ⟨j, hj, hja⟩ := (h2 a).1 ha
        unfold Lib.keeps at hk
        rw [decide_eq_true_eq] at hk
        have hk2 : d.toArray[m]! ≠ d.toArray[m - 1]! := hk.resolve_left (by omega)
        have hm1 : m - 1 < d.length := by omega
        have hmd1 : d[m - 1]? = some d.toArray[m - 1]! := by rw [List.getElem?_eq_getElem hm1]; simp [getElem!_pos, hm1]
        have le1 : a ≤ d.toArray[m - 1]! := by
          by_cases e : j = m - 1
          · subst e; rw [hja] at hmd1; rw [Option.some.inj hmd1]; exact bl_irr _
          · have := List.pairwise_iff_getElem.1 hd j (m - 1) (by omega) hm1 (by omega)
            rw [List.getElem?_eq_getElem (by omega)] at hja hmd1
            rwa [Option.some.inj hja, Option.some.inj hmd1] at this
        have le2 : d.toArray[m - 1]! ≤ d.toArray[m]! := by
          have := List.pairwise_iff_getElem.1 hd (m - 1) m hm1 hml (by omega)
          rw [List.getElem?_eq_getElem (by omega)] at hmd hmd1
          rwa [Option.some.inj hmd, Option.some.inj hmd1] at this
        have lt2 : d.toArray[m - 1]! < d.toArray[m]! := by
          by_cases h9 : d.toArray[m - 1]! < d.toArray[m]!
          · exact h9
          · exact absurd (bl_tri _ _ le2 h9) hk2
        by_cases h9 : a < d.toArray[m - 1]!
        · exact bl_trans h9 lt2
        · rw [bl_tri _ _ h9 le1]; exact lt2
      · intro z
        rw [List.mem_append, h2, List.mem_singleton]
        constructor
        · rintro (⟨j, hj, e⟩ | rfl)
          · exact ⟨j, by omega, e⟩
          · exact ⟨m, by omega, hmd⟩
        · rintro ⟨j, hj, e⟩
          by_cases hjm : j = m
          · subst hjm; rw [hmd] at e; exact .inr (Option.some.inj e).symm
          · exact .inl ⟨j, by omega, e⟩
    · rw [if_neg hk, List.append_nil]
      refine ⟨h1, fun z => ?_⟩
      rw [h2]
      unfold Lib.keeps at hk
      rw [decide_eq_true_eq, not_or, Classical.not_not] at hk
      constructor
      · rintro ⟨j, hj, e⟩; exact ⟨j, by omega, e⟩
      · rintro ⟨j, hj, e⟩
        by_cases hjm : j = m
        · subst hjm
          rw [hmd] at e
          refine ⟨j - 1, by omega, ?_⟩
          have hm1 : j - 1 < d.length := by omega
          rw [← e, hk.2, List.getElem?_eq_getElem hm1]
          simp [getElem!_pos, hm1]
        · exact ⟨j, by omega, e⟩
/-- What sort and compact leave is the set. -/
theorem comp_set (xs : List ByteArray) : (Lib.compact ((xs.map fun s => s.data.toList).mergeSort fun x y => decide (x ≤ y))).map (fun l => (⟨l.toArray⟩ : ByteArray)) = setS xs := by
  obtain ⟨d, hd⟩ : ∃ d, (xs.map fun s => s.data.toList).mergeSort (fun x y => decide (x ≤ y)) = d := ⟨_, rfl⟩
  rw [hd]
  have hs := sort_le (xs.map fun s => s.data.toList)
  rw [hd] at hs
  have hm : ∀ l, l ∈ d ↔ l ∈ xs.map fun s => s.data.toList := fun l => by rw [← hd, List.mem_mergeSort]
  obtain ⟨h1, h2⟩ := comp_up hs d.length (Nat.le_refl _)
  have hc : Lib.compact d = Lib.compactUpTo d.toArray d.length := rfl
  rw [← hc] at h1 h2
  refine rise_ext _ _ ?_ (set_rise xs) (fun z => ?_)
  · unfold Rise
    rw [List.pairwise_map]
    exact h1.imp (fun {a b} h => by unfold BLt; simpa using h)
  · rw [set_mem, List.mem_map]
    constructor
    · rintro ⟨l, hl, rfl⟩
      obtain ⟨j, hj, e⟩ := (h2 l).1 hl
      obtain ⟨s, hs, rfl⟩ := List.mem_map.1 ((hm l).1 (List.mem_of_getElem? e))
      rw [ba_eta]; exact hs
    · intro hz
      have hl := (hm z.data.toList).2 (List.mem_map.2 ⟨z, hz, rfl⟩)
      obtain ⟨j, hj⟩ := List.mem_iff_getElem?.1 hl
      exact ⟨z.data.toList, (h2 _).2 ⟨j, (List.getElem?_eq_some_iff.1 hj).1, hj⟩, ba_eta z⟩
end Go.Proofs.YtomkdnapnjkclaaDoor.Sco
