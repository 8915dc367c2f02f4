/-
  scope.Parse, Print by contract.
-/
import Derived.Test.YtomkdnapnjkclaaDoorScoOps
import Derived.Test.YtomkdnapnjkclaaDoorStrSplit
import Derived.Test.YtomkdnapnjkclaaDoorErr
namespace Go.Proofs.YtomkdnapnjkclaaDoor.Sco
open Go.RowKit Go.Proofs.YtomkdnapnjkclaaDoor Go.Proofs.YtomkdnapnjkclaaDoor.PScopeSets Go.Proofs.YtomkdnapnjkclaaDoorW.PrintWords Go.Proofs.YtomkdnapnjkclaaDoorW.PrintLast Go.Proofs.YtomkdnapnjkclaaDoorW.PrintMore
set_option linter.unusedVariables false
set_option linter.unusedSimpArgs false
theorem parse1_gives (x : ByteArray) (y : World) (hx : x.size ≤ 1048576) : FnGives Tryd.prog 37 #[] #[.string x] (.bool (!nameB x)) y := by
  show Calls Tryd.prog 37 #[.string x] y _
  obtain ⟨r, hr⟩ : ∃ r, nameB x = r := ⟨_, rfl⟩
  have HH := hid (name_any x y hx)
  rw [hr] at HH ⊢
  clear hr
  go_enter Tryd.func37, Tryd.ntmps37
  go_wp2_with fail
  refine HH.out.mono ?_
  rintro e w' ⟨rfl, hd⟩
  have HD := hid hd
  clear hd HH
  go_wp2_with fail
  go_ret
  exact ⟨by simp, HD.out.out⟩
/-- A text of at most a million bytes. -/
abbrev Txt := { s : ByteArray // s.size ≤ 1048576 }
instance : Inhabited Txt := ⟨⟨⟨#[]⟩, by decide⟩⟩
def encT (x : Txt) : Value := .string x.1
theorem lift_txt (ps : List ByteArray) (h : ∀ x ∈ ps, x.size ≤ 1048576) : ∃ zs : List Txt, zs.map (·.1) = ps := by
  induction ps with
  | nil => exact ⟨[], rfl⟩
  | cons x xs ih =>
    obtain ⟨zs, hz⟩ := ih (fun y hy => h y (by simp [hy]))
    exact ⟨⟨x, h x (by simp)⟩ :: zs, by simp [hz]⟩
theorem contains_any (ps : List ByteArray) (v : Value) (w : World) (hr : RowC w v (ps.map Value.string)) (hs : ∀ x ∈ ps, x.size ≤ 1048576) (hn : ps.length ≤ 1048576) :
    Calls Tryd.prog 36 #[v, .func (.func 37) #[] #[]] w (BP (ps.any fun s => !nameB s) w) := by
  obtain ⟨A, cap, rfl, _, hc⟩ := hr
  rw [List.length_map] at hc ⊢
  by_cases h0 : ps.length = 0
  · have e : ps = [] := List.eq_nil_of_length_eq_zero h0
    subst e
    refine (Tryd.slices_ContainsFunc_empty (α := Txt) A cap (.func (.func 37) #[] #[]) w).mono ?_
    rintro e w' ⟨rfl, rfl⟩
    exact ⟨rfl, Drawn0.refl _⟩
  · obtain ⟨b, o, rfl, hi⟩ := hc (by omega)
    obtain ⟨zs, hz⟩ := lift_txt ps hs
    have hzl : zs.length = ps.length := by rw [← hz, List.length_map]
    have hq := Tryd.slices_ContainsFunc encT (fun x : Txt => !nameB x.1) 37 #[] (enters_of Tryd.func37 (by kernel_rfl) rfl) b o ps.length cap zs w
      (fun W x _ => parse1_gives x.1 W x.2) (by omega) (by omega) (fun j hj => hi j _ (by
        rw [← hz, List.getElem?_map, List.getElem?_map, List.getElem?_eq_getElem hj]
        simp [encT, hj]))
    refine hq.mono ?_
    rintro e w' ⟨rfl, q, rfl⟩
    refine ⟨?_, ⟨⟨q, rfl⟩⟩⟩
    rw [← hzl, List.take_length, ← hz, List.any_map]
    rfl
theorem row_weak {w : World} {v : Value} {ps : List ByteArray} (hr : RowC w v (ps.map Value.string)) : InW w v ps := by
  obtain ⟨A, cap, rfl, hm, hc⟩ := hr
  rw [List.length_map] at hc hm ⊢
  refine ⟨A, cap, rfl, rfl, by have : maxLen = 9223372036854775807 := rfl; omega, fun h0 => ?_⟩
  obtain ⟨b, o, rfl, hi⟩ := hc h0
  refine ⟨_, rfl, fun j p hj => ⟨[.string p], rfl, rfl, fun i u hu => ?_⟩⟩
  match i, hu with
  | 0, hu =>
    cases hu
    have h9 := hi j (.string p) (by rw [List.getElem?_map, hj]; rfl)
    rw [Addr.add_lit]
    show w.cell? ⟨b, o + (j * 1 + 0), none⟩ = _
    rw [show j * 1 + 0 = j by omega]
    exact h9
/-- The scopes of a text. -/
def parseS (l : List UInt8) : Option (List ByteArray) :=
  if l = [] then some [] else if (mk (splitS 32 l)).any (fun s => !nameB s) = false ∧ (setS (mk (splitS 32 l))).length ≤ 16 then some (setS (mk (splitS 32 l))) else none
def ParsePost (o : Option (List ByteArray)) (w : World) (e : Ending) (w' : World) : Prop :=
  ∃ v er, e = .returned (.tuple #[v, er]) ∧ OwnS w' w.heap.size v (o.getD []) ∧ IsErr w' (if o.isSome = true then .nil else .no 70) er ∧ Below w.heap.size w w'
theorem ParsePost.mk {o o' : Option (List ByteArray)} {xs : List ByteArray} {g : GErr} {w w' : World} {v er : Value} (h : o = o') (hx : o'.getD [] = xs) (hg : (if o'.isSome = true then GErr.nil else GErr.no 70) = g) (hv : OwnS w' w.heap.size v xs) (he : IsErr w' g er) (hb : Below w.heap.size w w') : ParsePost o w (.returned (.tuple #[v, er])) w' := by
  subst h; subst hx; subst hg; exact ⟨v, er, rfl, hv, he, hb⟩
theorem split_small {c : UInt8} : ∀ {l : List UInt8} {p : List UInt8}, p ∈ splitS c l → p.length ≤ l.length := by
  intro l
  induction l with
  | nil => intro p h; simp [splitS] at h; subst h; simp
  | cons b l ih =>
    intro p h
    rw [splitS] at h
    by_cases e : b = c
    · rw [if_pos e] at h
      rcases List.mem_cons.1 h with rfl | h
      · simp
      · have := ih h; simp; omega
    · rw [if_neg e] at h
      cases hs : splitS c l with
      | nil => exact absurd hs (splitS_ne c l)
      | cons q qs =>
        rw [hs] at h ih
        rcases List.mem_cons.1 h with rfl | h
        · have := ih (List.mem_cons_self (a := q) (l := qs)); simp; omega
        · have := ih (List.mem_cons_of_mem q h); simp; omega
set_option maxHeartbeats 4000000 in
set_option maxRecDepth 20000 in
theorem parse_any (s : ByteArray) (w : World) (hs : s.size ≤ 100000) : Calls Tryd.prog 21 #[.string s] w (ParsePost (parseS s.data.toList) w) := by
  have hln := str_len s
  by_cases h0 : s.size = 0
  · have hE : s.data.toList = [] := List.eq_nil_of_length_eq_zero (by omega)
    have HP : Hid (parseS s.data.toList = some []) := hid (by unfold parseS; rw [if_pos hE])
    have hn0 : s.toList = [] := str_empty s h0
    clear hE hln h0
    go_enter Tryd.func21, Tryd.ntmps21
    go_wp2_with fail
    go_ret2
    exact ParsePost.mk HP.out rfl rfl (OwnS.nil _ _) rfl (Below.refl _ _)
  · have hn1 : 0 < s.size := by omega
    have hn2 := str_ne_empty s hn1
    have hn3 := str_not_empty s hn1
    have hn4 : (s.toList == ([] : List UInt8)) = false := by simpa using hn3
    have hn5 : s.toList.isEmpty = false := by simpa using hn3
    have hlist : s.data.toList ≠ [] := fun e => by rw [e] at hln; simp at hln; omega
    obtain ⟨R, hR⟩ : ∃ R, parseS s.data.toList = R := ⟨_, rfl⟩
    have hP := hR
    unfold parseS at hP
    rw [if_neg hlist] at hP
    rw [hR]
    have HP := hid hP
    have HSP := hid (split_any s 32 w (by omega))
    have HSL := hid hln
    clear hP hR hlist hln
    go_enter Tryd.func21, Tryd.ntmps21
    go_wp2_with fail
    refine HSP.out.mono ?_
    clear HSP
    rintro e w1 ⟨v, ps, rfl, hr, hm, hb⟩
    have hpz : ∀ x ∈ ps, x.size ≤ 100000 := fun x hx => by
      have h9 : x.data.toList ∈ ps.map (fun p => p.data.toList) := List.mem_map.2 ⟨x, hx, rfl⟩
      rw [hm] at h9
      have := split_small h9
      rw [HSL.out, str_len] at this
      omega
    have hpl : ps.length ≤ 100001 := by
      have h1 := congrArg List.length hm
      rw [List.length_map, splitS_len] at h1
      have h2 : s.data.toList.count 32 ≤ s.data.toList.length := List.count_le_length
      rw [HSL.out] at h2
      omega
    have hmk : mk (splitS 32 s.data.toList) = ps := by
      rw [← hm]
      unfold mk
      rw [List.map_map]
      have : ((fun l : List UInt8 => (⟨l.toArray⟩ : ByteArray)) ∘ fun p : ByteArray => p.data.toList) = id := by funext p; exact ba_eta p
      rw [this, List.map_id]
    have hp2 := HP.out
    rw [hmk] at hp2
    have HP2 := hid hp2
    have HR := hid hr
    have HW := hid (row_weak hr)
    have HB := hid hb
    obtain ⟨A, cap, hv, _⟩ := hr
    rw [List.length_map] at hv
    subst hv
    clear hm hb hp2 hmk
    go_wp2_with fail
    have hbw : Below w1.heap.size w1 (w1.alloc (.cells #[.slice A ps.length cap] 22)) := (Below.refl _ w1).alloc (Nat.le_refl _) _
    have hc := set_any 33 #[] (enters_of Tryd.func33 (by kernel_rfl) rfl) (fun _ => true) [ps] w1.heap.size (w1.alloc (.cells #[.slice A ps.length cap] 22)) (by
      intro j l hj
      match j, hj with
      | 0, hj => cases hj; exact ⟨_, by simp, HW.out.below hbw⟩) (fun y _ l _ x _ => always_gives x y) (by simp) (by simp; omega)
    have he : ([ps].flatten.filter fun _ => true) = ps := by rw [List.filter_eq_self.2 (fun _ _ => rfl)]; simp
    rw [he] at hc
    refine hc.mono ?_
    intro e w2 hq
    obtain ⟨v2, rfl, ho, hb2⟩ := list_post_up hbw hq
    have HB2 := hid (below_then HB.out hb2)
    have HO := hid ho
    have HR2 := hid (HR.out.below hb2)
    have hsl := set_len ps
    obtain ⟨A2, c2, rfl, _, _⟩ := ho.reads
    have HS1 := hid HB.out.size
    clear hc hq ho hb2 he hbw
    go_wp2_with fail
    have hcf := contains_any ps _ w2 HR2.out (fun x hx => by have := hpz x hx; omega) (by omega)
    obtain ⟨b, hb⟩ : ∃ b, (ps.any fun s => !nameB s) = b := ⟨_, rfl⟩
    rw [hb] at hcf
    have HBB := hid hb
    have HCF := hid hcf
    clear hb hcf
    by_cases hgood : b = false ∧ (setS ps).length ≤ 16
    · obtain ⟨rfl, h16⟩ := hgood
      have HR3 : Hid (R = some (setS ps)) := hid (by rw [← HP2.out, if_pos ⟨HBB.out, h16⟩])
      have t1 : decide (((setS ps).length : Int) ≤ 16) = true := decide_eq_true (by omega)
      refine HCF.out.mono ?_
      rintro e w3 ⟨rfl, hd⟩
      have HB3 := hid (below_then HB2.out hd.below)
      have HO3 := hid (HO.out.below hd.below)
      clear hd
      go_wp2_with fail
      go_ret2
      exact ParsePost.mk HR3.out rfl rfl (HO3.out.lower HS1.out) rfl HB3.out
    · have HR3 : Hid (R = none) := hid (by rw [← HP2.out, if_neg (fun h => hgood ⟨by rw [← HBB.out]; exact h.1, h.2⟩)])
      refine HCF.out.mono ?_
      rintro e w3 ⟨rfl, hd⟩
      have HB3 := hid (below_then HB2.out hd.below)
      clear hd
      cases b with
      | true =>
        clear hgood
        go_wp2_with fail
        go_ret2
        exact ParsePost.mk HR3.out rfl rfl (OwnS.nil _ _) rfl HB3.out
      | false =>
        have t1 : decide (((setS ps).length : Int) ≤ 16) = false := decide_eq_false (fun h => hgood ⟨rfl, by omega⟩)
        clear hgood
        go_wp2_with fail
        go_ret2
        exact ParsePost.mk HR3.out rfl rfl (OwnS.nil _ _) rfl HB3.out
/-- The text of a list. -/
def printS (xs : List ByteArray) : List UInt8 := Lib.join (xs.map (·.data.toList)) [32]
theorem addr_of_cells {w : World} {A : Option Addr} {xs : List ByteArray} (hC : Kd.string.C w A xs.length xs) (h0 : 0 < xs.length) : ∃ b o, A = some ⟨b, o, none⟩ ∧ b < w.heap.size ∧ ∀ (j : Nat) x, xs[j]? = some x → w.cell? ⟨b, o + j, none⟩ = some (.string x) := by
  obtain ⟨ad, rfl, hc⟩ := at_S hC 0 h0 xs[0] (by simp)
  obtain ⟨b, o, sp⟩ := ad
  have hsp : sp = none := by simpa [Addr.add] using World.cell?_spot hc
  subst hsp
  refine ⟨b, o, rfl, lt_of_cell (a := ⟨b, o + 0, none⟩) hc, fun j x hj => ?_⟩
  obtain ⟨ad, e, hcj⟩ := at_S hC j (List.getElem?_eq_some_iff.1 hj).1 x hj
  cases e
  rwa [Addr.add_lit] at hcj
def tailS : List ByteArray → List UInt8
  | [] => []
  | y :: ys => 32 :: (y.data.toList ++ tailS ys)
theorem tail_join (xs : List ByteArray) : Lib.joinTail [32] (xs.map (·.data.toList)) = tailS xs := by
  induction xs with
  | nil => rfl
  | cons x xs ih =>
    unfold Lib.joinTail at ih ⊢
    rw [List.map_cons, List.map_cons, List.flatten_cons, ih]
    rfl
theorem printS_cons (x : ByteArray) (xs : List ByteArray) : printS (x :: xs) = x.data.toList ++ tailS xs := by
  unfold printS
  rw [List.map_cons, Lib.join_cons, tail_join]
theorem printS_nil : printS [] = [] := rfl
theorem tail_len (xs : List ByteArray) (h : ∀ x ∈ xs, x.size ≤ 100000) : (tailS xs).length ≤ xs.length * 100001 := by
  induction xs with
  | nil => simp [tailS]
  | cons x xs ih =>
    have h1 := ih (fun y hy => h y (by simp [hy]))
    have h2 := h x (by simp)
    rw [← str_len] at h2
    rw [tailS, List.length_cons, List.length_append, List.length_cons]
    omega
theorem join_len (xs : List ByteArray) (h : ∀ x ∈ xs, x.size ≤ 100000) : (printS xs).length ≤ xs.length * 100001 := by
  cases xs with
  | nil => simp [printS_nil]
  | cons x xs =>
    have h1 := tail_len xs (fun y hy => h y (by simp [hy]))
    have h2 := h x (by simp)
    rw [← str_len] at h2
    rw [printS_cons, List.length_append, List.length_cons]
    omega
theorem print_any (xs : List ByteArray) (v : Value) (w : World) (h : InS w v xs) (hn : xs.length ≤ 100000) (hs : ∀ x ∈ xs, x.size ≤ 100000) :
    Calls Tryd.prog 22 #[v] w (TextPost (printS xs) w) := by
  have hj : Calls Tryd.prog 38 #[v, .string ⟨#[32]⟩] w (TextPost (printS xs) w) := by
    obtain ⟨A, c, rfl, hc, hC⟩ := h
    by_cases h0 : xs.length = 0
    · have e : xs = [] := List.eq_nil_of_length_eq_zero h0
      subst e
      refine (Tryd.strings_Join_none A c ⟨#[32]⟩ w).mono ?_
      rintro e w' ⟨rfl, rfl⟩
      exact ⟨rfl, Below.refl _ _⟩
    · obtain ⟨b, o, rfl, hb, hi⟩ := addr_of_cells hC (by omega)
      have hl := join_len xs hs
      exact Tryd.strings_Join b o c xs ⟨#[32]⟩ w hi hb (by omega) hc (by
        show (printS xs).length ≤ _
        have : xs.length * 100001 ≤ 100000 * 100001 := Nat.mul_le_mul_right _ hn
        omega)
  obtain ⟨T, hT⟩ : ∃ T : ByteArray, strV (printS xs) = .string T := ⟨_, rfl⟩
  unfold TextPost at hj ⊢
  rw [hT] at hj ⊢
  have HJ := hid hj
  clear hj hT h
  go_enter Tryd.func22, Tryd.ntmps22
  go_wp2_with fail
  refine HJ.out.mono ?_
  rintro e w' ⟨rfl, hb⟩
  have HB := hid hb
  clear hb HJ
  go_wp2_with fail
  go_ret
  exact ⟨rfl, HB.out⟩
end Go.Proofs.YtomkdnapnjkclaaDoor.Sco
