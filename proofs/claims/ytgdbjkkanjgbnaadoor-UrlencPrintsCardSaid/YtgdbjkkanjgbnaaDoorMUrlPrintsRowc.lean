/-
  UtfBad, UtfCheck, UrlPart, UrlPart2, UrlGet, Builder2, UrlPrint, UrlPars, UrlBackP, StrSplit: this proof's parts in one text.
-/
import Derived.Test.YtgdbjkkanjgbnaaDoorMUrlPrintsRowb
import Derived.Test.YtgdbjkkanjgbnaaDoorMUrlPrintsRowa
import Derived.Test.YtgdbjkkanjgbnaaDoorWWords
import Derived.Test.YtgdbjkkanjgbnaaDoorPUrlencParsesx0
import Derived.Deep.RegionHeld3
import Derived.Deep.RegionWith
import Derived.Laws.Concat
import Derived.Deep.SlicePairs
import Derived.ChangeArms
import Derived.OpenShut
namespace Go.Proofs.YtgdbjkkanjgbnaaDoor
open Go.RowKit
set_option linter.unusedVariables false

theorem nextS_pos (l : List UInt8) (h : l ≠ []) : 1 ≤ (nextS l).2 ∧ (nextS l).2 ≤ l.length := by
  cases l with
  | nil => exact absurd rfl h
  | cons c r =>
    have hres : ∀ n : Int, n ≤ (r.length : Int) + 1 → 1 ≤ n → sizeB c = n.toNat → 1 ≤ (restS c r).2 ∧ (restS c r).2 ≤ (r.length : Int) + 1 := by
      intro n h1 h2 h3
      unfold restS
      split
      · simp; omega
      · split
        · simp; omega
        · simp only; omega
    rcases next_class c r with ⟨k1, k2⟩ | ⟨k1, k2, k4, k5, k6, k3⟩ | ⟨k1, k2, k4, k5, k6, k3⟩ | ⟨k1, k2, k4, k5, k6, k3⟩ | ⟨k1, k2, k3⟩
    · rw [k2]; simp; omega
    · rw [k3]; split
      · simp; omega
      · have := hres 2 (by omega) (by omega) (by omega); simpa using this
    · rw [k3]; split
      · simp; omega
      · have := hres 3 (by omega) (by omega) (by omega); simpa using this
    · rw [k3]; split
      · simp; omega
      · have := hres 4 (by omega) (by omega) (by omega); simpa using this
    · rw [k3]; simp; omega
/-- The first place from which no letter goes on; -1: there is none. -/
def badS (l : List UInt8) : Int :=
  if h : l = [] then -1
  else if (nextS l).1 < 0 then 0
  else (fun r : Int => if r < 0 then -1 else r + (nextS l).2) (badS (l.drop (nextS l).2.toNat))
termination_by l.length
decreasing_by
  have := nextS_pos l h
  simp; omega
/-- The same, with k bytes behind. -/
def badAt (l : List UInt8) (k : Nat) : Int := (fun r : Int => if r < 0 then -1 else r + (k : Int)) (badS (l.drop k))
theorem badS_nil : badS [] = -1 := by rw [badS]; simp
theorem badS_ge (l : List UInt8) : -1 ≤ badS l := by
  rw [badS]
  split
  · omega
  · rename_i h
    have := nextS_pos l h
    split
    · omega
    · simp only; split <;> omega
theorem badAt_zero (l : List UInt8) : badAt l 0 = badS l := by
  have := badS_ge l
  unfold badAt; simp only [List.drop_zero]
  split <;> first | omega | (simp; omega) | simp
theorem badAt_end (l : List UInt8) (k : Nat) (h : l.length ≤ k) : badAt l k = -1 := by
  unfold badAt; rw [List.drop_eq_nil_of_le h, badS_nil]; simp
theorem drop_ne (l : List UInt8) (k : Nat) (h : k < l.length) : l.drop k ≠ [] := by
  intro e; have := congrArg List.length e; simp at this; omega
theorem badAt_here (l : List UInt8) (k : Nat) (h : k < l.length) (hn : (nextS (l.drop k)).1 < 0) : badAt l k = k := by
  unfold badAt; rw [badS, dif_neg (drop_ne l k h), if_pos hn]; simp
theorem badAt_step (l : List UInt8) (k : Nat) (h : k < l.length) (hn : ¬ (nextS (l.drop k)).1 < 0) : badAt l (k + (nextS (l.drop k)).2.toNat) = badAt l k := by
  have hp := nextS_pos _ (drop_ne l k h)
  unfold badAt
  rw [show badS (l.drop k) = (fun r : Int => if r < 0 then -1 else r + (nextS (l.drop k)).2) (badS ((l.drop k).drop (nextS (l.drop k)).2.toNat)) by rw [badS, dif_neg (drop_ne l k h), if_neg hn]]
  rw [List.drop_drop]
  simp only
  split
  · simp
  · have := badS_ge (l.drop (k + (nextS (l.drop k)).2.toNat))
    rw [if_neg (by omega)]; omega

def BadRel (l : List UInt8) (w : World) (v : Value) (wr : World) : Prop := ∃ k : Nat, k ≤ l.length ∧ v = .int .i64 k ∧ badAt l k = badS l ∧ Below w.heap.size w wr
/-- A call that answers a number, and writes nothing that was there. -/
def NumPost (n : Int) (w : World) (e : Ending) (w' : World) : Prop := e = .returned (.int .i64 n) ∧ Below w.heap.size w w'
theorem NumPost.mk {n m : Int} {w w' : World} (h : n = m) (hb : Below w.heap.size w w') : NumPost n w (.returned (.int .i64 m)) w' := ⟨by rw [h], hb⟩
theorem extract_from (s : ByteArray) (k : Nat) : (s.extract k s.size).data.toList = s.data.toList.drop k := by
  rw [Lib.extract_data, List.take_of_length_le (by simp)]

set_option maxRecDepth 100000 in
set_option maxHeartbeats 2000000 in
theorem bad_any (s : ByteArray) (w : World) (hs : s.size ≤ 1048576) : Calls Tryd.prog 24 #[.string s] w (NumPost (badS s.data.toList) w) := by
  obtain ⟨B, hB⟩ : ∃ B, badS s.data.toList = B := ⟨_, rfl⟩
  rw [hB]
  have HBB := hid hB
  have HLEN := hid (str_len s)
  clear hB
  go_enter Tryd.func24, Tryd.ntmps24
  go_wp2_with fail
  go_loopw [3] (fun v wr => BadRel s.data.toList w v wr) (fun v _ => s.size - (intOf v).toNat)
  case atStart => exact ⟨0, by omega, rfl, badAt_zero _, Below.refl _ _⟩
  case round =>
    obtain ⟨k, hk, rfl, ht, hb⟩ := hrel
    have HB := hid hb
    have HT := hid ht
    have hk' : k ≤ s.size := by rw [← HLEN.out]; exact hk
    clear hb ht hk
    by_cases hlt : k < s.size
    · have hlt' : k < s.data.toList.length := by rw [HLEN.out]; exact hlt
      have hp := nextS_pos _ (drop_ne s.data.toList k hlt')
      have hcall := rnext_any (s.extract k s.size)
      rw [extract_from] at hcall
      obtain ⟨x, n, hxn⟩ : ∃ x n, nextS (s.data.toList.drop k) = (x, n) := ⟨_, _, rfl⟩
      have hstep := badAt_step s.data.toList k hlt'
      have hhere := badAt_here s.data.toList k hlt'
      unfold RNextPost at hcall
      rw [hxn] at hcall hstep hhere hp
      simp only at hcall hstep hhere hp
      rw [List.length_drop, HLEN.out] at hp
      have HCALL := hid hcall
      have HSTEP := hid hstep
      have HHERE := hid hhere
      obtain ⟨hp1, hp2⟩ := hp
      have hp3 : (n.toNat : Int) = n := by omega
      have hn2 : n ≤ 1048576 := by omega
      have hnk : k + n.toNat ≤ s.size := by omega
      have HP3 := hid hp3
      clear hxn hcall hstep hhere hlt' hp3
      by_cases hx : x < 0
      · have HX := hid hx
        go_wp2_with (go_at_call 38; refine (HCALL.out _ (by simp; omega)).mono ?_; intro e w1 hpp; obtain ⟨rfl, hb2⟩ := hpp; have HB2 := hid hb2; clear hb2)
        go_ret
        exact NumPost.mk (by rw [← HBB.out, ← HT.out, HHERE.out HX.out]) (HB.out.trans (HB2.out.mono HB.out.size))
      · have HX := hid hx
        go_wp2_with (go_at_call 38; refine (HCALL.out _ (by simp; omega)).mono ?_; intro e w1 hpp; obtain ⟨rfl, hb2⟩ := hpp; have HB2 := hid hb2; clear hb2)
        refine ⟨⟨k + n.toNat, by rw [HLEN.out]; exact hnk, by have := HP3.out; congr 1; omega, by rw [HSTEP.out HX.out]; exact HT.out, (HB.out.trans (HB2.out.mono HB.out.size))⟩, by simp [intOf]; omega⟩
    · have hke : k = s.size := by omega
      have hnl : decide (k < s.size) = false := decide_eq_false hlt
      have HE := hid (badAt_end s.data.toList k (by rw [HLEN.out]; omega))
      clear hke
      go_wp2_with fail
      go_ret
      exact NumPost.mk (by rw [← HBB.out, ← HT.out, HE.out]) HB.out
end Go.Proofs.YtgdbjkkanjgbnaaDoor

namespace Go.Proofs.YtgdbjkkanjgbnaaDoor
open Go.RowKit
set_option linter.unusedVariables false

/-- What is wrong with bytes. -/
def checkE (l : List UInt8) : GErr := if badS l < 0 then .nil else .at_ (badS l) 30
/-- A call that answers an error, and writes nothing that was there. -/
def ErrPost (g : GErr) (w : World) (e : Ending) (w' : World) : Prop := ∃ v, e = .returned v ∧ IsErr w' g v ∧ Below w.heap.size w w'
theorem ErrPost.mk {g : GErr} {w w' : World} {v : Value} (h : IsErr w' g v) (hb : Below w.heap.size w w') : ErrPost g w (.returned v) w' := ⟨v, rfl, h, hb⟩
def CheckRel (l : List UInt8) (v : Value) : Prop := ∃ k : Nat, k ≤ l.length ∧ v = .int .i64 k ∧ badAt l k = badS l
theorem BytesAt.drop {w : World} {b o len cap : Nat} {l : List UInt8} (h : BytesAt w (some ⟨b, o, none⟩) len cap l) (k : Nat) (hk : k < len) : BytesAt w (some ⟨b, o + k, none⟩) (len - k) (cap - k) (l.drop k) := by
  obtain ⟨h1, h2, h3⟩ := h
  refine ⟨by simp; omega, by omega, .inr ⟨b, o + k, rfl, fun i hi => ?_⟩⟩
  rw [List.length_drop] at hi
  obtain ⟨b', o', he, hc⟩ := h3.resolve_left (by intro e; subst e; simp at h1; omega)
  obtain ⟨rfl, rfl⟩ : b = b' ∧ o = o' := by simpa using he
  rw [Nat.add_assoc, hc (k + i) (by omega)]
  simp [List.getD]

set_option maxRecDepth 100000 in
set_option maxHeartbeats 2000000 in
theorem check_any (b o len cap : Nat) (l : List UInt8) (w : World) (hL : LeastAt w) (h : BytesAt w (some ⟨b, o, none⟩) len cap l) (hlen : len ≤ 1048576) :
    Calls Tryd.prog 26 #[.slice (some ⟨b, o, none⟩) len cap] w (ErrPost (checkE l) w) := by
  have HH := hid h
  have HL := hid hL
  have HLEN := hid h.1
  have hcap := h.2.1
  clear h hL
  go_enter Tryd.func26, Tryd.ntmps26
  go_wp2_with fail
  go_loop [3] (fun v => CheckRel l v) (fun v => len - (intOf v).toNat)
  case atStart => exact ⟨0, by omega, rfl, badAt_zero _⟩
  case round =>
    obtain ⟨k, hk, rfl, ht⟩ := hrel
    have HT := hid ht
    have hk' : k ≤ len := by rw [HLEN.out]; exact hk
    clear ht hk
    by_cases hlt : k < len
    · have hlt' : k < l.length := by rw [← HLEN.out]; exact hlt
      have hp := nextS_pos _ (drop_ne l k hlt')
      have hcall := next_any (some ⟨b, o + k, none⟩) (len - k) (cap - k) (l.drop k) w HL.out (HH.out.drop k hlt)
      obtain ⟨x, n, hxn⟩ : ∃ x n, nextS (l.drop k) = (x, n) := ⟨_, _, rfl⟩
      have hstep := badAt_step l k hlt'
      have hhere := badAt_here l k hlt'
      unfold NextPost at hcall
      rw [hxn] at hcall hstep hhere hp
      simp only at hcall hstep hhere hp
      rw [List.length_drop, ← HLEN.out] at hp
      have HCALL := hid hcall
      have HSTEP := hid hstep
      have HHERE := hid hhere
      obtain ⟨hp1, hp2⟩ := hp
      have hp3 : (n.toNat : Int) = n := by omega
      have hn2 : n ≤ 1048576 := by omega
      have hnk : k + n.toNat ≤ len := by omega
      have HP3 := hid hp3
      have hck : ¬ cap = k := by omega
      have hki : (k : Int) ≤ (len : Int) := by omega
      clear hxn hcall hstep hhere hlt' hp3
      by_cases hx : x < 0
      · have HX := hid hx
        go_wp2_with (go_at_call 43; refine HCALL.out.mono ?_; intro e w1 hpp; obtain ⟨rfl, rfl⟩ := hpp)
        go_ret
        have hbe : badS l = k := by rw [← HT.out, HHERE.out HX.out]
        have hE : checkE l = .at_ k 30 := by unfold checkE; rw [hbe, if_neg (by omega)]
        rw [hE]
        exact ErrPost.mk ⟨w.heap.size, 0, rfl, by simp, by simp⟩ ((Below.refl _ _).alloc (Nat.le_refl _) _)
      · have HX := hid hx
        go_wp2_with (go_at_call 43; refine HCALL.out.mono ?_; intro e w1 hpp; obtain ⟨rfl, rfl⟩ := hpp)
        refine ⟨⟨k + n.toNat, by rw [← HLEN.out]; exact hnk, by have := HP3.out; congr 1; omega, by rw [HSTEP.out HX.out]; exact HT.out⟩, by simp [intOf]; omega⟩
    · have hke : k = len := by omega
      have hnl : decide (k < len) = false := decide_eq_false hlt
      have HE := hid (badAt_end l k (by rw [← HLEN.out]; omega))
      clear hke
      go_wp2_with fail
      go_ret
      have hE : checkE l = .nil := by unfold checkE; rw [← HT.out, HE.out, if_pos (by omega)]
      rw [hE]
      exact ErrPost.mk rfl (Below.refl _ _)
end Go.Proofs.YtgdbjkkanjgbnaaDoor

namespace Go.Proofs.YtgdbjkkanjgbnaaDoor.Url
open Go.RowKit Go.Proofs.YtgdbjkkanjgbnaaDoor
open Go.Proofs.YtgdbjkkanjgbnaaDoorW.PrintWords (results_ct)
set_option linter.unusedVariables false
set_option linter.unusedSimpArgs false
theorem LeastAt.below {B : Nat} {w w' : World} (h : LeastAt w) (hb : Below B w w') (hB : 1 < B) : LeastAt w' := by
  obtain ⟨h1, h2, h3⟩ := h
  exact ⟨by rw [hb.cell (p := ⟨1, 2, none⟩) hB]; exact h1, by rw [hb.cell (p := ⟨1, 3, none⟩) hB]; exact h2, by rw [hb.cell (p := ⟨1, 4, none⟩) hB]; exact h3⟩
theorem LeastAt.lt {w : World} (h : LeastAt w) : 1 < w.heap.size := lt_of_cell h.1
theorem bytes_at_world (w : World) (e : TypeId) (s : ByteArray) : BytesAt (Lib.bytesWorld w e s) (some ⟨w.heap.size, 0, none⟩) s.size (grownCap w s.size 0 e) s.data.toList := by
  refine ⟨(str_len s).symm, grownCap_ge _ _ _ _, .inr ⟨_, _, rfl, fun i hi => ?_⟩⟩
  rw [Nat.zero_add, Lib.bytesWorld_cell w e s i (by have := str_len s; omega)]
  rfl
/-- An error of a part, at its place in the whole. -/
theorem moved_any (p n d : Int) (v : Value) (w : World) (hg : ErrorType w) (he : IsErr w (.at_ p n) v) (h0 : 0 ≤ p) (h1 : p ≤ 1048576) (h2 : 0 ≤ d) (h3 : d ≤ 1048576) : Calls Tryd.prog 37 #[v, .int .i64 d] w (ErrPost (.at_ (p + d) n) w) := by
  have hlt := hg.lt
  have hgA : ErrorType (w.alloc (.cells #[.pointer none] 51)) := hg.below ((Below.refl w.heap.size w).alloc (Nat.le_refl _) _) hlt
  obtain ⟨b, o, rfl, h1, h2⟩ := he
  have hbl : b < w.heap.size := lt_of_cell h1
  go_enter Tryd.func37, Tryd.ntmps37
  go_wp2_with fail
  refine (as_AA ⟨b, o, none⟩ _ (.pointer none) _ hgA (by simp) (by simp)).mono ?_
  rintro e w1 ⟨rfl, hb⟩
  have hc := cell_of_set hb
  have hd := hid (below_of_set hb)
  have hcp : w1.cell? ⟨b, o, none⟩ = some (.int .i64 p) := (hd.out.cell (p := ⟨b, o, none⟩) hbl).trans h1
  have hcn : w1.cell? ⟨b, o + 1, none⟩ = some (.iface 46 (.int .i64 n)) := (hd.out.cell (p := ⟨b, o + 1, none⟩) hbl).trans h2
  clear hb hgA h1 h2
  go_wp2
  go_region
  go_wp2
  go_ret
  exact ErrPost.mk ⟨w1.heap.size, 0, rfl, by simp, by simp⟩ (hd.out.drew.alloc hd.out.size _)
/-- What utf.Check says of a text. -/
theorem chk_any (s : ByteArray) (w : World) (hL : LeastAt w) (hs : s.size ≤ 1048576) :
    Calls Tryd.prog 26 #[.slice (some ⟨w.heap.size, 0, none⟩) s.size (grownCap w s.size 0 5)] (Lib.bytesWorld w 5 s) (ErrPost (checkE s.data.toList) w) := by
  have hb := below_bytes w 5 s
  refine (check_any _ _ _ _ s.data.toList _ (LeastAt.below hL hb (LeastAt.lt hL)) (bytes_at_world w 5 s) hs).mono ?_
  rintro e w' ⟨v, rfl, he, hb2⟩
  exact ErrPost.mk he (hb.trans (hb2.mono hb.size))
def cutA (l : List UInt8) : List UInt8 := l.takeWhile (· != 61)
def cutB (l : List UInt8) : List UInt8 := (l.dropWhile (· != 61)).drop 1
theorem cut_at {l : List UInt8} : ∀ {m : Nat}, l[m]? = some 61 → (∀ k, k < m → l[k]? ≠ some 61) → cutA l = l.take m ∧ cutB l = l.drop (m + 1) := by
  unfold cutA cutB
  induction l with
  | nil => intro m h; simp at h
  | cons b l ih =>
    intro m h hk
    cases m with
    | zero => simp at h; subst h; simp
    | succ m =>
      have hb : b ≠ 61 := fun e => hk 0 (by omega) (by simp [e])
      obtain ⟨h1, h2⟩ := ih (m := m) (by simpa using h) (fun k hk2 => by have := hk (k + 1) (by omega); simpa using this)
      have hb' : (b != 61) = true := by simpa using hb
      rw [List.takeWhile_cons, if_pos hb', List.dropWhile_cons, if_pos hb', h1, h2]
      simp
theorem cut_no {l : List UInt8} (h : (61 : UInt8) ∉ l) : cutA l = l ∧ cutB l = [] := by
  unfold cutA cutB
  induction l with
  | nil => simp
  | cons b l ih =>
    rw [List.mem_cons, not_or] at h
    have hb' : (b != 61) = true := by simpa using fun e => h.1 e.symm
    obtain ⟨h1, h2⟩ := ih h.2
    rw [List.takeWhile_cons, if_pos hb', List.dropWhile_cons, if_pos hb', h1, h2]
    simp
theorem cut_len (l : List UInt8) : (cutA l).length + (cutB l).length ≤ l.length := by
  by_cases h : (61 : UInt8) ∈ l
  · obtain ⟨m, hm⟩ : ∃ m : Nat, l.findIdx? (· == 61) = some m := by
      cases e : l.findIdx? (· == 61) with
      | some m => exact ⟨m, rfl⟩
      | none => rw [List.findIdx?_eq_none_iff] at e; have := e 61 h; simp at this
    rw [List.findIdx?_eq_some_iff_getElem] at hm
    obtain ⟨h1, h2, h3⟩ := hm
    obtain ⟨e1, e2⟩ := cut_at (l := l) (m := m) (by rw [List.getElem?_eq_getElem h1]; simpa using h2) (fun k hk => by
      rw [List.getElem?_eq_getElem (by omega)]
      have := h3 k hk
      simpa using this)
    rw [e1, e2, List.length_take, List.length_drop]; omega
  · obtain ⟨e1, e2⟩ := cut_no h
    rw [e1, e2]; simp
theorem unF_len (f : Nat) : ∀ (l : List UInt8) (i : Nat) (out : List UInt8), out.length ≤ i → (unF f l i out).1.length ≤ max l.length out.length := by
  induction f with
  | zero => intro l i out h; rw [unF]; simp; omega
  | succ f ih =>
    intro l i out h
    rw [unF]
    by_cases hi : i < l.length
    · rw [if_pos hi]
      cases e : unStep l i with
      | none => simp
      | some p =>
        obtain ⟨c, k⟩ := p
        have hk := unStep_pos e
        have := ih l (i + k) (out ++ [c]) (by simp; omega)
        simp only at this ⊢
        rw [List.length_append] at this
        simp at this ⊢
        omega
    · rw [if_neg hi]; simp; omega
theorem unS_len (l : List UInt8) : (unS l).1.length ≤ l.length := by have := unF_len (l.length + 1) l 0 [] (by simp); simpa [unS] using this
theorem unF_pos (f : Nat) : ∀ (l : List UInt8) (i : Nat) (out : List UInt8), (unF f l i out).2 = -1 ∨ (0 ≤ (unF f l i out).2 ∧ (unF f l i out).2 < l.length) := by
  induction f with
  | zero => intro l i out; exact .inl rfl
  | succ f ih =>
    intro l i out
    rw [unF]
    by_cases hi : i < l.length
    · rw [if_pos hi]
      cases e : unStep l i with
      | none => right; simp; omega
      | some p => exact ih l _ _
    · rw [if_neg hi]; exact .inl rfl
theorem unS_pos (l : List UInt8) : (unS l).2 = -1 ∨ (0 ≤ (unS l).2 ∧ (unS l).2 < l.length) := unF_pos _ _ _ _
/-- The parameter of a part; or where it is wrong. -/
def partS (l : List UInt8) : Except Int (List UInt8 × List UInt8) :=
  if 0 ≤ (unS (cutA l)).2 then .error (unS (cutA l)).2
  else if 0 ≤ (unS (cutB l)).2 then .error ((cutA l).length + 1 + (unS (cutB l)).2)
  else if (unS (cutA l)).1 = [] ∨ 0 ≤ badS (unS (cutA l)).1 ∨ 0 ≤ badS (unS (cutB l)).1 then .error 0
  else .ok ((unS (cutA l)).1, (unS (cutB l)).1)
def PartPost (l : List UInt8) (d : Int) (w : World) (e : Ending) (w' : World) : Prop :=
  match partS l with
  | .ok p => e = .returned (.tuple #[.agg #[strV p.1, strV p.2], .nilIface]) ∧ Below w.heap.size w w'
  | .error q => ∃ v, e = .returned (.tuple #[.agg #[.string ⟨#[]⟩, .string ⟨#[]⟩], v]) ∧ IsErr w' (.at_ (d + q) 60) v ∧ Below w.heap.size w w'
theorem PartPost.ok {l : List UInt8} {d : Int} {w w' : World} {n v : List UInt8} (h : partS l = .ok (n, v)) (hb : Below w.heap.size w w') : PartPost l d w (.returned (.tuple #[.agg #[strV n, strV v], .nilIface])) w' := by
  unfold PartPost; rw [h]; exact ⟨rfl, hb⟩
theorem PartPost.bad {l : List UInt8} {d q : Int} {w w' : World} {v : Value} (h : partS l = .error q) (he : IsErr w' (.at_ (d + q) 60) v) (hb : Below w.heap.size w w') : PartPost l d w (.returned (.tuple #[.agg #[.string ⟨#[]⟩, .string ⟨#[]⟩], v])) w' := by
  unfold PartPost; rw [h]; exact ⟨v, rfl, he, hb⟩
theorem paramInfo : (Tryd.prog.info? 45).map (·.size) = some 2 := by kernel_rfl
end Go.Proofs.YtgdbjkkanjgbnaaDoor.Url

namespace Go.Proofs.YtgdbjkkanjgbnaaDoor.Url
open Go.RowKit Go.Proofs.YtgdbjkkanjgbnaaDoor
open Go.Proofs.YtgdbjkkanjgbnaaDoorW.PrintWords (results_ct)
set_option linter.unusedVariables false
set_option linter.unusedSimpArgs false
def Cut61 (l : List UInt8) (w : World) (e : Ending) (w' : World) : Prop := ∃ a b r, a.data.toList = cutA l ∧ b.data.toList = cutB l ∧ e = .returned (.tuple #[.string a, .string b, .bool r]) ∧ Below w.heap.size w w'
theorem cut61 (s : ByteArray) (w : World) (hs : s.size ≤ 1048576) : Calls Tryd.prog 36 #[.string s, .string ⟨#[61]⟩] w (Cut61 s.data.toList w) := by
  refine (cut_any s 61 w (by omega)).mono ?_
  rintro e w1 ⟨a, b, (⟨m, h1, h2, h3, h4, rfl⟩ | ⟨h1, h2, h3, rfl⟩), hb⟩
  · obtain ⟨e1, e2⟩ := cut_at h1 h2
    exact ⟨a, b, true, h3.trans e1.symm, h4.trans e2.symm, rfl, hb⟩
  · obtain ⟨e1, e2⟩ := cut_no h1
    exact ⟨a, b, false, h2.trans e1.symm, h3.trans e2.symm, rfl, hb⟩
theorem heap_two {w : World} {B : Nat} {c0 c1 : Value} {T : TypeId} (h : w.heap[B]? = some (.cells #[c0, c1] T (0, 0))) (u v : Value) : ((w.setCell ⟨B, 0, none⟩ u).setCell ⟨B, 1, none⟩ v).heap[B]? = some (.cells #[u, v] T (0, 0)) := by
  simp [World.setCell, Array.getElem?_modify, h]
theorem err_two {w : World} {B : Nat} {s0 s1 : ByteArray} {T : TypeId} (h : w.heap[B]? = some (.cells #[.string s0, .string s1] T (0, 0))) {p n : Int} {v : Value} (he : IsErr w (.at_ p n) v) (u u' : Value) : IsErr ((w.setCell ⟨B, 0, none⟩ u).setCell ⟨B, 1, none⟩ u') (.at_ p n) v := by
  obtain ⟨b, o, rfl, h1, h2⟩ := he
  have hne : b ≠ B := by
    rintro rfl
    simp only [World.cell?, h] at h1
    match o, h1 with
    | 0, h1 => simp at h1
    | 1, h1 => simp at h1
    | o + 2, h1 => simp at h1
  refine ⟨b, o, rfl, ?_, ?_⟩
  · rw [World.cell?_setCell_other _ _ _ _ (by intro e; injection e with e; exact hne e.symm), World.cell?_setCell_other _ _ _ _ (by intro e; injection e with e; exact hne e.symm)]; exact h1
  · rw [World.cell?_setCell_other _ _ _ _ (by intro e; injection e with e; exact hne e.symm), World.cell?_setCell_other _ _ _ _ (by intro e; injection e with e; exact hne e.symm)]; exact h2
set_option maxHeartbeats 4000000 in
set_option maxRecDepth 20000 in
theorem part_any (s : ByteArray) (d : Nat) (w : World) (hg : ErrorType w) (hL : LeastAt w) (hs : s.size ≤ 10000) (hd : d ≤ 10000) : Calls Tryd.prog 23 #[.string s, .int .i64 (d : Nat)] w (PartPost s.data.toList d w) := by
  have HG := hid hg
  have HL := hid hL
  have hgl := hg.lt
  have hll := LeastAt.lt hL
  have hln := str_len s
  obtain ⟨l, hl⟩ : ∃ l, s.data.toList = l := ⟨_, rfl⟩
  have HC0 := fun w => cut61 s w (by omega)
  rw [hl] at hln HC0 ⊢
  have hcl := cut_len l
  have HSL := hid hl
  clear hg hL hl
  have kc := fun (w : World) (s : ByteArray) => Lib.run_convert_string_bytes (P := Tryd.prog) w 9 59 5 s Tryd.underlying9 Tryd.underlying59 Tryd.underlying5
  have hb0 : Below w.heap.size w (w.alloc (.cells #[.string ⟨#[]⟩, .string ⟨#[]⟩] 45)) := (Below.refl _ w).alloc (Nat.le_refl _) _
  have HB0 := hid hb0
  have HH0 := hid (heap_alloc_new w (.cells #[.string ⟨#[]⟩, .string ⟨#[]⟩] 45))
  go_enter Tryd.func23, Tryd.ntmps23
  go_wp2_with fail
  refine (HC0 _).mono ?_
  rintro e w1 ⟨a, b, r, ha, hb, rfl, hbw⟩
  have HB1 := hid (HB0.out.trans (hbw.mono (by simp)))
  have HH1 := hid ((hbw.block w.heap.size (by simp)).trans HH0.out)
  have hal := str_len a
  have hbl := str_len b
  rw [ha] at hal
  rw [hb] at hbl
  have HA := hid ha
  have HB := hid hb
  clear hbw ha hb HC0 hb0
  have hu1 := unescape_any a w1 (by omega)
  rw [HA.out] at hu1
  have HU1 := hid hu1
  clear hu1
  go_wp2_with fail
  refine HU1.out.mono ?_
  clear HU1
  rintro e w2 ⟨v, rfl, he, hb2⟩
  have HB2 := hid (below_then HB1.out hb2)
  have HH2 := hid ((hb2.block w.heap.size (lt_of_heap HH1.out)).trans HH1.out)
  obtain ⟨n, hn, hnl⟩ : ∃ n : ByteArray, strV (unS (cutA l)).1 = .string n ∧ n.data.toList = (unS (cutA l)).1 := ⟨⟨(unS (cutA l)).1.toArray⟩, rfl, by simp⟩
  rw [hn]
  have hpos := unS_pos (cutA l)
  have HNL := hid hnl
  have HN := hid hn
  clear hb2 hn hnl
  by_cases h1 : 0 ≤ (unS (cutA l)).2
  · have hPS : partS l = .error (unS (cutA l)).2 := by unfold partS; rw [if_pos h1]
    obtain ⟨p, hp⟩ : ∃ p, (unS (cutA l)).2 = p := ⟨_, rfl⟩
    rw [hp] at hPS h1 he hpos
    have hE : errU p = .at_ p 60 := by unfold errU; rw [if_neg (by omega)]
    rw [hE] at he
    have HE := hid he
    obtain ⟨eb, eo, rfl, e1, e2⟩ := he
    have HPS := hid hPS
    clear hPS hE e1 e2 hp
    go_wp2_with fail
    refine (moved_any p 60 d _ w2 (HG.out.below HB2.out hgl) HE.out h1 (by omega) (by omega) (by omega)).mono ?_
    rintro e w3 ⟨v3, rfl, he3, hb3⟩
    have HB3 := hid (below_then HB2.out hb3)
    have HH3 := hid ((hb3.block w.heap.size (lt_of_heap HH2.out)).trans HH2.out)
    have HE3 := hid he3
    have c0 : w3.cell? ⟨w.heap.size, 0, none⟩ = some (.string ⟨#[]⟩) := by simp [World.cell?, HH3.out]
    have c1 : w3.cell? ⟨w.heap.size, 1, none⟩ = some (.string ⟨#[]⟩) := by simp [World.cell?, HH3.out]
    have f0 : ∀ k, w3.frozen? ⟨w.heap.size, k, none⟩ = false := fun k => by simp [World.frozen?, HH3.out]
    have f1 := f0 0
    have f2 := f0 1
    clear f0 hb3 he3
    go_wp2_with fail
    refine bodyPost_ret (results_ct rfl _ _ w.heap.size 45 #[.string ⟨#[]⟩, .string ⟨#[]⟩] (0, 0) _ rfl (heap_two HH3.out _ _) Tryd.underlying45 rfl paramInfo) rfl ?_
    exact PartPost.bad HPS.out (by rw [Int.add_comm]; exact err_two HH3.out HE3.out _ _) ((HB3.out.setCell (p := ⟨w.heap.size, 0, none⟩) (Nat.le_refl _) _).setCell (p := ⟨w.heap.size, 1, none⟩) (Nat.le_refl _) _)
  · have hp1 : (unS (cutA l)).2 = -1 := by omega
    rw [hp1, errU_no] at he
    obtain rfl : v = .nilIface := he
    have hnlen := unS_len (cutA l)
    have hu2 := unescape_any b w2 (by omega)
    rw [HB.out] at hu2
    have HU2 := hid hu2
    clear hu2 hp1 hpos
    go_wp2_with fail
    refine HU2.out.mono ?_
    clear HU2
    rintro e w3 ⟨v, rfl, he, hb3⟩
    have HB3 := hid (below_then HB2.out hb3)
    have HH3 := hid ((hb3.block w.heap.size (lt_of_heap HH2.out)).trans HH2.out)
    obtain ⟨m, hm, hml⟩ : ∃ m : ByteArray, strV (unS (cutB l)).1 = .string m ∧ m.data.toList = (unS (cutB l)).1 := ⟨⟨(unS (cutB l)).1.toArray⟩, rfl, by simp⟩
    rw [hm]
    have hpos := unS_pos (cutB l)
    have HML := hid hml
    have HM := hid hm
    clear hb3 hm hml
    by_cases h2 : 0 ≤ (unS (cutB l)).2
    · have hPS : partS l = .error ((cutA l).length + 1 + (unS (cutB l)).2) := by unfold partS; rw [if_neg (by omega), if_pos h2]
      obtain ⟨p, hp⟩ : ∃ p, (unS (cutB l)).2 = p := ⟨_, rfl⟩
      rw [hp] at hPS h2 he hpos
      have hE : errU p = .at_ p 60 := by unfold errU; rw [if_neg (by omega)]
      rw [hE] at he
      have HE := hid he
      obtain ⟨eb, eo, rfl, e1, e2⟩ := he
      rw [hal] at hPS
      have HPS := hid hPS
      have x0 : IntKind.i64.wrap ((d : Int) + (a.size : Int)) = (d : Int) + (a.size : Int) := by rw [IntKind.wrap_i64]; omega
      have x1 : IntKind.i64.wrap ((d : Int) + (a.size : Int) + 1) = (d : Int) + (a.size : Int) + 1 := by rw [IntKind.wrap_i64]; omega
      clear hPS hE e1 e2 hp
      go_wp2_with fail
      refine (moved_any p 60 ((d : Int) + (a.size : Int) + 1) _ w3 (HG.out.below HB3.out hgl) HE.out h2 (by omega) (by omega) (by omega)).mono ?_
      rintro e w4 ⟨v3, rfl, he3, hb4⟩
      have HB4 := hid (below_then HB3.out hb4)
      have HH4 := hid ((hb4.block w.heap.size (lt_of_heap HH3.out)).trans HH3.out)
      have HE3 := hid he3
      have c0 : w4.cell? ⟨w.heap.size, 0, none⟩ = some (.string ⟨#[]⟩) := by simp [World.cell?, HH4.out]
      have c1 : w4.cell? ⟨w.heap.size, 1, none⟩ = some (.string ⟨#[]⟩) := by simp [World.cell?, HH4.out]
      have f1 : w4.frozen? ⟨w.heap.size, 0, none⟩ = false := by simp [World.frozen?, HH4.out]
      have f2 : w4.frozen? ⟨w.heap.size, 1, none⟩ = false := by simp [World.frozen?, HH4.out]
      clear hb4 he3
      go_wp2_with fail
      refine bodyPost_ret (results_ct rfl _ _ w.heap.size 45 #[.string ⟨#[]⟩, .string ⟨#[]⟩] (0, 0) _ rfl (heap_two HH4.out _ _) Tryd.underlying45 rfl paramInfo) rfl ?_
      exact PartPost.bad HPS.out (by rw [show (d : Int) + ((a.size : Int) + 1 + p) = p + ((d : Int) + (a.size : Int) + 1) by omega]; exact err_two HH4.out HE3.out _ _) ((HB4.out.setCell (p := ⟨w.heap.size, 0, none⟩) (Nat.le_refl _) _).setCell (p := ⟨w.heap.size, 1, none⟩) (Nat.le_refl _) _)
    · have hp2 : (unS (cutB l)).2 = -1 := by omega
      rw [hp2, errU_no] at he
      obtain rfl : v = .nilIface := he
      have hmlen := unS_len (cutB l)
      have hns := str_len n
      have hms := str_len m
      rw [HNL.out] at hns
      rw [HML.out] at hms
      have c0 : w3.cell? ⟨w.heap.size, 0, none⟩ = some (.string ⟨#[]⟩) := by simp [World.cell?, HH3.out]
      have c1 : w3.cell? ⟨w.heap.size, 1, none⟩ = some (.string ⟨#[]⟩) := by simp [World.cell?, HH3.out]
      have f1 : w3.frozen? ⟨w.heap.size, 0, none⟩ = false := by simp [World.frozen?, HH3.out]
      have f2 : w3.frozen? ⟨w.heap.size, 1, none⟩ = false := by simp [World.frozen?, HH3.out]
      clear hp2 hpos
      by_cases hne : (unS (cutA l)).1 = []
      · have hPS : partS l = .error 0 := by unfold partS; rw [if_neg (by omega), if_neg (by omega), if_pos (.inl hne)]
        have HPS := hid hPS
        have hn0 : n.toList = [] := str_empty n (by rw [hne] at hns; simpa using hns.symm)
        clear hPS
        obtain ⟨AT, hAT⟩ : ∃ AT, AT = Obj.cells #[.int .i64 (d : Int), .iface 46 (.int .i64 60)] 53 (0, 0) := ⟨_, rfl⟩
        have HHA := hid ((Below.heap_alloc w3 AT _ (lt_of_heap HH3.out)).trans HH3.out)
        have c3 : (w3.alloc AT).cell? ⟨w.heap.size, 0, none⟩ = some (.string ⟨#[]⟩) := by simp [World.cell?, HHA.out]
        have c4 : (w3.alloc AT).cell? ⟨w.heap.size, 1, none⟩ = some (.string ⟨#[]⟩) := by simp [World.cell?, HHA.out]
        have f3 : (w3.alloc AT).frozen? ⟨w.heap.size, 0, none⟩ = false := by simp [World.frozen?, HHA.out]
        have f4 : (w3.alloc AT).frozen? ⟨w.heap.size, 1, none⟩ = false := by simp [World.frozen?, HHA.out]
        have HEA : Hid (IsErr (w3.alloc AT) (.at_ ((d : Int) + 0) 60) (.iface 51 (.pointer (some ⟨w3.heap.size, 0, none⟩)))) := hid (by
          rw [hAT, Int.add_zero]
          exact ⟨w3.heap.size, 0, rfl, by simp, by simp⟩)
        have HBA := hid (HB3.out.alloc (by have := HB3.out.size; omega) AT)
        subst hAT
        go_wp2_with fail
        refine bodyPost_ret (results_ct rfl _ _ w.heap.size 45 #[.string ⟨#[]⟩, .string ⟨#[]⟩] (0, 0) _ rfl (heap_two HHA.out _ _) Tryd.underlying45 rfl paramInfo) rfl ?_
        exact PartPost.bad HPS.out (err_two HHA.out HEA.out _ _) ((HBA.out.setCell (p := ⟨w.heap.size, 0, none⟩) (Nat.le_refl _) _).setCell (p := ⟨w.heap.size, 1, none⟩) (Nat.le_refl _) _)
      · have hn1 : 0 < n.size := by
          rcases Nat.eq_zero_or_pos n.size with h9 | h9
          · exact absurd (List.eq_nil_of_length_eq_zero (by omega)) hne
          · exact h9
        have hn2 := str_ne_empty n hn1
        have hn3 := str_not_empty n hn1
        have hn4 : (n.toList == ([] : List UInt8)) = false := by simpa using hn3
        have hn5 : n.toList.isEmpty = false := by simpa using hn3
        have hk1 := chk_any n w3 (LeastAt.below HL.out HB3.out hll) (by omega)
        rw [HNL.out] at hk1
        have HK1 := hid hk1
        have kn := fun (w : World) => kc w n
        clear hk1 hn1 f1 f2 c0 c1
        by_cases hb1 : 0 ≤ badS (unS (cutA l)).1
        · have hPS : partS l = .error 0 := by unfold partS; rw [if_neg (by omega), if_neg (by omega), if_pos (.inr (.inl hb1))]
          have HPS := hid hPS
          have hE : checkE (unS (cutA l)).1 = .at_ (badS (unS (cutA l)).1) 30 := by unfold checkE; rw [if_neg (by omega)]
          rw [hE] at HK1
          clear hPS hE hne
          go_wp2_with fail
          refine HK1.out.mono ?_
          clear HK1
          rintro e w4 ⟨v4, rfl, ⟨eb, eo, rfl, _, _⟩, hb4⟩
          have HB4 := hid (below_then HB3.out hb4)
          have HH4 := hid ((hb4.block w.heap.size (lt_of_heap HH3.out)).trans HH3.out)
          clear hb4
          obtain ⟨AT, hAT⟩ : ∃ AT, AT = Obj.cells #[.int .i64 (d : Int), .iface 46 (.int .i64 60)] 53 (0, 0) := ⟨_, rfl⟩
          have HHA := hid ((Below.heap_alloc w4 AT _ (lt_of_heap HH4.out)).trans HH4.out)
          have c3 : (w4.alloc AT).cell? ⟨w.heap.size, 0, none⟩ = some (.string ⟨#[]⟩) := by simp [World.cell?, HHA.out]
          have c4 : (w4.alloc AT).cell? ⟨w.heap.size, 1, none⟩ = some (.string ⟨#[]⟩) := by simp [World.cell?, HHA.out]
          have f3 : (w4.alloc AT).frozen? ⟨w.heap.size, 0, none⟩ = false := by simp [World.frozen?, HHA.out]
          have f4 : (w4.alloc AT).frozen? ⟨w.heap.size, 1, none⟩ = false := by simp [World.frozen?, HHA.out]
          have HEA : Hid (IsErr (w4.alloc AT) (.at_ ((d : Int) + 0) 60) (.iface 51 (.pointer (some ⟨w4.heap.size, 0, none⟩)))) := hid (by
            rw [hAT, Int.add_zero]
            exact ⟨w4.heap.size, 0, rfl, by simp, by simp⟩)
          have HBA := hid (HB4.out.alloc (by have := HB4.out.size; omega) AT)
          subst hAT
          go_wp2_with fail
          refine bodyPost_ret (results_ct rfl _ _ w.heap.size 45 #[.string ⟨#[]⟩, .string ⟨#[]⟩] (0, 0) _ rfl (heap_two HHA.out _ _) Tryd.underlying45 rfl paramInfo) rfl ?_
          exact PartPost.bad HPS.out (err_two HHA.out HEA.out _ _) ((HBA.out.setCell (p := ⟨w.heap.size, 0, none⟩) (Nat.le_refl _) _).setCell (p := ⟨w.heap.size, 1, none⟩) (Nat.le_refl _) _)
        · have hE : checkE (unS (cutA l)).1 = .nil := by unfold checkE; rw [if_pos (by omega)]
          rw [hE] at HK1
          have km := fun (w : World) => kc w m
          clear hE
          go_wp2_with fail
          refine HK1.out.mono ?_
          clear HK1
          rintro e w4 ⟨v4, rfl, he4, hb4⟩
          obtain rfl : v4 = .nilIface := he4
          have HB4 := hid (below_then HB3.out hb4)
          have HH4 := hid ((hb4.block w.heap.size (lt_of_heap HH3.out)).trans HH3.out)
          have hk2 := chk_any m w4 (LeastAt.below HL.out HB4.out hll) (by omega)
          rw [HML.out] at hk2
          have HK2 := hid hk2
          clear hb4 hk2
          by_cases hb2 : 0 ≤ badS (unS (cutB l)).1
          · have hPS : partS l = .error 0 := by unfold partS; rw [if_neg (by omega), if_neg (by omega), if_pos (.inr (.inr hb2))]
            have HPS := hid hPS
            have hE : checkE (unS (cutB l)).1 = .at_ (badS (unS (cutB l)).1) 30 := by unfold checkE; rw [if_neg (by omega)]
            rw [hE] at HK2
            clear hPS hE hne
            go_wp2_with fail
            refine HK2.out.mono ?_
            clear HK2
            rintro e w5 ⟨v5, rfl, ⟨eb, eo, rfl, _, _⟩, hb5⟩
            have HB5 := hid (below_then HB4.out hb5)
            have HH5 := hid ((hb5.block w.heap.size (lt_of_heap HH4.out)).trans HH4.out)
            clear hb5
            obtain ⟨AT, hAT⟩ : ∃ AT, AT = Obj.cells #[.int .i64 (d : Int), .iface 46 (.int .i64 60)] 53 (0, 0) := ⟨_, rfl⟩
            have HHA := hid ((Below.heap_alloc w5 AT _ (lt_of_heap HH5.out)).trans HH5.out)
            have c3 : (w5.alloc AT).cell? ⟨w.heap.size, 0, none⟩ = some (.string ⟨#[]⟩) := by simp [World.cell?, HHA.out]
            have c4 : (w5.alloc AT).cell? ⟨w.heap.size, 1, none⟩ = some (.string ⟨#[]⟩) := by simp [World.cell?, HHA.out]
            have f3 : (w5.alloc AT).frozen? ⟨w.heap.size, 0, none⟩ = false := by simp [World.frozen?, HHA.out]
            have f4 : (w5.alloc AT).frozen? ⟨w.heap.size, 1, none⟩ = false := by simp [World.frozen?, HHA.out]
            have HEA : Hid (IsErr (w5.alloc AT) (.at_ ((d : Int) + 0) 60) (.iface 51 (.pointer (some ⟨w5.heap.size, 0, none⟩)))) := hid (by
              rw [hAT, Int.add_zero]
              exact ⟨w5.heap.size, 0, rfl, by simp, by simp⟩)
            have HBA := hid (HB5.out.alloc (by have := HB5.out.size; omega) AT)
            subst hAT
            go_wp2_with fail
            refine bodyPost_ret (results_ct rfl _ _ w.heap.size 45 #[.string ⟨#[]⟩, .string ⟨#[]⟩] (0, 0) _ rfl (heap_two HHA.out _ _) Tryd.underlying45 rfl paramInfo) rfl ?_
            exact PartPost.bad HPS.out (err_two HHA.out HEA.out _ _) ((HBA.out.setCell (p := ⟨w.heap.size, 0, none⟩) (Nat.le_refl _) _).setCell (p := ⟨w.heap.size, 1, none⟩) (Nat.le_refl _) _)
          · have hE : checkE (unS (cutB l)).1 = .nil := by unfold checkE; rw [if_pos (by omega)]
            rw [hE] at HK2
            have hPS : partS l = .ok ((unS (cutA l)).1, (unS (cutB l)).1) := by
              unfold partS; rw [if_neg (by omega), if_neg (by omega), if_neg]
              rintro (h9 | h9 | h9)
              · exact hne h9
              · omega
              · omega
            have HPS := hid hPS
            clear hE hPS hne
            go_wp2_with fail
            refine HK2.out.mono ?_
            clear HK2
            rintro e w5 ⟨v5, rfl, he5, hb5⟩
            obtain rfl : v5 = .nilIface := he5
            have HB5 := hid (below_then HB4.out hb5)
            have HH5 := hid ((hb5.block w.heap.size (lt_of_heap HH4.out)).trans HH4.out)
            have c3 : w5.cell? ⟨w.heap.size, 0, none⟩ = some (.string ⟨#[]⟩) := by simp [World.cell?, HH5.out]
            have c4 : w5.cell? ⟨w.heap.size, 1, none⟩ = some (.string ⟨#[]⟩) := by simp [World.cell?, HH5.out]
            have f3 : w5.frozen? ⟨w.heap.size, 0, none⟩ = false := by simp [World.frozen?, HH5.out]
            have f4 : w5.frozen? ⟨w.heap.size, 1, none⟩ = false := by simp [World.frozen?, HH5.out]
            clear hb5
            go_wp2_with fail
            refine bodyPost_ret (results_ct rfl _ _ w.heap.size 45 #[.string n, .string m] (0, 0) _ rfl (heap_two HH5.out _ _) Tryd.underlying45 rfl paramInfo) rfl ?_
            rw [← HN.out, ← HM.out]
            exact PartPost.ok HPS.out ((HB5.out.setCell (p := ⟨w.heap.size, 0, none⟩) (Nat.le_refl _) _).setCell (p := ⟨w.heap.size, 1, none⟩) (Nat.le_refl _) _)
end Go.Proofs.YtgdbjkkanjgbnaaDoor.Url

namespace Go.Proofs.YtgdbjkkanjgbnaaDoor.Url
open Go.RowKit Go.Proofs.YtgdbjkkanjgbnaaDoor
open Go.Proofs.YtgdbjkkanjgbnaaDoorW.PrintWords (Kd rdOf)
open Go.Proofs.YtgdbjkkanjgbnaaDoor.PUrlencParses
set_option linter.unusedVariables false
set_option linter.unusedSimpArgs false
abbrev Par := S45
theorem ba_inj {a b : ByteArray} (h : a.toList = b.toList) : a = b := by
  rw [str_toList, str_toList] at h
  apply ByteArray.ext
  exact Array.toList_inj.1 h
/-- The first of a name. -/
def getS : List Par → ByteArray → Option ByteArray
  | [], _ => none
  | x :: xs, k => if x.f0 = k then some x.f1 else getS xs k
theorem getS_here {xs : List Par} {k : ByteArray} {i : Nat} {x : Par} (h : ∀ (q : Nat) (y : Par), q < i → xs[q]? = some y → y.f0 ≠ k) (hx : xs[i]? = some x) (hk : x.f0 = k) : getS xs k = some x.f1 := by
  induction xs generalizing i with
  | nil => simp at hx
  | cons y xs ih =>
    cases i with
    | zero => simp at hx; subst hx; rw [getS, if_pos hk]
    | succ i =>
      rw [getS, if_neg (h 0 y (by omega) rfl)]
      exact ih (i := i) (fun q z hq hz => h (q + 1) z (by omega) (by simpa using hz)) (by simpa using hx)
theorem getS_none {xs : List Par} {k : ByteArray} (h : ∀ (q : Nat) (y : Par), xs[q]? = some y → y.f0 ≠ k) : getS xs k = none := by
  induction xs with
  | nil => rfl
  | cons y xs ih =>
    rw [getS, if_neg (h 0 y rfl)]
    exact ih (fun q z hz => h (q + 1) z (by simpa using hz))
/-- What Get answers. -/
def getV (o : Option ByteArray) : Value := match o with | some v => .tuple #[.string v, .bool true] | none => .tuple #[.string ⟨#[]⟩, .bool false]
def GetPost (o : Option ByteArray) (w : World) (e : Ending) (w' : World) : Prop := e = .returned (getV o) ∧ Below w.heap.size w w'
theorem GetPost.yes {o : Option ByteArray} {v : ByteArray} {w w' : World} (h : o = some v) (hb : Below w.heap.size w w') : GetPost o w (.returned (.tuple #[.string v, .bool true])) w' := ⟨by rw [h]; rfl, hb⟩
theorem GetPost.no {o : Option ByteArray} {w w' : World} (h : o = none) (hb : Below w.heap.size w w') : GetPost o w (.returned (.tuple #[.string ⟨#[]⟩, .bool false])) w' := ⟨by rw [h]; rfl, hb⟩
set_option maxHeartbeats 4000000 in
set_option maxRecDepth 20000 in
theorem get_any (w : World) (A : Option Addr) (c : Nat) (xs : List Par) (key : ByteArray) (hC : k45.C w A xs.length xs) (hc : xs.length ≤ c) (hn : xs.length ≤ 1048576) :
    Calls Tryd.prog 16 #[.slice A xs.length c, .string key] w (GetPost (getS xs key) w) := by
  have HC := hid hC
  clear hC
  go_enter Tryd.func16, Tryd.ntmps16
  go_wp2
  go_loopw [10] (fun vi wr => ∃ i : Nat, vi = .int .i64 i ∧ i ≤ xs.length ∧ Hid (∀ q y, q < i → xs[q]? = some y → y.f0 ≠ key) ∧ Below w.heap.size w wr) (fun vi _ => xs.length - (intOf vi).toNat)
  case atStart => exact ⟨0, rfl, Nat.zero_le _, hid (fun q y h => absurd h (by omega)), Below.refl _ _⟩
  case round =>
    obtain ⟨i, rfl, hi, hlo, hb⟩ := hrel
    have HB := hid hb
    have hC2 := Kd.C_below HC.out hb
    by_cases hlt : i < xs.length
    · have t0 : decide ((i : Int) < (xs.length : Int)) = true := decide_eq_true (by omega)
      obtain ⟨x, hx⟩ : ∃ x, xs[i]? = some x := ⟨xs[i]'hlt, by simp⟩
      have p0 : (0 : Int) ≤ (i : Int) := by omega
      have p1 : (i : Int) < (xs.length : Int) := by omega
      obtain ⟨ad, rfl, e0, e1⟩ := at_T45 hC2 (i : Int) (by omega) (by omega)
      simp only [Int.toNat_natCast] at e0 e1
      have hrd : rd_T45 xs (i : Int) = x := by unfold rd_T45; rw [Int.toNat_natCast, List.getD_eq_getElem?_getD, hx]; rfl
      rw [hrd] at e0 e1
      have HX := hid hx
      clear hC2 hb hrd hx
      by_cases hk : x.f0 = key
      · have q0 : (x.f0.toList == key.toList) = true := by rw [hk]; simp
        have HS := hid (getS_here hlo.out HX.out hk)
        clear hk
        go_wp2_with fail
        go_ret2
        exact GetPost.yes HS.out (HB.out.alloc (by have := HB.out.size; omega) _)
      · have q0 : (x.f0.toList == key.toList) = false := by simp; exact fun e => hk (ba_inj e)
        have HNK := hid hk
        clear hk
        go_wp2_with fail
        refine ⟨⟨i + 1, by congr 1, by omega, hid (fun q y hq hy => ?_), HB.out.alloc (by have := HB.out.size; omega) _⟩, by simp [intOf] <;> omega⟩
        rcases Nat.lt_or_ge q i with h9 | h9
        · exact hlo.out q y h9 hy
        · obtain rfl : q = i := by omega
          rw [HX.out] at hy
          cases hy
          exact HNK.out
    · obtain rfl : i = xs.length := by omega
      have t0 : decide ((xs.length : Int) < (xs.length : Int)) = false := decide_eq_false (by omega)
      have HS := hid (getS_none (xs := xs) (k := key) (fun q y hy => hlo.out q y (List.getElem?_eq_some_iff.1 hy).1 hy))
      clear hC2 hb
      go_wp2_with fail
      go_ret2
      exact GetPost.no HS.out HB.out
end Go.Proofs.YtgdbjkkanjgbnaaDoor.Url

namespace Go.Proofs.YtgdbjkkanjgbnaaDoor
open Go.RowKit
set_option linter.unusedVariables false
set_option linter.unusedSimpArgs false
theorem lt_of_heap2 {w : World} {k : Nat} {o : Obj} (h : w.heap[k]? = some o) : k < w.heap.size := (Array.getElem?_eq_some_iff.1 h).1
/-- Blocks that are no bytes' and not the builder's stay. -/
def BldK (b : Nat) (w w' : World) : Prop := ∀ k cs T fr, k ≠ b → T ≠ 5 → w.heap[k]? = some (.cells cs T fr) → w'.heap[k]? = some (.cells cs T fr)
theorem BldK.refl (b : Nat) (w : World) : BldK b w w := fun k cs T fr _ _ h => h
theorem bldcheck2 (B b : Nat) (bs : List Value) (w : World) (h : Lib.IsBuilderF 61 5 B b bs w) :
    Calls Tryd.prog 44 #[.pointer (some ⟨b, 0, none⟩)] w fun e w' => e = .returned (.tuple #[]) ∧ (Lib.BuilderAtF 61 5 B b (.pointer (some ⟨b, 0, none⟩)) bs w' ∧ Below B w w' ∧ BldK b w w') := by
  rcases h with h | h
  · refine (check_fresh b w h.cell0 h.shape h.frozen0).mono ?_
    rintro e w' ⟨rfl, rfl⟩
    exact ⟨rfl, h.used _, (Below.refl B w).setCell (p := ⟨b, 0, none⟩) h.1 _, fun k cs T fr hkb _ hk => by rw [Below.heap_setCell _ _ _ _ hkb]; exact hk⟩
  · refine (check_used b w h.cell0).mono ?_
    rintro e w' ⟨rfl, rfl⟩
    exact ⟨rfl, h, Below.refl B _, BldK.refl b _⟩
def BldPost2 (B b : Nat) (l : List UInt8) (v : Value) (w : World) (e : Ending) (w' : World) : Prop := e = .returned v ∧ Bld B b l w' ∧ Below B w w' ∧ BldK b w w'
set_option maxHeartbeats 2000000 in
set_option maxRecDepth 100000 in
theorem bld_byte2 (B b : Nat) (l : List UInt8) (c : UInt8) (w : World) (h : Bld B b l w) (hlen : l.length + 1 ≤ 140737488355328) (hBw : B ≤ w.heap.size) :
    Calls Tryd.prog 27 #[.pointer (some ⟨b, 0, none⟩), .int .u8 (c.toNat : Int)] w (BldPost2 B b (l ++ [c]) .nilIface w) := by
  obtain ⟨i0, hi, hz0, hz1, hz2⟩ := info_parts bldString_extra.infoByte
  obtain ⟨bs, hbs⟩ : ∃ bs, Lib.byteCells l = bs := ⟨_, rfl⟩
  have hl : bs.length = l.length := by rw [← hbs]; exact Lib.byteCells_length l
  unfold Bld at h
  rw [hbs] at h
  have HBS := hid hbs
  have hlen' : bs.length + 1 ≤ 140737488355328 := by omega
  clear hbs hl hlen
  go_enter Tryd.func27, Tryd.ntmps27
  go_wp2_with (go_at_call 44; refine (bldcheck2 B b bs _ h).mono ?_)
  rintro e w1 ⟨rfl, h1, hb1, hk1⟩
  have HK1 := hid hk1
  clear hk1
  obtain ⟨hB, v, hbk, hown, hne⟩ := h1
  have c0 : w1.cell? ⟨b, 0, none⟩ = some (.pointer (some ⟨b, 0, none⟩)) := by rw [Lib.cell_of_heap hbk]; rfl
  have c1 : w1.cell? ⟨b, 1, none⟩ = some v := by rw [Lib.cell_of_heap hbk]; rfl
  go_wp2_with (at_builtin; refine wpList_append_ownF _ rfl _ _ 59 rfl B 5 i0 (.int .u8 0) 1 1 Tryd.underlying59 hi hz0 hz1 hz2 rfl (by decide) _ _ _ rfl (hown.alloc _) ⟨w1.heap.size, 0, none⟩ 1 1 [.int .u8 c.toNat] rfl rfl ?c1 ?c2 ?c3 ?c4 ?c5 ?_)
  case c1 =>
    intro j u hj
    match j, hj with
    | 0, hj => simp at hj; subst hj; simp [Addr.add]
  case c2 => intro u hu; simp at hu; subst hu; rfl
  case c3 => unfold maxLen; omega
  case c4 => omega
  case c5 => have := hb1.size; simp; omega
  intro v' w2 hown' hgrow _
  have HGB : Hid (∀ (k : Nat) (cs : Array Value) (T : TypeId) (fr : Nat × Nat), T ≠ 5 → w1.heap[k]? = some (Obj.cells cs T fr) → w2.heap[k]? = some (Obj.cells cs T fr)) := hid (fun k cs T fr hT hk => by
    have hkl := lt_of_heap2 hk
    refine (hgrow.block k (by first | exact hkl | (simp; omega)) (fun e => ?_)).trans ?_
    · rcases hown.2 with ⟨e2, _⟩ | ⟨g, cap, cur, fz, e2, _, hh, _⟩
      · rw [e2] at e; cases e
      · rw [e2] at e
        obtain rfl : k = g := by simpa [Value.ownBlock] using e
        rw [hk] at hh
        injection hh with hh
        injection hh with _ h8
        exact hT h8
    · first | exact hk | exact (Below.heap_alloc _ _ _ hkl).trans hk)
  have hlt : b < w1.heap.size := by
    rcases Nat.lt_or_ge b w1.heap.size with h' | h'
    · exact h'
    · simp [Array.getElem?_eq_none h'] at hbk
  have hb2 : w2.heap[b]? = some (.cells #[.pointer (some ⟨b, 0, none⟩), v] 61 (0, 0)) := by
    rw [hgrow.block b (by simp; omega) (fun e => hne e.symm), Lib.alloc_old w1 _ b hlt]
    exact hbk
  have d0 : w2.cell? ⟨b, 0, none⟩ = some (.pointer (some ⟨b, 0, none⟩)) := by rw [Lib.cell_of_heap hb2]; rfl
  have d1 : w2.cell? ⟨b, 1, none⟩ = some v := by rw [Lib.cell_of_heap hb2]; rfl
  have f1 : w2.frozen? ⟨b, 1, none⟩ = false := Lib.frozen_of_heap hb2 1
  obtain ⟨g, cap, rfl⟩ : ∃ g cap, v' = .slice (some ⟨g, 0, none⟩) (bs.length + 1) cap := by
    rcases hown'.2 with ⟨_, h0⟩ | ⟨g, cap, cur, fz, hv, _⟩
    · omega
    · exact ⟨g, cap, hv⟩
  go_wp2
  go_ret
  refine ⟨rfl, ?_, ?_, ?_⟩
  · unfold Bld
    rw [bytes_snoc, HBS.out]
    exact .inr (Lib.BuilderAtF.put (T := 61) (e := 5) hB hb2 (bs' := bs ++ [.int .u8 c.toNat]) (by simpa using hown') (by decide))
  · exact ((hb1.alloc (by have := hb1.size; omega) _).grown hgrow (by have := hb1.size; simp; omega) (fun k hk => (hown.lt k hk).1)).setCell (p := ⟨b, 1, none⟩) hB _
  · intro k cs T fr hkb hT hk
    have h3 := HK1.out k cs T fr hkb hT hk
    have h4 := HGB.out k cs T fr hT h3
    rw [Below.heap_setCell _ _ _ _ hkb]
    exact h4
set_option maxHeartbeats 2000000 in
set_option maxRecDepth 100000 in
theorem bld_text2 (B b : Nat) (l : List UInt8) (s : ByteArray) (w : World) (h : Bld B b l w) (hlen : l.length + s.size ≤ 140737488355328) (hBw : B ≤ w.heap.size) :
    Calls Tryd.prog 28 #[.pointer (some ⟨b, 0, none⟩), .string s] w (BldPost2 B b (l ++ s.data.toList) (.tuple #[.int .i64 s.size, .nilIface]) w) := by
  obtain ⟨i0, hi, hz0, hz1, hz2⟩ := info_parts bldString_extra.infoByte
  obtain ⟨bs, hbs⟩ : ∃ bs, Lib.byteCells l = bs := ⟨_, rfl⟩
  have hl : bs.length = l.length := by rw [← hbs]; exact Lib.byteCells_length l
  unfold Bld at h
  rw [hbs] at h
  have HBS := hid hbs
  have hlen' : bs.length + s.size ≤ 140737488355328 := by omega
  clear hbs hl hlen
  go_enter Tryd.func28, Tryd.ntmps28
  go_wp2_with (go_at_call 44; refine (bldcheck2 B b bs _ h).mono ?_)
  rintro e w1 ⟨rfl, h1, hb1, hk1⟩
  have HK1 := hid hk1
  clear hk1
  obtain ⟨hB, v, hbk, hown, hne⟩ := h1
  have c0 : w1.cell? ⟨b, 0, none⟩ = some (.pointer (some ⟨b, 0, none⟩)) := by rw [Lib.cell_of_heap hbk]; rfl
  have c1 : w1.cell? ⟨b, 1, none⟩ = some v := by rw [Lib.cell_of_heap hbk]; rfl
  go_wp2_with (at_builtin; refine Lib.wpList_append_own_stringF _ rfl _ _ 59 9 rfl B 5 i0 Tryd.underlying59 Tryd.underlying9 hi hz0 hz1 hz2 _ _ _ rfl hown s rfl ?c3 ?c4 ?c5 ?_)
  case c3 => unfold maxLen; omega
  case c4 => omega
  case c5 => have := hb1.size; omega
  intro v' w2 hown' hgrow _
  have HGB : Hid (∀ (k : Nat) (cs : Array Value) (T : TypeId) (fr : Nat × Nat), T ≠ 5 → w1.heap[k]? = some (Obj.cells cs T fr) → w2.heap[k]? = some (Obj.cells cs T fr)) := hid (fun k cs T fr hT hk => by
    have hkl := lt_of_heap2 hk
    refine (hgrow.block k (by first | exact hkl | (simp; omega)) (fun e => ?_)).trans ?_
    · rcases hown.2 with ⟨e2, _⟩ | ⟨g, cap, cur, fz, e2, _, hh, _⟩
      · rw [e2] at e; cases e
      · rw [e2] at e
        obtain rfl : k = g := by simpa [Value.ownBlock] using e
        rw [hk] at hh
        injection hh with hh
        injection hh with _ h8
        exact hT h8
    · first | exact hk | exact (Below.heap_alloc _ _ _ hkl).trans hk)
  have hlt : b < w1.heap.size := by
    rcases Nat.lt_or_ge b w1.heap.size with h' | h'
    · exact h'
    · simp [Array.getElem?_eq_none h'] at hbk
  have hb2 : w2.heap[b]? = some (.cells #[.pointer (some ⟨b, 0, none⟩), v] 61 (0, 0)) := by
    rw [hgrow.block b hlt (fun e => hne e.symm)]
    exact hbk
  have d0 : w2.cell? ⟨b, 0, none⟩ = some (.pointer (some ⟨b, 0, none⟩)) := by rw [Lib.cell_of_heap hb2]; rfl
  have d1 : w2.cell? ⟨b, 1, none⟩ = some v := by rw [Lib.cell_of_heap hb2]; rfl
  have f1 : w2.frozen? ⟨b, 1, none⟩ = false := Lib.frozen_of_heap hb2 1
  obtain ⟨ao, n', cap, rfl⟩ : ∃ ao n' cap, v' = .slice ao n' cap := by
    rcases hown'.2 with ⟨hv, _⟩ | ⟨g, cap, cur, fz, hv, _⟩
    · exact ⟨_, _, _, hv⟩
    · exact ⟨_, _, _, hv⟩
  go_wp2
  go_ret2
  refine ⟨rfl, ?_, ?_, ?_⟩
  · unfold Bld
    rw [bytes_app, HBS.out]
    exact .inr (Lib.BuilderAtF.put (T := 61) (e := 5) hB hb2 (bs' := bs ++ Lib.strCells s) (by simpa [Lib.strCells_length] using hown') (by decide))
  · exact (hb1.grown hgrow (by have := hb1.size; omega) (fun k hk => (hown.lt k hk).1)).setCell (p := ⟨b, 1, none⟩) hB _
  · intro k cs T fr hkb hT hk
    have h3 := HK1.out k cs T fr hkb hT hk
    have h4 := HGB.out k cs T fr hT h3
    rw [Below.heap_setCell _ _ _ _ hkb]
    exact h4
end Go.Proofs.YtgdbjkkanjgbnaaDoor

namespace Go.Proofs.YtgdbjkkanjgbnaaDoor.Url
open Go.RowKit Go.Proofs.YtgdbjkkanjgbnaaDoor
open Go.Proofs.YtgdbjkkanjgbnaaDoorW.PrintWords (Kd rdOf)
open Go.Proofs.YtgdbjkkanjgbnaaDoor.PUrlencParses
set_option linter.unusedVariables false
set_option linter.unusedSimpArgs false
/-- Is a parameter wrong, behind those ahead of it? -/
def badP (pre : List Par) (x : Par) : Prop := (getS pre x.f0).isSome = true ∨ x.f0.size = 0 ∨ 0 ≤ badS x.f0.data.toList ∨ 0 ≤ badS x.f1.data.toList
def sepS (pre : List Par) : List UInt8 := if pre.length = 0 then [] else [38]
def oneS (x : Par) : List UInt8 := escS x.f0.data.toList ++ [61] ++ escS x.f1.data.toList
open Classical in
noncomputable def printL : List Par → List Par → List UInt8 → Option (List UInt8)
  | [], _, out => some out
  | x :: xs, pre, out => if badP pre x then none else printL xs (pre ++ [x]) (out ++ sepS pre ++ oneS x)
def finS : Option (List UInt8) → List UInt8 × GErr
  | none => ([], .no 1)
  | some out => if 4096 < out.length then ([], .no 2) else (out, .nil)
noncomputable def printS (xs : List Par) : List UInt8 × GErr := if 32 < xs.length then ([], .no 1) else finS (printL xs [] [])
def PrintPost (r : List UInt8 × GErr) (w : World) (e : Ending) (w' : World) : Prop := ∃ er, e = .returned (.tuple #[strV r.1, er]) ∧ IsErr w' r.2 er ∧ Below w.heap.size w w'
theorem PrintPost.mk {r : List UInt8 × GErr} {l : List UInt8} {g : GErr} {w w' : World} {er : Value} (h : r = (l, g)) (he : IsErr w' g er) (hb : Below w.heap.size w w') : PrintPost r w (.returned (.tuple #[strV l, er])) w' := ⟨er, by rw [h], by rw [h]; exact he, hb⟩
theorem printL_bad {x : Par} {xs pre : List Par} {out : List UInt8} (h : badP pre x) : printL (x :: xs) pre out = none := by rw [printL, if_pos h]
theorem printL_good {x : Par} {xs pre : List Par} {out : List UInt8} (h : ¬ badP pre x) : printL (x :: xs) pre out = printL xs (pre ++ [x]) (out ++ sepS pre ++ oneS x) := by rw [printL, if_neg h]
/-- How the loop stands. -/
def PriRel (xs : List Par) (R : Option (List UInt8)) (B : Nat) (w : World) (vi : Value) (wr : World) : Prop :=
  ∃ (i : Nat) (out : List UInt8), i ≤ xs.length ∧ vi = .int .i64 i ∧ printL (xs.drop i) (xs.take i) out = R ∧ out.length ≤ i * 20000 ∧ Bld B B out wr ∧ Below B w wr ∧ B ≤ wr.heap.size
theorem c_take {w : World} {A : Option Addr} {xs : List Par} (h : k45.C w A xs.length xs) (i : Nat) (hi : i ≤ xs.length) : k45.C w A (xs.take i).length (xs.take i) := by
  obtain ⟨h1, h2, h3⟩ := h
  refine ⟨rfl, by rw [List.length_take]; omega, fun h0 => ?_⟩
  rw [List.length_take] at h0
  obtain ⟨ad, ha, hq⟩ := h3 (by omega)
  refine ⟨ad, ha, fun j p hj => hq j p ?_⟩
  rw [List.getElem?_take] at hj
  split at hj
  · exact hj
  · cases hj
/-- The world within a round. -/
structure PW (w : World) (t : Nat) (x : Par) (out : List UInt8) (y : World) : Prop where
  below : Below w.heap.size w y
  bld : Bld w.heap.size w.heap.size out y
  box : y.heap[t]? = some (.cells #[.string x.f0, .string x.f1] 45 (0, 0))
  gt : w.heap.size < t
theorem PW.cells {w : World} {t : Nat} {x : Par} {out : List UInt8} {y : World} (h : PW w t x out y) : y.cell? ⟨t, 0, none⟩ = some (.string x.f0) ∧ y.cell? ⟨t, 1, none⟩ = some (.string x.f1) := by
  have h9 := h.box
  exact ⟨by simp [World.cell?, h9], by simp [World.cell?, h9]⟩
theorem PW.new {w : World} {t : Nat} {x : Par} {out : List UInt8} {y y' : World} (h : PW w t x out y) (hb : Below y.heap.size y y') : PW w t x out y' := ⟨below_then h.below hb, h.bld.below hb, (hb.block t (lt_of_heap2 h.box)).trans h.box, h.gt⟩
theorem PW.dn {w : World} {t : Nat} {x : Par} {out : List UInt8} {y : World} (h : PW w t x out y) : PW w t x out y.drew := h.new ((Below.refl _ y).drew)
theorem PW.put {w : World} {t : Nat} {x : Par} {out out' : List UInt8} {y y' : World} (h : PW w t x out y) (hl : Bld w.heap.size w.heap.size out' y') (hb : Below w.heap.size y y') (hk : BldK w.heap.size y y') : PW w t x out' y' := ⟨h.below.trans hb, hl, hk t _ _ _ (by have := h.gt; omega) (by decide) h.box, h.gt⟩
theorem PW.le {w : World} {t : Nat} {x : Par} {out : List UInt8} {y : World} (h : PW w t x out y) : w.heap.size ≤ y.heap.size := h.below.size
set_option maxHeartbeats 8000000 in
set_option maxRecDepth 20000 in
theorem print_any (A : Option Addr) (c : Nat) (xs : List Par) (w : World) (hC : k45.C w A xs.length xs) (hc : xs.length ≤ c) (hn : xs.length ≤ 100) (hsz : ∀ x ∈ xs, x.f0.size ≤ 3000 ∧ x.f1.size ≤ 3000) (hg : ErrorType w) (hL : LeastAt w) : Calls Tryd.prog 14 #[.slice A xs.length c] w (PrintPost (printS xs) w) := by
  have HG := hid hg
  have HL := hid hL
  have hgl := hg.lt
  have hll := LeastAt.lt hL
  have HC := hid hC
  have HSZ := hid hsz
  have kc := fun (w : World) (s : ByteArray) => Lib.run_convert_string_bytes (P := Tryd.prog) w 9 59 5 s Tryd.underlying9 Tryd.underlying59 Tryd.underlying5
  clear hg hL hC hsz
  by_cases hbig : 32 < xs.length
  · have HP : Hid (printS xs = ([], .no 1)) := hid (by unfold printS; rw [if_pos hbig])
    have t0 : decide ((32 : Int) < (xs.length : Int)) = true := decide_eq_true (by omega)
    clear kc
    go_enter Tryd.func14, Tryd.ntmps14
    go_wp2_with fail
    go_ret2
    exact PrintPost.mk HP.out rfl (Below.refl _ _)
  · have t0 : decide ((32 : Int) < (xs.length : Int)) = false := decide_eq_false (by omega)
    obtain ⟨R, hR⟩ : ∃ R, printL xs [] [] = R := ⟨_, rfl⟩
    have HP : Hid (printS xs = finS R) := hid (by unfold printS; rw [if_neg hbig, hR])
    have HR := hid hR
    clear hR
    go_enter Tryd.func14, Tryd.ntmps14
    go_wp2_with fail
    go_loopw [15] (fun vi wr => PriRel xs R w.heap.size w vi wr) (fun vi _ => xs.length - (intOf vi).toNat)
    case atStart => exact ⟨0, [], Nat.zero_le _, rfl, by rw [List.drop_zero, List.take_zero]; exact HR.out, by simp, bld_new w, (Below.refl _ w).alloc (Nat.le_refl _) _, by simp⟩
    case round =>
      obtain ⟨i, out, hi, rfl, hpl, hol, hb, hbw, hs⟩ := hrel
      have HB := hid hb
      have HBW := hid hbw
      have HPL := hid hpl
      by_cases hlt : i < xs.length
      · have t1 : decide ((i : Int) < (xs.length : Int)) = true := decide_eq_true (by omega)
        obtain ⟨x, hx⟩ : ∃ x, xs[i]? = some x := ⟨xs[i]'hlt, by simp⟩
        obtain ⟨hx0, hx1⟩ := HSZ.out x (List.mem_of_getElem? hx)
        have hdr : xs.drop i = x :: xs.drop (i + 1) := by
          rw [List.drop_eq_getElem_cons hlt]
          rw [List.getElem?_eq_getElem hlt] at hx
          rw [Option.some.inj hx]
        have htk : xs.take i ++ [x] = xs.take (i + 1) := by
          rw [List.take_succ_eq_append_getElem hlt]
          rw [List.getElem?_eq_getElem hlt] at hx
          rw [Option.some.inj hx]
        rw [hdr] at hpl
        have HPX := hid hpl
        have HTK := hid htk
        have hC2 := Kd.C_below HC.out hbw
        have p0 : (0 : Int) ≤ (i : Int) := by omega
        have p1 : (i : Int) < (xs.length : Int) := by omega
        have p2 : (i : Int) ≤ (c : Int) := by omega
        obtain ⟨ad, rfl, e0, e1⟩ := at_T45 hC2 (i : Int) (by omega) (by omega)
        simp only [Int.toNat_natCast] at e0 e1
        have hrd : rd_T45 xs (i : Int) = x := by unfold rd_T45; rw [Int.toNat_natCast, List.getD_eq_getElem?_getD, hx]; rfl
        rw [hrd] at e0 e1
        have hC3 := hid (c_take hC2 i (by omega))
        clear hC2 hrd hx hdr hpl htk hb hbw
        go_wp2_with fail
        obtain ⟨wa, hwa⟩ : ∃ wa, wr.alloc (.cells #[.string x.f0, .string x.f1] 45) = wa := ⟨_, rfl⟩
        rw [hwa]
        have hba : Below wr.heap.size wr wa := hwa ▸ (Below.refl _ wr).alloc (Nat.le_refl _) _
        have hha : wa.heap[wr.heap.size]? = some (.cells #[.string x.f0, .string x.f1] 45 (0, 0)) := by rw [← hwa]; exact heap_alloc_new wr _
        have HBA := hid (below_then HBW.out hba)
        have HHA := hid hha
        have HBB := hid (HB.out.below hba)
        have HSA : Hid (∀ y, Below wa.heap.size wa y → Below wa.heap.size wa y ∧ y.cell? ⟨wr.heap.size, 0, none⟩ = some (.string x.f0) ∧ y.cell? ⟨wr.heap.size, 1, none⟩ = some (.string x.f1)) := hid (fun y hy => by
          have h9 := (hy.block wr.heap.size (lt_of_heap hha)).trans hha
          exact ⟨hy, by simp [World.cell?, h9], by simp [World.cell?, h9]⟩)
        have hti : (xs.take i).length = i := by rw [List.length_take]; omega
        have HGT : Hid (∀ y, Below wa.heap.size wa y → Calls Tryd.prog 16 #[.slice (some ad) i c, .string x.f0] y (GetPost (getS (xs.take i) x.f0) y)) := hid (fun y hy => by
          have h9 := get_any y (some ad) c (xs.take i) x.f0 (Kd.C_below (Kd.C_below hC3.out hba) hy) (by omega) (by omega)
          rw [hti] at h9
          exact h9)
        have hsa : w.heap.size ≤ wa.heap.size := HBA.out.size
        have HTI := hid hti
        clear hwa hba hha e0 e1 hC3 hti
        obtain ⟨o, ho⟩ : ∃ o, getS (xs.take i) x.f0 = o := ⟨_, rfl⟩
        rw [ho] at HGT
        have HO := hid ho
        clear ho
        obtain ⟨v0, b0, hv⟩ : ∃ v0 b0, getV o = .tuple #[.string v0, .bool b0] ∧ (b0 = o.isSome) := by
          cases o with
          | none => exact ⟨_, _, rfl, rfl⟩
          | some v => exact ⟨_, _, rfl, rfl⟩
        have HV := hid hv.1
        have HV2 := hid hv.2
        clear hv
        go_region_held3 (fun y => Below wa.heap.size wa y ∧ y.cell? ⟨wr.heap.size, 0, none⟩ = some (.string x.f0) ∧ y.cell? ⟨wr.heap.size, 1, none⟩ = some (.string x.f1))
          (first | exact HSA.out _ HB2.out | exact HSA.out _ ((Below.refl _ wa).drew))
          ((go_at_call 16; refine (HGT.out _ ((Below.refl _ wa).drew)).mono ?_; rintro e y ⟨he, hb2⟩; rw [HV.out] at he; subst he; have HB2 := hid ((Below.refl wa.heap.size wa).drew.trans hb2); clear hb2))
        have BADR : Hid (badP (xs.take i) x → printS xs = ([], .no 1)) := hid (fun h => by
          rw [HP.out, ← HPX.out, printL_bad h]; rfl)
        have hy1 := HBA.out.trans (HB2.out.mono hsa)
        have HY1 := hid hy1
        have HBY := hid (HBB.out.below HB2.out)
        obtain ⟨_, c0, c1⟩ := HSA.out y HB2.out
        clear hy1
        cases o with
        | some v =>
          have hb0 : b0 = true := HV2.out
          subst hb0
          have HR2 := hid (BADR.out (.inl (by rw [HO.out]; rfl)))
          go_wp2_with fail
          go_ret2
          exact PrintPost.mk HR2.out rfl HY1.out
        | none =>
          have hb0 : b0 = false := HV2.out
          subst hb0
          by_cases hz : x.f0.size = 0
          · have hn0 : x.f0.toList = [] := str_empty x.f0 hz
            have HR2 := hid (BADR.out (.inr (.inl hz)))
            clear hz
            go_wp2_with fail
            go_ret2
            exact PrintPost.mk HR2.out rfl HY1.out
          · have hn1 : 0 < x.f0.size := by omega
            have hn2 := str_ne_empty x.f0 hn1
            have hn3 := str_not_empty x.f0 hn1
            have hn4 : (x.f0.toList == ([] : List UInt8)) = false := by simpa using hn3
            have hn5 : x.f0.toList.isEmpty = false := by simpa using hn3
            have HK1 := hid (chk_any x.f0 y (LeastAt.below HL.out HY1.out hll) (by omega))
            have k1 := fun (w : World) => kc w x.f0
            have k2 := fun (w : World) => kc w x.f1
            by_cases hb1 : 0 ≤ badS x.f0.data.toList
            · have HR2 := hid (BADR.out (.inr (.inr (.inl hb1))))
              have hE : checkE x.f0.data.toList = .at_ (badS x.f0.data.toList) 30 := by unfold checkE; rw [if_neg (by omega)]
              rw [hE] at HK1
              clear hE
              go_wp2_with fail
              refine HK1.out.mono ?_
              clear HK1
              rintro e y2 ⟨v4, rfl, ⟨eb, eo, rfl, _, _⟩, hb4⟩
              have HY2 := hid (below_then HY1.out hb4)
              clear hb4 c0 c1
              go_wp2_with fail
              go_ret2
              exact PrintPost.mk HR2.out rfl HY2.out
            · have hE : checkE x.f0.data.toList = .nil := by unfold checkE; rw [if_pos (by omega)]
              rw [hE] at HK1
              clear hE
              go_wp2_with fail
              refine HK1.out.mono ?_
              clear HK1
              rintro e y2 ⟨v4, rfl, he4, hb4⟩
              obtain rfl : v4 = .nilIface := he4
              have HY2 := hid (below_then HY1.out hb4)
              have HB4 := hid (below_then HB2.out hb4)
              have HBY2 := hid (HBY.out.below hb4)
              clear hb4 c0 c1
              obtain ⟨_, c0, c1⟩ := HSA.out y2 HB4.out
              have HK2 := hid (chk_any x.f1 y2 (LeastAt.below HL.out HY2.out hll) (by omega))
              by_cases hb2 : 0 ≤ badS x.f1.data.toList
              · have HR2 := hid (BADR.out (.inr (.inr (.inr hb2))))
                have hE : checkE x.f1.data.toList = .at_ (badS x.f1.data.toList) 30 := by unfold checkE; rw [if_neg (by omega)]
                rw [hE] at HK2
                clear hE
                go_wp2_with fail
                refine HK2.out.mono ?_
                clear HK2
                rintro e y3 ⟨v5, rfl, ⟨eb, eo, rfl, _, _⟩, hb5⟩
                have HY3 := hid (below_then HY2.out hb5)
                clear hb5 c0 c1
                go_wp2_with fail
                go_ret2
                exact PrintPost.mk HR2.out rfl HY3.out
              · have hE : checkE x.f1.data.toList = .nil := by unfold checkE; rw [if_pos (by omega)]
                rw [hE] at HK2
                clear hE
                have HGOOD : Hid (¬ badP (xs.take i) x) := hid (by
                  rintro (h9 | h9 | h9 | h9)
                  · rw [HO.out] at h9; cases h9
                  · exact hz h9
                  · omega
                  · omega)
                go_wp2_with fail
                refine HK2.out.mono ?_
                clear HK2
                rintro e y3 ⟨v5, rfl, he5, hb5⟩
                obtain rfl : v5 = .nilIface := he5
                have HY3 := hid (below_then HY2.out hb5)
                have HB5 := hid (below_then HB4.out hb5)
                have HBY3 := hid (HBY2.out.below hb5)
                clear hb5 c0 c1 hn1 hn2 hn3 hn4 hn5 hb1 hb2 k1 k2
                obtain ⟨_, c0, c1⟩ := HSA.out y3 HB5.out
                have hsy3 := HY3.out.size
                by_cases hi0 : i = 0
                · have t5 : decide ((0 : Int) < (i : Int)) = false := decide_eq_false (by omega)
                  have HSEP : Hid (sepS (xs.take i) = []) := hid (by unfold sepS; rw [HTI.out, if_pos hi0])
                  obtain ⟨E0, hE0, hE0l⟩ : ∃ E : ByteArray, strV (escS x.f0.data.toList) = .string E ∧ E.data.toList = escS x.f0.data.toList := ⟨⟨(escS x.f0.data.toList).toArray⟩, rfl, by simp⟩
                  obtain ⟨E1, hE1, hE1l⟩ : ∃ E : ByteArray, strV (escS x.f1.data.toList) = .string E ∧ E.data.toList = escS x.f1.data.toList := ⟨⟨(escS x.f1.data.toList).toArray⟩, rfl, by simp⟩
                  have he0 : E0.size ≤ 9000 := by have h1 := str_len E0; have h2 := escS_le x.f0.data.toList; rw [str_len] at h2; rw [hE0l] at h1; omega
                  have he1 : E1.size ≤ 9000 := by have h1 := str_len E1; have h2 := escS_le x.f1.data.toList; rw [str_len] at h2; rw [hE1l] at h1; omega
                  have a0 := fun w' => run_string_add_sum (P := Tryd.prog) w' E0 ⟨#[61]⟩ (by show E0.size + 1 ≤ _; omega)
                  have hsz1 : (E0 ++ ⟨#[61]⟩ : ByteArray).size = E0.size + 1 := by rw [ByteArray.size_append]; rfl
                  obtain ⟨E2, hE2⟩ : ∃ E2, E0 ++ (⟨#[61]⟩ : ByteArray) = E2 := ⟨_, rfl⟩
                  rw [hE2] at a0 hsz1
                  have a1 := fun w' => run_string_add_sum (P := Tryd.prog) w' E2 E1 (by omega)
                  have hsz2 : (E2 ++ E1).size = E2.size + E1.size := by simp
                  obtain ⟨E3, hE3⟩ : ∃ E3, E2 ++ E1 = E3 := ⟨_, rfl⟩
                  rw [hE3] at a1 hsz2
                  have hE3l : E3.data.toList = oneS x := by unfold oneS; rw [← hE3, ← hE2, ← hE0l, ← hE1l]; simp
                  have X0 := hid hE0
                  have X1 := hid hE1
                  have X3 := hid hE3l
                  have hx0' : x.f0.size ≤ 1048576 := by omega
                  have hx1' : x.f1.size ≤ 1048576 := by omega
                  clear hE0 hE1 hE2 hE3 hE0l hE1l hE3l
                  have hpw : PW w wr.heap.size x out y3 := ⟨HY3.out, HBY3.out, (HB5.out.block wr.heap.size (lt_of_heap2 HHA.out)).trans HHA.out, HB.out.lt⟩
                  have HPW := hid hpw
                  clear hpw
                  have T0 := hid HPW.out
                  clear c0 c1
                  go_wp2_with fail
                  have hlen6 : out.length + E3.size ≤ 140737488355328 := by omega
                  go_region_held3 (fun y => y.cell? ⟨wr.heap.size, 0, none⟩ = some (.string x.f0) ∧ y.cell? ⟨wr.heap.size, 1, none⟩ = some (.string x.f1))
                    (first | exact T3.out.cells | exact T2.out.cells | exact T1.out.cells | exact T0.out.dn.cells)
                    (first
                      | (go_at_call 28; refine (bld_text2 _ _ _ E3 _ T2.out.bld hlen6 T2.out.le).mono ?_; rintro e y7 ⟨rfl, hq1, hq2, hq3⟩; have T3 := hid (T2.out.put hq1 hq2 hq3); clear hq1 hq2 hq3)
                      | (go_at_call 20; refine (escape_any _ _ (by first | (exact hx0') | (exact hx1'))).mono ?_; rintro e y6 ⟨he, hq⟩; (first | (rw [X0.out] at he) | (rw [X1.out] at he)); subst he; have T2 := hid (T1.out.new hq); clear hq)
                      | (go_at_call 20; refine (escape_any _ _ (by first | (exact hx0') | (exact hx1'))).mono ?_; rintro e y5 ⟨he, hq⟩; (first | (rw [X0.out] at he) | (rw [X1.out] at he)); subst he; have T1 := hid (T0.out.dn.new hq); clear hq))
                  all_goals go_wp2
                  refine ⟨⟨i + 1, out ++ sepS (xs.take i) ++ oneS x, by omega, by first | (congr 1; done) | (simp [hi0]; done) | (rw [hi0]; rfl), by rw [← HTK.out, ← printL_good HGOOD.out]; exact HPX.out, ?_, ?_, T3.out.below, T3.out.le⟩, by simp [intOf] <;> omega⟩
                  · rw [List.length_append, List.length_append]
                    have h8 := congrArg List.length X3.out
                    rw [str_len] at h8
                    have h9 : (sepS (xs.take i)).length ≤ 1 := by unfold sepS; split <;> simp
                    omega
                  · have h9 := T3.out.bld
                    rw [X3.out] at h9
                    rw [HSEP.out, List.append_nil]
                    exact h9
                · have t5 : decide ((0 : Int) < (i : Int)) = true := decide_eq_true (by omega)
                  have HSEP : Hid (sepS (xs.take i) = [38]) := hid (by unfold sepS; rw [HTI.out, if_neg hi0])
                  obtain ⟨E0, hE0, hE0l⟩ : ∃ E : ByteArray, strV (escS x.f0.data.toList) = .string E ∧ E.data.toList = escS x.f0.data.toList := ⟨⟨(escS x.f0.data.toList).toArray⟩, rfl, by simp⟩
                  obtain ⟨E1, hE1, hE1l⟩ : ∃ E : ByteArray, strV (escS x.f1.data.toList) = .string E ∧ E.data.toList = escS x.f1.data.toList := ⟨⟨(escS x.f1.data.toList).toArray⟩, rfl, by simp⟩
                  have he0 : E0.size ≤ 9000 := by have h1 := str_len E0; have h2 := escS_le x.f0.data.toList; rw [str_len] at h2; rw [hE0l] at h1; omega
                  have he1 : E1.size ≤ 9000 := by have h1 := str_len E1; have h2 := escS_le x.f1.data.toList; rw [str_len] at h2; rw [hE1l] at h1; omega
                  have a0 := fun w' => run_string_add_sum (P := Tryd.prog) w' E0 ⟨#[61]⟩ (by show E0.size + 1 ≤ _; omega)
                  have hsz1 : (E0 ++ ⟨#[61]⟩ : ByteArray).size = E0.size + 1 := by rw [ByteArray.size_append]; rfl
                  obtain ⟨E2, hE2⟩ : ∃ E2, E0 ++ (⟨#[61]⟩ : ByteArray) = E2 := ⟨_, rfl⟩
                  rw [hE2] at a0 hsz1
                  have a1 := fun w' => run_string_add_sum (P := Tryd.prog) w' E2 E1 (by omega)
                  have hsz2 : (E2 ++ E1).size = E2.size + E1.size := by simp
                  obtain ⟨E3, hE3⟩ : ∃ E3, E2 ++ E1 = E3 := ⟨_, rfl⟩
                  rw [hE3] at a1 hsz2
                  have hE3l : E3.data.toList = oneS x := by unfold oneS; rw [← hE3, ← hE2, ← hE0l, ← hE1l]; simp
                  have X0 := hid hE0
                  have X1 := hid hE1
                  have X3 := hid hE3l
                  have hx0' : x.f0.size ≤ 1048576 := by omega
                  have hx1' : x.f1.size ≤ 1048576 := by omega
                  clear hE0 hE1 hE2 hE3 hE0l hE1l hE3l
                  have hpw : PW w wr.heap.size x out y3 := ⟨HY3.out, HBY3.out, (HB5.out.block wr.heap.size (lt_of_heap2 HHA.out)).trans HHA.out, HB.out.lt⟩
                  have HPW := hid hpw
                  clear hpw
                  go_wp2_with fail
                  refine (bld_byte2 _ _ _ 38 _ HBY3.out (by omega) hsy3).mono ?_
                  rintro e y4 ⟨rfl, hb6, hbl6, hbk6⟩
                  have T0 := hid (HPW.out.put hb6 hbl6 hbk6)
                  clear hb6 hbl6 hbk6 c0 c1
                  go_wp2_with fail
                  have hlen6 : (out ++ [(38 : UInt8)]).length + E3.size ≤ 140737488355328 := by rw [List.length_append]; simp; omega
                  go_region_held3 (fun y => y.cell? ⟨wr.heap.size, 0, none⟩ = some (.string x.f0) ∧ y.cell? ⟨wr.heap.size, 1, none⟩ = some (.string x.f1))
                    (first | exact T3.out.cells | exact T2.out.cells | exact T1.out.cells | exact T0.out.dn.cells)
                    (first
                      | (go_at_call 28; refine (bld_text2 _ _ _ E3 _ T2.out.bld hlen6 T2.out.le).mono ?_; rintro e y7 ⟨rfl, hq1, hq2, hq3⟩; have T3 := hid (T2.out.put hq1 hq2 hq3); clear hq1 hq2 hq3)
                      | (go_at_call 20; refine (escape_any _ _ (by first | (exact hx0') | (exact hx1'))).mono ?_; rintro e y6 ⟨he, hq⟩; (first | (rw [X0.out] at he) | (rw [X1.out] at he)); subst he; have T2 := hid (T1.out.new hq); clear hq)
                      | (go_at_call 20; refine (escape_any _ _ (by first | (exact hx0') | (exact hx1'))).mono ?_; rintro e y5 ⟨he, hq⟩; (first | (rw [X0.out] at he) | (rw [X1.out] at he)); subst he; have T1 := hid (T0.out.dn.new hq); clear hq))
                  all_goals go_wp2
                  refine ⟨⟨i + 1, out ++ sepS (xs.take i) ++ oneS x, by omega, by congr 1, by rw [← HTK.out, ← printL_good HGOOD.out]; exact HPX.out, ?_, ?_, T3.out.below, T3.out.le⟩, by simp [intOf] <;> omega⟩
                  · rw [List.length_append, List.length_append]
                    have h8 := congrArg List.length X3.out
                    rw [str_len] at h8
                    have h9 : (sepS (xs.take i)).length ≤ 1 := by unfold sepS; split <;> simp
                    omega
                  · have h9 := T3.out.bld
                    rw [X3.out] at h9
                    rw [HSEP.out]
                    exact h9
      · have hieq : i = xs.length := by omega
        subst hieq
        have t1 : decide ((xs.length : Int) < (xs.length : Int)) = false := decide_eq_false (by omega)
        rw [List.drop_length] at hpl
        have hR2 : R = some out := hpl.symm
        clear hb hbw
        by_cases hlong : 4096 < out.length
        · have HR3 : Hid (printS xs = ([], .no 2)) := hid (by rw [HP.out, hR2]; show (if 4096 < out.length then (([], GErr.no 2) : List UInt8 × GErr) else (out, .nil)) = _; rw [if_pos hlong])
          have t5 : decide ((4096 : Int) < (out.length : Int)) = true := decide_eq_true (by omega)
          clear hR2 hpl
          go_wp2_with (go_at_call 29; refine (bld_len _ _ _ _ HB.out).mono ?_; rintro e w' ⟨rfl, he⟩; rw [← he]; clear he w')
          go_ret2
          exact PrintPost.mk HR3.out rfl HBW.out
        · have HR3 : Hid (printS xs = (out, .nil)) := hid (by rw [HP.out, hR2]; show (if 4096 < out.length then (([], GErr.no 2) : List UInt8 × GErr) else (out, .nil)) = _; rw [if_neg hlong])
          have t5 : decide ((4096 : Int) < (out.length : Int)) = false := decide_eq_false (by omega)
          clear hR2 hpl
          go_wp2_with (first
            | (go_at_call 29; refine (bld_len _ _ _ _ HB.out).mono ?_; rintro e w' ⟨rfl, he⟩; rw [← he]; clear he w')
            | (go_at_call 30; refine (bld_string _ _ _ _ HB.out hs).mono ?_; intro e w2 hq; obtain ⟨rfl, _, hbl2⟩ := hq; have HBL2 := hid hbl2; clear hbl2))
          go_ret2
          exact PrintPost.mk HR3.out rfl (HBW.out.trans HBL2.out)
end Go.Proofs.YtgdbjkkanjgbnaaDoor.Url

namespace Go.Proofs.YtgdbjkkanjgbnaaDoor.Url
open Go.RowKit Go.ChangeShapes Go.WideShapes Go.ChangeAt Go.Deep Go.Proofs.YtgdbjkkanjgbnaaDoor
open Go.Proofs.YtgdbjkkanjgbnaaDoorW.PrintWords (Kd ReadsRow add_field)
open Go.Proofs.YtgdbjkkanjgbnaaDoor.PUrlencParses
set_option linter.unusedVariables false
/-- A list of parameters that came in. -/
def ParsIn (W : World) (v : Value) (xs : List Par) : Prop := ∃ A c, v = .slice A xs.length c ∧ xs.length ≤ c ∧ k45.C W A xs.length xs
section
variable {H : Type} {enc : TypeId × Value → H} {W : World}
theorem open_pars {a : Option Addr} {len cap : Nat} {d : DataW H} {ps : List MemPlace} (h : DataW.Trod enc Tryd.prog W 0 (fun _ => true) true 23 (.slice a len cap) d ps) :
    ∃ l : List Par, ParsIn W (.slice a len cap) l := by
  obtain ⟨fuel, hf⟩ := h
  have h1 : Tryd.prog.cellsOf 9 = 1 := by kernel_rfl
  rcases open_slice_pairs Tryd.underlying23 Tryd.underlying45 (by kernel_rfl) rfl rfl (by kernel_rfl) (by kernel_rfl) hf with ⟨hcs, _⟩ | ⟨x, l, c, m, n, V0, V1, D0, D1, P0, P1, hcs, _, hl, hm, hmm, _, hel⟩
  · simp [Value.cells] at hcs
    obtain ⟨rfl, rfl, rfl⟩ := hcs
    exact ⟨[], none, 0, rfl, by simp, rfl, by simp, fun h => absurd h (by simp)⟩
  · simp [Value.cells] at hcs
    obtain ⟨rfl, rfl, rfl⟩ := hcs
    rw [if_pos rfl] at hmm
    subst hmm
    have hel' : ∀ i, ∃ s t : ByteArray, i < len → W.cell? (x.add (i * 2)) = some (.string s) ∧ W.cell? (x.add (i * 2 + 1)) = some (.string t) := by
      intro i
      by_cases hi : i < len
      · obtain ⟨q1, q2, q3, q4⟩ := hel i (by omega)
        obtain ⟨s, q5, _, _⟩ := DataW.trod_string Tryd.underlying9 q3
        obtain ⟨t, q6, _, _⟩ := DataW.trod_string Tryd.underlying9 q4
        simp only [List.cons.injEq, and_true] at q5 q6
        exact ⟨s, t, fun _ => ⟨by rw [q1, q5], by rw [q2, q6]⟩⟩
      · exact ⟨⟨#[]⟩, ⟨#[]⟩, fun h => absurd h hi⟩
    obtain ⟨f, hf⟩ : ∃ f : Nat → Par, ∀ i, i < len → W.cell? (x.add (i * 2)) = some (.string (f i).f0) ∧ W.cell? (x.add (i * 2 + 1)) = some (.string (f i).f1) :=
      ⟨fun i => ⟨Classical.choose (hel' i), Classical.choose (Classical.choose_spec (hel' i))⟩, fun i => Classical.choose_spec (Classical.choose_spec (hel' i))⟩
    refine ⟨(List.range len).map f, some x, m, by simp, by simp; omega, by simp, by simp; unfold maxLen at *; omega, fun h0 => ⟨x, rfl, fun j p hp => ?_⟩⟩
    have hj : j < len := by have := (List.getElem?_eq_some_iff.1 hp).1; simpa using this
    have hp' : p = f j := by simpa [hj] using hp.symm
    subst hp'
    refine ⟨[.string (f j).f0, .string (f j).f1], rfl, k45_mk W _, fun i u hu => ?_⟩
    have hsz : k45.sz = 2 := rfl
    rw [hsz]
    match i, hu with
    | 0, hu => cases hu; exact (hf j hj).1
    | 1, hu => cases hu; exact (hf j hj).2
    | (i + 2), hu => simp at hu
end
end Go.Proofs.YtgdbjkkanjgbnaaDoor.Url

namespace Go.Proofs.YtgdbjkkanjgbnaaDoor.Url
open Go.RowKit Go.Proofs.YtgdbjkkanjgbnaaDoor
set_option linter.unusedVariables false
set_option linter.unusedSimpArgs false
end Go.Proofs.YtgdbjkkanjgbnaaDoor.Url

namespace Go.Proofs.YtgdbjkkanjgbnaaDoor
open Go.RowKit
set_option linter.unusedVariables false
set_option linter.unusedSimpArgs false
theorem spmin2 (k k' : IntKind) (x y : Int) : Builtin.min2 (.int k x) (.int k' y) = pure (.int k (if y < x then y else x)) := by simp only [Builtin.min2]
theorem spmin_two (ats : Array TypeId) (ty : TypeId) (a b : Value) : Builtin.min_ ats ty #[a, b] = (Builtin.min2 a b >>= fun s => pure s) := by simp only [Builtin.min_, List.foldlM_cons, List.foldlM_nil]
attribute [local go_sem] spmin2 spmin_two
set_option maxHeartbeats 1000000 in
set_option maxRecDepth 100000 in
theorem lib_count1 (s : ByteArray) (c : UInt8) (w : World) :
    Calls Tryd.prog 46 #[.string s, .string ⟨#[c]⟩] w fun e w' => e = .returned (.int .i64 (s.data.toList.count c : Nat)) ∧ w' = w := by
  go_enter Tryd.func46, Tryd.ntmps46
  go_wp2
  rw [run_callFunc_extern Tryd.func57 (by kernel_rfl) (by kernel_rfl) (by kernel_rfl) (e := Extern.BytealgCount.count) (by kernel_rfl), Lib.run_countString]
  simp only [Result.andThen]
  rw [Oper.upon_value]
  go_wp2
  go_ret
  exact ⟨rfl, rfl⟩
theorem str_index1 (s : ByteArray) (c : UInt8) (w : World) :
    Calls Tryd.prog 47 #[.string s, .string ⟨#[c]⟩] w fun e w' => e = .returned (.int .i64 (Lib.indexByte s.data.toList c)) ∧ w' = w := by
  go_enter Tryd.func47, Tryd.ntmps47
  go_wp2_with (go_at_call 58; refine (lib_index1 _ _ _).mono ?_; rintro e w' ⟨rfl, he⟩; rw [he]; clear he w')
  go_ret
  exact ⟨rfl, rfl⟩
theorem sinfo : (Tryd.prog.info? 9).map (fun i => (i.zero, i.size, i.bytes)) = some (some (.string ⟨#[]⟩), 1, 16) := by kernel_rfl
/-- What Split answers: a slice of its own. -/
def SplitPost (c : UInt8) (l : List UInt8) (w : World) (e : Ending) (w' : World) : Prop :=
  ∃ (v : Value) (ps : List ByteArray), e = .returned v ∧ RowC w' v (ps.map Value.string) ∧ ps.map (fun p => p.data.toList) = splitS c l ∧ Below w.heap.size w w'
theorem own1_cell {w : World} {base g n c : Nat} {e : TypeId} {cs : List Value} (h : w.ownsRow base e 1 (.slice (some ⟨g, 0, none⟩) n c) n cs) : n ≤ c ∧ ∀ j v, cs[j]? = some v → w.cell? ⟨g, j, none⟩ = some v ∧ w.frozen? ⟨g, j, none⟩ = false := by
  rcases h.2 with ⟨e, _⟩ | ⟨g', cap, cur, e, hg, hh, hn, hm, hs, ht⟩
  · cases e
  · cases e
    refine ⟨hn, fun j v hv => ?_⟩
    have hj : j < n * 1 := by have := (List.getElem?_eq_some_iff.1 hv).1; rw [h.1] at this; exact this
    rw [← ht, List.getElem?_take, if_pos hj] at hv
    constructor
    · simp only [World.cell?, hh]
      simpa using hv
    · simp [World.frozen?, hh]
theorem set_take (cs : List Value) (q : Nat) (x : Value) (h : q < cs.length) : (cs.set q x).take (q + 1) = cs.take q ++ [x] := by
  rw [List.set_eq_take_append_cons_drop, if_pos h]
  have hl : (cs.take q ++ [x]).length = q + 1 := by simp; omega
  have e : cs.take q ++ x :: cs.drop (q + 1) = (cs.take q ++ [x]) ++ cs.drop (q + 1) := by simp
  rw [e, ← hl, List.take_left']
  rfl
/-- How the loop stands. -/
def SplRel (c : UInt8) (l : List UInt8) (G N : Nat) (w : World) (vs vi : Value) (wr : World) : Prop :=
  ∃ (s : ByteArray) (ps : List ByteArray) (cs : List Value), vs = .string s ∧ vi = .int .i64 ps.length ∧ ps.map (fun p => p.data.toList) ++ splitS c s.data.toList = splitS c l ∧ ps.length + s.data.toList.count c + 1 = N ∧ s.size ≤ 1048576 ∧
    wr.ownsRow w.heap.size 9 1 (.slice (some ⟨G, 0, none⟩) N N) N cs ∧ cs.take ps.length = ps.map Value.string ∧ Below w.heap.size w wr ∧ w.heap.size ≤ G ∧ G < wr.heap.size
set_option maxHeartbeats 4000000 in
set_option maxRecDepth 100000 in
theorem gen_any (s : ByteArray) (c : UInt8) (w : World) (hs : s.size ≤ 1048576) : Calls Tryd.prog 35 #[.string s, .string ⟨#[c]⟩, .int .i64 0, .int .i64 (-1)] w (SplitPost c s.data.toList w) := by
  have hln := str_len s
  have hcl : s.data.toList.count c ≤ s.size := by rw [← hln]; exact List.count_le_length
  obtain ⟨l, hl⟩ : ∃ l, s.data.toList = l := ⟨_, rfl⟩
  rw [hl] at hcl ⊢
  have HL := hid hl
  obtain ⟨N, hN⟩ : ∃ N, l.count c + 1 = N := ⟨_, rfl⟩
  obtain ⟨n, hn⟩ : ∃ n, l.count c = n := ⟨_, rfl⟩
  have hNn : N = n + 1 := by omega
  subst hNn
  have HN := hid hn
  rw [hn] at hcl
  clear hln hl hN hn
  have p0 : ¬ ((s.size : Int) + 1 < (n : Int) + 1) := by omega
  have p1 : (((n : Int) + 1)) = ((n + 1 : Nat) : Int) := by omega
  have HP1 := hid p1
  clear p1
  obtain ⟨ti, hi1, hi2, hi3, hi4⟩ := info_parts sinfo
  go_enter Tryd.func35, Tryd.ntmps35
  go_wp2_with (first
    | (go_at_call 46; refine (lib_count1 _ _ _).mono ?_; rintro e w' ⟨rfl, he⟩; rw [he]; clear he w'; rw [HL.out, HN.out])
    | (at_make; refine wpList_make_full _ rfl (.tmp 30) (.tmp 30) 47 rfl w.heap.size 9 ti (.string ⟨#[]⟩) 1 Tryd.underlying47 hi1 hi2 hi3 .i64 .i64 ((n : Int) + 1) ((n : Int) + 1) (n + 1) rfl rfl HP1.out HP1.out (by rw [hi4]; omega) (by have : maxLen = 9223372036854775807 := rfl; omega) (Nat.le_refl _) ?_; intro w1 ho hg; have HO := hid ho; have HG := hid hg; clear ho hg))
  go_loopw [0, 10] (fun vs vi wr => SplRel c l w.heap.size (n + 1) w vs vi wr) (fun _ vi _ => n - (intOf vi).toNat)
  case atStart =>
    exact ⟨s, [], _, rfl, rfl, by rw [HL.out]; rfl, by rw [HL.out, HN.out]; simp, hs, HO.out, by simp, ⟨HG.out.os, HG.out.tape, HG.out.output, HG.out.size, fun k hk => HG.out.block k hk (by simp)⟩, Nat.le_refl _, by
      rcases HO.out.2 with ⟨e, _⟩ | ⟨g', cap, cur, e, _, hh, _⟩
      · cases e
      · cases e; exact lt_of_heap hh⟩
  case round =>
    obtain ⟨t, ps, cs, rfl, rfl, hsp, hct, hts, ho, htk, hb, _, hGl⟩ := hrel
    have HSP := hid hsp
    have HO2 := hid ho
    have HTK := hid htk
    have HB := hid hb
    have hcl2 := ho.1
    obtain ⟨q, hq⟩ : ∃ q, ps.length = q := ⟨_, rfl⟩
    rw [hq] at hct htk ⊢
    have HQ := hid hq
    have hqc : q < cs.length := by omega
    obtain ⟨u, hu⟩ : ∃ u, cs[q]? = some u := ⟨cs[q], by simp⟩
    obtain ⟨g0, g1⟩ := (own1_cell ho).2 q u hu
    obtain ⟨cn, hcn⟩ : ∃ cn, t.data.toList.count c = cn := ⟨_, rfl⟩
    rw [hcn] at hct
    have HCN := hid hcn
    have htl := str_len t
    have r0 : (0 : Int) ≤ (q : Int) := by omega
    have r1 : (q : Int) < (n : Int) + 1 := by omega
    clear hsp ho htk hb hcl2 hq hu hcn
    by_cases hlt : q < n
    · obtain ⟨m, hm, hml, h1, h2⟩ := index_pos (c := c) (l := t.data.toList) (by rw [HCN.out]; omega)
      rw [htl] at hml
      have HM := hid hm
      have H1 := hid h1
      have H2 := hid h2
      have t0 : decide ((q : Int) < (n : Int)) = true := decide_eq_true (by omega)
      have t1 : decide ((m : Int) < 0) = false := decide_eq_false (by omega)
      have p2 : (0 : Int) ≤ (m : Int) := by omega
      have p3 : (m : Int) ≤ (t.size : Int) := by omega
      have p4 : (m : Int) + 1 ≤ (t.size : Int) := by omega
      have p5 : (0 : Int) ≤ (m : Int) + 1 := by omega
      have p6 : ((m : Int) + 1).toNat = m + 1 := by omega
      clear hm h1 h2 htl
      go_wp2_with (go_at_call 47; refine (str_index1 _ _ _).mono ?_; rintro e w' ⟨rfl, he⟩; rw [he]; clear he w'; rw [HM.out])
      have hst := HO2.out.stored q (.string (t.extract 0 m))
      have hps : (ps ++ [t.extract 0 m]).length = q + 1 := by rw [List.length_append, HQ.out]; rfl
      have hdl : (t.extract (m + 1) t.size).data.toList = t.data.toList.drop (m + 1) := ext_drop t (m + 1)
      have hb2 : Below w.heap.size w (wr.setCell ⟨w.heap.size, q, none⟩ (.string (t.extract 0 m))) := HB.out.setCell (p := ⟨w.heap.size, q, none⟩) (Nat.le_refl _) _
      refine ⟨⟨t.extract (m + 1) t.size, ps ++ [t.extract 0 m], _, rfl, by rw [hps]; rfl, ?_, ?_, ?_, hst.1, ?_, hb2, Nat.le_refl _, ?_⟩, by simp [intOf] <;> omega⟩
      · rw [← HSP.out, splitS_at H1.out H2.out, hdl]
        simp [ext_take]
      · rw [hps, hdl]
        have := count_at H1.out H2.out
        rw [HCN.out] at this
        omega
      · have h1 := congrArg List.length hdl
        rw [str_len, List.length_drop, str_len] at h1
        omega
      · rw [hps, set_take cs q _ hqc, List.map_append]
        have h9 := HTK.out
        rw [HQ.out] at h9
        rw [h9]
        rfl
      · simp [World.setCell]
        exact hGl
    · obtain rfl : q = n := by omega
      have hc0 : cn = 0 := by omega
      have t0 : decide ((q : Int) < (q : Int)) = false := decide_eq_false (by omega)
      have r2 : (q : Int) + 1 ≤ (q : Int) + 1 := by omega
      go_wp2_with fail
      go_ret
      have hst := HO2.out.stored q (.string t)
      have hps : (ps ++ [t]).length = q + 1 := by rw [List.length_append, HQ.out]; rfl
      refine ⟨.slice (some ⟨w.heap.size, 0, none⟩) (q + 1) (q + 1), ps ++ [t], rfl, ⟨some ⟨w.heap.size, 0, none⟩, q + 1, by rw [List.length_map, hps], by rw [List.length_map, hps]; have : maxLen = 9223372036854775807 := rfl; omega, fun _ => ⟨_, _, rfl, fun i u hu => ?_⟩⟩, ?_, HB.out.setCell (p := ⟨w.heap.size, q, none⟩) (Nat.le_refl _) _⟩
      · have hi : i < q + 1 := by have := (List.getElem?_eq_some_iff.1 hu).1; rw [List.length_map, hps] at this; exact this
        rw [Nat.zero_add]
        refine ((own1_cell hst.1).2 i u ?_).1
        have e : (cs.set q (.string t)).take (q + 1) = (ps ++ [t]).map Value.string := by
          have h9 := HTK.out
          rw [HQ.out] at h9
          rw [set_take cs q _ hqc, List.map_append, h9]
          rfl
        rw [← e, List.getElem?_take, if_pos hi] at hu
        exact hu
      · rw [← HSP.out, splitS_none (count_zero_not (by rw [HCN.out, hc0]))]
        simp
theorem split_any (s : ByteArray) (c : UInt8) (w : World) (hs : s.size ≤ 1048576) : Calls Tryd.prog 22 #[.string s, .string ⟨#[c]⟩] w (SplitPost c s.data.toList w) := by
  go_enter Tryd.func22, Tryd.ntmps22
  go_wp2_with fail
  refine (gen_any s c w hs).mono ?_
  rintro e w1 ⟨v, ps, rfl, hr, hm, hb⟩
  have HR := hid hr
  have HM := hid hm
  have HB := hid hb
  obtain ⟨a, cap, hv, _⟩ := hr
  rw [List.length_map] at hv
  subst hv
  clear hm hb
  go_wp2
  go_ret
  exact ⟨_, ps, rfl, HR.out, HM.out, HB.out⟩
end Go.Proofs.YtgdbjkkanjgbnaaDoor
