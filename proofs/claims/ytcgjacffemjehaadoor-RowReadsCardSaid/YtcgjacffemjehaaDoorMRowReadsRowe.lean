/-
  RowPure, RowDoc, RowDocL, RowW, RowL, RowRefC, RowYConsent, RowLs, RowS: this proof's parts in one text.
-/
import Derived.Test.YtcgjacffemjehaaDoorMRowReadsRowc
import Derived.Test.YtcgjacffemjehaaDoorMRowReadsRowd
import Derived.Test.YtcgjacffemjehaaDoorMRowReadsRowa
import Derived.Deep.RegionLaw
import Derived.Test.YtcgjacffemjehaaDoorPRowReadsx0
import Derived.Deep.RegionHeld3
namespace Go.Proofs.YtcgjacffemjehaaDoor
open Go.RowKit
open Go.Proofs.YtcgjacffemjehaaDoorW.PrintWords (Kd rdOf)
open Go.Proofs.YtcgjacffemjehaaDoor.PRowReads
set_option linter.unusedVariables false
/-- A writer and a reader of one kind of thing. -/
structure Cod {α : Type} (B : α → List UInt8) (R : List UInt8 → Bool → α × List UInt8 × Bool) (ok : α → Prop) : Prop where
  bad : ∀ l, (R l true).2.2 = true
  fwd : ∀ x r, ok x → R (B x ++ r) false = (x, r, false)
  bwd : ∀ l x r, R l false = (x, r, false) → l = B x ++ r ∧ ok x
theorem Cod.ext {α : Type} {B : α → List UInt8} {R : List UInt8 → Bool → α × List UInt8 × Bool} {ok : α → Prop} (h : Cod B R ok) {l : List UInt8} {x : α} {r : List UInt8} (hr : R l false = (x, r, false)) (m : List UInt8) : R (l ++ m) false = (x, r ++ m, false) := by
  obtain ⟨rfl, ho⟩ := h.bwd _ _ _ hr
  rw [List.append_assoc]
  exact h.fwd _ _ ho
theorem trip {α β γ : Type} (x : α × β × γ) : ∃ a b c, x = (a, b, c) := ⟨x.1, x.2.1, x.2.2, rfl⟩
def andR {α β : Type} (R : List UInt8 → Bool → α × List UInt8 × Bool) (R' : List UInt8 → Bool → β × List UInt8 × Bool) (l : List UInt8) (b : Bool) : (α × β) × List UInt8 × Bool :=
  let r0 := R l b
  let r1 := R' r0.2.1 r0.2.2
  ((r0.1, r1.1), r1.2.1, r1.2.2)
theorem Cod.both {α β : Type} {B : α → List UInt8} {R : List UInt8 → Bool → α × List UInt8 × Bool} {ok : α → Prop} {B' : β → List UInt8} {R' : List UInt8 → Bool → β × List UInt8 × Bool} {ok' : β → Prop} (h : Cod B R ok) (h' : Cod B' R' ok') :
    Cod (fun p : α × β => B p.1 ++ B' p.2) (andR R R') (fun p => ok p.1 ∧ ok' p.2) := by
  refine ⟨fun l => ?_, fun x r ho => ?_, fun l x r hr => ?_⟩
  · simp only [andR, h.bad]; exact h'.bad _
  · simp only [andR]
    rw [List.append_assoc, h.fwd _ _ ho.1]
    simp only
    rw [h'.fwd _ _ ho.2]
  · simp only [andR] at hr
    obtain ⟨a, l1, b, e⟩ := trip (R l false)
    rw [e] at hr
    simp only at hr
    cases b with
    | true =>
      have hb := h'.bad l1
      simp only [Prod.mk.injEq] at hr
      rw [hb] at hr
      exact absurd hr.2.2 (by simp)
    | false =>
      obtain ⟨c, l2, b2, e2⟩ := trip (R' l1 false)
      rw [e2] at hr
      simp only [Prod.mk.injEq] at hr
      obtain ⟨rfl, rfl, rfl⟩ := hr
      obtain ⟨h1, o1⟩ := h.bwd _ _ _ e
      obtain ⟨h2, o2⟩ := h'.bwd _ _ _ e2
      exact ⟨by rw [h1, h2, List.append_assoc], o1, o2⟩
theorem Cod.map {α β : Type} {B : α → List UInt8} {R : List UInt8 → Bool → α × List UInt8 × Bool} {ok : α → Prop} (h : Cod B R ok) (f : α → β) (g : β → α) (hfg : ∀ y, f (g y) = y) (hgf : ∀ x, g (f x) = x)
    {B' : β → List UInt8} {R' : List UInt8 → Bool → β × List UInt8 × Bool} {ok' : β → Prop} (hB : ∀ y, B' y = B (g y)) (hR : ∀ l b, R' l b = (f (R l b).1, (R l b).2)) (hok : ∀ y, ok' y ↔ ok (g y)) : Cod B' R' ok' := by
  refine ⟨fun l => ?_, fun x r ho => ?_, fun l x r hr => ?_⟩
  · rw [hR]; exact h.bad l
  · rw [hR, hB, h.fwd _ _ ((hok x).1 ho)]; simp only [hfg]
  · rw [hR] at hr
    obtain ⟨a, l1, b, e⟩ := trip (R l false)
    rw [e] at hr
    simp only [Prod.mk.injEq] at hr
    obtain ⟨rfl, rfl, rfl⟩ := hr
    obtain ⟨h1, o1⟩ := h.bwd _ _ _ e
    exact ⟨by rw [h1, hB, hgf], (hok _).2 (by rw [hgf]; exact o1)⟩
/-! Numbers of four bytes. -/
theorem beN_four (n : Nat) (h : n < 4294967296) : beN (four n) = n := by
  simp [beN, four]
  omega
theorem four_len' (n : Nat) : (four n).length = 4 := rfl
theorem four_of (l : List UInt8) (h : 4 ≤ l.length) : four (beN (l.take 4)) = l.take 4 := by
  match l, h with
  | a :: b :: c :: d :: r, _ =>
    have ha := a.toNat_lt
    have hb := b.toNat_lt
    have hc := c.toNat_lt
    have hd := d.toNat_lt
    simp only [List.take_succ_cons, List.take_zero, beN, List.foldl_cons, List.foldl_nil, four]
    congr 1
    · apply UInt8.toNat_inj.1; simp; omega
    congr 1
    · apply UInt8.toNat_inj.1; simp; omega
    congr 1
    · apply UInt8.toNat_inj.1; simp; omega
    congr 1
    · apply UInt8.toNat_inj.1; simp
theorem beN_lt4 (l : List UInt8) : beN (l.take 4) < 4294967296 := by
  have h := beN_lt (l.take 4)
  have h2 : (l.take 4).length ≤ 4 := by rw [List.length_take]; omega
  have h3 : 256 ^ (l.take 4).length ≤ 256 ^ 4 := Nat.pow_le_pow_right (by omega) h2
  omega
theorem sizeR_fwd (n : Nat) (r : List UInt8) (h : n < 4294967296) (hr : n ≤ r.length) : sizeR (four n ++ r) false = (n, r, false) := by
  have e1 : (four n ++ r).take 4 = four n := by rw [List.take_append_of_le_length (by rw [four_len']; omega)]; rfl
  have e2 : (four n ++ r).drop 4 = r := by rw [List.drop_append_of_le_length (by rw [four_len']; omega)]; rfl
  unfold sizeR
  rw [if_neg (by rw [List.length_append, four_len']; simp), e1, e2, beN_four n h, if_neg (by omega)]
theorem sizeR_bwd {l : List UInt8} {n : Nat} {r : List UInt8} (h : sizeR l false = (n, r, false)) : l = four n ++ r ∧ n < 4294967296 ∧ n ≤ r.length := by
  unfold sizeR at h
  split at h
  · simp at h
  · rename_i h4
    have h4' : 4 ≤ l.length := by simp at h4; omega
    split at h
    · simp at h
    · simp only [Prod.mk.injEq] at h
      obtain ⟨rfl, rfl, _⟩ := h
      exact ⟨by rw [four_of l h4', List.take_append_drop], beN_lt4 l, by omega⟩
theorem sizeR_true (l : List UInt8) : sizeR l true = (0, l, true) := by unfold sizeR; rw [if_pos (.inl rfl)]
def OkT (s : ByteArray) : Prop := s.size < 4294967296
theorem textCod : Cod textB textR OkT := by
  refine ⟨fun l => ?_, fun x r ho => ?_, fun l x r hr => ?_⟩
  · unfold textR; rw [sizeR_true]; rfl
  · have hl := str_len x
    have e : textB x ++ r = four x.size ++ (x.data.toList ++ r) := by rw [textB, List.append_assoc]
    unfold textR
    rw [e, sizeR_fwd x.size _ ho (by rw [List.length_append]; omega), if_neg (by simp)]
    simp only
    rw [← hl, List.take_left', List.drop_left'] <;> first | rfl | skip
  · unfold textR at hr
    obtain ⟨n, l1, b, e⟩ := trip (sizeR l false)
    rw [e] at hr
    cases b with
    | true => simp at hr
    | false =>
      rw [if_neg (by simp)] at hr
      simp only [Prod.mk.injEq] at hr
      obtain ⟨rfl, rfl, _⟩ := hr
      obtain ⟨h1, h2, h3⟩ := sizeR_bwd e
      have hs : (ByteArray.mk (l1.take n).toArray).size = n := by
        show (l1.take n).toArray.size = n
        rw [List.size_toArray, List.length_take]; omega
      refine ⟨?_, by unfold OkT; rw [hs]; exact h2⟩
      rw [textB, hs, List.append_assoc]
      show l = four n ++ ((l1.take n) ++ l1.drop n)
      rw [List.take_append_drop]
      exact h1
theorem numR_true (l : List UInt8) : numR l true = (0, l, true) := by unfold numR; rw [if_pos (.inl rfl)]
set_option maxRecDepth 100000 in
theorem eight_of (l : List UInt8) (h : 8 ≤ l.length) : eight (IntKind.i64.wrap (beN (l.take 8) : Nat)) = l.take 8 := by
  match l, h with
  | a :: b :: c :: d :: e :: f :: g :: i :: r, _ =>
    have ha := a.toNat_lt
    have hb := b.toNat_lt
    have hc := c.toNat_lt
    have hd := d.toNat_lt
    have he := e.toNat_lt
    have hf := f.toNat_lt
    have hg := g.toNat_lt
    have hi := i.toNat_lt
    simp only [List.take_succ_cons, List.take_zero, beN, List.foldl_cons, List.foldl_nil, eight]
    have hw : ∀ z : Int, IntKind.i64.wrap z = (z + 9223372036854775808) % 18446744073709551616 - 9223372036854775808 := fun z => by
      simp [IntKind.wrap, IntKind.signed, IntKind.bits]; omega
    rw [hw]
    generalize hz : (((((((((0 * 256 + a.toNat) * 256 + b.toNat) * 256 + c.toNat) * 256 + d.toNat) * 256 + e.toNat) * 256 + f.toNat) * 256 + g.toNat) * 256 + i.toNat : Nat) : Int) = z
    have hz' : z = (((((((a.toNat : Int) * 256 + b.toNat) * 256 + c.toNat) * 256 + d.toNat) * 256 + e.toNat) * 256 + f.toNat) * 256 + g.toNat) * 256 + i.toNat := by rw [← hz]; push_cast; omega
    have hB : ∀ (y : Int) (u : UInt8), y % 256 = u.toNat → byteI y = u := fun y u h => by
      unfold byteI
      rw [h]
      simp
    refine List.cons_eq_cons.2 ⟨hB _ _ ?_, List.cons_eq_cons.2 ⟨hB _ _ ?_, List.cons_eq_cons.2 ⟨hB _ _ ?_, List.cons_eq_cons.2 ⟨hB _ _ ?_, List.cons_eq_cons.2 ⟨hB _ _ ?_, List.cons_eq_cons.2 ⟨hB _ _ ?_, List.cons_eq_cons.2 ⟨hB _ _ ?_, List.cons_eq_cons.2 ⟨hB _ _ ?_, rfl⟩⟩⟩⟩⟩⟩⟩⟩ <;> omega
set_option maxRecDepth 100000 in
theorem beN_eight (n : Int) (h : I64 n) : IntKind.i64.wrap (beN (eight n) : Nat) = n := by
  obtain ⟨h0, h1⟩ := h
  have hw : ∀ z : Int, IntKind.i64.wrap z = (z + 9223372036854775808) % 18446744073709551616 - 9223372036854775808 := fun z => by
    simp [IntKind.wrap, IntKind.signed, IntKind.bits]; omega
  have hb : ∀ z : Int, ((byteI z).toNat : Int) = z % 256 := fun z => by unfold byteI; simp; omega
  rw [hw]
  simp only [beN, eight, List.foldl_cons, List.foldl_nil]
  push_cast
  simp only [hb]
  omega
theorem eight_len' (n : Int) : (eight n).length = 8 := rfl
set_option maxRecDepth 100000 in
theorem wrap_i64 (z : Int) : I64 (IntKind.i64.wrap z) := by
  have hw : IntKind.i64.wrap z = (z + 9223372036854775808) % 18446744073709551616 - 9223372036854775808 := by
    simp [IntKind.wrap, IntKind.signed, IntKind.bits]; omega
  unfold I64
  omega
theorem numCod : Cod eight numR I64 := by
  refine ⟨fun l => by rw [numR_true], fun x r ho => ?_, fun l x r hr => ?_⟩
  · have e1 : (eight x ++ r).take 8 = eight x := by rw [List.take_append_of_le_length (by rw [eight_len']; omega)]; rfl
    have e2 : (eight x ++ r).drop 8 = r := by rw [List.drop_append_of_le_length (by rw [eight_len']; omega)]; rfl
    unfold numR
    rw [if_neg (by rw [List.length_append, eight_len']; simp), e1, e2, beN_eight x ho]
  · unfold numR at hr
    split at hr
    · simp at hr
    · rename_i h8
      have h8' : 8 ≤ l.length := by simp at h8; omega
      simp only [Prod.mk.injEq] at hr
      obtain ⟨rfl, rfl, _⟩ := hr
      exact ⟨by rw [eight_of l h8', List.take_append_drop], wrap_i64 _⟩
theorem truthCod : Cod truthB truthR (fun _ => True) := by
  refine ⟨fun l => by unfold truthR; rw [if_pos (.inl rfl)], fun x r ho => ?_, fun l x r hr => ?_⟩
  · cases x <;> simp [truthR, truthB, byteI]
  · unfold truthR at hr
    split at hr
    · simp at hr
    · rename_i h1
      match l, h1 with
      | [], h1 => simp at h1
      | a :: t, _ =>
        simp only [List.getD_cons_zero, List.drop_succ_cons, List.drop_zero, Prod.mk.injEq] at hr
        obtain ⟨rfl, rfl, h2⟩ := hr
        have h2 := of_decide_eq_false h2
        refine ⟨?_, trivial⟩
        have ha := a.toNat_lt
        have h3 : a.toNat = 0 ∨ a.toNat = 1 := by omega
        rcases h3 with h3 | h3
        · have : a = 0 := UInt8.toNat_inj.1 (by simpa using h3)
          subst this
          simp [truthB, byteI]
        · have : a = 1 := UInt8.toNat_inj.1 (by simpa using h3)
          subst this
          simp [truthB, byteI]
/-! Lists. -/
def OkL {α : Type} (ok : α → Prop) (l : List α) : Prop := l.length < 4294967296 ∧ ∀ x ∈ l, ok x
def listB {α : Type} (B : α → List UInt8) (l : List α) : List UInt8 := four l.length ++ l.flatMap B
theorem loop_fwd {α : Type} {B : α → List UInt8} {R : List UInt8 → Bool → α × List UInt8 × Bool} {ok : α → Prop} (h : Cod B R ok) (xs : List α) (acc : List α) (r : List UInt8) (ho : ∀ x ∈ xs, ok x) :
    listLoop R xs.length acc (xs.flatMap B ++ r) false = (acc ++ xs, r, false) := by
  induction xs generalizing acc with
  | nil => simp [listLoop]
  | cons x xs ih =>
    rw [List.length_cons, listLoop, if_neg (by simp), List.flatMap_cons, List.append_assoc, h.fwd x _ (ho x List.mem_cons_self)]
    simp only
    rw [ih _ (fun y hy => ho y (List.mem_cons_of_mem _ hy)), List.append_assoc]
    rfl
theorem loop_bwd {α : Type} {B : α → List UInt8} {R : List UInt8 → Bool → α × List UInt8 × Bool} {ok : α → Prop} (h : Cod B R ok) (n : Nat) (acc : List α) (l r : List UInt8) (ys : List α) (e : listLoop R n acc l false = (ys, r, false)) :
    ∃ xs, ys = acc ++ xs ∧ xs.length = n ∧ l = xs.flatMap B ++ r ∧ ∀ x ∈ xs, ok x := by
  induction n generalizing acc l with
  | zero =>
    simp only [listLoop, Prod.mk.injEq] at e
    obtain ⟨rfl, rfl, _⟩ := e
    exact ⟨[], by simp⟩
  | succ n ih =>
    rw [listLoop, if_neg (by simp)] at e
    obtain ⟨a, l1, b, e1⟩ := trip (R l false)
    rw [e1] at e
    simp only at e
    cases b with
    | true =>
      rw [listLoop_bad] at e
      simp at e
    | false =>
      obtain ⟨xs, rfl, hl, rfl, hok⟩ := ih _ _ e
      obtain ⟨h1, o1⟩ := h.bwd _ _ _ e1
      exact ⟨a :: xs, by simp, by simp [hl], by rw [h1, List.flatMap_cons, List.append_assoc], fun x hx => by
        rcases List.mem_cons.1 hx with rfl | hx
        · exact o1
        · exact hok x hx⟩
theorem flat_ge {α : Type} (B : α → List UInt8) (l : List α) (h : ∀ x, 1 ≤ (B x).length) : l.length ≤ (l.flatMap B).length := by
  induction l with
  | nil => simp
  | cons x l ih => rw [List.flatMap_cons, List.length_append, List.length_cons]; have := h x; omega
theorem listCod {α : Type} {B : α → List UInt8} {R : List UInt8 → Bool → α × List UInt8 × Bool} {ok : α → Prop} (h : Cod B R ok) (hB : ∀ x, 1 ≤ (B x).length) : Cod (listB B) (listR R) (OkL ok) := by
  refine ⟨fun l => ?_, fun x r ho => ?_, fun l x r hr => ?_⟩
  · unfold listR; rw [sizeR_true]; rfl
  · unfold listR
    rw [listB, List.append_assoc, sizeR_fwd x.length _ ho.1 (by rw [List.length_append]; have := flat_ge B x hB; omega)]
    simp only
    rw [loop_fwd h x [] r ho.2]
    rfl
  · unfold listR at hr
    obtain ⟨n, l1, b, e⟩ := trip (sizeR l false)
    rw [e] at hr
    simp only at hr
    cases b with
    | true => rw [listLoop_bad] at hr; simp at hr
    | false =>
      obtain ⟨h1, h2, h3⟩ := sizeR_bwd e
      obtain ⟨xs, rfl, hl, rfl, hok⟩ := loop_bwd h _ _ _ _ _ hr
      exact ⟨by rw [h1, listB, hl, List.append_assoc], by rw [hl]; exact h2, hok⟩
theorem textB_ge (s : ByteArray) : 1 ≤ (textB s).length := by rw [textB, List.length_append, four_len']; omega
theorem textsCod : Cod textsB (listR textR) (OkL OkT) := listCod textCod textB_ge
end Go.Proofs.YtcgjacffemjehaaDoor

namespace Go.Proofs.YtcgjacffemjehaaDoor
open Go.RowKit
open Go.Proofs.YtcgjacffemjehaaDoorW.PrintWords (Kd rdOf)
open Go.Proofs.YtcgjacffemjehaaDoor.PRowReads
set_option linter.unusedVariables false
/-- The reader's block: what is left, whether it may be. -/
def InAt (w : World) (g : Nat) (l : List UInt8) (b : Bool) : Prop := ∃ s : ByteArray, s.data.toList = l ∧ AtB w g 73 #[.string s, .bool (!b)]
/-- What a reader answers: v; what is left; nothing else is written. -/
def InPost (g : Nat) (v : Value) (l : List UInt8) (b : Bool) (w : World) (e : Ending) (w' : World) : Prop := e = .returned v ∧ InAt w' g l b ∧ Mod (fun k => k = g) w w'
theorem in_bad {w : World} {g : Nat} {s : ByteArray} {b : Bool} (h : AtB w g 73 #[.string s, .bool (!b)]) : InAt ((w.setCell ⟨g, 1, none⟩ (.bool false)).setCell ⟨g, 0, none⟩ (.string ⟨#[]⟩)) g [] true ∧ Mod (fun k => k = g) w ((w.setCell ⟨g, 1, none⟩ (.bool false)).setCell ⟨g, 0, none⟩ (.string ⟨#[]⟩)) := by
  refine ⟨⟨⟨#[]⟩, rfl, ?_⟩, (mod_set w g 1 _).setCell _ _ (.inl rfl)⟩
  have q1 : AtB _ g 73 #[.string s, .bool false] := h.set 1 (.bool false)
  have q2 : AtB _ g 73 #[.string ⟨#[]⟩, .bool false] := q1.set 0 (.string ⟨#[]⟩)
  exact q2
theorem in_set {w : World} {g : Nat} {s : ByteArray} {b : Bool} (h : AtB w g 73 #[.string s, .bool (!b)]) (s' : ByteArray) : InAt (w.setCell ⟨g, 0, none⟩ (.string s')) g s'.data.toList b ∧ Mod (fun k => k = g) w (w.setCell ⟨g, 0, none⟩ (.string s')) :=
  ⟨⟨s', rfl, h.set 0 (.string s')⟩, mod_set w g 0 _⟩
theorem w64 (n : Nat) (h : n < 9223372036854775808) : wrap64 (n : Int) = n := by unfold wrap64; omega
theorem w64_step (z x : Nat) (h : z * 256 + x < 9223372036854775808) : wrap64 ((z : Int) * 256 + wrap64 (x : Int)) = ((z * 256 + x : Nat) : Int) := by
  rw [w64 x (by omega)]
  have e : ((z : Int) * 256 + (x : Int)) = ((z * 256 + x : Nat) : Int) := by omega
  rw [e]
  exact w64 _ h
set_option maxRecDepth 100000 in
theorem u64_nat (n : Nat) (h : n < 18446744073709551616) : IntKind.u64.wrap (n : Int) = n := by
  simp [IntKind.wrap, IntKind.signed, IntKind.bits]
  omega
def dFour (l : List UInt8) (b : Bool) : Nat × List UInt8 × Bool := if l.length < 4 then (0, [], true) else (beN (l.take 4), l.drop 4, b)
def dText (l : List UInt8) (b : Bool) : ByteArray × List UInt8 × Bool :=
  if (dFour l b).2.1.length < (dFour l b).1 then (⟨#[]⟩, [], true) else (⟨((dFour l b).2.1.take (dFour l b).1).toArray⟩, (dFour l b).2.1.drop (dFour l b).1, (dFour l b).2.2)
def dNum (l : List UInt8) (b : Bool) : Int × List UInt8 × Bool := if l.length < 8 then (0, [], true) else (IntKind.i64.wrap (beN (l.take 8) : Nat), l.drop 8, b)
def dTruth (l : List UInt8) (b : Bool) : Bool × List UInt8 × Bool := if l.length < 1 ∨ 1 < (l.getD 0 0).toNat then (false, [], true) else (((l.getD 0 0).toNat : Int) == 1, l.drop 1, b)
set_option maxHeartbeats 4000000 in
set_option maxRecDepth 20000 in
theorem four_in {w : World} {g : Nat} {l : List UInt8} {b : Bool} (h : InAt w g l b) : Calls Tryd.prog 58 #[.pointer (some ⟨g, 0, none⟩)] w (InPost g (.int .i64 (dFour l b).1) (dFour l b).2.1 (dFour l b).2.2 w) := by
  obtain ⟨s, rfl, ha⟩ := h
  have c0 : w.cell? ⟨g, 0, none⟩ = some (.string s) := ha.cell 0
  have c1 : w.cell? ⟨g, 1, none⟩ = some (.bool (!b)) := ha.cell 1
  have f0 := ha.free 0
  have f1 := ha.free 1
  have HA := hid ha
  clear ha
  unfold dFour
  by_cases h4 : s.size < 4
  · have t0 : decide ((s.size : Int) < 4) = true := decide_eq_true (by omega)
    have t1 : decide (s.size < 4) = true := decide_eq_true h4
    rw [if_pos (by rw [str_len]; exact h4)]
    go_enter Tryd.func58, Tryd.ntmps58
    go_wp2
    go_ret
    exact ⟨rfl, (in_bad HA.out).1, (in_bad HA.out).2⟩
  · have t0 : decide ((s.size : Int) < 4) = false := decide_eq_false (by omega)
    have t1 : decide (s.size < 4) = false := decide_eq_false h4
    rw [if_neg (by rw [str_len]; exact h4)]
    go_enter Tryd.func58, Tryd.ntmps58
    go_wp2
    go_loop [3, 4] (fun n i => ∃ k : Nat, k ≤ 4 ∧ i = .int .i64 k ∧ n = .int .i64 (beN (s.data.toList.take k) : Nat)) (fun _ i => 4 - (intOf i).toNat)
    case atStart => exact ⟨0, by omega, rfl, rfl⟩
    case round =>
      obtain ⟨k, hk, rfl, rfl⟩ := hrel
      have hlt := beN_lt (s.data.toList.take k)
      have hle : (s.data.toList.take k).length ≤ 4 := by rw [List.length_take]; omega
      have hpw : 256 ^ (s.data.toList.take k).length ≤ 256 ^ 4 := Nat.pow_le_pow_right (by omega) hle
      obtain ⟨z, hz⟩ : ∃ z, beN (s.data.toList.take k) = z := ⟨_, rfl⟩
      by_cases hk4 : k < 4
      · have hs := beN_snoc s.data.toList k (by rw [str_len]; omega)
        have t2 : decide (k < 4) = true := decide_eq_true hk4
        have kS : k < s.size := by omega
        have kI : (k : Int) < (s.size : Int) := by omega
        rw [hz] at hlt hs ⊢
        go_wp2
        have hx : s[k].toNat = (s.data.toList.getD k 0).toNat := by rw [str_get]
        have hx2 := (s.data.toList.getD k 0).toNat_lt
        have hz2 : z < 4294967296 := by omega
        obtain ⟨x, hxx⟩ : ∃ x, (s.data.toList.getD k 0).toNat = x := ⟨_, rfl⟩
        rw [hxx] at hx hx2 hs
        rw [hx]
        have e1 : wrap64 (↑z * 256 + wrap64 ↑x) = ((z * 256 + x : Nat) : Int) := w64_step z x (by omega)
        rw [e1]
        exact ⟨⟨k + 1, by omega, by go_num, by rw [hs]⟩, by simp [intOf]; omega⟩
      · obtain rfl : k = 4 := by omega
        have t2 : decide (4 < 4) = false := by decide
        have S4 : (4 : Int) ≤ (s.size : Int) := by omega
        go_wp2
        go_ret
        have he : (s.extract 4 s.size).data.toList = s.data.toList.drop 4 := by
          rw [ByteArray.data_extract, Array.toList_extract, List.extract_eq_take_drop, List.take_of_length_le (by rw [List.length_drop, str_len]; omega)]
        have := in_set HA.out (s.extract 4 s.size)
        rw [he] at this
        exact ⟨rfl, this.1, this.2⟩
theorem dFour_le (l : List UInt8) (b : Bool) : (dFour l b).1 < 4294967296 ∧ (dFour l b).2.1.length ≤ l.length := by
  unfold dFour
  split
  · simp
  · exact ⟨beN_lt4 l, by simp⟩
set_option maxHeartbeats 4000000 in
set_option maxRecDepth 20000 in
theorem text_in {w : World} {g : Nat} {l : List UInt8} {b : Bool} (h : InAt w g l b) : Calls Tryd.prog 21 #[.pointer (some ⟨g, 0, none⟩)] w (InPost g (.string (dText l b).1) (dText l b).2.1 (dText l b).2.2 w) := by
  have hc := four_in h
  have hle := dFour_le l b
  obtain ⟨r, hr⟩ : ∃ r, dText l b = r := ⟨_, rfl⟩
  rw [hr]
  unfold dText at hr
  obtain ⟨n, l1, b1, hz⟩ := trip (dFour l b)
  rw [hz] at hc hle hr
  simp only at hc hle hr
  have HC := hid hc
  have HR := hid hr
  clear hc hz h hr
  go_enter Tryd.func21, Tryd.ntmps21
  go_wp2_with fail
  refine HC.out.mono ?_
  clear HC
  rintro e w1 ⟨rfl, ⟨s, rfl, ha⟩, hm⟩
  have hsz := str_len s
  have c0 : w1.cell? ⟨g, 0, none⟩ = some (.string s) := ha.cell 0
  have c1 : w1.cell? ⟨g, 1, none⟩ = some (.bool (!b1)) := ha.cell 1
  have f0 := ha.free 0
  have f1 := ha.free 1
  have HA := hid ha
  have HM := hid hm
  clear ha hm
  by_cases hn : s.size < n
  · have t0 : decide ((s.size : Int) < (n : Int)) = true := decide_eq_true (by omega)
    have t1 : decide (s.size < n) = true := decide_eq_true hn
    have hr := HR.out
    rw [if_pos (by rw [str_len]; exact hn)] at hr
    subst hr
    go_wp2
    go_ret
    exact ⟨rfl, (in_bad HA.out).1, HM.out.trans (in_bad HA.out).2 (fun _ e => .inl e)⟩
  · have t0 : decide ((s.size : Int) < (n : Int)) = false := decide_eq_false (by omega)
    have t1 : decide (s.size < n) = false := decide_eq_false hn
    have hr := HR.out
    rw [if_neg (by rw [str_len]; exact hn)] at hr
    subst hr
    clear HR
    have i0 : (0 : Int) ≤ (n : Int) := by omega
    have i1 : (n : Int) ≤ (s.size : Int) := by omega
    have hd : (s.extract n s.size).data.toList = s.data.toList.drop n := by
      rw [ByteArray.data_extract, Array.toList_extract, List.extract_eq_take_drop, List.take_of_length_le (by rw [List.length_drop, str_len]; omega)]
    have ht : s.extract 0 n = ⟨(s.data.toList.take n).toArray⟩ := by
      apply ByteArray.ext
      apply Array.ext'
      simp
    have hin := in_set HA.out (s.extract n s.size)
    rw [hd] at hin
    have HIN := hid hin
    have HT := hid ht
    clear hd hin ht
    go_wp2
    go_ret
    exact ⟨by rw [← HT.out]; rfl, HIN.out.1, HM.out.trans HIN.out.2 (fun _ e => .inl e)⟩
theorem dNumLoop (l : List UInt8) (k : Nat) (hk : k < 8) (hl : 8 ≤ l.length) : beN (l.take (k + 1)) = beN (l.take k) * 256 + (l.getD k 0).toNat ∧ beN (l.take k) * 256 + (l.getD k 0).toNat < 18446744073709551616 := by
  have h1 := beN_snoc l k (by omega)
  refine ⟨h1, ?_⟩
  rw [← h1]
  have h2 := beN_lt (l.take (k + 1))
  have h3 : (l.take (k + 1)).length ≤ 8 := by rw [List.length_take]; omega
  have h4 : 256 ^ (l.take (k + 1)).length ≤ 256 ^ 8 := Nat.pow_le_pow_right (by omega) h3
  exact Nat.lt_of_lt_of_le h2 h4
set_option maxHeartbeats 4000000 in
set_option maxRecDepth 20000 in
theorem num_in {w : World} {g : Nat} {l : List UInt8} {b : Bool} (h : InAt w g l b) : Calls Tryd.prog 24 #[.pointer (some ⟨g, 0, none⟩)] w (InPost g (.int .i64 (dNum l b).1) (dNum l b).2.1 (dNum l b).2.2 w) := by
  obtain ⟨s, rfl, ha⟩ := h
  have c0 : w.cell? ⟨g, 0, none⟩ = some (.string s) := ha.cell 0
  have c1 : w.cell? ⟨g, 1, none⟩ = some (.bool (!b)) := ha.cell 1
  have f0 := ha.free 0
  have f1 := ha.free 1
  have HA := hid ha
  clear ha
  unfold dNum
  by_cases h4 : s.size < 8
  · have t0 : decide ((s.size : Int) < 8) = true := decide_eq_true (by omega)
    have t1 : decide (s.size < 8) = true := decide_eq_true h4
    rw [if_pos (by rw [str_len]; exact h4)]
    go_enter Tryd.func24, Tryd.ntmps24
    go_wp2
    go_ret
    exact ⟨rfl, (in_bad HA.out).1, (in_bad HA.out).2⟩
  · have t0 : decide ((s.size : Int) < 8) = false := decide_eq_false (by omega)
    have t1 : decide (s.size < 8) = false := decide_eq_false h4
    rw [if_neg (by rw [str_len]; exact h4)]
    go_enter Tryd.func24, Tryd.ntmps24
    go_wp2
    go_loop [3, 4] (fun n i => ∃ k : Nat, k ≤ 8 ∧ i = .int .i64 k ∧ n = .int .u64 (beN (s.data.toList.take k) : Nat)) (fun _ i => 8 - (intOf i).toNat)
    case atStart => exact ⟨0, by omega, rfl, rfl⟩
    case round =>
      obtain ⟨k, hk, rfl, rfl⟩ := hrel
      by_cases hk4 : k < 8
      · obtain ⟨hs, hlt⟩ := dNumLoop s.data.toList k hk4 (by rw [str_len]; omega)
        obtain ⟨z, hz⟩ : ∃ z, beN (s.data.toList.take k) = z := ⟨_, rfl⟩
        have t2 : decide (k < 8) = true := decide_eq_true hk4
        have kS : k < s.size := by omega
        have kI : (k : Int) < (s.size : Int) := by omega
        rw [hz] at hlt hs ⊢
        go_wp2
        have hx : s[k].toNat = (s.data.toList.getD k 0).toNat := by rw [str_get]
        obtain ⟨x, hxx⟩ : ∃ x, (s.data.toList.getD k 0).toNat = x := ⟨_, rfl⟩
        rw [hxx] at hx hlt hs
        rw [hx]
        have hz1 : (z : Int) * 256 + (x : Int) = ((z * 256 + x : Nat) : Int) := by omega
        rw [u64_nat x (by omega), hz1, u64_nat _ hlt]
        exact ⟨⟨k + 1, by omega, by go_num, by rw [hs]⟩, by simp [intOf]; omega⟩
      · obtain rfl : k = 8 := by omega
        have t2 : decide (8 < 8) = false := by decide
        have S4 : (8 : Int) ≤ (s.size : Int) := by omega
        go_wp2
        go_ret
        have he : (s.extract 8 s.size).data.toList = s.data.toList.drop 8 := by
          rw [ByteArray.data_extract, Array.toList_extract, List.extract_eq_take_drop, List.take_of_length_le (by rw [List.length_drop, str_len]; omega)]
        have := in_set HA.out (s.extract 8 s.size)
        rw [he] at this
        exact ⟨by rw [IntWalk.i64_left]; rfl, this.1, this.2⟩
set_option maxHeartbeats 4000000 in
set_option maxRecDepth 20000 in
theorem truth_in {w : World} {g : Nat} {l : List UInt8} {b : Bool} (h : InAt w g l b) : Calls Tryd.prog 23 #[.pointer (some ⟨g, 0, none⟩)] w (InPost g (.bool (dTruth l b).1) (dTruth l b).2.1 (dTruth l b).2.2 w) := by
  obtain ⟨s, rfl, ha⟩ := h
  have c0 : w.cell? ⟨g, 0, none⟩ = some (.string s) := ha.cell 0
  have c1 : w.cell? ⟨g, 1, none⟩ = some (.bool (!b)) := ha.cell 1
  have f0 := ha.free 0
  have f1 := ha.free 1
  have HA := hid ha
  clear ha
  unfold dTruth
  by_cases h4 : s.size < 1
  · have t0 : decide ((s.size : Int) < 1) = true := decide_eq_true (by omega)
    have t1 : decide (s.size < 1) = true := decide_eq_true h4
    rw [if_pos (.inl (by rw [str_len]; exact h4))]
    go_enter Tryd.func23, Tryd.ntmps23
    go_wp2
    go_ret
    exact ⟨rfl, (in_bad HA.out).1, (in_bad HA.out).2⟩
  · have t0 : decide ((s.size : Int) < 1) = false := decide_eq_false (by omega)
    have t1 : decide (s.size < 1) = false := decide_eq_false h4
    have kS : 0 < s.size := by omega
    have kI : (0 : Int) < (s.size : Int) := by omega
    have S1 : (1 : Int) ≤ (s.size : Int) := by omega
    have hx : s[0].toNat = (s.data.toList.getD 0 0).toNat := by rw [str_get]
    obtain ⟨x, hxx⟩ : ∃ x, (s.data.toList.getD 0 0).toNat = x := ⟨_, rfl⟩
    rw [hxx] at hx ⊢
    have he : (s.extract 1 s.size).data.toList = s.data.toList.drop 1 := by
      rw [ByteArray.data_extract, Array.toList_extract, List.extract_eq_take_drop, List.take_of_length_le (by rw [List.length_drop, str_len]; omega)]
    by_cases hx1 : 1 < x
    · have t2 : decide ((1 : Int) < (x : Int)) = true := decide_eq_true (by omega)
      have t3 : decide (1 < x) = true := decide_eq_true hx1
      rw [if_pos (.inr hx1)]
      clear he
      go_enter Tryd.func23, Tryd.ntmps23
      go_wp2
      go_ret
      exact ⟨rfl, (in_bad HA.out).1, (in_bad HA.out).2⟩
    · have t2 : decide ((1 : Int) < (x : Int)) = false := decide_eq_false (by omega)
      have t3 : decide (1 < x) = false := decide_eq_false hx1
      rw [if_neg (by rw [str_len]; omega)]
      have hin := in_set HA.out (s.extract 1 s.size)
      rw [he] at hin
      have HIN := hid hin
      clear he hin
      go_enter Tryd.func23, Tryd.ntmps23
      go_wp2
      go_ret
      exact ⟨rfl, HIN.out.1, HIN.out.2⟩
end Go.Proofs.YtcgjacffemjehaaDoor

namespace Go.Proofs.YtcgjacffemjehaaDoor
open Go.RowKit
open Go.Proofs.YtcgjacffemjehaaDoorW.PrintWords (Kd rdOf)
open Go.Proofs.YtcgjacffemjehaaDoor.PRowReads
set_option linter.unusedVariables false
def dList {α : Type} (one : List UInt8 → Bool → α × List UInt8 × Bool) (l : List UInt8) (b : Bool) : List α × List UInt8 × Bool := listLoop one (dFour l b).1 [] (dFour l b).2.1 (dFour l b).2.2
def dPerm (l : List UInt8) (b : Bool) : S86 × List UInt8 × Bool :=
  let r0 := dText l b
  let r1 := dList dText r0.2.1 r0.2.2
  (⟨r0.1, r1.1⟩, r1.2.1, r1.2.2)
def dKey (l : List UInt8) (b : Bool) : S117 × List UInt8 × Bool :=
  let r0 := dText l b
  let r1 := dText r0.2.1 r0.2.2
  (⟨r0.1, r1.1⟩, r1.2.1, r1.2.2)
theorem InAt.lt {w : World} {g : Nat} {l : List UInt8} {b : Bool} (h : InAt w g l b) : g < w.heap.size := by obtain ⟨s, _, ha⟩ := h; exact lt_of_heap ha
theorem in_grown {w w' : World} {g : Nat} {l : List UInt8} {b : Bool} {row : Option Nat} (h : InAt w g l b) (hg : w.grownBy w' row) (hne : some g ≠ row) : InAt w' g l b := by
  obtain ⟨s, hs, ha⟩ := h
  exact ⟨s, hs, (hg.block g (lt_of_heap ha) hne).trans ha⟩
/-- What a reader of a list answers. -/
def InListPost {α : Type} (g : Nat) (d : Kd α) (e0 : TypeId) (xs : List α) (l : List UInt8) (b : Bool) (w : World) (e : Ending) (w' : World) : Prop :=
  ∃ v, e = .returned v ∧ d.R e0 w' w.heap.size (fun _ => True) v xs ∧ InAt w' g l b ∧ Mod (fun k => k = g) w w'
set_option maxHeartbeats 8000000 in
set_option maxRecDepth 20000 in
theorem texts_in {w : World} {g : Nat} {l : List UInt8} {b : Bool} (h : InAt w g l b) : Calls Tryd.prog 22 #[.pointer (some ⟨g, 0, none⟩)] w (InListPost g Kd.string 9 (dList dText l b).1 (dList dText l b).2.1 (dList dText l b).2.2 w) := by
  obtain ⟨F, hF⟩ : ∃ F, dList dText l b = F := ⟨_, rfl⟩
  rw [hF]
  unfold dList at hF
  have hc := four_in h
  have hle := (dFour_le l b).1
  obtain ⟨n, l1, b1, hz⟩ := trip (dFour l b)
  rw [hz] at hc hF hle
  simp only at hc hF hle
  have HF := hid hF
  have HC := hid hc
  have hgw := InAt.lt h
  clear hF hc hz h
  go_enter Tryd.func22, Tryd.ntmps22
  go_wp2_with (go_at_call 58; refine HC.out.mono ?_; clear HC; rintro e w1 ⟨rfl, hi1, hm1⟩; have HI1 := hid hi1; have HM1 := hid hm1; clear hi1 hm1)
  go_loopw [4, 5] (fun v i wr => ∃ (k : Nat) (acc : List ByteArray) (l2 : List UInt8) (b2 : Bool), i = .int .i64 k ∧ k ≤ n ∧ acc.length = k ∧ Hid (listLoop dText (n - k) acc l2 b2 = F) ∧ InAt wr g l2 b2 ∧ Kd.string.R 9 wr w.heap.size (fun _ => True) v acc ∧ Mod (fun x => x = g) w wr) (fun _ i _ => n - (intOf i).toNat)
  case atStart => exact ⟨0, [], l1, b1, rfl, by omega, rfl, by simpa using HF, HI1.out, Kd.R_nil _ _ _ _ _, HM1.out⟩
  case round =>
    obtain ⟨k, acc, l2, b2, rfl, hk, hacc, hloop, hi2, hr2, hm2⟩ := hrel
    obtain ⟨A2, m2, c2, rfl⟩ := r_form hr2
    have HI2 := hid hi2
    have HR2 := hid hr2
    have HM2 := hid hm2
    obtain ⟨s0, _, ha0⟩ := hi2
    have d1 : wr.cell? ⟨g, 1, none⟩ = some (.bool (!b2)) := ha0.cell 1
    have hw2 := hm2.size
    clear hr2 hm2 ha0
    by_cases hkn : k < n
    · have t0 : decide (k < n) = true := decide_eq_true hkn
      cases b2 with
      | true =>
        go_wp2
        go_ret
        have h9 := hloop.out
        rw [listLoop_bad] at h9
        rw [← h9]
        exact ⟨_, rfl, HR2.out, HI2.out, HM2.out⟩
      | false =>
        obtain ⟨s, l3, b3, hone⟩ := trip (dText l2 false)
        have hcall := text_in HI2.out
        rw [hone] at hcall
        have HCALL := hid hcall
        have HONE := hid hone
        clear hcall hone
        go_wp2_with (go_at_call 21; refine HCALL.out.mono ?_)
        clear HCALL
        rintro e w4 ⟨rfl, hi4, hm4⟩
        have HI4 := hid hi4
        have HR4 := hid (r_mod HR2.out hm4 (fun j e => .inl (by omega)))
        have HM4 := hid (HM2.out.trans hm4 (fun _ e => .inl e))
        have hw4 := hm4.size
        clear hi4 hm4
        go_wp2_with (first | (at_builtin; refine Kd.R_append (w0 := w4) (W := w4) Kd.string w.heap.size rfl (.tmp 19) (.tmp 22) 23 9 (.string ⟨#[]⟩) 16 rfl Tryd.underlying23 einfoS (by rfl) (by decide) (by decide) (.slice A2 m2 c2) acc s [.string s] (fun _ => True) (fun _ => False) (by rfl) (by rfl) (by rfl) (fun _ e => e.elim) (fun _ _ => trivial) HR4.out (Below.refl _ _) (by omega) (by rw [hacc]; omega) ?_; intro v5 w5 hr5 _ hg5 _; have HI5 := hid (in_grown HI4.out hg5 (fun e => by have := r_base HR4.out e.symm; omega)); have HR5 := hid hr5; have HG5 := hid hg5; clear hr5 hg5))

        have hm5 : Mod (fun x => x = g) w w5 := HM4.out.grown HG5.out (fun j e => .inr (r_base HR4.out e))
        go_wp2
        go_roundw
        case rel =>
          refine ⟨k + 1, acc ++ [s], l3, b3, by go_num, by omega, by rw [List.length_append, hacc]; rfl, ?_, HI5.out, HR5.out, hm5⟩
          have h9 := hloop.out
          rw [show n - k = (n - (k + 1)) + 1 by omega, listLoop, if_neg (by simp), HONE.out] at h9
          exact hid h9
        case measure => simp [intOf]; omega
    · have t0 : decide (k < n) = false := decide_eq_false hkn
      obtain rfl : k = n := by omega
      go_wp2
      go_ret
      have h9 := hloop.out
      rw [Nat.sub_self] at h9
      rw [← h9]
      exact ⟨_, rfl, HR2.out, HI2.out, HM2.out⟩
set_option maxHeartbeats 8000000 in
set_option maxRecDepth 20000 in
theorem perms_in {w : World} {g : Nat} {l : List UInt8} {b : Bool} (h : InAt w g l b) : Calls Tryd.prog 25 #[.pointer (some ⟨g, 0, none⟩)] w (InListPost g k86 86 (dList dPerm l b).1 (dList dPerm l b).2.1 (dList dPerm l b).2.2 w) := by
  obtain ⟨F, hF⟩ : ∃ F, dList dPerm l b = F := ⟨_, rfl⟩
  rw [hF]
  unfold dList at hF
  have hc := four_in h
  have hle := (dFour_le l b).1
  obtain ⟨n, l1, b1, hz⟩ := trip (dFour l b)
  rw [hz] at hc hF hle
  simp only at hc hF hle
  have HF := hid hF
  have HC := hid hc
  have hgw := InAt.lt h
  clear hF hc hz h
  go_enter Tryd.func25, Tryd.ntmps25
  go_wp2_with (go_at_call 58; refine HC.out.mono ?_; clear HC; rintro e w1 ⟨rfl, hi1, hm1⟩; have HI1 := hid hi1; have HM1 := hid hm1; clear hi1 hm1)
  go_loopw [4, 5] (fun v i wr => ∃ (k : Nat) (acc : List S86) (l2 : List UInt8) (b2 : Bool), i = .int .i64 k ∧ k ≤ n ∧ acc.length = k ∧ Hid (listLoop dPerm (n - k) acc l2 b2 = F) ∧ InAt wr g l2 b2 ∧ k86.R 86 wr w.heap.size (fun _ => True) v acc ∧ Mod (fun x => x = g) w wr) (fun _ i _ => n - (intOf i).toNat)
  case atStart => exact ⟨0, [], l1, b1, rfl, by omega, rfl, by simpa using HF, HI1.out, Kd.R_nil _ _ _ _ _, HM1.out⟩
  case round =>
    obtain ⟨k, acc, l2, b2, rfl, hk, hacc, hloop, hi2, hr2, hm2⟩ := hrel
    obtain ⟨A2, m2, c2, rfl⟩ := r_form hr2
    have HI2 := hid hi2
    have HR2 := hid hr2
    have HM2 := hid hm2
    obtain ⟨s0, _, ha0⟩ := hi2
    have d1 : wr.cell? ⟨g, 1, none⟩ = some (.bool (!b2)) := ha0.cell 1
    have hw2 := hm2.size
    clear hr2 hm2 ha0
    by_cases hkn : k < n
    · have t0 : decide (k < n) = true := decide_eq_true hkn
      cases b2 with
      | true =>
        go_wp2
        go_ret
        have h9 := hloop.out
        rw [listLoop_bad] at h9
        rw [← h9]
        exact ⟨_, rfl, HR2.out, HI2.out, HM2.out⟩
      | false =>
        obtain ⟨s, l3, b3, hone⟩ := trip (dText l2 false)
        obtain ⟨y, l4, b4, htwo⟩ := trip (dList dText l3 b3)
        have hcall := text_in HI2.out
        rw [hone] at hcall
        have HCALL := hid hcall
        have HTWO := hid htwo
        have HONE := hid (show dPerm l2 false = (⟨s, y⟩, l4, b4) by unfold dPerm; rw [hone]; simp only; rw [htwo])
        clear hcall hone htwo
        go_wp2_with (go_at_call 21; refine HCALL.out.mono ?_)
        clear HCALL
        rintro e w3 ⟨rfl, hi3, hm3⟩
        have hcall := texts_in hi3
        rw [HTWO.out] at hcall
        have HCALL := hid hcall
        have HR3 := hid (r_mod HR2.out hm3 (fun j e => .inl (by omega)))
        have HM3 := hid (HM2.out.trans hm3 (fun _ e => .inl e))
        have hw3 := hm3.size
        clear hi3 hm3 hcall
        go_wp2_with (go_at_call 22; refine HCALL.out.mono ?_)
        clear HCALL
        rintro e w4 ⟨v4, rfl, hy4, hi4, hm4⟩
        obtain ⟨A4, m4, c4, rfl⟩ := r_form hy4
        have HI4 := hid hi4
        have HR4 := hid (r_mod HR3.out hm4 (fun j e => .inl (by omega)))
        have HM4 := hid (HM3.out.trans hm4 (fun _ e => .inl e))
        have hw4 := hm4.size
        have HOW := hid (fun j (e : (Value.slice A2 m2 c2).ownBlock = some j) => ((Kd.R_bound HR3.out).1 j e).2.2.1)
        have hmk : k86.M w4 w.heap.size (fun j => w3.heap.size ≤ j) (⟨s, y⟩ : S86) [.string s, .slice A4 m4 c4] := k86_mkM w4 w.heap.size (fun j => w3.heap.size ≤ j) ⟨s, y⟩ (Kd.R_lower (Kd.R_mono (Kd.R_bound hy4) (fun k hk => hk.2.1)) (by omega))
        have HMK := hid hmk
        clear hi4 hm4 hy4 hmk
        go_wp2_with (first | (at_builtin; refine Kd.R_append (w0 := w4) (W := w4) k86 w.heap.size rfl (.tmp 22) (.tmp 27) 32 86 (.agg #[.string ⟨#[]⟩, .slice none 0 0]) 40 rfl Tryd.underlying32 einfoPerm (by rfl) (by decide) (by decide) (.slice A2 m2 c2) acc ⟨s, y⟩ [.string s, .slice A4 m4 c4] (fun _ => True) (fun j => w3.heap.size ≤ j) (by rfl) (by rfl) HMK.out (fun j e => ⟨trivial, fun e2 => by have := HOW.out j e2.symm; omega⟩) (fun _ _ => trivial) HR4.out (Below.refl _ _) (by omega) (by rw [hacc]; omega) ?_; intro v5 w5 hr5 _ hg5 _; have HI5 := hid (in_grown HI4.out hg5 (fun e => by have := r_base HR4.out e.symm; omega)); have HR5 := hid hr5; have HG5 := hid hg5; clear hr5 hg5))

        have hm5 : Mod (fun x => x = g) w w5 := HM4.out.grown HG5.out (fun j e => .inr (r_base HR4.out e))
        go_wp2
        go_roundw
        case rel =>
          refine ⟨k + 1, acc ++ [⟨s, y⟩], l4, b4, by go_num, by omega, by rw [List.length_append, hacc]; rfl, ?_, HI5.out, HR5.out, hm5⟩
          have h9 := hloop.out
          rw [show n - k = (n - (k + 1)) + 1 by omega, listLoop, if_neg (by simp), HONE.out] at h9
          exact hid h9
        case measure => simp [intOf]; omega
    · have t0 : decide (k < n) = false := decide_eq_false hkn
      obtain rfl : k = n := by omega
      go_wp2
      go_ret
      have h9 := hloop.out
      rw [Nat.sub_self] at h9
      rw [← h9]
      exact ⟨_, rfl, HR2.out, HI2.out, HM2.out⟩
set_option maxHeartbeats 8000000 in
set_option maxRecDepth 20000 in
theorem keys_in {w : World} {g : Nat} {l : List UInt8} {b : Bool} (h : InAt w g l b) : Calls Tryd.prog 26 #[.pointer (some ⟨g, 0, none⟩)] w (InListPost g k117 117 (dList dKey l b).1 (dList dKey l b).2.1 (dList dKey l b).2.2 w) := by
  obtain ⟨F, hF⟩ : ∃ F, dList dKey l b = F := ⟨_, rfl⟩
  rw [hF]
  unfold dList at hF
  have hc := four_in h
  have hle := (dFour_le l b).1
  obtain ⟨n, l1, b1, hz⟩ := trip (dFour l b)
  rw [hz] at hc hF hle
  simp only at hc hF hle
  have HF := hid hF
  have HC := hid hc
  have hgw := InAt.lt h
  clear hF hc hz h
  go_enter Tryd.func26, Tryd.ntmps26
  go_wp2_with (go_at_call 58; refine HC.out.mono ?_; clear HC; rintro e w1 ⟨rfl, hi1, hm1⟩; have HI1 := hid hi1; have HM1 := hid hm1; clear hi1 hm1)
  go_loopw [4, 5] (fun v i wr => ∃ (k : Nat) (acc : List S117) (l2 : List UInt8) (b2 : Bool), i = .int .i64 k ∧ k ≤ n ∧ acc.length = k ∧ Hid (listLoop dKey (n - k) acc l2 b2 = F) ∧ InAt wr g l2 b2 ∧ k117.R 117 wr w.heap.size (fun _ => True) v acc ∧ Mod (fun x => x = g) w wr) (fun _ i _ => n - (intOf i).toNat)
  case atStart => exact ⟨0, [], l1, b1, rfl, by omega, rfl, by simpa using HF, HI1.out, Kd.R_nil _ _ _ _ _, HM1.out⟩
  case round =>
    obtain ⟨k, acc, l2, b2, rfl, hk, hacc, hloop, hi2, hr2, hm2⟩ := hrel
    obtain ⟨A2, m2, c2, rfl⟩ := r_form hr2
    have HI2 := hid hi2
    have HR2 := hid hr2
    have HM2 := hid hm2
    obtain ⟨s0, _, ha0⟩ := hi2
    have d1 : wr.cell? ⟨g, 1, none⟩ = some (.bool (!b2)) := ha0.cell 1
    have hw2 := hm2.size
    clear hr2 hm2 ha0
    by_cases hkn : k < n
    · have t0 : decide (k < n) = true := decide_eq_true hkn
      cases b2 with
      | true =>
        go_wp2
        go_ret
        have h9 := hloop.out
        rw [listLoop_bad] at h9
        rw [← h9]
        exact ⟨_, rfl, HR2.out, HI2.out, HM2.out⟩
      | false =>
        obtain ⟨s, l3, b3, hone⟩ := trip (dText l2 false)
        obtain ⟨y, l4, b4, htwo⟩ := trip (dText l3 b3)
        have hcall := text_in HI2.out
        rw [hone] at hcall
        have HCALL := hid hcall
        have HTWO := hid htwo
        have HONE := hid (show dKey l2 false = (⟨s, y⟩, l4, b4) by unfold dKey; rw [hone]; simp only; rw [htwo])
        clear hcall hone htwo
        go_wp2_with (go_at_call 21; refine HCALL.out.mono ?_)
        clear HCALL
        rintro e w3 ⟨rfl, hi3, hm3⟩
        have hcall := text_in hi3
        rw [HTWO.out] at hcall
        have HCALL := hid hcall
        have HR3 := hid (r_mod HR2.out hm3 (fun j e => .inl (by omega)))
        have HM3 := hid (HM2.out.trans hm3 (fun _ e => .inl e))
        have hw3 := hm3.size
        clear hi3 hm3 hcall
        go_wp2_with (go_at_call 21; refine HCALL.out.mono ?_)
        clear HCALL
        rintro e w4 ⟨rfl, hi4, hm4⟩
        have HI4 := hid hi4
        have HR4 := hid (r_mod HR3.out hm4 (fun j e => .inl (by omega)))
        have HM4 := hid (HM3.out.trans hm4 (fun _ e => .inl e))
        have hw4 := hm4.size
        have hmk : k117.M w4 w.heap.size (fun _ => False) (⟨s, y⟩ : S117) [.string s, .string y] := k117_mkM w4 w.heap.size (fun _ => False) ⟨s, y⟩
        have HMK := hid hmk
        clear hi4 hm4 hmk
        go_wp2_with (first | (at_builtin; refine Kd.R_append (w0 := w4) (W := w4) k117 w.heap.size rfl (.tmp 22) (.tmp 27) 39 117 (.agg #[.string ⟨#[]⟩, .string ⟨#[]⟩]) 32 rfl Tryd.underlying39 einfoKey (by rfl) (by decide) (by decide) (.slice A2 m2 c2) acc ⟨s, y⟩ [.string s, .string y] (fun _ => True) (fun _ => False) (by rfl) (by rfl) HMK.out (fun _ e => e.elim) (fun _ _ => trivial) HR4.out (Below.refl _ _) (by omega) (by rw [hacc]; omega) ?_; intro v5 w5 hr5 _ hg5 _; have HI5 := hid (in_grown HI4.out hg5 (fun e => by have := r_base HR4.out e.symm; omega)); have HR5 := hid hr5; have HG5 := hid hg5; clear hr5 hg5))

        have hm5 : Mod (fun x => x = g) w w5 := HM4.out.grown HG5.out (fun j e => .inr (r_base HR4.out e))
        go_wp2
        go_roundw
        case rel =>
          refine ⟨k + 1, acc ++ [⟨s, y⟩], l4, b4, by go_num, by omega, by rw [List.length_append, hacc]; rfl, ?_, HI5.out, HR5.out, hm5⟩
          have h9 := hloop.out
          rw [show n - k = (n - (k + 1)) + 1 by omega, listLoop, if_neg (by simp), HONE.out] at h9
          exact hid h9
        case measure => simp [intOf]; omega
    · have t0 : decide (k < n) = false := decide_eq_false hkn
      obtain rfl : k = n := by omega
      go_wp2
      go_ret
      have h9 := hloop.out
      rw [Nat.sub_self] at h9
      rw [← h9]
      exact ⟨_, rfl, HR2.out, HI2.out, HM2.out⟩
end Go.Proofs.YtcgjacffemjehaaDoor

namespace Go.Proofs.YtcgjacffemjehaaDoor
open Go.RowKit
set_option linter.unusedVariables false
set_option maxHeartbeats 1000000 in
set_option maxRecDepth 100000 in
theorem size_w {w0 w : World} {g : Nat} {v : Value} {l : List UInt8} (h : WS w0 g v l w) (n : Nat) (hn : n ≤ 1099511627776) (hl : l.length ≤ 549755813888) :
    Calls Tryd.prog 79 #[.pointer (some ⟨g, 0, none⟩), .int .i64 n] w (WPost w0 g (l ++ four n) (.returned (.int .i64 n))) := by
  obtain ⟨c0, c1, c2, f0⟩ := h.cells
  have H := hid h
  clear h
  go_enter Tryd.func79, Tryd.ntmps79
  go_wp2_with (at_builtin; refine wpList_append_b byteT rfl (.tmp 16) (.tmp 28) rfl w0.heap.size l (four n) v _ rfl rfl (H.out.own.alloc _) (OwnB.new w 0 5 _ (four n) 4 rfl (four_cells n).symm (Nat.zero_le _) (by decide)).reads (by simp [four]; omega) (by have := H.out.base; simp; omega) ?_; intro v' w1 ho hg _ _; obtain ⟨a1, m1, k1, rfl⟩ := own_form ho; have hW := (H.out.alloc _).grow hg ho; have HW := hid hW; obtain ⟨f1, d1⟩ := hW.cells; clear ho hg hW)
  go_ret
  exact WPost.mk rfl rfl HW.out.store
set_option maxHeartbeats 2000000 in
set_option maxRecDepth 100000 in
theorem text_w {w0 w : World} {g : Nat} {v : Value} {l : List UInt8} (h : WS w0 g v l w) (p : Addr) (s : ByteArray) (hp : w0.cell? p = some (.string s)) (hs : s.size ≤ 549755813884) (hl : l.length ≤ 549755813888) :
    Calls Tryd.prog 67 #[.pointer (some ⟨g, 0, none⟩), .pointer (some p)] w (WPost w0 g (l ++ textB s) (.returned (.tuple #[]))) := by
  have hps := lt_of_cell hp
  have hp1 : w.cell? p = some (.string s) := (h.below.cell hps).trans hp
  have HP := hid hp
  have H := hid h
  clear h hp
  go_enter Tryd.func67, Tryd.ntmps67
  go_wp2_with (go_at_call 79; refine (size_w H.out s.size (by omega) hl).mono ?_; intro e w1 hq; obtain ⟨rfl, v1, h1⟩ := hq; have H1 := hid h1; have hp2 := (h1.below.cell hps).trans HP.out; obtain ⟨c0, c1, c2, f0⟩ := h1.cells; clear h1)
  go_region_law (refine step_append_s byteT Tryd.underlying9 (by rfl) _ _ (by rfl) w0.heap.size (l ++ four s.size) s v1 (by rfl) (by rfl) H1.out.drew.own (by simp [four]; omega) H1.out.base ?_; intro v' w2 ho hg; obtain ⟨a1, m1, k1, rfl⟩ := own_form ho; have hW := H1.out.drew.grow hg ho; have HW := hid hW; obtain ⟨f1, d1⟩ := hW.cells; have s2 : w2.cell? p = some (.string s) := (hW.below.cell hps).trans HP.out; clear ho hg hW)
  all_goals
    go_end0
    exact WPost.mk rfl (by simp [textB]) HW.out.store
set_option maxHeartbeats 2000000 in
set_option maxRecDepth 100000 in
theorem num_w {w0 w : World} {g : Nat} {v : Value} {l : List UInt8} (h : WS w0 g v l w) (p : Addr) (n : Int) (hp : w0.cell? p = some (.int .i64 n)) (hn : -9223372036854775808 ≤ n ∧ n ≤ 9223372036854775807) (hl : l.length ≤ 549755813888) :
    Calls Tryd.prog 68 #[.pointer (some ⟨g, 0, none⟩), .pointer (some p)] w (WPost w0 g (l ++ eight n) (.returned (.tuple #[]))) := by
  have hps := lt_of_cell hp
  have hp1 : w.cell? p = some (.int .i64 n) := (h.below.cell hps).trans hp
  obtain ⟨c0, c1, c2, f0⟩ := h.cells
  have H := hid h
  have HP := hid hp
  clear h hp
  go_enter Tryd.func68, Tryd.ntmps68
  go_wp2
  go_loopw [4] (fun i wr => ∃ (k : Nat) (v' : Value), k ≤ 8 ∧ i = .int .i64 (56 - 8 * (k : Int)) ∧ WS w0 g v' (l ++ (eight n).take k) wr) (fun i _ => (intOf i + 8).toNat)
  case atStart => exact ⟨0, v, by omega, by simp, by simpa using H.out⟩
  case round =>
    obtain ⟨k, v2, hk, rfl, h⟩ := hrel
    have hp2 : wr.cell? p = some (.int .i64 n) := (h.below.cell hps).trans HP.out
    obtain ⟨c0, c1, c2, f0⟩ := h.cells
    have hn1 : ∀ o, (wr.alloc o).cell? ⟨g, 0, none⟩ = some v2 := fun o => (World.cell?_alloc_lt wr o ⟨g, 0, none⟩ (lt_of_cell c0)).trans c0
    have hn2 : ∀ o, (wr.alloc o).cell? p = some (.int .i64 n) := fun o => (World.cell?_alloc_lt wr o p (lt_of_cell hp2)).trans hp2
    have H2 := hid h
    clear h
    by_cases hk8 : k < 8
    · have t0 : decide ((0 : Int) ≤ 56 - 8 * (k : Int)) = true := decide_eq_true (by omega)
      have b1 : (0 : Int) ≤ 56 - 8 * (k : Int) := by omega
      have b2 : 56 - 8 * (k : Int) < 64 := by omega
      go_wp2
      go_region_law (refine step_append_b byteT (by rfl) _ _ (by rfl) w0.heap.size (l ++ (eight n).take k) [byteI _] v2 _ (by rfl) (by rfl) (H2.out.drew.alloc _).own (OwnB.new _ 0 5 _ _ 1 rfl (one_wrap _).symm (Nat.zero_le _) (by decide)).reads (by simp; omega) (by have := H2.out.base; simp; omega) ?_; intro v' w2 ho hg _ _; obtain ⟨a1, m1, k1, rfl⟩ := own_form ho; have hW := (H2.out.drew.alloc _).grow hg ho; have HW := hid hW; obtain ⟨f1, d1⟩ := hW.cells; have s1 : w2.cell? p = some (.int .i64 n) := (hW.below.cell hps).trans HP.out; clear ho hg hW)
      all_goals
        have he := eight_step n k hk8
        go_wp2
        go_roundw
        case rel => exact ⟨k + 1, _, by omega, by congr 1; omega, by rw [he, ← List.append_assoc]; exact HW.out.store⟩
        case measure => simp [intOf]; omega
    · have t0 : decide ((0 : Int) ≤ 56 - 8 * (k : Int)) = false := decide_eq_false (by omega)
      obtain rfl : k = 8 := by omega
      go_wp2
      go_end0
      exact WPost.mk rfl (by simp [eight]) H2.out
end Go.Proofs.YtcgjacffemjehaaDoor

namespace Go.Proofs.YtcgjacffemjehaaDoor
open Go.RowKit
open Go.Proofs.YtcgjacffemjehaaDoorW.PrintWords (Kd rdOf)
open Go.Proofs.YtcgjacffemjehaaDoor.PRowReads
set_option linter.unusedVariables false
theorem take_snoc_getD {α : Type} (l : List α) (d : α) (k : Nat) (h : k < l.length) : l.take (k + 1) = l.take k ++ [l.getD k d] := by
  rw [List.take_succ_eq_append_getElem h]
  simp [List.getD, h]
theorem flat_snoc {α : Type} (f : α → List UInt8) (l : List α) (d : α) (k : Nat) (h : k < l.length) : (l.take (k + 1)).flatMap f = (l.take k).flatMap f ++ f (l.getD k d) := by
  rw [take_snoc_getD l d k h]
  simp
theorem flat_take_le {α : Type} (f : α → List UInt8) (l : List α) (k : Nat) : ((l.take k).flatMap f).length ≤ (l.flatMap f).length := by
  have h : l.flatMap f = (l.take k).flatMap f ++ (l.drop k).flatMap f := by rw [← List.flatMap_append, List.take_append_drop]
  rw [h, List.length_append]
  omega
end Go.Proofs.YtcgjacffemjehaaDoor

namespace Go.Proofs.YtcgjacffemjehaaDoor
open Go.RowKit
open Go.Proofs.YtcgjacffemjehaaDoorW.PrintWords (Kd rdOf)
open Go.Proofs.YtcgjacffemjehaaDoor.PRowReads
set_option linter.unusedVariables false
def bA (l : List UInt8) : ByteArray := ⟨l.toArray⟩
theorem bA_size (l : List UInt8) : (bA l).size = l.length := by simp [bA, ByteArray.size]
theorem bA_app (a b : List UInt8) : bA a ++ bA b = bA (a ++ b) := str_append a b
theorem bA_self (s : ByteArray) : bA s.data.toList = s := by simp [bA]
theorem four_len (n : Nat) : (four n).length = 4 := rfl
theorem add_bA {P : Program} {w : World} (a b : List UInt8) (h : a.length + b.length ≤ 1099511627776) : (Op.stringOp .add (bA a) (bA b)).run P w = .ok (.string (bA (a ++ b))) w := by
  rw [← bA_app]
  exact run_string_add_sum (P := P) (w := w) (bA a) (bA b) (by rw [bA_size, bA_size]; omega)
/-- A call that answers these bytes. -/
def BAP (l : List UInt8) (w : World) (e : Ending) (w' : World) : Prop := e = .returned (.string (bA l)) ∧ Below w.heap.size w w'
theorem BAP.mk {l m : List UInt8} {w w' : World} (h : m = l) (hb : Below w.heap.size w w') : BAP l w (.returned (.string (bA m))) w' := ⟨by rw [h], hb⟩
theorem refFour (n : Nat) (hn : n ≤ 1099511627776) (w : World) : Calls Tryd.prog 59 #[.int .i64 n] w (BAP (four n) w) := by
  have kc := run_string_of_new (P := Tryd.prog) (w := w) Tryd.underlying49 Tryd.underlying5 Tryd.underlying9 #[.int .u8 ((n : Int) / 16777216 % 256), .int .u8 ((n : Int) / 65536 % 256), .int .u8 ((n : Int) / 256 % 256), .int .u8 ((n : Int) % 256)] (four n) (four_cells n).symm 4 rfl 4
  go_enter Tryd.func59, Tryd.ntmps59
  go_wp2
  go_ret
  exact ⟨rfl, (Below.refl _ w).alloc (Nat.le_refl _) _⟩
theorem refText (s : ByteArray) (h : Sz s) (w : World) : Calls Tryd.prog 27 #[.string s] w (BAP (textB s) w) := by
  have h' : s.size ≤ 1048576 := h
  have a1 := fun w' => add_bA (P := Tryd.prog) (w := w') (four s.size) s.data.toList (by rw [four_len, str_len]; omega)
  rw [bA_self] at a1
  go_enter Tryd.func27, Tryd.ntmps27
  go_wp2_with (go_at_call 59; refine (refFour s.size (by omega) _).mono ?_; rintro e z ⟨rfl, hb⟩; have HB := hid hb; clear hb)
  go_ret
  exact ⟨rfl, HB.out⟩
theorem refTruth (t : Bool) (w : World) : Calls Tryd.prog 29 #[.bool t] w (BAP (truthB t) w) := by
  have kc := fun (z : Int) (hz : z % 256 = z) => run_string_of_new (P := Tryd.prog) (w := w) Tryd.underlying49 Tryd.underlying5 Tryd.underlying9 #[.int .u8 z] [byteI z] (one_cells z hz).symm 1 rfl 1
  have k0 := kc 0 rfl
  have k1 := kc 1 rfl
  clear kc
  cases t
  all_goals
    go_enter Tryd.func29, Tryd.ntmps29
    go_wp2
    go_ret
    exact ⟨rfl, (Below.refl _ w).alloc (Nat.le_refl _) _⟩
set_option maxHeartbeats 4000000 in
set_option maxRecDepth 100000 in
theorem refTexts (A : Option Addr) (c : Nat) (xs : List ByteArray) (w : World) (hC : Kd.string.C w A xs.length xs) (hc : xs.length ≤ c) (hx : SzL xs) (hl : (textsB xs).length ≤ 549755813888) : Calls Tryd.prog 28 #[.slice A xs.length c] w (BAP (textsB xs) w) := by
  have hx1 := hx.1
  have HX := hid hx
  have HC := hid hC
  simp only [textsB, List.length_append, four_len] at hl
  clear hx hC
  go_enter Tryd.func28, Tryd.ntmps28
  go_wp2_with (go_at_call 59; refine (refFour xs.length (by omega) _).mono ?_; rintro e z ⟨rfl, hb⟩; have HB := hid hb; clear hb)
  go_loopw [3, 4] (fun s i wr => ∃ k : Nat, k ≤ xs.length ∧ i = .int .i64 k ∧ s = .string (bA (four xs.length ++ (xs.take k).flatMap textB)) ∧ Below w.heap.size w wr) (fun _ i _ => xs.length - (intOf i).toNat)
  case atStart => exact ⟨0, by omega, rfl, by simp, HB.out⟩
  case round =>
    obtain ⟨k, hk, rfl, rfl, hb⟩ := hrel
    have HB := hid hb
    clear hb
    by_cases hk8 : k < xs.length
    · have t0 : decide (k < xs.length) = true := decide_eq_true hk8
      obtain ⟨ad, hA, hx0⟩ := Go.Proofs.YtcgjacffemjehaaDoorW.PrintWords.Kd.at_string HC.out (k : Int) (by omega) (by omega)
      subst hA
      rw [Int.toNat_natCast] at hx0
      have hx0 := (HB.out.cell (lt_of_cell hx0)).trans hx0
      have hf := flat_snoc textB xs ByteArray.empty k hk8
      have hle := flat_take_le textB xs (k + 1)
      rw [hf, List.length_append] at hle
      have hsx : Sz (xs.getD k ByteArray.empty) := HX.out.2 _ (by rw [List.getD_eq_getElem?_getD, List.getElem?_eq_getElem hk8]; simp)
      obtain ⟨y, hy⟩ : ∃ y, xs.getD k ByteArray.empty = y := ⟨_, rfl⟩
      rw [show rdOf ByteArray.empty xs (k : Int) = y by unfold rdOf; rw [Int.toNat_natCast, hy]] at hx0
      rw [hy] at hf hle hsx
      have a1 := fun w' => add_bA (P := Tryd.prog) (w := w') (four xs.length ++ (xs.take k).flatMap textB) (textB y) (by rw [List.length_append, four_len]; omega)
      obtain ⟨p, hp⟩ : ∃ p, bA (four xs.length ++ (xs.take k).flatMap textB) = p := ⟨_, rfl⟩
      obtain ⟨q, hq⟩ : ∃ q, bA (four xs.length ++ (xs.take k).flatMap textB ++ textB y) = q := ⟨_, rfl⟩
      rw [hp, hq] at a1
      rw [hp]
      have HF := hid hf
      have HQ := hid hq
      clear hf hq hy hle hp
      go_wp2_with (go_at_call 27; refine (refText _ hsx _).mono ?_; rintro e z ⟨rfl, hb⟩; have n0 := hid (below_then HB.out hb); clear HB hb; have HB := n0; clear n0)
      go_roundw
      case rel => exact ⟨k + 1, by omega, by go_num, by rw [HF.out, ← List.append_assoc, HQ.out], HB.out⟩
      case measure => simp [intOf]; omega
    · have t0 : decide (k < xs.length) = false := decide_eq_false hk8
      obtain rfl : k = xs.length := by omega
      go_wp2
      go_ret
      exact BAP.mk (by rw [List.take_length]; rfl) HB.out
set_option maxHeartbeats 4000000 in
set_option maxRecDepth 100000 in
theorem refNum (n : Int) (w : World) (hn : I64 n) : Calls Tryd.prog 30 #[.int .i64 n] w (BAP (eight n) w) := by
  have hn1 := hn.1
  have hn2 := hn.2
  have h0 := OwnB.new w w.heap.size 5 #[] [] 0 rfl rfl (Nat.le_refl _) (by decide)
  have H0 := hid h0
  clear h0 hn
  go_enter Tryd.func30, Tryd.ntmps30
  go_wp2
  go_loopw [3, 4] (fun v i wr => ∃ k : Nat, k ≤ 8 ∧ i = .int .i64 (7 - (k : Int)) ∧ OwnB wr w.heap.size 5 v ((eight n).take k) ∧ Below w.heap.size w wr) (fun _ i _ => (intOf i + 1).toNat)
  case atStart => exact ⟨0, by omega, by simp, H0.out, (Below.refl _ w).alloc (Nat.le_refl _) _⟩
  case round =>
    obtain ⟨k, hk, rfl, ho, hb⟩ := hrel
    have hsz := hb.size
    have HO := hid ho
    have HB := hid hb
    clear ho hb
    by_cases hk8 : k < 8
    · have t0 : decide ((0 : Int) ≤ 7 - (k : Int)) = true := decide_eq_true (by omega)
      have he := eight_step n k hk8
      rw [show (56 - 8 * (k : Int)).toNat = 8 * (7 - k) by omega] at he
      have HE := hid he
      clear he
      go_wp2_with (at_builtin; refine wpList_append_b byteT rfl (.tmp 10) (.tmp 17) rfl w.heap.size ((eight n).take k) [byteI _] _ _ rfl rfl (HO.out.alloc _) (OwnB.new wr 0 5 _ _ 1 rfl (one_wrap _).symm (Nat.zero_le _) (by decide)).reads (by rw [List.length_take]; simp [eight]; omega) (by simp; omega) ?_; intro v' w1 ho hg _ _; have HO1 := hid ho; have HB1 := hid ((HB.out.alloc hsz _).grown hg (by simp; omega) (fun j hj => (HO.out.lt hj).1)); clear ho hg)
      go_roundw
      case rel => exact ⟨k + 1, by omega, by congr 1; omega, by rw [HE.out]; exact HO1.out, HB1.out⟩
      case measure => simp [intOf]; omega
    · obtain rfl : k = 8 := by omega
      have t0 : decide ((0 : Int) ≤ 7 - ((8 : Nat) : Int)) = false := by decide
      have kc := run_string_of_reads (P := Tryd.prog) byteT Tryd.underlying9 HO.out.reads
      go_wp2
      go_ret
      exact ⟨rfl, HB.out⟩
set_option maxHeartbeats 8000000 in
set_option maxRecDepth 100000 in
theorem refPerms (A : Option Addr) (c : Nat) (xs : List S86) (w : World) (hC : k86.C w A xs.length xs) (hc : xs.length ≤ c) (hx : SzP xs) (hl : (permsB xs).length ≤ 549755813888) : Calls Tryd.prog 31 #[.slice A xs.length c] w (BAP (permsB xs) w) := by
  have hx1 := hx.1
  have HX := hid hx
  have HC := hid hC
  simp only [permsB, List.length_append, four_len] at hl
  clear hx hC
  go_enter Tryd.func31, Tryd.ntmps31
  go_wp2_with (go_at_call 59; refine (refFour xs.length (by omega) _).mono ?_; rintro e z ⟨rfl, hb⟩; have HB := hid hb; clear hb)
  go_loopw [3, 4] (fun s i wr => ∃ k : Nat, k ≤ xs.length ∧ i = .int .i64 k ∧ s = .string (bA (four xs.length ++ (xs.take k).flatMap permB)) ∧ Below w.heap.size w wr) (fun _ i _ => xs.length - (intOf i).toNat)
  case atStart => exact ⟨0, by omega, rfl, by simp, HB.out⟩
  case round =>
    obtain ⟨k, hk, rfl, rfl, hb⟩ := hrel
    have HB := hid hb
    clear hb
    by_cases hk8 : k < xs.length
    · have t0 : decide (k < xs.length) = true := decide_eq_true hk8
      obtain ⟨ad, A1, c1, hA, hx0, hx1, hl1, hC1⟩ := at_T86 HC.out (k : Int) (by omega) (by omega)
      subst hA
      rw [Int.toNat_natCast] at hx0 hx1
      have hf := flat_snoc permB xs z86 k hk8
      have hle := flat_take_le permB xs (k + 1)
      rw [hf, List.length_append] at hle
      have hsx : OkPerm (xs.getD k z86) := HX.out.2 _ (by rw [List.getD_eq_getElem?_getD, List.getElem?_eq_getElem hk8]; simp)
      obtain ⟨y, hy⟩ : ∃ y, xs.getD k z86 = y := ⟨_, rfl⟩
      have hrd : rd_T86 xs (k : Int) = y := by unfold rd_T86; rw [Int.toNat_natCast, hy]
      rw [hrd] at hx0 hx1 hC1 hl1
      rw [hy] at hf hle hsx
      have HY1 := hid hsx.1
      have HY2 := hid hsx.2
      have HC1 := hid hC1
      have HL1 := hid hl1
      have hln : (permB y).length = (textB y.f0).length + (textsB y.f1).length := by rw [permB, List.length_append]
      have hs : ∀ z, Below w.heap.size w z → z.cell? (ad.add (k * 2)) = some (.string y.f0) ∧ z.cell? ⟨(ad.add (k * 2)).block, (ad.add (k * 2)).off + 1, none⟩ = some (.slice A1 y.f1.length c1) := fun z hz => ⟨(hz.cell (lt_of_cell hx0)).trans hx0, (hz.cell (lt_of_cell hx1)).trans hx1⟩
      have HS := hid hs
      have a1 := fun w' => add_bA (P := Tryd.prog) (w := w') (four xs.length ++ (xs.take k).flatMap permB) (textB y.f0) (by rw [List.length_append, four_len]; omega)
      have a2 := fun w' => add_bA (P := Tryd.prog) (w := w') (four xs.length ++ (xs.take k).flatMap permB ++ textB y.f0) (textsB y.f1) (by rw [List.length_append, List.length_append, four_len]; omega)
      obtain ⟨p, hp⟩ : ∃ p, bA (four xs.length ++ (xs.take k).flatMap permB) = p := ⟨_, rfl⟩
      obtain ⟨q, hq⟩ : ∃ q, bA (four xs.length ++ (xs.take k).flatMap permB ++ textB y.f0) = q := ⟨_, rfl⟩
      obtain ⟨r, hr⟩ : ∃ r, bA (four xs.length ++ (xs.take k).flatMap permB ++ textB y.f0 ++ textsB y.f1) = r := ⟨_, rfl⟩
      rw [hp, hq] at a1
      rw [hq, hr] at a2
      rw [hp]
      have HF := hid hf
      have HR := hid hr
      clear hf hq hy hp hr hs hx0 hx1 hsx hrd hC1 hl1
      go_wp2
      go_region_held3 (fun z => z.cell? (ad.add (k * 2)) = some (.string y.f0) ∧ z.cell? ⟨(ad.add (k * 2)).block, (ad.add (k * 2)).off + 1, none⟩ = some (.slice A1 y.f1.length c1)) (first | exact HS.out _ HB.out | exact HS.out _ (Below.drew HB.out))
        (first | (go_at_call 27; refine (refText _ HY1.out _).mono ?_; rintro e z ⟨rfl, hb⟩; have n0 := hid (by first | exact below_then HB.out hb | exact below_then (Below.drew HB.out) hb : Below w.heap.size w z); clear HB hb; have HB := n0; clear n0) | (go_at_call 28; refine (refTexts _ _ _ _ (by first | exact Kd.C_below HC1.out HB.out | exact Kd.C_below HC1.out (Below.drew HB.out)) HL1.out HY2.out (by omega)).mono ?_; rintro e z ⟨rfl, hb⟩; have n0 := hid (by first | exact below_then HB.out hb | exact below_then (Below.drew HB.out) hb : Below w.heap.size w z); clear HB hb; have HB := n0; clear n0))
      all_goals
        go_wp2
        go_roundw
        case rel => exact ⟨k + 1, by omega, by go_num, by rw [HF.out, permB, ← List.append_assoc, ← List.append_assoc, HR.out], HB.out⟩
        case measure => simp [intOf]; omega
    · have t0 : decide (k < xs.length) = false := decide_eq_false hk8
      obtain rfl : k = xs.length := by omega
      go_wp2
      go_ret
      exact BAP.mk (by rw [List.take_length]; rfl) HB.out
set_option maxHeartbeats 8000000 in
set_option maxRecDepth 100000 in
theorem refKeys (A : Option Addr) (c : Nat) (xs : List S117) (w : World) (hC : k117.C w A xs.length xs) (hc : xs.length ≤ c) (hx : SzK xs) (hl : (keysB xs).length ≤ 549755813888) : Calls Tryd.prog 32 #[.slice A xs.length c] w (BAP (keysB xs) w) := by
  have hx1 := hx.1
  have HX := hid hx
  have HC := hid hC
  simp only [keysB, List.length_append, four_len] at hl
  clear hx hC
  go_enter Tryd.func32, Tryd.ntmps32
  go_wp2_with (go_at_call 59; refine (refFour xs.length (by omega) _).mono ?_; rintro e z ⟨rfl, hb⟩; have HB := hid hb; clear hb)
  go_loopw [3, 4] (fun s i wr => ∃ k : Nat, k ≤ xs.length ∧ i = .int .i64 k ∧ s = .string (bA (four xs.length ++ (xs.take k).flatMap keyB)) ∧ Below w.heap.size w wr) (fun _ i _ => xs.length - (intOf i).toNat)
  case atStart => exact ⟨0, by omega, rfl, by simp, HB.out⟩
  case round =>
    obtain ⟨k, hk, rfl, rfl, hb⟩ := hrel
    have HB := hid hb
    clear hb
    by_cases hk8 : k < xs.length
    · have t0 : decide (k < xs.length) = true := decide_eq_true hk8
      obtain ⟨ad, hA, hx0, hx1⟩ := at_T117 HC.out (k : Int) (by omega) (by omega)
      subst hA
      rw [Int.toNat_natCast] at hx0 hx1
      have hf := flat_snoc keyB xs z117 k hk8
      have hle := flat_take_le keyB xs (k + 1)
      rw [hf, List.length_append] at hle
      have hsx : OkKey (xs.getD k z117) := HX.out.2 _ (by rw [List.getD_eq_getElem?_getD, List.getElem?_eq_getElem hk8]; simp)
      obtain ⟨y, hy⟩ : ∃ y, xs.getD k z117 = y := ⟨_, rfl⟩
      have hrd : rd_T117 xs (k : Int) = y := by unfold rd_T117; rw [Int.toNat_natCast, hy]
      rw [hrd] at hx0 hx1
      rw [hy] at hf hle hsx
      have HY1 := hid hsx.1
      have HY2 := hid hsx.2
      have hln : (keyB y).length = (textB y.f0).length + (textB y.f1).length := by rw [keyB, List.length_append]
      have hs : ∀ z, Below w.heap.size w z → z.cell? (ad.add (k * 2)) = some (.string y.f0) ∧ z.cell? ⟨(ad.add (k * 2)).block, (ad.add (k * 2)).off + 1, none⟩ = some (.string y.f1) := fun z hz => ⟨(hz.cell (lt_of_cell hx0)).trans hx0, (hz.cell (lt_of_cell hx1)).trans hx1⟩
      have HS := hid hs
      have a1 := fun w' => add_bA (P := Tryd.prog) (w := w') (four xs.length ++ (xs.take k).flatMap keyB) (textB y.f0) (by rw [List.length_append, four_len]; omega)
      have a2 := fun w' => add_bA (P := Tryd.prog) (w := w') (four xs.length ++ (xs.take k).flatMap keyB ++ textB y.f0) (textB y.f1) (by rw [List.length_append, List.length_append, four_len]; omega)
      obtain ⟨p, hp⟩ : ∃ p, bA (four xs.length ++ (xs.take k).flatMap keyB) = p := ⟨_, rfl⟩
      obtain ⟨q, hq⟩ : ∃ q, bA (four xs.length ++ (xs.take k).flatMap keyB ++ textB y.f0) = q := ⟨_, rfl⟩
      obtain ⟨r, hr⟩ : ∃ r, bA (four xs.length ++ (xs.take k).flatMap keyB ++ textB y.f0 ++ textB y.f1) = r := ⟨_, rfl⟩
      rw [hp, hq] at a1
      rw [hq, hr] at a2
      rw [hp]
      have HF := hid hf
      have HR := hid hr
      clear hf hq hy hp hr hs hx0 hx1 hsx hrd
      go_wp2
      go_region_held3 (fun z => z.cell? (ad.add (k * 2)) = some (.string y.f0) ∧ z.cell? ⟨(ad.add (k * 2)).block, (ad.add (k * 2)).off + 1, none⟩ = some (.string y.f1)) (first | exact HS.out _ HB.out | exact HS.out _ (Below.drew HB.out))
        (first | (go_at_call 27; refine (refText _ (by first | exact HY1.out | exact HY2.out) _).mono ?_; rintro e z ⟨rfl, hb⟩; have n0 := hid (by first | exact below_then HB.out hb | exact below_then (Below.drew HB.out) hb : Below w.heap.size w z); clear HB hb; have HB := n0; clear n0))
      all_goals
        go_wp2
        go_roundw
        case rel => exact ⟨k + 1, by omega, by go_num, by rw [HF.out, keyB, ← List.append_assoc, ← List.append_assoc, HR.out], HB.out⟩
        case measure => simp [intOf]; omega
    · have t0 : decide (k < xs.length) = false := decide_eq_false hk8
      obtain rfl : k = xs.length := by omega
      go_wp2
      go_ret
      exact BAP.mk (by rw [List.take_length]; rfl) HB.out
end Go.Proofs.YtcgjacffemjehaaDoor

namespace Go.Proofs.YtcgjacffemjehaaDoor
open Go.RowKit
open Go.Proofs.YtcgjacffemjehaaDoorW.PrintWords (Kd rdOf)
open Go.Proofs.YtcgjacffemjehaaDoor.PRowReads
set_option linter.unusedVariables false
set_option maxHeartbeats 8000000 in
set_option maxRecDepth 100000 in
theorem refConsent (w : World) (x : S41) {A3 : Option Addr} {c3 : Nat} {A8 : Option Addr} {c8 : Nat} {A16 : Option Addr} {c16 : Nat} {A28 : Option Addr} {c28 : Nat} {A29 : Option Addr} {c29 : Nat} {A37 : Option Addr} {c37 : Nat} {A41 : Option Addr} {c41 : Nat} {A45 : Option Addr} {c45 : Nat} (l3 : x.f1.f2.length ≤ c3) (g3 : Kd.string.C w A3 x.f1.f2.length x.f1.f2) (l8 : x.f2.f4.length ≤ c8) (g8 : Kd.string.C w A8 x.f2.f4.length x.f2.f4) (l16 : x.f3.f3.length ≤ c16) (g16 : Kd.string.C w A16 x.f3.f3.length x.f3.f3) (l28 : x.f5.f5.length ≤ c28) (g28 : Kd.string.C w A28 x.f5.f5.length x.f5.f5) (l29 : x.f5.f6.length ≤ c29) (g29 : k86.C w A29 x.f5.f6.length x.f5.f6) (l37 : x.f6.f4.length ≤ c37) (g37 : Kd.string.C w A37 x.f6.f4.length x.f6.f4) (l41 : x.f7.f2.length ≤ c41) (g41 : k86.C w A41 x.f7.f2.length x.f7.f2) (l45 : x.f8.length ≤ c45) (g45 : k117.C w A45 x.f8.length x.f8) (hx : OkConsent x.f1) (hl : (consentB x.f1).length ≤ 549755813888) :
    Calls Tryd.prog 8 #[.agg #[.int .i64 1, .string x.f1.f0, .string x.f1.f1, .slice A3 x.f1.f2.length c3, .string x.f2.f0, .string x.f2.f1, .string x.f2.f2, .string x.f2.f3, .slice A8 x.f2.f4.length c8, .string x.f2.f5, .bool x.f2.f6, .bool x.f2.f7, .int .i64 x.f2.f8, .string x.f3.f0, .string x.f3.f1, .string x.f3.f2, .slice A16 x.f3.f3.length c16, .int .i64 x.f3.f4, .int .i64 x.f3.f5, .bool x.f3.f6, .string x.f4.f0, .string x.f4.f1, .int .i64 x.f4.f2, .string x.f5.f0, .string x.f5.f1, .string x.f5.f2, .string x.f5.f3, .string x.f5.f4, .slice A28 x.f5.f5.length c28, .slice A29 x.f5.f6.length c29, .int .i64 x.f5.f7, .int .i64 x.f5.f8, .bool x.f5.f9, .string x.f6.f0, .string x.f6.f1, .string x.f6.f2, .string x.f6.f3, .slice A37 x.f6.f4.length c37, .string x.f6.f5, .string x.f7.f0, .string x.f7.f1, .slice A41 x.f7.f2.length c41, .string x.f7.f3, .int .i64 x.f7.f4, .bool x.f7.f5, .slice A45 x.f8.length c45]] w (TextPost (consentB x.f1) w) := by
  have hW : Below w.heap.size w ((w.alloc (.cells #[.int .i64 1, .string x.f1.f0, .string x.f1.f1, .slice A3 x.f1.f2.length c3, .string x.f2.f0, .string x.f2.f1, .string x.f2.f2, .string x.f2.f3, .slice A8 x.f2.f4.length c8, .string x.f2.f5, .bool x.f2.f6, .bool x.f2.f7, .int .i64 x.f2.f8, .string x.f3.f0, .string x.f3.f1, .string x.f3.f2, .slice A16 x.f3.f3.length c16, .int .i64 x.f3.f4, .int .i64 x.f3.f5, .bool x.f3.f6, .string x.f4.f0, .string x.f4.f1, .int .i64 x.f4.f2, .string x.f5.f0, .string x.f5.f1, .string x.f5.f2, .string x.f5.f3, .string x.f5.f4, .slice A28 x.f5.f5.length c28, .slice A29 x.f5.f6.length c29, .int .i64 x.f5.f7, .int .i64 x.f5.f8, .bool x.f5.f9, .string x.f6.f0, .string x.f6.f1, .string x.f6.f2, .string x.f6.f3, .slice A37 x.f6.f4.length c37, .string x.f6.f5, .string x.f7.f0, .string x.f7.f1, .slice A41 x.f7.f2.length c41, .string x.f7.f3, .int .i64 x.f7.f4, .bool x.f7.f5, .slice A45 x.f8.length c45] 41)).alloc (.cells #[.string x.f1.f0, .string x.f1.f1, .slice A3 x.f1.f2.length c3] 25)) := ((Below.refl _ w).alloc (Nat.le_refl _) _).alloc (by simp) _
  have HG3 := hid (Kd.C_below g3 hW)
  have HL3 := hid l3
  have hs : ∀ z, Below ((w.alloc (.cells #[.int .i64 1, .string x.f1.f0, .string x.f1.f1, .slice A3 x.f1.f2.length c3, .string x.f2.f0, .string x.f2.f1, .string x.f2.f2, .string x.f2.f3, .slice A8 x.f2.f4.length c8, .string x.f2.f5, .bool x.f2.f6, .bool x.f2.f7, .int .i64 x.f2.f8, .string x.f3.f0, .string x.f3.f1, .string x.f3.f2, .slice A16 x.f3.f3.length c16, .int .i64 x.f3.f4, .int .i64 x.f3.f5, .bool x.f3.f6, .string x.f4.f0, .string x.f4.f1, .int .i64 x.f4.f2, .string x.f5.f0, .string x.f5.f1, .string x.f5.f2, .string x.f5.f3, .string x.f5.f4, .slice A28 x.f5.f5.length c28, .slice A29 x.f5.f6.length c29, .int .i64 x.f5.f7, .int .i64 x.f5.f8, .bool x.f5.f9, .string x.f6.f0, .string x.f6.f1, .string x.f6.f2, .string x.f6.f3, .slice A37 x.f6.f4.length c37, .string x.f6.f5, .string x.f7.f0, .string x.f7.f1, .slice A41 x.f7.f2.length c41, .string x.f7.f3, .int .i64 x.f7.f4, .bool x.f7.f5, .slice A45 x.f8.length c45] 41)).alloc (.cells #[.string x.f1.f0, .string x.f1.f1, .slice A3 x.f1.f2.length c3] 25)).heap.size ((w.alloc (.cells #[.int .i64 1, .string x.f1.f0, .string x.f1.f1, .slice A3 x.f1.f2.length c3, .string x.f2.f0, .string x.f2.f1, .string x.f2.f2, .string x.f2.f3, .slice A8 x.f2.f4.length c8, .string x.f2.f5, .bool x.f2.f6, .bool x.f2.f7, .int .i64 x.f2.f8, .string x.f3.f0, .string x.f3.f1, .string x.f3.f2, .slice A16 x.f3.f3.length c16, .int .i64 x.f3.f4, .int .i64 x.f3.f5, .bool x.f3.f6, .string x.f4.f0, .string x.f4.f1, .int .i64 x.f4.f2, .string x.f5.f0, .string x.f5.f1, .string x.f5.f2, .string x.f5.f3, .string x.f5.f4, .slice A28 x.f5.f5.length c28, .slice A29 x.f5.f6.length c29, .int .i64 x.f5.f7, .int .i64 x.f5.f8, .bool x.f5.f9, .string x.f6.f0, .string x.f6.f1, .string x.f6.f2, .string x.f6.f3, .slice A37 x.f6.f4.length c37, .string x.f6.f5, .string x.f7.f0, .string x.f7.f1, .slice A41 x.f7.f2.length c41, .string x.f7.f3, .int .i64 x.f7.f4, .bool x.f7.f5, .slice A45 x.f8.length c45] 41)).alloc (.cells #[.string x.f1.f0, .string x.f1.f1, .slice A3 x.f1.f2.length c3] 25)) z → (fun z => z.cell? ⟨w.heap.size + 1, 0, none⟩ = some (.string x.f1.f0) ∧ z.cell? ⟨w.heap.size + 1, 1, none⟩ = some (.string x.f1.f1) ∧ z.cell? ⟨w.heap.size + 1, 2, none⟩ = some (.slice A3 x.f1.f2.length c3)) z := fun z hz =>
    ⟨(hz.cell (p := ⟨w.heap.size + 1, 0, none⟩) (by simp)).trans (by rw [World.cell?_alloc_at _ _ _ _ (by simp)]; rfl), (hz.cell (p := ⟨w.heap.size + 1, 1, none⟩) (by simp)).trans (by rw [World.cell?_alloc_at _ _ _ _ (by simp)]; rfl), (hz.cell (p := ⟨w.heap.size + 1, 2, none⟩) (by simp)).trans (by rw [World.cell?_alloc_at _ _ _ _ (by simp)]; rfl)⟩
  have HS := hid hs
  have HW := hid hW
  have HX := hid hx
  have hl2 := hl
  have HB := hid (Below.refl ((w.alloc (.cells #[.int .i64 1, .string x.f1.f0, .string x.f1.f1, .slice A3 x.f1.f2.length c3, .string x.f2.f0, .string x.f2.f1, .string x.f2.f2, .string x.f2.f3, .slice A8 x.f2.f4.length c8, .string x.f2.f5, .bool x.f2.f6, .bool x.f2.f7, .int .i64 x.f2.f8, .string x.f3.f0, .string x.f3.f1, .string x.f3.f2, .slice A16 x.f3.f3.length c16, .int .i64 x.f3.f4, .int .i64 x.f3.f5, .bool x.f3.f6, .string x.f4.f0, .string x.f4.f1, .int .i64 x.f4.f2, .string x.f5.f0, .string x.f5.f1, .string x.f5.f2, .string x.f5.f3, .string x.f5.f4, .slice A28 x.f5.f5.length c28, .slice A29 x.f5.f6.length c29, .int .i64 x.f5.f7, .int .i64 x.f5.f8, .bool x.f5.f9, .string x.f6.f0, .string x.f6.f1, .string x.f6.f2, .string x.f6.f3, .slice A37 x.f6.f4.length c37, .string x.f6.f5, .string x.f7.f0, .string x.f7.f1, .slice A41 x.f7.f2.length c41, .string x.f7.f3, .int .i64 x.f7.f4, .bool x.f7.f5, .slice A45 x.f8.length c45] 41)).alloc (.cells #[.string x.f1.f0, .string x.f1.f1, .slice A3 x.f1.f2.length c3] 25)).heap.size ((w.alloc (.cells #[.int .i64 1, .string x.f1.f0, .string x.f1.f1, .slice A3 x.f1.f2.length c3, .string x.f2.f0, .string x.f2.f1, .string x.f2.f2, .string x.f2.f3, .slice A8 x.f2.f4.length c8, .string x.f2.f5, .bool x.f2.f6, .bool x.f2.f7, .int .i64 x.f2.f8, .string x.f3.f0, .string x.f3.f1, .string x.f3.f2, .slice A16 x.f3.f3.length c16, .int .i64 x.f3.f4, .int .i64 x.f3.f5, .bool x.f3.f6, .string x.f4.f0, .string x.f4.f1, .int .i64 x.f4.f2, .string x.f5.f0, .string x.f5.f1, .string x.f5.f2, .string x.f5.f3, .string x.f5.f4, .slice A28 x.f5.f5.length c28, .slice A29 x.f5.f6.length c29, .int .i64 x.f5.f7, .int .i64 x.f5.f8, .bool x.f5.f9, .string x.f6.f0, .string x.f6.f1, .string x.f6.f2, .string x.f6.f3, .slice A37 x.f6.f4.length c37, .string x.f6.f5, .string x.f7.f0, .string x.f7.f1, .slice A41 x.f7.f2.length c41, .string x.f7.f3, .int .i64 x.f7.f4, .bool x.f7.f5, .slice A45 x.f8.length c45] 41)).alloc (.cells #[.string x.f1.f0, .string x.f1.f1, .slice A3 x.f1.f2.length c3] 25)))
  have z0 : Sz x.f1.f0 := HX.out.1
  have z1 : Sz x.f1.f1 := HX.out.2.1
  have z2 : SzL x.f1.f2 := HX.out.2.2
  clear hs hW hx hl g3 l3 g8 l8 g16 l16 g28 l28 g29 l29 g37 l37 g41 l41 g45 l45
  simp only [consentB, List.length_append] at hl2
  go_enter Tryd.func8, Tryd.ntmps8
  obtain ⟨P1, hP1⟩ : ∃ P, bA ((textB x.f1.f0) ++ textB x.f1.f1) = P := ⟨_, rfl⟩
  have a1 := fun w' => add_bA (P := Tryd.prog) (w := w') (textB x.f1.f0) (textB x.f1.f1) (by (try simp only [List.length_append]); omega)
  rw [hP1] at a1
  obtain ⟨P2, hP2⟩ : ∃ P, bA (((textB x.f1.f0) ++ textB x.f1.f1) ++ textsB x.f1.f2) = P := ⟨_, rfl⟩
  have a2 := fun w' => add_bA (P := Tryd.prog) (w := w') ((textB x.f1.f0) ++ textB x.f1.f1) (textsB x.f1.f2) (by (try simp only [List.length_append]); omega)
  rw [hP2, hP1] at a2
  have HP1 := hid hP1
  have HP2 := hid hP2
  clear hP1 hP2
  go_wp2
  go_region_held3 (fun z => z.cell? ⟨w.heap.size + 1, 0, none⟩ = some (.string x.f1.f0) ∧ z.cell? ⟨w.heap.size + 1, 1, none⟩ = some (.string x.f1.f1) ∧ z.cell? ⟨w.heap.size + 1, 2, none⟩ = some (.slice A3 x.f1.f2.length c3)) (first | exact HS.out _ HB.out | exact HS.out _ (Below.drew HB.out))
    (first | (go_at_call 27; refine (refText _ (by assumption) _).mono ?_; rintro e z ⟨rfl, hb⟩; have n0 := hid (by first | exact below_then HB.out hb | exact below_then (Below.drew HB.out) hb : Below ((w.alloc (.cells #[.int .i64 1, .string x.f1.f0, .string x.f1.f1, .slice A3 x.f1.f2.length c3, .string x.f2.f0, .string x.f2.f1, .string x.f2.f2, .string x.f2.f3, .slice A8 x.f2.f4.length c8, .string x.f2.f5, .bool x.f2.f6, .bool x.f2.f7, .int .i64 x.f2.f8, .string x.f3.f0, .string x.f3.f1, .string x.f3.f2, .slice A16 x.f3.f3.length c16, .int .i64 x.f3.f4, .int .i64 x.f3.f5, .bool x.f3.f6, .string x.f4.f0, .string x.f4.f1, .int .i64 x.f4.f2, .string x.f5.f0, .string x.f5.f1, .string x.f5.f2, .string x.f5.f3, .string x.f5.f4, .slice A28 x.f5.f5.length c28, .slice A29 x.f5.f6.length c29, .int .i64 x.f5.f7, .int .i64 x.f5.f8, .bool x.f5.f9, .string x.f6.f0, .string x.f6.f1, .string x.f6.f2, .string x.f6.f3, .slice A37 x.f6.f4.length c37, .string x.f6.f5, .string x.f7.f0, .string x.f7.f1, .slice A41 x.f7.f2.length c41, .string x.f7.f3, .int .i64 x.f7.f4, .bool x.f7.f5, .slice A45 x.f8.length c45] 41)).alloc (.cells #[.string x.f1.f0, .string x.f1.f1, .slice A3 x.f1.f2.length c3] 25)).heap.size ((w.alloc (.cells #[.int .i64 1, .string x.f1.f0, .string x.f1.f1, .slice A3 x.f1.f2.length c3, .string x.f2.f0, .string x.f2.f1, .string x.f2.f2, .string x.f2.f3, .slice A8 x.f2.f4.length c8, .string x.f2.f5, .bool x.f2.f6, .bool x.f2.f7, .int .i64 x.f2.f8, .string x.f3.f0, .string x.f3.f1, .string x.f3.f2, .slice A16 x.f3.f3.length c16, .int .i64 x.f3.f4, .int .i64 x.f3.f5, .bool x.f3.f6, .string x.f4.f0, .string x.f4.f1, .int .i64 x.f4.f2, .string x.f5.f0, .string x.f5.f1, .string x.f5.f2, .string x.f5.f3, .string x.f5.f4, .slice A28 x.f5.f5.length c28, .slice A29 x.f5.f6.length c29, .int .i64 x.f5.f7, .int .i64 x.f5.f8, .bool x.f5.f9, .string x.f6.f0, .string x.f6.f1, .string x.f6.f2, .string x.f6.f3, .slice A37 x.f6.f4.length c37, .string x.f6.f5, .string x.f7.f0, .string x.f7.f1, .slice A41 x.f7.f2.length c41, .string x.f7.f3, .int .i64 x.f7.f4, .bool x.f7.f5, .slice A45 x.f8.length c45] 41)).alloc (.cells #[.string x.f1.f0, .string x.f1.f1, .slice A3 x.f1.f2.length c3] 25)) z); clear HB hb; have HB := n0; clear n0) | (go_at_call 28; refine (refTexts _ _ _ _ (by first | exact Kd.C_below HG3.out HB.out | exact Kd.C_below HG3.out (Below.drew HB.out)) HL3.out z2 (by omega)).mono ?_; rintro e z ⟨rfl, hb⟩; have n0 := hid (by first | exact below_then HB.out hb | exact below_then (Below.drew HB.out) hb : Below ((w.alloc (.cells #[.int .i64 1, .string x.f1.f0, .string x.f1.f1, .slice A3 x.f1.f2.length c3, .string x.f2.f0, .string x.f2.f1, .string x.f2.f2, .string x.f2.f3, .slice A8 x.f2.f4.length c8, .string x.f2.f5, .bool x.f2.f6, .bool x.f2.f7, .int .i64 x.f2.f8, .string x.f3.f0, .string x.f3.f1, .string x.f3.f2, .slice A16 x.f3.f3.length c16, .int .i64 x.f3.f4, .int .i64 x.f3.f5, .bool x.f3.f6, .string x.f4.f0, .string x.f4.f1, .int .i64 x.f4.f2, .string x.f5.f0, .string x.f5.f1, .string x.f5.f2, .string x.f5.f3, .string x.f5.f4, .slice A28 x.f5.f5.length c28, .slice A29 x.f5.f6.length c29, .int .i64 x.f5.f7, .int .i64 x.f5.f8, .bool x.f5.f9, .string x.f6.f0, .string x.f6.f1, .string x.f6.f2, .string x.f6.f3, .slice A37 x.f6.f4.length c37, .string x.f6.f5, .string x.f7.f0, .string x.f7.f1, .slice A41 x.f7.f2.length c41, .string x.f7.f3, .int .i64 x.f7.f4, .bool x.f7.f5, .slice A45 x.f8.length c45] 41)).alloc (.cells #[.string x.f1.f0, .string x.f1.f1, .slice A3 x.f1.f2.length c3] 25)).heap.size ((w.alloc (.cells #[.int .i64 1, .string x.f1.f0, .string x.f1.f1, .slice A3 x.f1.f2.length c3, .string x.f2.f0, .string x.f2.f1, .string x.f2.f2, .string x.f2.f3, .slice A8 x.f2.f4.length c8, .string x.f2.f5, .bool x.f2.f6, .bool x.f2.f7, .int .i64 x.f2.f8, .string x.f3.f0, .string x.f3.f1, .string x.f3.f2, .slice A16 x.f3.f3.length c16, .int .i64 x.f3.f4, .int .i64 x.f3.f5, .bool x.f3.f6, .string x.f4.f0, .string x.f4.f1, .int .i64 x.f4.f2, .string x.f5.f0, .string x.f5.f1, .string x.f5.f2, .string x.f5.f3, .string x.f5.f4, .slice A28 x.f5.f5.length c28, .slice A29 x.f5.f6.length c29, .int .i64 x.f5.f7, .int .i64 x.f5.f8, .bool x.f5.f9, .string x.f6.f0, .string x.f6.f1, .string x.f6.f2, .string x.f6.f3, .slice A37 x.f6.f4.length c37, .string x.f6.f5, .string x.f7.f0, .string x.f7.f1, .slice A41 x.f7.f2.length c41, .string x.f7.f3, .int .i64 x.f7.f4, .bool x.f7.f5, .slice A45 x.f8.length c45] 41)).alloc (.cells #[.string x.f1.f0, .string x.f1.f1, .slice A3 x.f1.f2.length c3] 25)) z); clear HB hb; have HB := n0; clear n0))
  all_goals
    go_wp2
    go_ret
    exact TextPost.mk (congrArg Value.string HP2.out.symm) (HW.out.trans (HB.out.mono (by simp; omega)))
end Go.Proofs.YtcgjacffemjehaaDoor

namespace Go.Proofs.YtcgjacffemjehaaDoor
open Go.RowKit
open Go.Proofs.YtcgjacffemjehaaDoorW.PrintWords (Kd rdOf)
open Go.Proofs.YtcgjacffemjehaaDoor.PRowReads
set_option linter.unusedVariables false
end Go.Proofs.YtcgjacffemjehaaDoor

namespace Go.Proofs.YtcgjacffemjehaaDoor
open Go.RowKit
open Go.Proofs.YtcgjacffemjehaaDoorW.PrintWords (Kd rdOf)
open Go.Proofs.YtcgjacffemjehaaDoor.PRowReads
set_option linter.unusedVariables false
/-- A new coder. -/
theorem WS.new (w0 : World) : WS w0 w0.heap.size (.slice none 0 0) [] (w0.alloc (.cells #[.slice none 0 0, .bool false, .bool false] 129)) :=
  ⟨(Below.refl _ _).alloc (Nat.le_refl _) _, Nat.le_refl _, heap_alloc_new w0 _, OwnB.nil _ _ _⟩
/-- The bytes that a call has made. -/
def BytesPost (l : List UInt8) (w : World) (e : Ending) (w' : World) : Prop := ∃ v, e = .returned v ∧ ReadsB w' v l ∧ Below w.heap.size w w'
theorem cells_of_alloc (w : World) (cs : Array Value) (T : TypeId) : ∀ i u, cs.toList[i]? = some u → (w.alloc (.cells cs T)).cell? ⟨w.heap.size, i, none⟩ = some u := by
  intro i u h
  rw [World.cell?_alloc_new]
  simpa using h
set_option maxHeartbeats 4000000 in
set_option maxRecDepth 100000 in
theorem refresh_w {w0 w : World} {g : Nat} {v : Value} {l : List UInt8} (h : WS w0 g v l w) (b : Nat) (x : S31)  (hb : ∀ i u, [.string x.f0, .string x.f1, .int .i64 x.f2][i]? = some u → w0.cell? ⟨b, i, none⟩ = some u)  (hx : OkRefresh x) (hl : (l ++ refreshB x).length ≤ 549755813888) :
    Calls Tryd.prog 41 #[.pointer (some ⟨g, 0, none⟩), .pointer (some ⟨b, 0, none⟩)] w (WPost w0 g (l ++ refreshB x) (.returned (.tuple #[]))) := by
  have HBB := hid hb
  have HX := hid hx
  have H0 := hid h
  simp only [refreshB, List.length_append] at hl
  clear h hb hx
  go_enter Tryd.func41, Tryd.ntmps41
  go_wp2_with fail
  refine (text_w H0.out ⟨b, 0, none⟩ x.f0 (HBB.out 0 _ rfl) (Nat.le_trans HX.out.1 (by omega)) (by (try simp only [List.length_append]); omega)).mono ?_
  intro e w1 hq
  obtain ⟨rfl, v1, h⟩ := hq
  have H1 := hid h
  clear h
  go_wp2_with fail
  refine (text_w H1.out ⟨b, 1, none⟩ x.f1 (HBB.out 1 _ rfl) (Nat.le_trans HX.out.2.1 (by omega)) (by (try simp only [List.length_append]); omega)).mono ?_
  intro e w2 hq
  obtain ⟨rfl, v2, h⟩ := hq
  have H2 := hid h
  clear h
  go_wp2_with fail
  refine (num_w H2.out ⟨b, 2, none⟩ x.f2 (HBB.out 2 _ rfl) HX.out.2.2 (by (try simp only [List.length_append]); omega)).mono ?_
  intro e w3 hq
  obtain ⟨rfl, v3, h⟩ := hq
  have H3 := hid h
  clear h
  go_wp2
  go_end0
  exact WPost.mk rfl (by simp [refreshB]) H3.out
set_option maxHeartbeats 4000000 in
set_option maxRecDepth 100000 in
theorem packRefresh_any (w : World) (x : S31)   (hx : OkRefresh x) (hl : (refreshB x).length ≤ 549755813888) :
    Calls Tryd.prog 40 #[.agg #[.string x.f0, .string x.f1, .int .i64 x.f2], .func (.func 41) #[] #[]] w (BytesPost (refreshB x) w) := by
  have HX := hid hx
  have hw := WS.new (w.alloc (.cells #[.string x.f0, .string x.f1, .int .i64 x.f2] 31))
  rw [World.size_alloc] at hw
  have HW := hid hw
  have hcc := cells_of_alloc w #[.string x.f0, .string x.f1, .int .i64 x.f2] 31
  have HCC := hid hcc
  clear hx hw hcc
  have hb0 : Below w.heap.size w (w.alloc (.cells #[.string x.f0, .string x.f1, .int .i64 x.f2] 31)) := (Below.refl _ _).alloc (Nat.le_refl _) _
  have HB0 := hid hb0
  clear hb0
  go_enter Tryd.func40, Tryd.ntmps40
  go_wp2_with fail
  refine (refresh_w HW.out w.heap.size x HCC.out  HX.out (by simpa using hl)).mono ?_
  intro e w1 hq
  obtain ⟨rfl, v1, h1⟩ := hq
  obtain ⟨c0, c1, c2, f0⟩ := h1.cells
  have H1 := hid h1
  clear h1
  go_wp2
  go_ret
  exact ⟨v1, rfl, H1.out.own.reads, HB0.out.trans (H1.out.below.mono (by simp))⟩
set_option maxHeartbeats 4000000 in
set_option maxRecDepth 100000 in
theorem rowRefresh_any (w : World) (x : S31)   (hx : OkRefresh x) (hl : (refreshB x).length ≤ 549755813888) :
    Calls Tryd.prog 11 #[.agg #[.string x.f0, .string x.f1, .int .i64 x.f2]] w (BytesPost (refreshB x) w) := by
  have hb0 : Below w.heap.size w (w.alloc (.cells #[.string x.f0, .string x.f1, .int .i64 x.f2] 31)) := (Below.refl _ _).alloc (Nat.le_refl _) _
  have HB0 := hid hb0
  have HX := hid hx
  clear hb0 hx
  go_enter Tryd.func11, Tryd.ntmps11
  go_wp2_with fail
  refine (packRefresh_any _ x  HX.out hl).mono ?_
  intro e w1 hq
  obtain ⟨v1, rfl, hr, hb⟩ := hq
  go_wp2
  go_ret
  exact ⟨v1, rfl, hr, HB0.out.trans (hb.mono (by simp))⟩
end Go.Proofs.YtcgjacffemjehaaDoor
