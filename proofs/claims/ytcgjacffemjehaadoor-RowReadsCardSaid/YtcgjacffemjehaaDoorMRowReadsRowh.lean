/-
  RowDCod, RowSmall, RowReadConsent, RowReadCode, RowReadFamily, RowReadRefresh: this proof's parts in one text.
-/
import Derived.Test.YtcgjacffemjehaaDoorMRowReadsRowe
import Derived.Test.YtcgjacffemjehaaDoorMRowReadsRowg
import Derived.Test.YtcgjacffemjehaaDoorMRowReadsRowc
import Derived.Test.YtcgjacffemjehaaDoorMRowReadsRowd
namespace Go.Proofs.YtcgjacffemjehaaDoor
open Go.RowKit
open Go.Proofs.YtcgjacffemjehaaDoorW.PrintWords (Kd rdOf results_ct)
open Go.Proofs.YtcgjacffemjehaaDoor.PRowReads
set_option linter.unusedVariables false
theorem dFour_bad (l : List UInt8) : (dFour l true).2.2 = true := by unfold dFour; split <;> rfl
theorem dFour_fwd (n : Nat) (r : List UInt8) (h : n < 4294967296) : dFour (four n ++ r) false = (n, r, false) := by
  have e1 : (four n ++ r).take 4 = four n := by rw [List.take_append_of_le_length (by rw [four_len']; omega)]; rfl
  have e2 : (four n ++ r).drop 4 = r := by rw [List.drop_append_of_le_length (by rw [four_len']; omega)]; rfl
  unfold dFour
  rw [if_neg (by rw [List.length_append, four_len']; omega), e1, e2, beN_four n h]
theorem dFour_bwd {l : List UInt8} {n : Nat} {r : List UInt8} (h : dFour l false = (n, r, false)) : l = four n ++ r ∧ n < 4294967296 := by
  unfold dFour at h
  split at h
  · simp at h
  · rename_i h4
    simp only [Prod.mk.injEq] at h
    obtain ⟨rfl, rfl, _⟩ := h
    exact ⟨by rw [four_of l (by omega), List.take_append_drop], beN_lt4 l⟩
theorem dTextCod : Cod textB dText OkT := by
  refine ⟨fun l => ?_, fun x r ho => ?_, fun l x r hr => ?_⟩
  · unfold dText; split; rfl; exact dFour_bad l
  · have hl := str_len x
    have e : textB x ++ r = four x.size ++ (x.data.toList ++ r) := by rw [textB, List.append_assoc]
    unfold dText
    rw [e, dFour_fwd x.size _ ho]
    simp only
    rw [if_neg (by rw [List.length_append]; omega), ← hl, List.take_left', List.drop_left'] <;> first | rfl | skip
  · unfold dText at hr
    obtain ⟨n, l1, b, e⟩ := trip (dFour l false)
    rw [e] at hr
    simp only at hr
    split at hr
    · simp at hr
    · rename_i hn
      simp only [Prod.mk.injEq] at hr
      obtain ⟨rfl, rfl, rfl⟩ := hr
      obtain ⟨h1, h2⟩ := dFour_bwd e
      have hs : (ByteArray.mk (l1.take n).toArray).size = n := by
        show (l1.take n).toArray.size = n
        rw [List.size_toArray, List.length_take]; omega
      refine ⟨?_, by unfold OkT; rw [hs]; exact h2⟩
      rw [textB, hs, List.append_assoc]
      show l = four n ++ ((l1.take n) ++ l1.drop n)
      rw [List.take_append_drop]
      exact h1
theorem dNumCod : Cod eight dNum I64 := by
  refine ⟨fun l => by unfold dNum; split <;> rfl, fun x r ho => ?_, fun l x r hr => ?_⟩
  · have e1 : (eight x ++ r).take 8 = eight x := by rw [List.take_append_of_le_length (by rw [eight_len']; omega)]; rfl
    have e2 : (eight x ++ r).drop 8 = r := by rw [List.drop_append_of_le_length (by rw [eight_len']; omega)]; rfl
    unfold dNum
    rw [if_neg (by rw [List.length_append, eight_len']; omega), e1, e2, beN_eight x ho]
  · unfold dNum at hr
    split at hr
    · simp at hr
    · rename_i h8
      simp only [Prod.mk.injEq] at hr
      obtain ⟨rfl, rfl, _⟩ := hr
      exact ⟨by rw [eight_of l (by omega), List.take_append_drop], wrap_i64 _⟩
theorem dTruthCod : Cod truthB dTruth (fun _ => True) := by
  refine ⟨fun l => by unfold dTruth; split <;> rfl, fun x r ho => ?_, fun l x r hr => ?_⟩
  · cases x <;> simp [dTruth, truthB, byteI]
  · unfold dTruth at hr
    split at hr
    · simp at hr
    · rename_i h1
      match l, h1 with
      | [], h1 => simp at h1
      | a :: t, h1 =>
        simp only [List.getD_cons_zero, List.drop_succ_cons, List.drop_zero, Prod.mk.injEq] at hr
        obtain ⟨rfl, rfl, _⟩ := hr
        refine ⟨?_, trivial⟩
        have h3 : a.toNat = 0 ∨ a.toNat = 1 := by simp at h1; omega
        rcases h3 with h3 | h3
        · have : a = 0 := UInt8.toNat_inj.1 (by simpa using h3)
          subst this
          simp [truthB, byteI]
        · have : a = 1 := UInt8.toNat_inj.1 (by simpa using h3)
          subst this
          simp [truthB, byteI]
theorem dListCod {α : Type} {B : α → List UInt8} {R : List UInt8 → Bool → α × List UInt8 × Bool} {ok : α → Prop} (h : Cod B R ok) : Cod (listB B) (dList R) (OkL ok) := by
  refine ⟨fun l => ?_, fun x r ho => ?_, fun l x r hr => ?_⟩
  · unfold dList; rw [dFour_bad, listLoop_bad]
  · unfold dList
    rw [listB, List.append_assoc, dFour_fwd x.length _ ho.1]
    simp only
    rw [loop_fwd h x [] r ho.2]
    rfl
  · unfold dList at hr
    obtain ⟨n, l1, b, e⟩ := trip (dFour l false)
    rw [e] at hr
    simp only at hr
    cases b with
    | true => rw [listLoop_bad] at hr; simp at hr
    | false =>
      obtain ⟨h1, h2⟩ := dFour_bwd e
      obtain ⟨xs, rfl, hl, rfl, hok⟩ := loop_bwd h _ _ _ _ _ hr
      exact ⟨by rw [h1, listB, hl, List.append_assoc], by simpa [hl] using h2, by simpa using hok⟩
theorem dTextsCod : Cod textsB (dList dText) (OkL OkT) := dListCod dTextCod
/-- Two readers that go with one writer tell the same rows. -/
theorem Cod.same {α : Type} {B : α → List UInt8} {R D : List UInt8 → Bool → α × List UInt8 × Bool} {ok : α → Prop} (h : Cod B R ok) (k : Cod B D ok) (l : List UInt8) : unR (R l false) = unR (D l false) := by
  cases e : unR (D l false) with
  | some y =>
    obtain ⟨rfl, ho⟩ := k.un_bwd e
    exact h.self ho
  | none =>
    cases e2 : unR (R l false) with
    | none => rfl
    | some y =>
      obtain ⟨rfl, ho⟩ := h.un_bwd e2
      rw [k.self ho] at e
      cases e
set_option maxHeartbeats 4000000 in
theorem dPermCod : Cod permB dPerm CPerm :=
  Cod.map (dTextCod.both dTextsCod) (fun p => ⟨p.1, p.2⟩) (fun y => (y.f0, y.f1)) (fun _ => rfl) (fun _ => rfl) (fun y => show permB y = textB y.f0 ++ (textsB y.f1) by simp only [permB]) (fun _ _ => rfl) (fun _ => Iff.rfl)
set_option maxHeartbeats 4000000 in
theorem dKeyCod : Cod keyB dKey CKey :=
  Cod.map (dTextCod.both dTextCod) (fun p => ⟨p.1, p.2⟩) (fun y => (y.f0, y.f1)) (fun _ => rfl) (fun _ => rfl) (fun y => show keyB y = textB y.f0 ++ (textB y.f1) by simp only [keyB]) (fun _ _ => rfl) (fun _ => Iff.rfl)
theorem dPermsCod : Cod permsB (dList dPerm) (OkL CPerm) := dListCod dPermCod
theorem dKeysCod : Cod keysB (dList dKey) (OkL CKey) := dListCod dKeyCod
def dConsent (l : List UInt8) (b : Bool) : S25 × List UInt8 × Bool := ((fun p => ⟨p.1, p.2.1, p.2.2⟩) ((andR dText (andR dText (dList dText))) l b).1, ((andR dText (andR dText (dList dText))) l b).2)
set_option maxHeartbeats 4000000 in
theorem dConsentCod : Cod consentB dConsent CConsent :=
  Cod.map (dTextCod.both (dTextCod.both dTextsCod)) (fun p => ⟨p.1, p.2.1, p.2.2⟩) (fun y => (y.f0, (y.f1, y.f2))) (fun _ => rfl) (fun _ => rfl) (fun y => show consentB y = textB y.f0 ++ (textB y.f1 ++ (textsB y.f2)) by simp only [consentB, List.append_assoc]) (fun _ _ => rfl) (fun _ => Iff.rfl)
def dCode (l : List UInt8) (b : Bool) : S27 × List UInt8 × Bool := ((fun p => ⟨p.1, p.2.1, p.2.2.1, p.2.2.2.1, p.2.2.2.2.1, p.2.2.2.2.2.1, p.2.2.2.2.2.2.1, p.2.2.2.2.2.2.2.1, p.2.2.2.2.2.2.2.2⟩) ((andR dText (andR dText (andR dText (andR dText (andR (dList dText) (andR dText (andR dTruth (andR dTruth dNum)))))))) l b).1, ((andR dText (andR dText (andR dText (andR dText (andR (dList dText) (andR dText (andR dTruth (andR dTruth dNum)))))))) l b).2)
set_option maxHeartbeats 4000000 in
theorem dCodeCod : Cod codeB dCode CCode :=
  Cod.map (dTextCod.both (dTextCod.both (dTextCod.both (dTextCod.both (dTextsCod.both (dTextCod.both (dTruthCod.both (dTruthCod.both dNumCod)))))))) (fun p => ⟨p.1, p.2.1, p.2.2.1, p.2.2.2.1, p.2.2.2.2.1, p.2.2.2.2.2.1, p.2.2.2.2.2.2.1, p.2.2.2.2.2.2.2.1, p.2.2.2.2.2.2.2.2⟩) (fun y => (y.f0, (y.f1, (y.f2, (y.f3, (y.f4, (y.f5, (y.f6, (y.f7, y.f8))))))))) (fun _ => rfl) (fun _ => rfl) (fun y => show codeB y = textB y.f0 ++ (textB y.f1 ++ (textB y.f2 ++ (textB y.f3 ++ (textsB y.f4 ++ (textB y.f5 ++ (truthB y.f6 ++ (truthB y.f7 ++ (eight y.f8)))))))) by simp only [codeB, List.append_assoc]) (fun _ _ => rfl) (fun _ => Iff.rfl)
def dFamily (l : List UInt8) (b : Bool) : S29 × List UInt8 × Bool := ((fun p => ⟨p.1, p.2.1, p.2.2.1, p.2.2.2.1, p.2.2.2.2.1, p.2.2.2.2.2.1, p.2.2.2.2.2.2⟩) ((andR dText (andR dText (andR dText (andR (dList dText) (andR dNum (andR dNum dTruth)))))) l b).1, ((andR dText (andR dText (andR dText (andR (dList dText) (andR dNum (andR dNum dTruth)))))) l b).2)
set_option maxHeartbeats 4000000 in
theorem dFamilyCod : Cod familyB dFamily CFamily :=
  Cod.map (dTextCod.both (dTextCod.both (dTextCod.both (dTextsCod.both (dNumCod.both (dNumCod.both dTruthCod)))))) (fun p => ⟨p.1, p.2.1, p.2.2.1, p.2.2.2.1, p.2.2.2.2.1, p.2.2.2.2.2.1, p.2.2.2.2.2.2⟩) (fun y => (y.f0, (y.f1, (y.f2, (y.f3, (y.f4, (y.f5, y.f6))))))) (fun _ => rfl) (fun _ => rfl) (fun y => show familyB y = textB y.f0 ++ (textB y.f1 ++ (textB y.f2 ++ (textsB y.f3 ++ (eight y.f4 ++ (eight y.f5 ++ (truthB y.f6)))))) by simp only [familyB, List.append_assoc]) (fun _ _ => rfl) (fun _ => Iff.rfl)
def dRefresh (l : List UInt8) (b : Bool) : S31 × List UInt8 × Bool := ((fun p => ⟨p.1, p.2.1, p.2.2⟩) ((andR dText (andR dText dNum)) l b).1, ((andR dText (andR dText dNum)) l b).2)
set_option maxHeartbeats 4000000 in
theorem dRefreshCod : Cod refreshB dRefresh CRefresh :=
  Cod.map (dTextCod.both (dTextCod.both dNumCod)) (fun p => ⟨p.1, p.2.1, p.2.2⟩) (fun y => (y.f0, (y.f1, y.f2))) (fun _ => rfl) (fun _ => rfl) (fun y => show refreshB y = textB y.f0 ++ (textB y.f1 ++ (eight y.f2)) by simp only [refreshB, List.append_assoc]) (fun _ _ => rfl) (fun _ => Iff.rfl)
def dAccess (l : List UInt8) (b : Bool) : S34 × List UInt8 × Bool := ((fun p => ⟨p.1, p.2.1, p.2.2.1, p.2.2.2.1, p.2.2.2.2.1, p.2.2.2.2.2.1, p.2.2.2.2.2.2.1, p.2.2.2.2.2.2.2.1, p.2.2.2.2.2.2.2.2.1, p.2.2.2.2.2.2.2.2.2⟩) ((andR dText (andR dText (andR dText (andR dText (andR dText (andR (dList dText) (andR (dList dPerm) (andR dNum (andR dNum dTruth))))))))) l b).1, ((andR dText (andR dText (andR dText (andR dText (andR dText (andR (dList dText) (andR (dList dPerm) (andR dNum (andR dNum dTruth))))))))) l b).2)
set_option maxHeartbeats 4000000 in
theorem dAccessCod : Cod accessB dAccess CAccess :=
  Cod.map (dTextCod.both (dTextCod.both (dTextCod.both (dTextCod.both (dTextCod.both (dTextsCod.both (dPermsCod.both (dNumCod.both (dNumCod.both dTruthCod))))))))) (fun p => ⟨p.1, p.2.1, p.2.2.1, p.2.2.2.1, p.2.2.2.2.1, p.2.2.2.2.2.1, p.2.2.2.2.2.2.1, p.2.2.2.2.2.2.2.1, p.2.2.2.2.2.2.2.2.1, p.2.2.2.2.2.2.2.2.2⟩) (fun y => (y.f0, (y.f1, (y.f2, (y.f3, (y.f4, (y.f5, (y.f6, (y.f7, (y.f8, y.f9)))))))))) (fun _ => rfl) (fun _ => rfl) (fun y => show accessB y = textB y.f0 ++ (textB y.f1 ++ (textB y.f2 ++ (textB y.f3 ++ (textB y.f4 ++ (textsB y.f5 ++ (permsB y.f6 ++ (eight y.f7 ++ (eight y.f8 ++ (truthB y.f9))))))))) by simp only [accessB, List.append_assoc]) (fun _ _ => rfl) (fun _ => Iff.rfl)
def dResource (l : List UInt8) (b : Bool) : S36 × List UInt8 × Bool := ((fun p => ⟨p.1, p.2.1, p.2.2.1, p.2.2.2.1, p.2.2.2.2.1, p.2.2.2.2.2⟩) ((andR dText (andR dText (andR dText (andR dText (andR (dList dText) dText))))) l b).1, ((andR dText (andR dText (andR dText (andR dText (andR (dList dText) dText))))) l b).2)
set_option maxHeartbeats 4000000 in
theorem dResourceCod : Cod resourceB dResource CResource :=
  Cod.map (dTextCod.both (dTextCod.both (dTextCod.both (dTextCod.both (dTextsCod.both dTextCod))))) (fun p => ⟨p.1, p.2.1, p.2.2.1, p.2.2.2.1, p.2.2.2.2.1, p.2.2.2.2.2⟩) (fun y => (y.f0, (y.f1, (y.f2, (y.f3, (y.f4, y.f5)))))) (fun _ => rfl) (fun _ => rfl) (fun y => show resourceB y = textB y.f0 ++ (textB y.f1 ++ (textB y.f2 ++ (textB y.f3 ++ (textsB y.f4 ++ (textB y.f5))))) by simp only [resourceB, List.append_assoc]) (fun _ _ => rfl) (fun _ => Iff.rfl)
def dTicket (l : List UInt8) (b : Bool) : S38 × List UInt8 × Bool := ((fun p => ⟨p.1, p.2.1, p.2.2.1, p.2.2.2.1, p.2.2.2.2.1, p.2.2.2.2.2⟩) ((andR dText (andR dText (andR (dList dPerm) (andR dText (andR dNum dTruth))))) l b).1, ((andR dText (andR dText (andR (dList dPerm) (andR dText (andR dNum dTruth))))) l b).2)
set_option maxHeartbeats 4000000 in
theorem dTicketCod : Cod ticketB dTicket CTicket :=
  Cod.map (dTextCod.both (dTextCod.both (dPermsCod.both (dTextCod.both (dNumCod.both dTruthCod))))) (fun p => ⟨p.1, p.2.1, p.2.2.1, p.2.2.2.1, p.2.2.2.2.1, p.2.2.2.2.2⟩) (fun y => (y.f0, (y.f1, (y.f2, (y.f3, (y.f4, y.f5)))))) (fun _ => rfl) (fun _ => rfl) (fun y => show ticketB y = textB y.f0 ++ (textB y.f1 ++ (permsB y.f2 ++ (textB y.f3 ++ (eight y.f4 ++ (truthB y.f5))))) by simp only [ticketB, List.append_assoc]) (fun _ _ => rfl) (fun _ => Iff.rfl)
/-- What the document's Read answers. -/
def DocPost (x : S41) (ok : Bool) (w : World) (e : Ending) (w' : World) : Prop :=
  ∃ us : Array Value, e = .returned (.tuple #[.agg us, .bool ok]) ∧ us.size = 46 ∧ us.all (·.oneCell') = true ∧ (ok = true → k41.K w' x us.toList) ∧ Below w.heap.size w w'
/-- A whole row is loaded, under a guard that is met. -/
theorem wpList_load_rowH {P : Program} {ops : Array Oper} {rest : List Oper} {o : Oper} {a : Act} {w : World} {Q : Exit → Act → World → Prop} (hw : Region.wanted o (yielded ops a.tmps) = true) (ty : TypeId) (x : Operand) (ho : o.op = .load ty x)
    (g : Nat) (hx : a.eval x = .pointer (some ⟨g, 0, none⟩)) (t : TypeId) (cs : Array Value) (fr : Nat × Nat) (d : TypeDesc) (hg : w.heap[g]? = some (.cells cs t fr))
    (hu : P.underlying ty = some d) (hd : (match d with | .struct _ | .array _ _ => true | _ => false) = true) (hi : (P.info? ty).map (·.size) = some cs.size)
    (h : wpList P ops Q rest (a.put o.dst (.agg cs)) w) : wpList P ops Q (o :: rest) a w := by
  simp only [wpList, hw, if_true]
  exact .inl (wp_load_row ty x ho g hx t cs fr d hg hu hd hi h)
/-- What stands here: a walk goes no further by itself. -/
structure Stood (p : Prop) : Prop where
  out : p
/-- A stop before the operation that writes slot d. -/
theorem wpList_stop {P : Program} {ops : Array Oper} {rest : List Oper} {o : Oper} {a : Act} {w : World} {Q : Exit → Act → World → Prop} (d : Option Tmp) (hd : o.dst = d) (h : Stood (wpList P ops Q (o :: rest) a w)) : wpList P ops Q (o :: rest) a w := h.out
theorem rowZ_info : (Tryd.prog.info? 41).map (·.size) = some rowZ.size := by rw [rowZ_size]; exact rowInfo
theorem rowZ_built : Tryd.prog.built 41 [] = some rowZ := by kernel_rfl
theorem rowZ_one : rowZ.all (·.oneCell') = true := by kernel_rfl
theorem AtB.some {w : World} {b : Nat} {T : TypeId} {vs : Array Value} (h : AtB w b T vs) (o : Nat) (ho : o < vs.size) : ∃ u, w.cell? ⟨b, o, none⟩ = some u := ⟨vs[o], (h.cell o).trans (by simp [ho])⟩
theorem InAt.mod {w w' : World} {g : Nat} {l : List UInt8} {b : Bool} {S : Nat → Prop} (h : InAt w g l b) (hm : Mod S w w') (hS : ¬ S g) : InAt w' g l b := by
  obtain ⟨s, hs, ha⟩ := h
  exact ⟨s, hs, hm.heap ha hS⟩
end Go.Proofs.YtcgjacffemjehaaDoor

namespace Go.Proofs.YtcgjacffemjehaaDoor
open Go.RowKit
open Go.Proofs.YtcgjacffemjehaaDoorW.PrintWords (Kd rdOf results_ct)
open Go.Proofs.YtcgjacffemjehaaDoor.PRowReads
set_option linter.unusedVariables false
theorem len_mem {α : Type} {B : α → List UInt8} {l : List α} {x : α} (h : x ∈ l) : (B x).length ≤ (l.flatMap B).length := by
  induction l with
  | nil => cases h
  | cons y l ih =>
    rw [List.flatMap_cons, List.length_append]
    rcases List.mem_cons.1 h with rfl | h
    · omega
    · have := ih h; omega
theorem textB_len (s : ByteArray) : (textB s).length = 4 + s.size := by rw [textB, List.length_append, four_len', str_len]
theorem textsB_len (l : List ByteArray) : (textsB l).length = 4 + (l.flatMap textB).length := by rw [textsB, List.length_append, four_len']
theorem permsB_len (l : List S86) : (permsB l).length = 4 + (l.flatMap permB).length := by rw [permsB, List.length_append, four_len']
theorem keysB_len (l : List S117) : (keysB l).length = 4 + (l.flatMap keyB).length := by rw [keysB, List.length_append, four_len']
theorem szT {s : ByteArray} (h : (textB s).length ≤ 1048576) : Sz s := by rw [textB_len] at h; unfold Sz; omega
theorem szL {l : List ByteArray} (h : (textsB l).length ≤ 1048576) : SzL l := by
  rw [textsB_len] at h
  have h1 := flat_ge textB l textB_ge
  exact ⟨by omega, fun s hs => szT (by have := len_mem (B := textB) hs; omega)⟩
theorem szP {l : List S86} (h : (permsB l).length ≤ 1048576) : SzP l := by
  rw [permsB_len] at h
  have h1 := flat_ge permB l permB_ge
  refine ⟨by omega, fun s hs => ?_⟩
  have h2 := len_mem (B := permB) hs
  have h3 : (permB s).length = (textB s.f0).length + (textsB s.f1).length := by rw [permB, List.length_append]
  exact ⟨szT (by omega), szL (by omega)⟩
theorem szK {l : List S117} (h : (keysB l).length ≤ 1048576) : SzK l := by
  rw [keysB_len] at h
  have h1 := flat_ge keyB l keyB_ge
  refine ⟨by omega, fun s hs => ?_⟩
  have h2 := len_mem (B := keyB) hs
  have h3 : (keyB s).length = (textB s.f0).length + (textB s.f1).length := by rw [keyB, List.length_append]
  exact ⟨szT (by omega), szT (by omega)⟩
theorem okConsent_few {y : S25} (h : (consentB y).length ≤ 1048576) (c : CConsent y) : OkConsent y := by
  simp only [consentB, List.length_append] at h
  exact ⟨szT (by omega), szT (by omega), szL (by omega)⟩
theorem cConsent_z : CConsent z25 := ⟨by unfold OkT; exact of_decide_eq_true (by kernel_rfl), by unfold OkT; exact of_decide_eq_true (by kernel_rfl), ⟨of_decide_eq_true (by kernel_rfl), fun _ h => by cases h⟩⟩
theorem consent_zlen : (consentB z25).length ≤ 1048576 := of_decide_eq_true (by kernel_rfl)
theorem okCode_few {y : S27} (h : (codeB y).length ≤ 1048576) (c : CCode y) : OkCode y := by
  simp only [codeB, List.length_append] at h
  exact ⟨szT (by omega), szT (by omega), szT (by omega), szT (by omega), szL (by omega), szT (by omega), c.2.2.2.2.2.2.2.2⟩
theorem cCode_z : CCode z27 := ⟨by unfold OkT; exact of_decide_eq_true (by kernel_rfl), by unfold OkT; exact of_decide_eq_true (by kernel_rfl), by unfold OkT; exact of_decide_eq_true (by kernel_rfl), by unfold OkT; exact of_decide_eq_true (by kernel_rfl), ⟨of_decide_eq_true (by kernel_rfl), fun _ h => by cases h⟩, by unfold OkT; exact of_decide_eq_true (by kernel_rfl), trivial, trivial, ⟨of_decide_eq_true (by kernel_rfl), of_decide_eq_true (by kernel_rfl)⟩⟩
theorem code_zlen : (codeB z27).length ≤ 1048576 := of_decide_eq_true (by kernel_rfl)
theorem okFamily_few {y : S29} (h : (familyB y).length ≤ 1048576) (c : CFamily y) : OkFamily y := by
  simp only [familyB, List.length_append] at h
  exact ⟨szT (by omega), szT (by omega), szT (by omega), szL (by omega), c.2.2.2.2.1, c.2.2.2.2.2.1⟩
theorem cFamily_z : CFamily z29 := ⟨by unfold OkT; exact of_decide_eq_true (by kernel_rfl), by unfold OkT; exact of_decide_eq_true (by kernel_rfl), by unfold OkT; exact of_decide_eq_true (by kernel_rfl), ⟨of_decide_eq_true (by kernel_rfl), fun _ h => by cases h⟩, ⟨of_decide_eq_true (by kernel_rfl), of_decide_eq_true (by kernel_rfl)⟩, ⟨of_decide_eq_true (by kernel_rfl), of_decide_eq_true (by kernel_rfl)⟩, trivial⟩
theorem family_zlen : (familyB z29).length ≤ 1048576 := of_decide_eq_true (by kernel_rfl)
theorem okRefresh_few {y : S31} (h : (refreshB y).length ≤ 1048576) (c : CRefresh y) : OkRefresh y := by
  simp only [refreshB, List.length_append] at h
  exact ⟨szT (by omega), szT (by omega), c.2.2⟩
theorem cRefresh_z : CRefresh z31 := ⟨by unfold OkT; exact of_decide_eq_true (by kernel_rfl), by unfold OkT; exact of_decide_eq_true (by kernel_rfl), ⟨of_decide_eq_true (by kernel_rfl), of_decide_eq_true (by kernel_rfl)⟩⟩
theorem refresh_zlen : (refreshB z31).length ≤ 1048576 := of_decide_eq_true (by kernel_rfl)
theorem okAccess_few {y : S34} (h : (accessB y).length ≤ 1048576) (c : CAccess y) : OkAccess y := by
  simp only [accessB, List.length_append] at h
  exact ⟨szT (by omega), szT (by omega), szT (by omega), szT (by omega), szT (by omega), szL (by omega), szP (by omega), c.2.2.2.2.2.2.2.1, c.2.2.2.2.2.2.2.2.1⟩
theorem cAccess_z : CAccess z34 := ⟨by unfold OkT; exact of_decide_eq_true (by kernel_rfl), by unfold OkT; exact of_decide_eq_true (by kernel_rfl), by unfold OkT; exact of_decide_eq_true (by kernel_rfl), by unfold OkT; exact of_decide_eq_true (by kernel_rfl), by unfold OkT; exact of_decide_eq_true (by kernel_rfl), ⟨of_decide_eq_true (by kernel_rfl), fun _ h => by cases h⟩, ⟨of_decide_eq_true (by kernel_rfl), fun _ h => by cases h⟩, ⟨of_decide_eq_true (by kernel_rfl), of_decide_eq_true (by kernel_rfl)⟩, ⟨of_decide_eq_true (by kernel_rfl), of_decide_eq_true (by kernel_rfl)⟩, trivial⟩
theorem access_zlen : (accessB z34).length ≤ 1048576 := of_decide_eq_true (by kernel_rfl)
theorem okResource_few {y : S36} (h : (resourceB y).length ≤ 1048576) (c : CResource y) : OkResource y := by
  simp only [resourceB, List.length_append] at h
  exact ⟨szT (by omega), szT (by omega), szT (by omega), szT (by omega), szL (by omega), szT (by omega)⟩
theorem cResource_z : CResource z36 := ⟨by unfold OkT; exact of_decide_eq_true (by kernel_rfl), by unfold OkT; exact of_decide_eq_true (by kernel_rfl), by unfold OkT; exact of_decide_eq_true (by kernel_rfl), by unfold OkT; exact of_decide_eq_true (by kernel_rfl), ⟨of_decide_eq_true (by kernel_rfl), fun _ h => by cases h⟩, by unfold OkT; exact of_decide_eq_true (by kernel_rfl)⟩
theorem resource_zlen : (resourceB z36).length ≤ 1048576 := of_decide_eq_true (by kernel_rfl)
theorem okTicket_few {y : S38} (h : (ticketB y).length ≤ 1048576) (c : CTicket y) : OkTicket y := by
  simp only [ticketB, List.length_append] at h
  exact ⟨szT (by omega), szT (by omega), szP (by omega), szT (by omega), c.2.2.2.2.1⟩
theorem cTicket_z : CTicket z38 := ⟨by unfold OkT; exact of_decide_eq_true (by kernel_rfl), by unfold OkT; exact of_decide_eq_true (by kernel_rfl), ⟨of_decide_eq_true (by kernel_rfl), fun _ h => by cases h⟩, by unfold OkT; exact of_decide_eq_true (by kernel_rfl), ⟨of_decide_eq_true (by kernel_rfl), of_decide_eq_true (by kernel_rfl)⟩, trivial⟩
theorem ticket_zlen : (ticketB z38).length ≤ 1048576 := of_decide_eq_true (by kernel_rfl)
theorem keys_zlen : (keysB []).length ≤ 1048576 := of_decide_eq_true (by kernel_rfl)
theorem cKeys_z : OkL CKey [] := ⟨of_decide_eq_true (by kernel_rfl), fun _ h => by cases h⟩
theorem okKeys_few {y : List S117} (h : (keysB y).length ≤ 1048576) (c : OkL CKey y) : SzK y := szK h
theorem smallConsent {y : S25} (h : (consentB y).length ≤ 1048576) (c : CConsent y) : Small (rowConsent y) ∧ Fits (rowConsent y) :=
  ⟨⟨okConsent_few h c, okCode_few code_zlen cCode_z, okFamily_few family_zlen cFamily_z, okRefresh_few refresh_zlen cRefresh_z, okAccess_few access_zlen cAccess_z, okResource_few resource_zlen cResource_z, okTicket_few ticket_zlen cTicket_z, szK keys_zlen⟩, ⟨Nat.le_trans h (by omega), Nat.le_trans code_zlen (by omega), Nat.le_trans family_zlen (by omega), Nat.le_trans refresh_zlen (by omega), Nat.le_trans access_zlen (by omega), Nat.le_trans resource_zlen (by omega), Nat.le_trans ticket_zlen (by omega), Nat.le_trans keys_zlen (by omega)⟩⟩
theorem smallConsent_read (l : List UInt8) (hl : l.length ≤ 1048576) : Small (rowConsent ((unR (consentR l false)).getD z25)) ∧ Fits (rowConsent ((unR (consentR l false)).getD z25)) := by
  cases e : unR (consentR l false) with
  | none => exact smallConsent consent_zlen cConsent_z
  | some y =>
    obtain ⟨rfl, c⟩ := consentCod.un_bwd e
    exact smallConsent hl c
theorem smallCode {y : S27} (h : (codeB y).length ≤ 1048576) (c : CCode y) : Small (rowCode y) ∧ Fits (rowCode y) :=
  ⟨⟨okConsent_few consent_zlen cConsent_z, okCode_few h c, okFamily_few family_zlen cFamily_z, okRefresh_few refresh_zlen cRefresh_z, okAccess_few access_zlen cAccess_z, okResource_few resource_zlen cResource_z, okTicket_few ticket_zlen cTicket_z, szK keys_zlen⟩, ⟨Nat.le_trans consent_zlen (by omega), Nat.le_trans h (by omega), Nat.le_trans family_zlen (by omega), Nat.le_trans refresh_zlen (by omega), Nat.le_trans access_zlen (by omega), Nat.le_trans resource_zlen (by omega), Nat.le_trans ticket_zlen (by omega), Nat.le_trans keys_zlen (by omega)⟩⟩
theorem smallCode_read (l : List UInt8) (hl : l.length ≤ 1048576) : Small (rowCode ((unR (codeR l false)).getD z27)) ∧ Fits (rowCode ((unR (codeR l false)).getD z27)) := by
  cases e : unR (codeR l false) with
  | none => exact smallCode code_zlen cCode_z
  | some y =>
    obtain ⟨rfl, c⟩ := codeCod.un_bwd e
    exact smallCode hl c
theorem smallFamily {y : S29} (h : (familyB y).length ≤ 1048576) (c : CFamily y) : Small (rowFamily y) ∧ Fits (rowFamily y) :=
  ⟨⟨okConsent_few consent_zlen cConsent_z, okCode_few code_zlen cCode_z, okFamily_few h c, okRefresh_few refresh_zlen cRefresh_z, okAccess_few access_zlen cAccess_z, okResource_few resource_zlen cResource_z, okTicket_few ticket_zlen cTicket_z, szK keys_zlen⟩, ⟨Nat.le_trans consent_zlen (by omega), Nat.le_trans code_zlen (by omega), Nat.le_trans h (by omega), Nat.le_trans refresh_zlen (by omega), Nat.le_trans access_zlen (by omega), Nat.le_trans resource_zlen (by omega), Nat.le_trans ticket_zlen (by omega), Nat.le_trans keys_zlen (by omega)⟩⟩
theorem smallFamily_read (l : List UInt8) (hl : l.length ≤ 1048576) : Small (rowFamily ((unR (familyR l false)).getD z29)) ∧ Fits (rowFamily ((unR (familyR l false)).getD z29)) := by
  cases e : unR (familyR l false) with
  | none => exact smallFamily family_zlen cFamily_z
  | some y =>
    obtain ⟨rfl, c⟩ := familyCod.un_bwd e
    exact smallFamily hl c
theorem smallRefresh {y : S31} (h : (refreshB y).length ≤ 1048576) (c : CRefresh y) : Small (rowRefresh y) ∧ Fits (rowRefresh y) :=
  ⟨⟨okConsent_few consent_zlen cConsent_z, okCode_few code_zlen cCode_z, okFamily_few family_zlen cFamily_z, okRefresh_few h c, okAccess_few access_zlen cAccess_z, okResource_few resource_zlen cResource_z, okTicket_few ticket_zlen cTicket_z, szK keys_zlen⟩, ⟨Nat.le_trans consent_zlen (by omega), Nat.le_trans code_zlen (by omega), Nat.le_trans family_zlen (by omega), Nat.le_trans h (by omega), Nat.le_trans access_zlen (by omega), Nat.le_trans resource_zlen (by omega), Nat.le_trans ticket_zlen (by omega), Nat.le_trans keys_zlen (by omega)⟩⟩
theorem smallRefresh_read (l : List UInt8) (hl : l.length ≤ 1048576) : Small (rowRefresh ((unR (refreshR l false)).getD z31)) ∧ Fits (rowRefresh ((unR (refreshR l false)).getD z31)) := by
  cases e : unR (refreshR l false) with
  | none => exact smallRefresh refresh_zlen cRefresh_z
  | some y =>
    obtain ⟨rfl, c⟩ := refreshCod.un_bwd e
    exact smallRefresh hl c
theorem smallAccess {y : S34} (h : (accessB y).length ≤ 1048576) (c : CAccess y) : Small (rowAccess y) ∧ Fits (rowAccess y) :=
  ⟨⟨okConsent_few consent_zlen cConsent_z, okCode_few code_zlen cCode_z, okFamily_few family_zlen cFamily_z, okRefresh_few refresh_zlen cRefresh_z, okAccess_few h c, okResource_few resource_zlen cResource_z, okTicket_few ticket_zlen cTicket_z, szK keys_zlen⟩, ⟨Nat.le_trans consent_zlen (by omega), Nat.le_trans code_zlen (by omega), Nat.le_trans family_zlen (by omega), Nat.le_trans refresh_zlen (by omega), Nat.le_trans h (by omega), Nat.le_trans resource_zlen (by omega), Nat.le_trans ticket_zlen (by omega), Nat.le_trans keys_zlen (by omega)⟩⟩
theorem smallAccess_read (l : List UInt8) (hl : l.length ≤ 1048576) : Small (rowAccess ((unR (accessR l false)).getD z34)) ∧ Fits (rowAccess ((unR (accessR l false)).getD z34)) := by
  cases e : unR (accessR l false) with
  | none => exact smallAccess access_zlen cAccess_z
  | some y =>
    obtain ⟨rfl, c⟩ := accessCod.un_bwd e
    exact smallAccess hl c
theorem smallResource {y : S36} (h : (resourceB y).length ≤ 1048576) (c : CResource y) : Small (rowResource y) ∧ Fits (rowResource y) :=
  ⟨⟨okConsent_few consent_zlen cConsent_z, okCode_few code_zlen cCode_z, okFamily_few family_zlen cFamily_z, okRefresh_few refresh_zlen cRefresh_z, okAccess_few access_zlen cAccess_z, okResource_few h c, okTicket_few ticket_zlen cTicket_z, szK keys_zlen⟩, ⟨Nat.le_trans consent_zlen (by omega), Nat.le_trans code_zlen (by omega), Nat.le_trans family_zlen (by omega), Nat.le_trans refresh_zlen (by omega), Nat.le_trans access_zlen (by omega), Nat.le_trans h (by omega), Nat.le_trans ticket_zlen (by omega), Nat.le_trans keys_zlen (by omega)⟩⟩
theorem smallResource_read (l : List UInt8) (hl : l.length ≤ 1048576) : Small (rowResource ((unR (resourceR l false)).getD z36)) ∧ Fits (rowResource ((unR (resourceR l false)).getD z36)) := by
  cases e : unR (resourceR l false) with
  | none => exact smallResource resource_zlen cResource_z
  | some y =>
    obtain ⟨rfl, c⟩ := resourceCod.un_bwd e
    exact smallResource hl c
theorem smallTicket {y : S38} (h : (ticketB y).length ≤ 1048576) (c : CTicket y) : Small (rowTicket y) ∧ Fits (rowTicket y) :=
  ⟨⟨okConsent_few consent_zlen cConsent_z, okCode_few code_zlen cCode_z, okFamily_few family_zlen cFamily_z, okRefresh_few refresh_zlen cRefresh_z, okAccess_few access_zlen cAccess_z, okResource_few resource_zlen cResource_z, okTicket_few h c, szK keys_zlen⟩, ⟨Nat.le_trans consent_zlen (by omega), Nat.le_trans code_zlen (by omega), Nat.le_trans family_zlen (by omega), Nat.le_trans refresh_zlen (by omega), Nat.le_trans access_zlen (by omega), Nat.le_trans resource_zlen (by omega), Nat.le_trans h (by omega), Nat.le_trans keys_zlen (by omega)⟩⟩
theorem smallTicket_read (l : List UInt8) (hl : l.length ≤ 1048576) : Small (rowTicket ((unR (ticketR l false)).getD z38)) ∧ Fits (rowTicket ((unR (ticketR l false)).getD z38)) := by
  cases e : unR (ticketR l false) with
  | none => exact smallTicket ticket_zlen cTicket_z
  | some y =>
    obtain ⟨rfl, c⟩ := ticketCod.un_bwd e
    exact smallTicket hl c
theorem smallKeys {y : List S117} (h : (keysB y).length ≤ 1048576) (c : OkL CKey y) : Small (rowKeysR y) ∧ Fits (rowKeysR y) :=
  ⟨⟨okConsent_few consent_zlen cConsent_z, okCode_few code_zlen cCode_z, okFamily_few family_zlen cFamily_z, okRefresh_few refresh_zlen cRefresh_z, okAccess_few access_zlen cAccess_z, okResource_few resource_zlen cResource_z, okTicket_few ticket_zlen cTicket_z, okKeys_few h c⟩, ⟨Nat.le_trans consent_zlen (by omega), Nat.le_trans code_zlen (by omega), Nat.le_trans family_zlen (by omega), Nat.le_trans refresh_zlen (by omega), Nat.le_trans access_zlen (by omega), Nat.le_trans resource_zlen (by omega), Nat.le_trans ticket_zlen (by omega), Nat.le_trans h (by omega)⟩⟩
theorem smallKeys_read (l : List UInt8) (hl : l.length ≤ 1048576) : Small (rowKeysR ((unR (listR keyR l false)).getD [])) ∧ Fits (rowKeysR ((unR (listR keyR l false)).getD [])) := by
  cases e : unR (listR keyR l false) with
  | none => exact smallKeys keys_zlen cKeys_z
  | some y =>
    obtain ⟨rfl, c⟩ := keysCod.un_bwd e
    exact smallKeys hl c
theorem small_read (k : Int) (h1 : 1 ≤ k) (h8 : k ≤ 8) (l : List UInt8) (hl : l.length ≤ 1048576) : Small (readRow k l).1 ∧ Fits (readRow k l).1 := by
  have hk : k = 1 ∨ k = 2 ∨ k = 3 ∨ k = 4 ∨ k = 5 ∨ k = 6 ∨ k = 7 ∨ k = 8 := by omega
  rcases hk with rfl | rfl | rfl | rfl | rfl | rfl | rfl | rfl
  · exact smallConsent_read l hl
  · exact smallCode_read l hl
  · exact smallFamily_read l hl
  · exact smallRefresh_read l hl
  · exact smallAccess_read l hl
  · exact smallResource_read l hl
  · exact smallTicket_read l hl
  · exact smallKeys_read l hl
end Go.Proofs.YtcgjacffemjehaaDoor

namespace Go.Proofs.YtcgjacffemjehaaDoor
open Go.RowKit
open Go.Proofs.YtcgjacffemjehaaDoorW.PrintWords (Kd rdOf results_ct)
open Go.Proofs.YtcgjacffemjehaaDoor.PRowReads
set_option linter.unusedVariables false
set_option maxHeartbeats 8000000 in
set_option maxRecDepth 100000 in
theorem readConsent (w : World) (hg : ErrorType w) (s : ByteArray) (hs : s.size ≤ 1099511627776) :
    Calls Tryd.prog 6 #[.int .i64 1, .string s] w (ReadPost (rowConsent ((unR (consentR s.data.toList false)).getD z25)) (unR (consentR s.data.toList false)).isSome w) := by
  have kc := fun (w : World) => Lib.run_convert_string_bytes (P := Tryd.prog) w 9 49 5 s Tryd.underlying9 Tryd.underlying49 Tryd.underlying5
  have hb2 : Below w.heap.size w ((w.alloc (.cells rowZ 41)).alloc (.cells (rowK 1) 41)) := ((Below.refl w.heap.size w).alloc (Nat.le_refl _) _).alloc (by simp) _
  have hs2 : ((w.alloc (.cells rowZ 41)).alloc (.cells (rowK 1) 41)).heap.size = w.heap.size + 1 + 1 := by simp
  have ha0 : AtB ((w.alloc (.cells rowZ 41)).alloc (.cells (rowK 1) 41)) w.heap.size 41 rowZ := (at_make rfl).alloc _
  have ha1 : AtB ((w.alloc (.cells rowZ 41)).alloc (.cells (rowK 1) 41)) (w.heap.size + 1) 41 (rowK 1) := at_make (by simp)
  obtain ⟨o, ho⟩ : ∃ o, unR (consentR s.data.toList false) = o := ⟨_, rfl⟩
  have hrw := reads_world ((w.alloc (.cells rowZ 41)).alloc (.cells (rowK 1) 41)) 5 s
  rw [str_len, hs2] at hrw
  have hb3 := below_bytes ((w.alloc (.cells rowZ 41)).alloc (.cells (rowK 1) 41)) 5 s
  have hc := toConsent_any _ _ _ hrw (by rw [str_len]; exact hs)
  rw [ho] at hc ⊢
  have HC := hid hc
  have HB3 := hid (below_then hb2 hb3)
  have HA0 := hid ((hb3.block _ (lt_of_heap ha0)).trans ha0 : AtB _ w.heap.size 41 rowZ)
  have HA1 := hid ((hb3.block _ (lt_of_heap ha1)).trans ha1 : AtB _ (w.heap.size + 1) 41 (rowK 1))
  have HG := hid hg
  have HGL := hid hg.lt
  clear hb2 hs2 ha0 ha1 hrw hb3 hc hg ho
  go_enter Tryd.func6, Tryd.ntmps6
  go_wp2_with (first | (refine wpList_allocTo rfl (some 4) rfl _ _ (run_allocRow _ _ rfl _) ?_) | (refine wpList_allocTo rfl (some 6) rfl _ _ (run_allocRow _ _ rfl _) ?_) | (refine wpList_buildTo rfl 41 _ rfl (some 10) rfl (rowK 1) (by kernel_rfl) ?_) | (refine wpList_store_new rfl 41 (.tmp 6) (.tmp 10) rfl rfl (w.alloc (.cells rowZ 41)) 41 rowZ (rowK 1) rfl (by simp only [World.size_alloc]; rfl) rfl (by kernel_rfl) (by kernel_rfl) (by kernel_rfl) ?_))
  go_at_call 13
  refine HC.out.mono ?_
  clear HC
  intro e w5 hq
  obtain ⟨cs3, rfl, hM, hb⟩ := hq
  obtain ⟨y, hy⟩ : ∃ y, o.getD z25 = y := ⟨_, rfl⟩
  rw [hy] at hM ⊢
  obtain ⟨v2, rfl, g2⟩ := k25_openM hM
  obtain ⟨A2, m2, c2, rfl⟩ := r_form g2
  have HM := hid (k25.M_bound hM)
  obtain ⟨oks, hoks⟩ : ∃ b, o.isSome = b := ⟨_, rfl⟩
  obtain ⟨nn, hnn⟩ : ∃ n : Int, (if oks = true then 0 else 170) = n := ⟨_, rfl⟩
  have HNN := hid hnn
  have HOK := hid hoks
  rw [hoks]
  obtain ⟨ev, hev⟩ : ∃ ev, errV oks = ev := ⟨_, rfl⟩
  rw [hev]
  have HEV := hid hev
  have hle : w.heap.size + 1 + 1 ≤ (Lib.bytesWorld ((w.alloc (.cells rowZ 41)).alloc (.cells (rowK 1) 41)) 5 s).heap.size := by have := HB3.out.size; rw [Lib.bytesWorld_size]; simp
  have HLE := hid hle
  have HA0' := hid ((hb.block _ (lt_of_heap HA0.out)).trans HA0.out : AtB w5 w.heap.size 41 rowZ)
  have hA1 : AtB w5 (w.heap.size + 1) 41 (rowK 1) := (hb.block _ (lt_of_heap HA1.out)).trans HA1.out
  have HB5 := hid (below_then HB3.out hb)
  have HG5 := hid (HG.out.below HB5.out HG.out.lt)
  have hc1 : ∃ u, w5.cell? ⟨w.heap.size + 1, 1, none⟩ = some u := ⟨_, (hA1.cell 1).trans rfl⟩
  obtain ⟨u1, hu1⟩ := hc1
  have hf1 := hA1.free 1
  have hc2 : ∃ u, w5.cell? ⟨w.heap.size + 1, 2, none⟩ = some u := ⟨_, (hA1.cell 2).trans rfl⟩
  obtain ⟨u2, hu2⟩ := hc2
  have hf2 := hA1.free 2
  have hc3 : ∃ u, w5.cell? ⟨w.heap.size + 1, 3, none⟩ = some u := ⟨_, (hA1.cell 3).trans rfl⟩
  obtain ⟨u3, hu3⟩ := hc3
  have hf3 := hA1.free 3
  have HA1' := hid hA1
  clear hb hM hev hoks hnn hA1 HA0 HA1 HB3 HG hle g2
  go_wp2_with fail
  have q : AtB (((w5.setCell ⟨w.heap.size + 1, 1, none⟩ (.string y.f0)).setCell ⟨w.heap.size + 1, 2, none⟩ (.string y.f1)).setCell ⟨w.heap.size + 1, 3, none⟩ (.slice A2 m2 c2)) (w.heap.size + 1) 41 ((((rowK 1).setIfInBounds 1 (.string y.f0)).setIfInBounds 2 (.string y.f1)).setIfInBounds 3 (.slice A2 m2 c2)) := ((((HA1'.out).set 1 (.string y.f0)).set 2 (.string y.f1)).set 3 (.slice A2 m2 c2))
  have hmod : Mod (fun k => k = w.heap.size + 1) w5 (((w5.setCell ⟨w.heap.size + 1, 1, none⟩ (.string y.f0)).setCell ⟨w.heap.size + 1, 2, none⟩ (.string y.f1)).setCell ⟨w.heap.size + 1, 3, none⟩ (.slice A2 m2 c2)) := (((Mod.refl (fun k => k = w.heap.size + 1) w5).setCell ⟨w.heap.size + 1, 1, none⟩ (.string y.f0) (.inl rfl)).setCell ⟨w.heap.size + 1, 2, none⟩ (.string y.f1) (.inl rfl)).setCell ⟨w.heap.size + 1, 3, none⟩ (.slice A2 m2 c2) (.inl rfl)
  obtain ⟨W6, hW6⟩ : ∃ W, (((w5.setCell ⟨w.heap.size + 1, 1, none⟩ (.string y.f0)).setCell ⟨w.heap.size + 1, 2, none⟩ (.string y.f1)).setCell ⟨w.heap.size + 1, 3, none⟩ (.slice A2 m2 c2)) = W := ⟨_, rfl⟩
  obtain ⟨V, hV⟩ : ∃ V, ((((rowK 1).setIfInBounds 1 (.string y.f0)).setIfInBounds 2 (.string y.f1)).setIfInBounds 3 (.slice A2 m2 c2)) = V := ⟨_, rfl⟩
  rw [hW6] at q hmod ⊢
  rw [hV] at q
  have hVs : V.size = 46 := by rw [← hV]; simp only [Array.size_setIfInBounds]; exact rowK_size 1
  have HQ := hid q
  have HMO := hid hmod
  have HVV := hid hV
  have hg6 : ErrorType W6 := hmod.cell HG5.out (show ¬ (0 = w.heap.size + 1) by have := HGL.out; omega)
  have hb6 : Below w.heap.size w W6 := HB5.out.trans (hmod.below (by have := HB5.out.size; omega) (fun x e => by omega))
  have hz6 : AtB W6 w.heap.size 41 rowZ := hmod.heap HA0'.out (by omega)
  have HG6 := hid hg6
  have HZ6 := hid hz6
  have HB6 := hid hb6
  clear hg6 hz6 hb6 hmod hV hW6
  have LT : 0 < V.toList.length := by rw [Array.length_toList]; omega
  have hi : (Tryd.prog.info? 41).map (·.size) = some V.toList.length := by rw [Array.length_toList, hVs]; exact rowInfo
  have hrA : W6.drew.rangeAt (w.heap.size + 1) 0 V.toList := (World.rangeAt_drew _ _ _ _).2 (range_of_atB q)
  refine wp_region_held_drew (S := fun W => Below w.heap.size w W ∧ W.rangeAt (w.heap.size + 1) 0 V.toList) (by kernel_rfl) ⟨Below.drew HB6.out, hrA⟩ (fun hHeld => ?_)
  refine wpAnyH_take (i := 0) (v := _) rfl (by kernel_rfl) (by kernel_rfl) (by kernel_rfl) (fun _ _ _ h => h) (yieldsIf_load_mid (by rfl) _ _ rfl (w.heap.size + 1) 0 rfl V.toList _ (fun W hW => hW.2) Tryd.underlying41 rfl hi) hHeld ?_
  try simp only [Act.put, List.setIfInBounds_toArray, Array.toArray_toList]
  refine wpAnyH_take (i := 1) (v := ev) rfl (by kernel_rfl) (by kernel_rfl) (by kernel_rfl) (fun _ _ _ h => h) (Or.inl ⟨by rfl, fun W hW => by go_simp⟩) hHeld ?_
  try simp only [Act.put]
  refine wpAnyH_ready (rs := [2]) (by kernel_rfl) (by simp) ?_
  refine AllReadyH.cons rfl (fun K hK => ?_) AllReadyH.nil
  go_simp
  have hN : Calls Tryd.prog 20 #[ev] W6.drew fun e w' => e = .returned (.int .i64 nn) ∧ Below W6.drew.heap.size W6.drew w' := by rw [← HEV.out, ← HNN.out]; exact num_errV W6.drew HG6.out oks
  refine hN.mono ?_
  clear hN
  rintro e w7 ⟨rfl, hb7⟩
  have hB7 := hHeld.1.trans (hb7.mono hHeld.1.size)
  have hR7 := range_of_below hb7 hHeld.2 LT
  have hz7 : AtB w7 w.heap.size 41 rowZ := (hb7.block w.heap.size (lt_of_heap HZ6.out)).trans HZ6.out
  have hm7 : Mod (fun k => k = w.heap.size + 1 ∨ k = w.heap.size) w5 w7 := (HMO.out.mono (fun _ _ e => .inl e)).trans (Mod.new (show Below W6.heap.size W6 w7 from ⟨hb7.os, hb7.tape, hb7.output, hb7.size, hb7.block⟩) (fun _ => False)) (fun _ e => e.elim)
  have HM7 := hid hm7
  have HZ7 := hid hz7
  clear hHeld hm7 hz7 hb7
  refine hK.out _ _ ⟨hB7, hR7⟩ (fun hHeld => ?_)
  clear hK K hB7
  try simp only [Act.put, List.setIfInBounds_toArray, List.set_cons_zero, List.set_cons_succ]
  refine wpAnyH_ready (rs := [3]) (by kernel_rfl) (by simp) ?_
  refine AllReadyH.cons rfl (fun K hK => ?_) AllReadyH.nil
  rw [if_pos (by rfl)]
  refine wp_store_row 41 (.tmp 4) (.tmp 78) rfl w.heap.size V rfl rfl 41 rowZ HZ7.out (by rw [hVs]; exact rowInfo) (by rw [hVs]; rfl) (by rw [← HVV.out]; kernel_rfl) ?_
  have hm8 : Mod (fun k => k = w.heap.size + 1 ∨ k = w.heap.size) w5 (w7.setRow w.heap.size V) := HM7.out.trans (mod_setRow w7 w.heap.size V) (fun _ e => .inl (.inr e))
  have hB8 : Below w.heap.size w (w7.setRow w.heap.size V) := hHeld.1.trans ((mod_setRow w7 w.heap.size V).below hHeld.1.size (fun x e => by omega))
  have hR8 : (w7.setRow w.heap.size V).rangeAt (w.heap.size + 1) 0 V.toList := fun j v hv => (mod_setRow w7 w.heap.size V).cell (hHeld.2 j v hv) (show ¬ (w.heap.size + 1 = w.heap.size) by omega)
  have hz8 : AtB (w7.setRow w.heap.size V) w.heap.size 41 V := at_setRow HZ7.out V
  generalize w7.setRow w.heap.size V = w8 at hm8 hB8 hR8 hz8 ⊢
  clear hHeld
  refine hK.out _ _ ⟨hB8, hR8⟩ (fun hHeld => ?_)
  clear hK K
  try simp only [Act.put, List.setIfInBounds_toArray]
  refine wpAnyH_ready (rs := [4]) (by kernel_rfl) (by simp) ?_
  refine AllReadyH.cons rfl (fun K hK => ?_) AllReadyH.nil
  go_simp
  refine hK.out _ _ hHeld (fun hHeld => ?_)
  clear hK K
  try simp only [Act.put, List.setIfInBounds_toArray, List.set_cons_zero, List.set_cons_succ]
  refine wpAnyH_done (by kernel_rfl) ?_ _
  have HBE := hid hB8
  have HZE := hid hz8
  have HME := hid hm8
  clear hHeld hB8 hR8 hz8 hm8 hrA
  go_wp2_with fail
  refine bodyPost_ret (results_ct rfl _ _ w.heap.size 41 V (0, 0) _ rfl HZE.out Tryd.underlying41 rfl (by rw [hVs]; exact rowInfo)) rfl ?_
  refine ⟨V.toList, by rw [Array.toArray_toList, HOK.out, HNN.out]; rfl, ?_, HBE.out⟩
  have hm9 : k25.M w8 w.heap.size (fun _ => True) y _ := up_mem HM.out (fun q hq e => by have := hq.2.1; have := HLE.out; omega) (by have := HLE.out; omega) HME.out
  obtain ⟨x2, e9, r2⟩ := k25_openM hm9
  cases e9
  have hfin := k41_mkM w8 w.heap.size (fun _ => True) (rowConsent y) r2 (Kd.R_nil _ _ _ _ _) (Kd.R_nil _ _ _ _ _) (Kd.R_nil _ _ _ _ _) (Kd.R_nil _ _ _ _ _) (Kd.R_nil _ _ _ _ _) (Kd.R_nil _ _ _ _ _) (Kd.R_nil _ _ _ _ _)
  have key : ∀ c c', c = c' → k41.M w8 w.heap.size (fun _ => True) (rowConsent y) c → k41.M w8 w.heap.size (fun _ => True) (rowConsent y) c' := fun _ _ e h => e ▸ h
  rw [← HVV.out, hy]
  exact key _ _ (by kernel_rfl) hfin
end Go.Proofs.YtcgjacffemjehaaDoor

namespace Go.Proofs.YtcgjacffemjehaaDoor
open Go.RowKit
open Go.Proofs.YtcgjacffemjehaaDoorW.PrintWords (Kd rdOf results_ct)
open Go.Proofs.YtcgjacffemjehaaDoor.PRowReads
set_option linter.unusedVariables false
set_option maxHeartbeats 8000000 in
set_option maxRecDepth 100000 in
theorem readCode (w : World) (hg : ErrorType w) (s : ByteArray) (hs : s.size ≤ 1099511627776) :
    Calls Tryd.prog 6 #[.int .i64 2, .string s] w (ReadPost (rowCode ((unR (codeR s.data.toList false)).getD z27)) (unR (codeR s.data.toList false)).isSome w) := by
  have kc := fun (w : World) => Lib.run_convert_string_bytes (P := Tryd.prog) w 9 49 5 s Tryd.underlying9 Tryd.underlying49 Tryd.underlying5
  have hb2 : Below w.heap.size w ((w.alloc (.cells rowZ 41)).alloc (.cells (rowK 2) 41)) := ((Below.refl w.heap.size w).alloc (Nat.le_refl _) _).alloc (by simp) _
  have hs2 : ((w.alloc (.cells rowZ 41)).alloc (.cells (rowK 2) 41)).heap.size = w.heap.size + 1 + 1 := by simp
  have ha0 : AtB ((w.alloc (.cells rowZ 41)).alloc (.cells (rowK 2) 41)) w.heap.size 41 rowZ := (at_make rfl).alloc _
  have ha1 : AtB ((w.alloc (.cells rowZ 41)).alloc (.cells (rowK 2) 41)) (w.heap.size + 1) 41 (rowK 2) := at_make (by simp)
  obtain ⟨o, ho⟩ : ∃ o, unR (codeR s.data.toList false) = o := ⟨_, rfl⟩
  have hrw := reads_world ((w.alloc (.cells rowZ 41)).alloc (.cells (rowK 2) 41)) 5 s
  rw [str_len, hs2] at hrw
  have hb3 := below_bytes ((w.alloc (.cells rowZ 41)).alloc (.cells (rowK 2) 41)) 5 s
  have hc := toCode_any _ _ _ hrw (by rw [str_len]; exact hs)
  rw [ho] at hc ⊢
  have HC := hid hc
  have HB3 := hid (below_then hb2 hb3)
  have HA0 := hid ((hb3.block _ (lt_of_heap ha0)).trans ha0 : AtB _ w.heap.size 41 rowZ)
  have HA1 := hid ((hb3.block _ (lt_of_heap ha1)).trans ha1 : AtB _ (w.heap.size + 1) 41 (rowK 2))
  have HG := hid hg
  have HGL := hid hg.lt
  clear hb2 hs2 ha0 ha1 hrw hb3 hc hg ho
  go_enter Tryd.func6, Tryd.ntmps6
  go_wp2_with (first | (refine wpList_allocTo rfl (some 4) rfl _ _ (run_allocRow _ _ rfl _) ?_) | (refine wpList_allocTo rfl (some 6) rfl _ _ (run_allocRow _ _ rfl _) ?_) | (refine wpList_buildTo rfl 41 _ rfl (some 10) rfl (rowK 2) (by kernel_rfl) ?_) | (refine wpList_store_new rfl 41 (.tmp 6) (.tmp 10) rfl rfl (w.alloc (.cells rowZ 41)) 41 rowZ (rowK 2) rfl (by simp only [World.size_alloc]; rfl) rfl (by kernel_rfl) (by kernel_rfl) (by kernel_rfl) ?_))
  go_at_call 14
  refine HC.out.mono ?_
  clear HC
  intro e w5 hq
  obtain ⟨cs3, rfl, hM, hb⟩ := hq
  obtain ⟨y, hy⟩ : ∃ y, o.getD z27 = y := ⟨_, rfl⟩
  rw [hy] at hM ⊢
  obtain ⟨v4, rfl, g4⟩ := k27_openM hM
  obtain ⟨A4, m4, c4, rfl⟩ := r_form g4
  have HM := hid (k27.M_bound hM)
  obtain ⟨oks, hoks⟩ : ∃ b, o.isSome = b := ⟨_, rfl⟩
  obtain ⟨nn, hnn⟩ : ∃ n : Int, (if oks = true then 0 else 170) = n := ⟨_, rfl⟩
  have HNN := hid hnn
  have HOK := hid hoks
  rw [hoks]
  obtain ⟨ev, hev⟩ : ∃ ev, errV oks = ev := ⟨_, rfl⟩
  rw [hev]
  have HEV := hid hev
  have hle : w.heap.size + 1 + 1 ≤ (Lib.bytesWorld ((w.alloc (.cells rowZ 41)).alloc (.cells (rowK 2) 41)) 5 s).heap.size := by have := HB3.out.size; rw [Lib.bytesWorld_size]; simp
  have HLE := hid hle
  have HA0' := hid ((hb.block _ (lt_of_heap HA0.out)).trans HA0.out : AtB w5 w.heap.size 41 rowZ)
  have hA1 : AtB w5 (w.heap.size + 1) 41 (rowK 2) := (hb.block _ (lt_of_heap HA1.out)).trans HA1.out
  have HB5 := hid (below_then HB3.out hb)
  have HG5 := hid (HG.out.below HB5.out HG.out.lt)
  have hc4 : ∃ u, w5.cell? ⟨w.heap.size + 1, 4, none⟩ = some u := ⟨_, (hA1.cell 4).trans rfl⟩
  obtain ⟨u4, hu4⟩ := hc4
  have hf4 := hA1.free 4
  have hc5 : ∃ u, w5.cell? ⟨w.heap.size + 1, 5, none⟩ = some u := ⟨_, (hA1.cell 5).trans rfl⟩
  obtain ⟨u5, hu5⟩ := hc5
  have hf5 := hA1.free 5
  have hc6 : ∃ u, w5.cell? ⟨w.heap.size + 1, 6, none⟩ = some u := ⟨_, (hA1.cell 6).trans rfl⟩
  obtain ⟨u6, hu6⟩ := hc6
  have hf6 := hA1.free 6
  have hc7 : ∃ u, w5.cell? ⟨w.heap.size + 1, 7, none⟩ = some u := ⟨_, (hA1.cell 7).trans rfl⟩
  obtain ⟨u7, hu7⟩ := hc7
  have hf7 := hA1.free 7
  have hc8 : ∃ u, w5.cell? ⟨w.heap.size + 1, 8, none⟩ = some u := ⟨_, (hA1.cell 8).trans rfl⟩
  obtain ⟨u8, hu8⟩ := hc8
  have hf8 := hA1.free 8
  have hc9 : ∃ u, w5.cell? ⟨w.heap.size + 1, 9, none⟩ = some u := ⟨_, (hA1.cell 9).trans rfl⟩
  obtain ⟨u9, hu9⟩ := hc9
  have hf9 := hA1.free 9
  have hc10 : ∃ u, w5.cell? ⟨w.heap.size + 1, 10, none⟩ = some u := ⟨_, (hA1.cell 10).trans rfl⟩
  obtain ⟨u10, hu10⟩ := hc10
  have hf10 := hA1.free 10
  have hc11 : ∃ u, w5.cell? ⟨w.heap.size + 1, 11, none⟩ = some u := ⟨_, (hA1.cell 11).trans rfl⟩
  obtain ⟨u11, hu11⟩ := hc11
  have hf11 := hA1.free 11
  have hc12 : ∃ u, w5.cell? ⟨w.heap.size + 1, 12, none⟩ = some u := ⟨_, (hA1.cell 12).trans rfl⟩
  obtain ⟨u12, hu12⟩ := hc12
  have hf12 := hA1.free 12
  have HA1' := hid hA1
  clear hb hM hev hoks hnn hA1 HA0 HA1 HB3 HG hle g4
  go_wp2_with fail
  have q : AtB (((((((((w5.setCell ⟨w.heap.size + 1, 4, none⟩ (.string y.f0)).setCell ⟨w.heap.size + 1, 5, none⟩ (.string y.f1)).setCell ⟨w.heap.size + 1, 6, none⟩ (.string y.f2)).setCell ⟨w.heap.size + 1, 7, none⟩ (.string y.f3)).setCell ⟨w.heap.size + 1, 8, none⟩ (.slice A4 m4 c4)).setCell ⟨w.heap.size + 1, 9, none⟩ (.string y.f5)).setCell ⟨w.heap.size + 1, 10, none⟩ (.bool y.f6)).setCell ⟨w.heap.size + 1, 11, none⟩ (.bool y.f7)).setCell ⟨w.heap.size + 1, 12, none⟩ (.int .i64 y.f8)) (w.heap.size + 1) 41 ((((((((((rowK 2).setIfInBounds 4 (.string y.f0)).setIfInBounds 5 (.string y.f1)).setIfInBounds 6 (.string y.f2)).setIfInBounds 7 (.string y.f3)).setIfInBounds 8 (.slice A4 m4 c4)).setIfInBounds 9 (.string y.f5)).setIfInBounds 10 (.bool y.f6)).setIfInBounds 11 (.bool y.f7)).setIfInBounds 12 (.int .i64 y.f8)) := ((((((((((HA1'.out).set 4 (.string y.f0)).set 5 (.string y.f1)).set 6 (.string y.f2)).set 7 (.string y.f3)).set 8 (.slice A4 m4 c4)).set 9 (.string y.f5)).set 10 (.bool y.f6)).set 11 (.bool y.f7)).set 12 (.int .i64 y.f8))
  have hmod : Mod (fun k => k = w.heap.size + 1) w5 (((((((((w5.setCell ⟨w.heap.size + 1, 4, none⟩ (.string y.f0)).setCell ⟨w.heap.size + 1, 5, none⟩ (.string y.f1)).setCell ⟨w.heap.size + 1, 6, none⟩ (.string y.f2)).setCell ⟨w.heap.size + 1, 7, none⟩ (.string y.f3)).setCell ⟨w.heap.size + 1, 8, none⟩ (.slice A4 m4 c4)).setCell ⟨w.heap.size + 1, 9, none⟩ (.string y.f5)).setCell ⟨w.heap.size + 1, 10, none⟩ (.bool y.f6)).setCell ⟨w.heap.size + 1, 11, none⟩ (.bool y.f7)).setCell ⟨w.heap.size + 1, 12, none⟩ (.int .i64 y.f8)) := (((((((((Mod.refl (fun k => k = w.heap.size + 1) w5).setCell ⟨w.heap.size + 1, 4, none⟩ (.string y.f0) (.inl rfl)).setCell ⟨w.heap.size + 1, 5, none⟩ (.string y.f1) (.inl rfl)).setCell ⟨w.heap.size + 1, 6, none⟩ (.string y.f2) (.inl rfl)).setCell ⟨w.heap.size + 1, 7, none⟩ (.string y.f3) (.inl rfl)).setCell ⟨w.heap.size + 1, 8, none⟩ (.slice A4 m4 c4) (.inl rfl)).setCell ⟨w.heap.size + 1, 9, none⟩ (.string y.f5) (.inl rfl)).setCell ⟨w.heap.size + 1, 10, none⟩ (.bool y.f6) (.inl rfl)).setCell ⟨w.heap.size + 1, 11, none⟩ (.bool y.f7) (.inl rfl)).setCell ⟨w.heap.size + 1, 12, none⟩ (.int .i64 y.f8) (.inl rfl)
  obtain ⟨W6, hW6⟩ : ∃ W, (((((((((w5.setCell ⟨w.heap.size + 1, 4, none⟩ (.string y.f0)).setCell ⟨w.heap.size + 1, 5, none⟩ (.string y.f1)).setCell ⟨w.heap.size + 1, 6, none⟩ (.string y.f2)).setCell ⟨w.heap.size + 1, 7, none⟩ (.string y.f3)).setCell ⟨w.heap.size + 1, 8, none⟩ (.slice A4 m4 c4)).setCell ⟨w.heap.size + 1, 9, none⟩ (.string y.f5)).setCell ⟨w.heap.size + 1, 10, none⟩ (.bool y.f6)).setCell ⟨w.heap.size + 1, 11, none⟩ (.bool y.f7)).setCell ⟨w.heap.size + 1, 12, none⟩ (.int .i64 y.f8)) = W := ⟨_, rfl⟩
  obtain ⟨V, hV⟩ : ∃ V, ((((((((((rowK 2).setIfInBounds 4 (.string y.f0)).setIfInBounds 5 (.string y.f1)).setIfInBounds 6 (.string y.f2)).setIfInBounds 7 (.string y.f3)).setIfInBounds 8 (.slice A4 m4 c4)).setIfInBounds 9 (.string y.f5)).setIfInBounds 10 (.bool y.f6)).setIfInBounds 11 (.bool y.f7)).setIfInBounds 12 (.int .i64 y.f8)) = V := ⟨_, rfl⟩
  rw [hW6] at q hmod ⊢
  rw [hV] at q
  have hVs : V.size = 46 := by rw [← hV]; simp only [Array.size_setIfInBounds]; exact rowK_size 2
  have HQ := hid q
  have HMO := hid hmod
  have HVV := hid hV
  have hg6 : ErrorType W6 := hmod.cell HG5.out (show ¬ (0 = w.heap.size + 1) by have := HGL.out; omega)
  have hb6 : Below w.heap.size w W6 := HB5.out.trans (hmod.below (by have := HB5.out.size; omega) (fun x e => by omega))
  have hz6 : AtB W6 w.heap.size 41 rowZ := hmod.heap HA0'.out (by omega)
  have HG6 := hid hg6
  have HZ6 := hid hz6
  have HB6 := hid hb6
  clear hg6 hz6 hb6 hmod hV hW6
  have LT : 0 < V.toList.length := by rw [Array.length_toList]; omega
  have hi : (Tryd.prog.info? 41).map (·.size) = some V.toList.length := by rw [Array.length_toList, hVs]; exact rowInfo
  have hrA : W6.drew.rangeAt (w.heap.size + 1) 0 V.toList := (World.rangeAt_drew _ _ _ _).2 (range_of_atB q)
  refine wp_region_held_drew (S := fun W => Below w.heap.size w W ∧ W.rangeAt (w.heap.size + 1) 0 V.toList) (by kernel_rfl) ⟨Below.drew HB6.out, hrA⟩ (fun hHeld => ?_)
  refine wpAnyH_take (i := 0) (v := _) rfl (by kernel_rfl) (by kernel_rfl) (by kernel_rfl) (fun _ _ _ h => h) (yieldsIf_load_mid (by rfl) _ _ rfl (w.heap.size + 1) 0 rfl V.toList _ (fun W hW => hW.2) Tryd.underlying41 rfl hi) hHeld ?_
  try simp only [Act.put, List.setIfInBounds_toArray, Array.toArray_toList]
  refine wpAnyH_take (i := 1) (v := ev) rfl (by kernel_rfl) (by kernel_rfl) (by kernel_rfl) (fun _ _ _ h => h) (Or.inl ⟨by rfl, fun W hW => by go_simp⟩) hHeld ?_
  try simp only [Act.put]
  refine wpAnyH_ready (rs := [2]) (by kernel_rfl) (by simp) ?_
  refine AllReadyH.cons rfl (fun K hK => ?_) AllReadyH.nil
  go_simp
  have hN : Calls Tryd.prog 20 #[ev] W6.drew fun e w' => e = .returned (.int .i64 nn) ∧ Below W6.drew.heap.size W6.drew w' := by rw [← HEV.out, ← HNN.out]; exact num_errV W6.drew HG6.out oks
  refine hN.mono ?_
  clear hN
  rintro e w7 ⟨rfl, hb7⟩
  have hB7 := hHeld.1.trans (hb7.mono hHeld.1.size)
  have hR7 := range_of_below hb7 hHeld.2 LT
  have hz7 : AtB w7 w.heap.size 41 rowZ := (hb7.block w.heap.size (lt_of_heap HZ6.out)).trans HZ6.out
  have hm7 : Mod (fun k => k = w.heap.size + 1 ∨ k = w.heap.size) w5 w7 := (HMO.out.mono (fun _ _ e => .inl e)).trans (Mod.new (show Below W6.heap.size W6 w7 from ⟨hb7.os, hb7.tape, hb7.output, hb7.size, hb7.block⟩) (fun _ => False)) (fun _ e => e.elim)
  have HM7 := hid hm7
  have HZ7 := hid hz7
  clear hHeld hm7 hz7 hb7
  refine hK.out _ _ ⟨hB7, hR7⟩ (fun hHeld => ?_)
  clear hK K hB7
  try simp only [Act.put, List.setIfInBounds_toArray, List.set_cons_zero, List.set_cons_succ]
  refine wpAnyH_ready (rs := [3]) (by kernel_rfl) (by simp) ?_
  refine AllReadyH.cons rfl (fun K hK => ?_) AllReadyH.nil
  rw [if_pos (by rfl)]
  refine wp_store_row 41 (.tmp 4) (.tmp 78) rfl w.heap.size V rfl rfl 41 rowZ HZ7.out (by rw [hVs]; exact rowInfo) (by rw [hVs]; rfl) (by rw [← HVV.out]; kernel_rfl) ?_
  have hm8 : Mod (fun k => k = w.heap.size + 1 ∨ k = w.heap.size) w5 (w7.setRow w.heap.size V) := HM7.out.trans (mod_setRow w7 w.heap.size V) (fun _ e => .inl (.inr e))
  have hB8 : Below w.heap.size w (w7.setRow w.heap.size V) := hHeld.1.trans ((mod_setRow w7 w.heap.size V).below hHeld.1.size (fun x e => by omega))
  have hR8 : (w7.setRow w.heap.size V).rangeAt (w.heap.size + 1) 0 V.toList := fun j v hv => (mod_setRow w7 w.heap.size V).cell (hHeld.2 j v hv) (show ¬ (w.heap.size + 1 = w.heap.size) by omega)
  have hz8 : AtB (w7.setRow w.heap.size V) w.heap.size 41 V := at_setRow HZ7.out V
  generalize w7.setRow w.heap.size V = w8 at hm8 hB8 hR8 hz8 ⊢
  clear hHeld
  refine hK.out _ _ ⟨hB8, hR8⟩ (fun hHeld => ?_)
  clear hK K
  try simp only [Act.put, List.setIfInBounds_toArray]
  refine wpAnyH_ready (rs := [4]) (by kernel_rfl) (by simp) ?_
  refine AllReadyH.cons rfl (fun K hK => ?_) AllReadyH.nil
  go_simp
  refine hK.out _ _ hHeld (fun hHeld => ?_)
  clear hK K
  try simp only [Act.put, List.setIfInBounds_toArray, List.set_cons_zero, List.set_cons_succ]
  refine wpAnyH_done (by kernel_rfl) ?_ _
  have HBE := hid hB8
  have HZE := hid hz8
  have HME := hid hm8
  clear hHeld hB8 hR8 hz8 hm8 hrA
  go_wp2_with fail
  refine bodyPost_ret (results_ct rfl _ _ w.heap.size 41 V (0, 0) _ rfl HZE.out Tryd.underlying41 rfl (by rw [hVs]; exact rowInfo)) rfl ?_
  refine ⟨V.toList, by rw [Array.toArray_toList, HOK.out, HNN.out]; rfl, ?_, HBE.out⟩
  have hm9 : k27.M w8 w.heap.size (fun _ => True) y _ := up_mem HM.out (fun q hq e => by have := hq.2.1; have := HLE.out; omega) (by have := HLE.out; omega) HME.out
  obtain ⟨x4, e9, r4⟩ := k27_openM hm9
  cases e9
  have hfin := k41_mkM w8 w.heap.size (fun _ => True) (rowCode y) (Kd.R_nil _ _ _ _ _) r4 (Kd.R_nil _ _ _ _ _) (Kd.R_nil _ _ _ _ _) (Kd.R_nil _ _ _ _ _) (Kd.R_nil _ _ _ _ _) (Kd.R_nil _ _ _ _ _) (Kd.R_nil _ _ _ _ _)
  have key : ∀ c c', c = c' → k41.M w8 w.heap.size (fun _ => True) (rowCode y) c → k41.M w8 w.heap.size (fun _ => True) (rowCode y) c' := fun _ _ e h => e ▸ h
  rw [← HVV.out, hy]
  exact key _ _ (by kernel_rfl) hfin
end Go.Proofs.YtcgjacffemjehaaDoor

namespace Go.Proofs.YtcgjacffemjehaaDoor
open Go.RowKit
open Go.Proofs.YtcgjacffemjehaaDoorW.PrintWords (Kd rdOf results_ct)
open Go.Proofs.YtcgjacffemjehaaDoor.PRowReads
set_option linter.unusedVariables false
set_option maxHeartbeats 8000000 in
set_option maxRecDepth 100000 in
theorem readFamily (w : World) (hg : ErrorType w) (s : ByteArray) (hs : s.size ≤ 1099511627776) :
    Calls Tryd.prog 6 #[.int .i64 3, .string s] w (ReadPost (rowFamily ((unR (familyR s.data.toList false)).getD z29)) (unR (familyR s.data.toList false)).isSome w) := by
  have kc := fun (w : World) => Lib.run_convert_string_bytes (P := Tryd.prog) w 9 49 5 s Tryd.underlying9 Tryd.underlying49 Tryd.underlying5
  have hb2 : Below w.heap.size w ((w.alloc (.cells rowZ 41)).alloc (.cells (rowK 3) 41)) := ((Below.refl w.heap.size w).alloc (Nat.le_refl _) _).alloc (by simp) _
  have hs2 : ((w.alloc (.cells rowZ 41)).alloc (.cells (rowK 3) 41)).heap.size = w.heap.size + 1 + 1 := by simp
  have ha0 : AtB ((w.alloc (.cells rowZ 41)).alloc (.cells (rowK 3) 41)) w.heap.size 41 rowZ := (at_make rfl).alloc _
  have ha1 : AtB ((w.alloc (.cells rowZ 41)).alloc (.cells (rowK 3) 41)) (w.heap.size + 1) 41 (rowK 3) := at_make (by simp)
  obtain ⟨o, ho⟩ : ∃ o, unR (familyR s.data.toList false) = o := ⟨_, rfl⟩
  have hrw := reads_world ((w.alloc (.cells rowZ 41)).alloc (.cells (rowK 3) 41)) 5 s
  rw [str_len, hs2] at hrw
  have hb3 := below_bytes ((w.alloc (.cells rowZ 41)).alloc (.cells (rowK 3) 41)) 5 s
  have hc := toFamily_any _ _ _ hrw (by rw [str_len]; exact hs)
  rw [ho] at hc ⊢
  have HC := hid hc
  have HB3 := hid (below_then hb2 hb3)
  have HA0 := hid ((hb3.block _ (lt_of_heap ha0)).trans ha0 : AtB _ w.heap.size 41 rowZ)
  have HA1 := hid ((hb3.block _ (lt_of_heap ha1)).trans ha1 : AtB _ (w.heap.size + 1) 41 (rowK 3))
  have HG := hid hg
  have HGL := hid hg.lt
  clear hb2 hs2 ha0 ha1 hrw hb3 hc hg ho
  go_enter Tryd.func6, Tryd.ntmps6
  go_wp2_with (first | (refine wpList_allocTo rfl (some 4) rfl _ _ (run_allocRow _ _ rfl _) ?_) | (refine wpList_allocTo rfl (some 6) rfl _ _ (run_allocRow _ _ rfl _) ?_) | (refine wpList_buildTo rfl 41 _ rfl (some 10) rfl (rowK 3) (by kernel_rfl) ?_) | (refine wpList_store_new rfl 41 (.tmp 6) (.tmp 10) rfl rfl (w.alloc (.cells rowZ 41)) 41 rowZ (rowK 3) rfl (by simp only [World.size_alloc]; rfl) rfl (by kernel_rfl) (by kernel_rfl) (by kernel_rfl) ?_))
  go_at_call 15
  refine HC.out.mono ?_
  clear HC
  intro e w5 hq
  obtain ⟨cs3, rfl, hM, hb⟩ := hq
  obtain ⟨y, hy⟩ : ∃ y, o.getD z29 = y := ⟨_, rfl⟩
  rw [hy] at hM ⊢
  obtain ⟨v3, rfl, g3⟩ := k29_openM hM
  obtain ⟨A3, m3, c3, rfl⟩ := r_form g3
  have HM := hid (k29.M_bound hM)
  obtain ⟨oks, hoks⟩ : ∃ b, o.isSome = b := ⟨_, rfl⟩
  obtain ⟨nn, hnn⟩ : ∃ n : Int, (if oks = true then 0 else 170) = n := ⟨_, rfl⟩
  have HNN := hid hnn
  have HOK := hid hoks
  rw [hoks]
  obtain ⟨ev, hev⟩ : ∃ ev, errV oks = ev := ⟨_, rfl⟩
  rw [hev]
  have HEV := hid hev
  have hle : w.heap.size + 1 + 1 ≤ (Lib.bytesWorld ((w.alloc (.cells rowZ 41)).alloc (.cells (rowK 3) 41)) 5 s).heap.size := by have := HB3.out.size; rw [Lib.bytesWorld_size]; simp
  have HLE := hid hle
  have HA0' := hid ((hb.block _ (lt_of_heap HA0.out)).trans HA0.out : AtB w5 w.heap.size 41 rowZ)
  have hA1 : AtB w5 (w.heap.size + 1) 41 (rowK 3) := (hb.block _ (lt_of_heap HA1.out)).trans HA1.out
  have HB5 := hid (below_then HB3.out hb)
  have HG5 := hid (HG.out.below HB5.out HG.out.lt)
  have hc13 : ∃ u, w5.cell? ⟨w.heap.size + 1, 13, none⟩ = some u := ⟨_, (hA1.cell 13).trans rfl⟩
  obtain ⟨u13, hu13⟩ := hc13
  have hf13 := hA1.free 13
  have hc14 : ∃ u, w5.cell? ⟨w.heap.size + 1, 14, none⟩ = some u := ⟨_, (hA1.cell 14).trans rfl⟩
  obtain ⟨u14, hu14⟩ := hc14
  have hf14 := hA1.free 14
  have hc15 : ∃ u, w5.cell? ⟨w.heap.size + 1, 15, none⟩ = some u := ⟨_, (hA1.cell 15).trans rfl⟩
  obtain ⟨u15, hu15⟩ := hc15
  have hf15 := hA1.free 15
  have hc16 : ∃ u, w5.cell? ⟨w.heap.size + 1, 16, none⟩ = some u := ⟨_, (hA1.cell 16).trans rfl⟩
  obtain ⟨u16, hu16⟩ := hc16
  have hf16 := hA1.free 16
  have hc17 : ∃ u, w5.cell? ⟨w.heap.size + 1, 17, none⟩ = some u := ⟨_, (hA1.cell 17).trans rfl⟩
  obtain ⟨u17, hu17⟩ := hc17
  have hf17 := hA1.free 17
  have hc18 : ∃ u, w5.cell? ⟨w.heap.size + 1, 18, none⟩ = some u := ⟨_, (hA1.cell 18).trans rfl⟩
  obtain ⟨u18, hu18⟩ := hc18
  have hf18 := hA1.free 18
  have hc19 : ∃ u, w5.cell? ⟨w.heap.size + 1, 19, none⟩ = some u := ⟨_, (hA1.cell 19).trans rfl⟩
  obtain ⟨u19, hu19⟩ := hc19
  have hf19 := hA1.free 19
  have HA1' := hid hA1
  clear hb hM hev hoks hnn hA1 HA0 HA1 HB3 HG hle g3
  go_wp2_with fail
  have q : AtB (((((((w5.setCell ⟨w.heap.size + 1, 13, none⟩ (.string y.f0)).setCell ⟨w.heap.size + 1, 14, none⟩ (.string y.f1)).setCell ⟨w.heap.size + 1, 15, none⟩ (.string y.f2)).setCell ⟨w.heap.size + 1, 16, none⟩ (.slice A3 m3 c3)).setCell ⟨w.heap.size + 1, 17, none⟩ (.int .i64 y.f4)).setCell ⟨w.heap.size + 1, 18, none⟩ (.int .i64 y.f5)).setCell ⟨w.heap.size + 1, 19, none⟩ (.bool y.f6)) (w.heap.size + 1) 41 ((((((((rowK 3).setIfInBounds 13 (.string y.f0)).setIfInBounds 14 (.string y.f1)).setIfInBounds 15 (.string y.f2)).setIfInBounds 16 (.slice A3 m3 c3)).setIfInBounds 17 (.int .i64 y.f4)).setIfInBounds 18 (.int .i64 y.f5)).setIfInBounds 19 (.bool y.f6)) := ((((((((HA1'.out).set 13 (.string y.f0)).set 14 (.string y.f1)).set 15 (.string y.f2)).set 16 (.slice A3 m3 c3)).set 17 (.int .i64 y.f4)).set 18 (.int .i64 y.f5)).set 19 (.bool y.f6))
  have hmod : Mod (fun k => k = w.heap.size + 1) w5 (((((((w5.setCell ⟨w.heap.size + 1, 13, none⟩ (.string y.f0)).setCell ⟨w.heap.size + 1, 14, none⟩ (.string y.f1)).setCell ⟨w.heap.size + 1, 15, none⟩ (.string y.f2)).setCell ⟨w.heap.size + 1, 16, none⟩ (.slice A3 m3 c3)).setCell ⟨w.heap.size + 1, 17, none⟩ (.int .i64 y.f4)).setCell ⟨w.heap.size + 1, 18, none⟩ (.int .i64 y.f5)).setCell ⟨w.heap.size + 1, 19, none⟩ (.bool y.f6)) := (((((((Mod.refl (fun k => k = w.heap.size + 1) w5).setCell ⟨w.heap.size + 1, 13, none⟩ (.string y.f0) (.inl rfl)).setCell ⟨w.heap.size + 1, 14, none⟩ (.string y.f1) (.inl rfl)).setCell ⟨w.heap.size + 1, 15, none⟩ (.string y.f2) (.inl rfl)).setCell ⟨w.heap.size + 1, 16, none⟩ (.slice A3 m3 c3) (.inl rfl)).setCell ⟨w.heap.size + 1, 17, none⟩ (.int .i64 y.f4) (.inl rfl)).setCell ⟨w.heap.size + 1, 18, none⟩ (.int .i64 y.f5) (.inl rfl)).setCell ⟨w.heap.size + 1, 19, none⟩ (.bool y.f6) (.inl rfl)
  obtain ⟨W6, hW6⟩ : ∃ W, (((((((w5.setCell ⟨w.heap.size + 1, 13, none⟩ (.string y.f0)).setCell ⟨w.heap.size + 1, 14, none⟩ (.string y.f1)).setCell ⟨w.heap.size + 1, 15, none⟩ (.string y.f2)).setCell ⟨w.heap.size + 1, 16, none⟩ (.slice A3 m3 c3)).setCell ⟨w.heap.size + 1, 17, none⟩ (.int .i64 y.f4)).setCell ⟨w.heap.size + 1, 18, none⟩ (.int .i64 y.f5)).setCell ⟨w.heap.size + 1, 19, none⟩ (.bool y.f6)) = W := ⟨_, rfl⟩
  obtain ⟨V, hV⟩ : ∃ V, ((((((((rowK 3).setIfInBounds 13 (.string y.f0)).setIfInBounds 14 (.string y.f1)).setIfInBounds 15 (.string y.f2)).setIfInBounds 16 (.slice A3 m3 c3)).setIfInBounds 17 (.int .i64 y.f4)).setIfInBounds 18 (.int .i64 y.f5)).setIfInBounds 19 (.bool y.f6)) = V := ⟨_, rfl⟩
  rw [hW6] at q hmod ⊢
  rw [hV] at q
  have hVs : V.size = 46 := by rw [← hV]; simp only [Array.size_setIfInBounds]; exact rowK_size 3
  have HQ := hid q
  have HMO := hid hmod
  have HVV := hid hV
  have hg6 : ErrorType W6 := hmod.cell HG5.out (show ¬ (0 = w.heap.size + 1) by have := HGL.out; omega)
  have hb6 : Below w.heap.size w W6 := HB5.out.trans (hmod.below (by have := HB5.out.size; omega) (fun x e => by omega))
  have hz6 : AtB W6 w.heap.size 41 rowZ := hmod.heap HA0'.out (by omega)
  have HG6 := hid hg6
  have HZ6 := hid hz6
  have HB6 := hid hb6
  clear hg6 hz6 hb6 hmod hV hW6
  have LT : 0 < V.toList.length := by rw [Array.length_toList]; omega
  have hi : (Tryd.prog.info? 41).map (·.size) = some V.toList.length := by rw [Array.length_toList, hVs]; exact rowInfo
  have hrA : W6.drew.rangeAt (w.heap.size + 1) 0 V.toList := (World.rangeAt_drew _ _ _ _).2 (range_of_atB q)
  refine wp_region_held_drew (S := fun W => Below w.heap.size w W ∧ W.rangeAt (w.heap.size + 1) 0 V.toList) (by kernel_rfl) ⟨Below.drew HB6.out, hrA⟩ (fun hHeld => ?_)
  refine wpAnyH_take (i := 0) (v := _) rfl (by kernel_rfl) (by kernel_rfl) (by kernel_rfl) (fun _ _ _ h => h) (yieldsIf_load_mid (by rfl) _ _ rfl (w.heap.size + 1) 0 rfl V.toList _ (fun W hW => hW.2) Tryd.underlying41 rfl hi) hHeld ?_
  try simp only [Act.put, List.setIfInBounds_toArray, Array.toArray_toList]
  refine wpAnyH_take (i := 1) (v := ev) rfl (by kernel_rfl) (by kernel_rfl) (by kernel_rfl) (fun _ _ _ h => h) (Or.inl ⟨by rfl, fun W hW => by go_simp⟩) hHeld ?_
  try simp only [Act.put]
  refine wpAnyH_ready (rs := [2]) (by kernel_rfl) (by simp) ?_
  refine AllReadyH.cons rfl (fun K hK => ?_) AllReadyH.nil
  go_simp
  have hN : Calls Tryd.prog 20 #[ev] W6.drew fun e w' => e = .returned (.int .i64 nn) ∧ Below W6.drew.heap.size W6.drew w' := by rw [← HEV.out, ← HNN.out]; exact num_errV W6.drew HG6.out oks
  refine hN.mono ?_
  clear hN
  rintro e w7 ⟨rfl, hb7⟩
  have hB7 := hHeld.1.trans (hb7.mono hHeld.1.size)
  have hR7 := range_of_below hb7 hHeld.2 LT
  have hz7 : AtB w7 w.heap.size 41 rowZ := (hb7.block w.heap.size (lt_of_heap HZ6.out)).trans HZ6.out
  have hm7 : Mod (fun k => k = w.heap.size + 1 ∨ k = w.heap.size) w5 w7 := (HMO.out.mono (fun _ _ e => .inl e)).trans (Mod.new (show Below W6.heap.size W6 w7 from ⟨hb7.os, hb7.tape, hb7.output, hb7.size, hb7.block⟩) (fun _ => False)) (fun _ e => e.elim)
  have HM7 := hid hm7
  have HZ7 := hid hz7
  clear hHeld hm7 hz7 hb7
  refine hK.out _ _ ⟨hB7, hR7⟩ (fun hHeld => ?_)
  clear hK K hB7
  try simp only [Act.put, List.setIfInBounds_toArray, List.set_cons_zero, List.set_cons_succ]
  refine wpAnyH_ready (rs := [3]) (by kernel_rfl) (by simp) ?_
  refine AllReadyH.cons rfl (fun K hK => ?_) AllReadyH.nil
  rw [if_pos (by rfl)]
  refine wp_store_row 41 (.tmp 4) (.tmp 78) rfl w.heap.size V rfl rfl 41 rowZ HZ7.out (by rw [hVs]; exact rowInfo) (by rw [hVs]; rfl) (by rw [← HVV.out]; kernel_rfl) ?_
  have hm8 : Mod (fun k => k = w.heap.size + 1 ∨ k = w.heap.size) w5 (w7.setRow w.heap.size V) := HM7.out.trans (mod_setRow w7 w.heap.size V) (fun _ e => .inl (.inr e))
  have hB8 : Below w.heap.size w (w7.setRow w.heap.size V) := hHeld.1.trans ((mod_setRow w7 w.heap.size V).below hHeld.1.size (fun x e => by omega))
  have hR8 : (w7.setRow w.heap.size V).rangeAt (w.heap.size + 1) 0 V.toList := fun j v hv => (mod_setRow w7 w.heap.size V).cell (hHeld.2 j v hv) (show ¬ (w.heap.size + 1 = w.heap.size) by omega)
  have hz8 : AtB (w7.setRow w.heap.size V) w.heap.size 41 V := at_setRow HZ7.out V
  generalize w7.setRow w.heap.size V = w8 at hm8 hB8 hR8 hz8 ⊢
  clear hHeld
  refine hK.out _ _ ⟨hB8, hR8⟩ (fun hHeld => ?_)
  clear hK K
  try simp only [Act.put, List.setIfInBounds_toArray]
  refine wpAnyH_ready (rs := [4]) (by kernel_rfl) (by simp) ?_
  refine AllReadyH.cons rfl (fun K hK => ?_) AllReadyH.nil
  go_simp
  refine hK.out _ _ hHeld (fun hHeld => ?_)
  clear hK K
  try simp only [Act.put, List.setIfInBounds_toArray, List.set_cons_zero, List.set_cons_succ]
  refine wpAnyH_done (by kernel_rfl) ?_ _
  have HBE := hid hB8
  have HZE := hid hz8
  have HME := hid hm8
  clear hHeld hB8 hR8 hz8 hm8 hrA
  go_wp2_with fail
  refine bodyPost_ret (results_ct rfl _ _ w.heap.size 41 V (0, 0) _ rfl HZE.out Tryd.underlying41 rfl (by rw [hVs]; exact rowInfo)) rfl ?_
  refine ⟨V.toList, by rw [Array.toArray_toList, HOK.out, HNN.out]; rfl, ?_, HBE.out⟩
  have hm9 : k29.M w8 w.heap.size (fun _ => True) y _ := up_mem HM.out (fun q hq e => by have := hq.2.1; have := HLE.out; omega) (by have := HLE.out; omega) HME.out
  obtain ⟨x3, e9, r3⟩ := k29_openM hm9
  cases e9
  have hfin := k41_mkM w8 w.heap.size (fun _ => True) (rowFamily y) (Kd.R_nil _ _ _ _ _) (Kd.R_nil _ _ _ _ _) r3 (Kd.R_nil _ _ _ _ _) (Kd.R_nil _ _ _ _ _) (Kd.R_nil _ _ _ _ _) (Kd.R_nil _ _ _ _ _) (Kd.R_nil _ _ _ _ _)
  have key : ∀ c c', c = c' → k41.M w8 w.heap.size (fun _ => True) (rowFamily y) c → k41.M w8 w.heap.size (fun _ => True) (rowFamily y) c' := fun _ _ e h => e ▸ h
  rw [← HVV.out, hy]
  exact key _ _ (by kernel_rfl) hfin
end Go.Proofs.YtcgjacffemjehaaDoor

namespace Go.Proofs.YtcgjacffemjehaaDoor
open Go.RowKit
open Go.Proofs.YtcgjacffemjehaaDoorW.PrintWords (Kd rdOf results_ct)
open Go.Proofs.YtcgjacffemjehaaDoor.PRowReads
set_option linter.unusedVariables false
set_option maxHeartbeats 8000000 in
set_option maxRecDepth 100000 in
theorem readRefresh (w : World) (hg : ErrorType w) (s : ByteArray) (hs : s.size ≤ 1099511627776) :
    Calls Tryd.prog 6 #[.int .i64 4, .string s] w (ReadPost (rowRefresh ((unR (refreshR s.data.toList false)).getD z31)) (unR (refreshR s.data.toList false)).isSome w) := by
  have kc := fun (w : World) => Lib.run_convert_string_bytes (P := Tryd.prog) w 9 49 5 s Tryd.underlying9 Tryd.underlying49 Tryd.underlying5
  have hb2 : Below w.heap.size w ((w.alloc (.cells rowZ 41)).alloc (.cells (rowK 4) 41)) := ((Below.refl w.heap.size w).alloc (Nat.le_refl _) _).alloc (by simp) _
  have hs2 : ((w.alloc (.cells rowZ 41)).alloc (.cells (rowK 4) 41)).heap.size = w.heap.size + 1 + 1 := by simp
  have ha0 : AtB ((w.alloc (.cells rowZ 41)).alloc (.cells (rowK 4) 41)) w.heap.size 41 rowZ := (at_make rfl).alloc _
  have ha1 : AtB ((w.alloc (.cells rowZ 41)).alloc (.cells (rowK 4) 41)) (w.heap.size + 1) 41 (rowK 4) := at_make (by simp)
  obtain ⟨o, ho⟩ : ∃ o, unR (refreshR s.data.toList false) = o := ⟨_, rfl⟩
  have hrw := reads_world ((w.alloc (.cells rowZ 41)).alloc (.cells (rowK 4) 41)) 5 s
  rw [str_len, hs2] at hrw
  have hb3 := below_bytes ((w.alloc (.cells rowZ 41)).alloc (.cells (rowK 4) 41)) 5 s
  have hc := toRefresh_any _ _ _ hrw (by rw [str_len]; exact hs)
  rw [ho] at hc ⊢
  have HC := hid hc
  have HB3 := hid (below_then hb2 hb3)
  have HA0 := hid ((hb3.block _ (lt_of_heap ha0)).trans ha0 : AtB _ w.heap.size 41 rowZ)
  have HA1 := hid ((hb3.block _ (lt_of_heap ha1)).trans ha1 : AtB _ (w.heap.size + 1) 41 (rowK 4))
  have HG := hid hg
  have HGL := hid hg.lt
  clear hb2 hs2 ha0 ha1 hrw hb3 hc hg ho
  go_enter Tryd.func6, Tryd.ntmps6
  go_wp2_with (first | (refine wpList_allocTo rfl (some 4) rfl _ _ (run_allocRow _ _ rfl _) ?_) | (refine wpList_allocTo rfl (some 6) rfl _ _ (run_allocRow _ _ rfl _) ?_) | (refine wpList_buildTo rfl 41 _ rfl (some 10) rfl (rowK 4) (by kernel_rfl) ?_) | (refine wpList_store_new rfl 41 (.tmp 6) (.tmp 10) rfl rfl (w.alloc (.cells rowZ 41)) 41 rowZ (rowK 4) rfl (by simp only [World.size_alloc]; rfl) rfl (by kernel_rfl) (by kernel_rfl) (by kernel_rfl) ?_))
  go_at_call 12
  refine HC.out.mono ?_
  clear HC
  intro e w5 hq
  obtain ⟨cs3, rfl, hM, hb⟩ := hq
  obtain ⟨y, hy⟩ : ∃ y, o.getD z31 = y := ⟨_, rfl⟩
  rw [hy] at hM ⊢
  obtain rfl := k31_openM hM
  have HM := hid (k31.M_bound hM)
  obtain ⟨oks, hoks⟩ : ∃ b, o.isSome = b := ⟨_, rfl⟩
  obtain ⟨nn, hnn⟩ : ∃ n : Int, (if oks = true then 0 else 170) = n := ⟨_, rfl⟩
  have HNN := hid hnn
  have HOK := hid hoks
  rw [hoks]
  obtain ⟨ev, hev⟩ : ∃ ev, errV oks = ev := ⟨_, rfl⟩
  rw [hev]
  have HEV := hid hev
  have hle : w.heap.size + 1 + 1 ≤ (Lib.bytesWorld ((w.alloc (.cells rowZ 41)).alloc (.cells (rowK 4) 41)) 5 s).heap.size := by have := HB3.out.size; rw [Lib.bytesWorld_size]; simp
  have HLE := hid hle
  have HA0' := hid ((hb.block _ (lt_of_heap HA0.out)).trans HA0.out : AtB w5 w.heap.size 41 rowZ)
  have hA1 : AtB w5 (w.heap.size + 1) 41 (rowK 4) := (hb.block _ (lt_of_heap HA1.out)).trans HA1.out
  have HB5 := hid (below_then HB3.out hb)
  have HG5 := hid (HG.out.below HB5.out HG.out.lt)
  have hc20 : ∃ u, w5.cell? ⟨w.heap.size + 1, 20, none⟩ = some u := ⟨_, (hA1.cell 20).trans rfl⟩
  obtain ⟨u20, hu20⟩ := hc20
  have hf20 := hA1.free 20
  have hc21 : ∃ u, w5.cell? ⟨w.heap.size + 1, 21, none⟩ = some u := ⟨_, (hA1.cell 21).trans rfl⟩
  obtain ⟨u21, hu21⟩ := hc21
  have hf21 := hA1.free 21
  have hc22 : ∃ u, w5.cell? ⟨w.heap.size + 1, 22, none⟩ = some u := ⟨_, (hA1.cell 22).trans rfl⟩
  obtain ⟨u22, hu22⟩ := hc22
  have hf22 := hA1.free 22
  have HA1' := hid hA1
  clear hb hM hev hoks hnn hA1 HA0 HA1 HB3 HG hle 
  go_wp2_with fail
  have q : AtB (((w5.setCell ⟨w.heap.size + 1, 20, none⟩ (.string y.f0)).setCell ⟨w.heap.size + 1, 21, none⟩ (.string y.f1)).setCell ⟨w.heap.size + 1, 22, none⟩ (.int .i64 y.f2)) (w.heap.size + 1) 41 ((((rowK 4).setIfInBounds 20 (.string y.f0)).setIfInBounds 21 (.string y.f1)).setIfInBounds 22 (.int .i64 y.f2)) := ((((HA1'.out).set 20 (.string y.f0)).set 21 (.string y.f1)).set 22 (.int .i64 y.f2))
  have hmod : Mod (fun k => k = w.heap.size + 1) w5 (((w5.setCell ⟨w.heap.size + 1, 20, none⟩ (.string y.f0)).setCell ⟨w.heap.size + 1, 21, none⟩ (.string y.f1)).setCell ⟨w.heap.size + 1, 22, none⟩ (.int .i64 y.f2)) := (((Mod.refl (fun k => k = w.heap.size + 1) w5).setCell ⟨w.heap.size + 1, 20, none⟩ (.string y.f0) (.inl rfl)).setCell ⟨w.heap.size + 1, 21, none⟩ (.string y.f1) (.inl rfl)).setCell ⟨w.heap.size + 1, 22, none⟩ (.int .i64 y.f2) (.inl rfl)
  obtain ⟨W6, hW6⟩ : ∃ W, (((w5.setCell ⟨w.heap.size + 1, 20, none⟩ (.string y.f0)).setCell ⟨w.heap.size + 1, 21, none⟩ (.string y.f1)).setCell ⟨w.heap.size + 1, 22, none⟩ (.int .i64 y.f2)) = W := ⟨_, rfl⟩
  obtain ⟨V, hV⟩ : ∃ V, ((((rowK 4).setIfInBounds 20 (.string y.f0)).setIfInBounds 21 (.string y.f1)).setIfInBounds 22 (.int .i64 y.f2)) = V := ⟨_, rfl⟩
  rw [hW6] at q hmod ⊢
  rw [hV] at q
  have hVs : V.size = 46 := by rw [← hV]; simp only [Array.size_setIfInBounds]; exact rowK_size 4
  have HQ := hid q
  have HMO := hid hmod
  have HVV := hid hV
  have hg6 : ErrorType W6 := hmod.cell HG5.out (show ¬ (0 = w.heap.size + 1) by have := HGL.out; omega)
  have hb6 : Below w.heap.size w W6 := HB5.out.trans (hmod.below (by have := HB5.out.size; omega) (fun x e => by omega))
  have hz6 : AtB W6 w.heap.size 41 rowZ := hmod.heap HA0'.out (by omega)
  have HG6 := hid hg6
  have HZ6 := hid hz6
  have HB6 := hid hb6
  clear hg6 hz6 hb6 hmod hV hW6
  have LT : 0 < V.toList.length := by rw [Array.length_toList]; omega
  have hi : (Tryd.prog.info? 41).map (·.size) = some V.toList.length := by rw [Array.length_toList, hVs]; exact rowInfo
  have hrA : W6.drew.rangeAt (w.heap.size + 1) 0 V.toList := (World.rangeAt_drew _ _ _ _).2 (range_of_atB q)
  refine wp_region_held_drew (S := fun W => Below w.heap.size w W ∧ W.rangeAt (w.heap.size + 1) 0 V.toList) (by kernel_rfl) ⟨Below.drew HB6.out, hrA⟩ (fun hHeld => ?_)
  refine wpAnyH_take (i := 0) (v := _) rfl (by kernel_rfl) (by kernel_rfl) (by kernel_rfl) (fun _ _ _ h => h) (yieldsIf_load_mid (by rfl) _ _ rfl (w.heap.size + 1) 0 rfl V.toList _ (fun W hW => hW.2) Tryd.underlying41 rfl hi) hHeld ?_
  try simp only [Act.put, List.setIfInBounds_toArray, Array.toArray_toList]
  refine wpAnyH_take (i := 1) (v := ev) rfl (by kernel_rfl) (by kernel_rfl) (by kernel_rfl) (fun _ _ _ h => h) (Or.inl ⟨by rfl, fun W hW => by go_simp⟩) hHeld ?_
  try simp only [Act.put]
  refine wpAnyH_ready (rs := [2]) (by kernel_rfl) (by simp) ?_
  refine AllReadyH.cons rfl (fun K hK => ?_) AllReadyH.nil
  go_simp
  have hN : Calls Tryd.prog 20 #[ev] W6.drew fun e w' => e = .returned (.int .i64 nn) ∧ Below W6.drew.heap.size W6.drew w' := by rw [← HEV.out, ← HNN.out]; exact num_errV W6.drew HG6.out oks
  refine hN.mono ?_
  clear hN
  rintro e w7 ⟨rfl, hb7⟩
  have hB7 := hHeld.1.trans (hb7.mono hHeld.1.size)
  have hR7 := range_of_below hb7 hHeld.2 LT
  have hz7 : AtB w7 w.heap.size 41 rowZ := (hb7.block w.heap.size (lt_of_heap HZ6.out)).trans HZ6.out
  have hm7 : Mod (fun k => k = w.heap.size + 1 ∨ k = w.heap.size) w5 w7 := (HMO.out.mono (fun _ _ e => .inl e)).trans (Mod.new (show Below W6.heap.size W6 w7 from ⟨hb7.os, hb7.tape, hb7.output, hb7.size, hb7.block⟩) (fun _ => False)) (fun _ e => e.elim)
  have HM7 := hid hm7
  have HZ7 := hid hz7
  clear hHeld hm7 hz7 hb7
  refine hK.out _ _ ⟨hB7, hR7⟩ (fun hHeld => ?_)
  clear hK K hB7
  try simp only [Act.put, List.setIfInBounds_toArray, List.set_cons_zero, List.set_cons_succ]
  refine wpAnyH_ready (rs := [3]) (by kernel_rfl) (by simp) ?_
  refine AllReadyH.cons rfl (fun K hK => ?_) AllReadyH.nil
  rw [if_pos (by rfl)]
  refine wp_store_row 41 (.tmp 4) (.tmp 78) rfl w.heap.size V rfl rfl 41 rowZ HZ7.out (by rw [hVs]; exact rowInfo) (by rw [hVs]; rfl) (by rw [← HVV.out]; kernel_rfl) ?_
  have hm8 : Mod (fun k => k = w.heap.size + 1 ∨ k = w.heap.size) w5 (w7.setRow w.heap.size V) := HM7.out.trans (mod_setRow w7 w.heap.size V) (fun _ e => .inl (.inr e))
  have hB8 : Below w.heap.size w (w7.setRow w.heap.size V) := hHeld.1.trans ((mod_setRow w7 w.heap.size V).below hHeld.1.size (fun x e => by omega))
  have hR8 : (w7.setRow w.heap.size V).rangeAt (w.heap.size + 1) 0 V.toList := fun j v hv => (mod_setRow w7 w.heap.size V).cell (hHeld.2 j v hv) (show ¬ (w.heap.size + 1 = w.heap.size) by omega)
  have hz8 : AtB (w7.setRow w.heap.size V) w.heap.size 41 V := at_setRow HZ7.out V
  generalize w7.setRow w.heap.size V = w8 at hm8 hB8 hR8 hz8 ⊢
  clear hHeld
  refine hK.out _ _ ⟨hB8, hR8⟩ (fun hHeld => ?_)
  clear hK K
  try simp only [Act.put, List.setIfInBounds_toArray]
  refine wpAnyH_ready (rs := [4]) (by kernel_rfl) (by simp) ?_
  refine AllReadyH.cons rfl (fun K hK => ?_) AllReadyH.nil
  go_simp
  refine hK.out _ _ hHeld (fun hHeld => ?_)
  clear hK K
  try simp only [Act.put, List.setIfInBounds_toArray, List.set_cons_zero, List.set_cons_succ]
  refine wpAnyH_done (by kernel_rfl) ?_ _
  have HBE := hid hB8
  have HZE := hid hz8
  have HME := hid hm8
  clear hHeld hB8 hR8 hz8 hm8 hrA
  go_wp2_with fail
  refine bodyPost_ret (results_ct rfl _ _ w.heap.size 41 V (0, 0) _ rfl HZE.out Tryd.underlying41 rfl (by rw [hVs]; exact rowInfo)) rfl ?_
  refine ⟨V.toList, by rw [Array.toArray_toList, HOK.out, HNN.out]; rfl, ?_, HBE.out⟩
  have hm9 : k31.M w8 w.heap.size (fun _ => True) y _ := up_mem HM.out (fun q hq e => by have := hq.2.1; have := HLE.out; omega) (by have := HLE.out; omega) HME.out
  have hfin := k41_mkM w8 w.heap.size (fun _ => True) (rowRefresh y) (Kd.R_nil _ _ _ _ _) (Kd.R_nil _ _ _ _ _) (Kd.R_nil _ _ _ _ _) (Kd.R_nil _ _ _ _ _) (Kd.R_nil _ _ _ _ _) (Kd.R_nil _ _ _ _ _) (Kd.R_nil _ _ _ _ _) (Kd.R_nil _ _ _ _ _)
  have key : ∀ c c', c = c' → k41.M w8 w.heap.size (fun _ => True) (rowRefresh y) c → k41.M w8 w.heap.size (fun _ => True) (rowRefresh y) c' := fun _ _ e h => e ▸ h
  rw [← HVV.out, hy]
  exact key _ _ (by kernel_rfl) hfin
end Go.Proofs.YtcgjacffemjehaaDoor
