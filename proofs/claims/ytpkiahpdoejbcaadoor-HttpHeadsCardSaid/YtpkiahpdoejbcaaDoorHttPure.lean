/-
  http: which bytes a value, a name may bear; plain, named, Head, words by their printed texts.
-/
import Derived.Test.YtpkiahpdoejbcaaDoorErr
import Derived.Test.YtpkiahpdoejbcaaDoorStrSplit
import Derived.Test.YtpkiahpdoejbcaaDoorPplainx1
import Derived.Test.YtpkiahpdoejbcaaDoorPnamedx1
import Derived.Test.YtpkiahpdoejbcaaDoorPwordsx1
import Derived.Test.YtpkiahpdoejbcaaDoorPHeadx1
import Derived.Lib.Case
import Derived.Lib.IndexMore
namespace Go.Proofs.YtpkiahpdoejbcaaDoor.Htt
open Go.RowKit Go.Proofs.YtpkiahpdoejbcaaDoor Go.Proofs.YtpkiahpdoejbcaaDoorW.PrintWords Go.Proofs.YtpkiahpdoejbcaaDoorW.PrintLast Go.Proofs.YtpkiahpdoejbcaaDoorW.PrintMore
set_option linter.unusedVariables false
set_option linter.unusedSimpArgs false
theorem wrap_in (n : Int) (h0 : -9223372036854775808 ≤ n) (h1 : n ≤ 9223372036854775807) : wrap64 n = n := by unfold wrap64; omega
theorem bt_get (s : ByteArray) (i : Nat) (c : UInt8) (h : s.data.toList[i]? = some c) : bt s (i : Int) = (c.toNat : Nat) := by
  have hi : i < s.size := by rw [← str_len]; exact (List.getElem?_eq_some_iff.1 h).1
  unfold bt
  rw [Int.toNat_natCast, dif_pos hi, str_get s i hi, List.getD_eq_getElem?_getD, h]
  rfl
theorem ba_inj {a b : ByteArray} (h : a.data.toList = b.data.toList) : a = b := by
  apply ByteArray.ext
  exact Array.toList_inj.1 h
theorem ba_injL {a b : ByteArray} (h : a.toList = b.toList) : a = b := by
  rw [str_toList, str_toList] at h
  exact ba_inj h
theorem ba_eta (b : ByteArray) : (⟨b.data.toList.toArray⟩ : ByteArray) = b := by apply ByteArray.ext; simp
/-- An answer of yes or no, and draws. -/
def BP (b : Bool) (w : World) (e : Ending) (w' : World) : Prop := e = .returned (.bool b) ∧ Drawn0 w w'
theorem BP.mk {b c : Bool} {w w' : World} (h : b = c) (hb : Drawn0 w w') : BP b w (.returned (.bool c)) w' := ⟨by rw [h], hb⟩
/-- Bytes from low to 126. -/
def plL (lo : Nat) (l : List UInt8) : Bool := l.all fun c => decide (lo ≤ c.toNat ∧ c.toNat ≤ 126)
theorem pl_cons (lo : Nat) (c : UInt8) (l : List UInt8) : plL lo (c :: l) = (decide (lo ≤ c.toNat ∧ c.toNat ≤ 126) && plL lo l) := rfl
theorem drop_at {l : List UInt8} {i : Nat} {c : UInt8} (h : l[i]? = some c) : l.drop i = c :: l.drop (i + 1) := by
  have hi := (List.getElem?_eq_some_iff.1 h).1
  rw [List.drop_eq_getElem_cons hi]
  rw [List.getElem?_eq_getElem hi] at h
  rw [Option.some.inj h]
theorem plain_ev (s : ByteArray) (lo least most : Nat) (hs : s.size ≤ 1048576) (d : Nat) : ∀ i : Nat, s.size - i = d → i ≤ s.size →
    Ev (fun k => Pplain.http_plain.l0 k s (lo : Int) (least : Int) (most : Int) (s.size : Int) i) (plL lo (s.data.toList.drop i) && (decide (least ≤ s.size) && decide (s.size ≤ most))) := by
  have hln := str_len s
  induction d with
  | zero =>
    intro i h1 h2
    obtain rfl : i = s.size := by omega
    rw [List.drop_of_length_le (by omega)]
    refine Ev.step (f := fun _ => some (decide (least ≤ s.size) && decide (s.size ≤ most))) (fun k => ?_) (Ev.now _)
    simp only [Pplain.http_plain.l0]
    rw [if_neg (by omega)]
    by_cases h : least ≤ s.size
    · rw [if_pos (by omega), decide_eq_true (p := least ≤ s.size) h, Bool.true_and]
      congr 1
      rw [decide_eq_decide]; omega
    · rw [if_neg (by omega), decide_eq_false (p := least ≤ s.size) h]; rfl
  | succ d ih =>
    intro i h1 h2
    obtain ⟨c, hc⟩ : ∃ c, s.data.toList[i]? = some c := ⟨s.data.toList[i]'(by omega), by simp⟩
    have hb := bt_get s i c hc
    rw [drop_at hc, pl_cons]
    by_cases h3 : lo ≤ c.toNat
    · by_cases h4 : c.toNat ≤ 126
      · rw [decide_eq_true (p := lo ≤ c.toNat ∧ c.toNat ≤ 126) ⟨h3, h4⟩, Bool.true_and]
        refine Ev.step (fun k => ?_) (ih (i + 1) (by omega) (by omega))
        simp only [Pplain.http_plain.l0]
        rw [if_pos (by omega), if_pos (by omega), if_pos (by omega), hb, if_neg (by omega), if_neg (by omega), wrap_in _ (by omega) (by omega)]
        rfl
      · rw [decide_eq_false (p := lo ≤ c.toNat ∧ c.toNat ≤ 126) (by omega), Bool.false_and, Bool.false_and]
        refine Ev.step (f := fun _ => some false) (fun k => ?_) (Ev.now _)
        simp only [Pplain.http_plain.l0]
        rw [if_pos (by omega), if_pos (by omega), if_pos (by omega), hb, if_neg (by omega), if_pos (by omega)]
    · rw [decide_eq_false (p := lo ≤ c.toNat ∧ c.toNat ≤ 126) (by omega), Bool.false_and, Bool.false_and]
      refine Ev.step (f := fun _ => some false) (fun k => ?_) (Ev.now _)
      simp only [Pplain.http_plain.l0]
      rw [if_pos (by omega), if_pos (by omega), if_pos (by omega), hb, if_pos (by omega)]
def plainB (s : ByteArray) (lo least most : Nat) : Bool := plL lo s.data.toList && (decide (least ≤ s.size) && decide (s.size ≤ most))
theorem plain_any (s : ByteArray) (lo least most : Nat) (w : World) (hs : s.size ≤ 1048576) (hl : lo ≤ 255) : Calls Tryd.prog 42 #[.string s, .int .u8 (lo : Int), .int .i64 (least : Int), .int .i64 (most : Int)] w (BP (plainB s lo least most) w) := by
  have h := plain_ev s lo least most hs s.size 0 (by omega) (by omega)
  rw [List.drop_zero] at h
  obtain ⟨k, hk⟩ := h.rounds
  exact Pplain.http_plain.calls k s lo least most _ w hk
/-- Bytes of a head's name. -/
def tokC (c : UInt8) : Prop := (97 ≤ c.toNat ∧ c.toNat ≤ 122) ∨ (65 ≤ c.toNat ∧ c.toNat ≤ 90) ∨ (48 ≤ c.toNat ∧ c.toNat ≤ 57) ∨ c.toNat = 45
instance (c : UInt8) : Decidable (tokC c) := by unfold tokC; infer_instance
def tokL (l : List UInt8) : Bool := l.all fun c => decide (tokC c)
def namedB (s : ByteArray) : Bool := tokL s.data.toList && (decide (s.size ≠ 0) && decide (s.size ≤ 32))
theorem named_ev (s : ByteArray) (hs : s.size ≤ 1048576) (d : Nat) : ∀ i : Nat, s.size - i = d → i ≤ s.size → Ev (fun k => Pnamed.http_named.l0 k s (s.size : Int) i) (tokL (s.data.toList.drop i) && (decide (s.size ≠ 0) && decide (s.size ≤ 32))) := by
  have hln := str_len s
  induction d with
  | zero =>
    intro i h1 h2
    obtain rfl : i = s.size := by omega
    rw [List.drop_of_length_le (by omega)]
    refine Ev.step (f := fun _ => some (decide (s.size ≠ 0) && decide (s.size ≤ 32))) (fun k => ?_) (Ev.now _)
    simp only [Pnamed.http_named.l0]
    rw [if_neg (by omega)]
    by_cases h0 : s.size = 0
    · rw [if_pos (str_empty s h0), decide_eq_false (p := s.size ≠ 0) (by omega)]; rfl
    · rw [if_neg (str_not_empty s (by omega)), decide_eq_true (p := s.size ≠ 0) h0, Bool.true_and]
      congr 1
      rw [decide_eq_decide]
      omega
  | succ d ih =>
    intro i h1 h2
    obtain ⟨c, hc⟩ : ∃ c, s.data.toList[i]? = some c := ⟨s.data.toList[i]'(by omega), by simp⟩
    have hb := bt_get s i c hc
    rw [drop_at hc]
    have next := ih (i + 1) (by omega) (by omega)
    have yes : tokC c → Ev (fun k => Pnamed.http_named.l0 k s (s.size : Int) (wrap64 ((i : Int) + 1))) (tokL (c :: s.data.toList.drop (i + 1)) && (decide (s.size ≠ 0) && decide (s.size ≤ 32))) := fun h => by
      have e : tokL (c :: s.data.toList.drop (i + 1)) = tokL (s.data.toList.drop (i + 1)) := by unfold tokL; rw [List.all_cons, decide_eq_true h, Bool.true_and]
      rw [e, wrap_in _ (by omega) (by omega)]
      exact next
    have no : ¬ tokC c → (tokL (c :: s.data.toList.drop (i + 1)) && (decide (s.size ≠ 0) && decide (s.size ≤ 32))) = false := fun h => by
      unfold tokL; rw [List.all_cons, decide_eq_false h, Bool.false_and, Bool.false_and]
    obtain ⟨t, ht⟩ : ∃ t, (tokL (c :: s.data.toList.drop (i + 1)) && (decide (s.size ≠ 0) && decide (s.size ≤ 32))) = t := ⟨_, rfl⟩
    rw [ht] at yes no ⊢
    have j3t : tokC c → Ev (fun k => Pnamed.http_named.j3 k s ((c.toNat : Nat) : Int) (s.size : Int) i true) t := fun h => by
      refine Ev.step (fun k => ?_) (yes h)
      simp only [Pnamed.http_named.j3]
      rw [if_pos trivial]
    have j3f : (tokC c → c.toNat = 45) → Ev (fun k => Pnamed.http_named.j3 k s ((c.toNat : Nat) : Int) (s.size : Int) i false) t := fun h9 => by
      by_cases hn : c.toNat = 45
      · refine Ev.step (fun k => ?_) (yes (.inr (.inr (.inr hn))))
        simp only [Pnamed.http_named.j3]
        rw [if_neg (by simp), if_pos (by omega)]
      · rw [no (fun h => hn (h9 h))]
        refine Ev.step (f := fun _ => some false) (fun k => ?_) (Ev.now _)
        simp only [Pnamed.http_named.j3]
        rw [if_neg (by simp), if_neg (by omega)]
    have j2t : tokC c → Ev (fun k => Pnamed.http_named.j2 k s ((c.toNat : Nat) : Int) (s.size : Int) i true) t := fun h => by
      refine Ev.step (fun k => ?_) (yes h)
      simp only [Pnamed.http_named.j2]
      rw [if_pos trivial]
    have j2f : (tokC c → (48 ≤ c.toNat ∧ c.toNat ≤ 57) ∨ c.toNat = 45) → Ev (fun k => Pnamed.http_named.j2 k s ((c.toNat : Nat) : Int) (s.size : Int) i false) t := fun h9 => by
      by_cases h0 : 48 ≤ c.toNat
      · by_cases h1 : c.toNat ≤ 57
        · refine Ev.step (fun k => ?_) (j3t (.inr (.inr (.inl ⟨h0, h1⟩))))
          simp only [Pnamed.http_named.j2]
          rw [if_neg (by simp), if_pos (by omega), show decide (((c.toNat : Nat) : Int) ≤ 57) = true from decide_eq_true (by omega)]
        · refine Ev.step (fun k => ?_) (j3f (fun h => by have := h9 h; omega))
          simp only [Pnamed.http_named.j2]
          rw [if_neg (by simp), if_pos (by omega), show decide (((c.toNat : Nat) : Int) ≤ 57) = false from decide_eq_false (by omega)]
      · refine Ev.step (fun k => ?_) (j3f (fun h => by have := h9 h; omega))
        simp only [Pnamed.http_named.j2]
        rw [if_neg (by simp), if_neg (by omega)]
    have j1t : tokC c → Ev (fun k => Pnamed.http_named.j1 k s ((c.toNat : Nat) : Int) (s.size : Int) i true) t := fun h => by
      refine Ev.step (fun k => ?_) (yes h)
      simp only [Pnamed.http_named.j1]
      rw [if_pos trivial]
    have j1f : ¬ (97 ≤ c.toNat ∧ c.toNat ≤ 122) → Ev (fun k => Pnamed.http_named.j1 k s ((c.toNat : Nat) : Int) (s.size : Int) i false) t := fun h9 => by
      by_cases h0 : 65 ≤ c.toNat
      · by_cases h1 : c.toNat ≤ 90
        · refine Ev.step (fun k => ?_) (j2t (.inr (.inl ⟨h0, h1⟩)))
          simp only [Pnamed.http_named.j1]
          rw [if_neg (by simp), if_pos (by omega), show decide (((c.toNat : Nat) : Int) ≤ 90) = true from decide_eq_true (by omega)]
        · refine Ev.step (fun k => ?_) (j2f (fun h => by unfold tokC at h; omega))
          simp only [Pnamed.http_named.j1]
          rw [if_neg (by simp), if_pos (by omega), show decide (((c.toNat : Nat) : Int) ≤ 90) = false from decide_eq_false (by omega)]
      · refine Ev.step (fun k => ?_) (j2f (fun h => by unfold tokC at h; omega))
        simp only [Pnamed.http_named.j1]
        rw [if_neg (by simp), if_neg (by omega)]
    by_cases h0 : 97 ≤ c.toNat
    · by_cases h1 : c.toNat ≤ 122
      · refine Ev.step (fun k => ?_) (j1t (.inl ⟨h0, h1⟩))
        simp only [Pnamed.http_named.l0]
        rw [if_pos (by omega), if_pos (by omega), if_pos (by omega), hb, if_pos (by omega), show decide (((c.toNat : Nat) : Int) ≤ 122) = true from decide_eq_true (by omega)]
      · refine Ev.step (fun k => ?_) (j1f (by omega))
        simp only [Pnamed.http_named.l0]
        rw [if_pos (by omega), if_pos (by omega), if_pos (by omega), hb, if_pos (by omega), show decide (((c.toNat : Nat) : Int) ≤ 122) = false from decide_eq_false (by omega)]
    · refine Ev.step (fun k => ?_) (j1f (by omega))
      simp only [Pnamed.http_named.l0]
      rw [if_pos (by omega), if_pos (by omega), if_pos (by omega), hb, if_neg (by omega)]
theorem named_any (s : ByteArray) (w : World) (hs : s.size ≤ 1048576) : Calls Tryd.prog 43 #[.string s] w (BP (namedB s) w) := by
  have h := named_ev s hs s.size 0 (by omega) (by omega)
  rw [List.drop_zero] at h
  obtain ⟨k, hk⟩ := h.rounds
  exact Pnamed.http_named.calls k s _ w hk
/-! ### Head -/
abbrev Par := PHead.S46
abbrev kP : Kd Par := PHead.k46
/-- The first of a name. -/
def getS : List Par → ByteArray → Option ByteArray
  | [], _ => none
  | x :: xs, k => if x.f0 = k then some x.f1 else getS xs k
def getR (o : Option ByteArray) : ByteArray × Bool := match o with | some v => (v, true) | none => (⟨#[]⟩, false)
theorem head_ev (xs : List Par) (key : ByteArray) (hn : xs.length ≤ 1048576) (d : Nat) : ∀ i : Nat, xs.length - i = d → i ≤ xs.length → Ev (fun j => PHead.http_Head.l0 j key xs (xs.length : Int) i) (getR (getS (xs.drop i) key)) := by
  induction d with
  | zero =>
    intro i h1 h2
    obtain rfl : i = xs.length := by omega
    rw [List.drop_length]
    refine Ev.step (f := fun _ => some (⟨#[]⟩, false)) (fun j => ?_) (Ev.now _)
    simp only [PHead.http_Head.l0]
    rw [if_neg (by omega)]
  | succ d ih =>
    intro i h1 h2
    have hlt : i < xs.length := by omega
    have h9 := ih (i + 1) (by omega) (by omega)
    rw [List.drop_eq_getElem_cons hlt, getS]
    have hrd : PHead.rd_T46 xs (i : Int) = xs[i] := by unfold PHead.rd_T46; rw [Int.toNat_natCast, List.getD_eq_getElem?_getD, List.getElem?_eq_getElem hlt]; rfl
    by_cases hk : (xs[i]).f0 = key
    · rw [if_pos hk]
      refine Ev.step (f := fun _ => some ((xs[i]).f1, true)) (fun j => ?_) (Ev.now _)
      simp only [PHead.http_Head.l0]
      rw [if_pos (by omega), if_pos (by omega), if_pos (by omega), hrd, if_pos (by rw [hk])]
    · rw [if_neg hk]
      refine Ev.step (fun j => ?_) h9
      simp only [PHead.http_Head.l0]
      rw [if_pos (by omega), if_pos (by omega), if_pos (by omega), hrd, if_neg (fun e => hk (ba_injL e)), wrap_in _ (by omega) (by omega)]
      rfl
/-- What Head answers. -/
def HeadPost (o : Option ByteArray) (w : World) (e : Ending) (w' : World) : Prop := e = .returned (.tuple #[.string (getR o).1, .bool (getR o).2]) ∧ Below w.heap.size w w'
theorem head_any (xs : List Par) (key : ByteArray) (A : Option Addr) (c : Nat) (w : World) (hC : kP.C w A xs.length xs) (hc : xs.length ≤ c) (hn : xs.length ≤ 1048576) :
    Calls Tryd.prog 6 #[.slice A xs.length c, .string key] w (HeadPost (getS xs key) w) := by
  have h := head_ev xs key hn xs.length 0 (by omega) (by omega)
  rw [List.drop_zero] at h
  obtain ⟨k, hk⟩ := h.rounds
  exact (PHead.http_Head.calls k A c xs key _ _ w hC hc hk).mono (fun e w' hq => ⟨hq.1, hq.2⟩)
end Go.Proofs.YtpkiahpdoejbcaaDoor.Htt
