/-
  utf.Check by contract: nothing is wrong, or where.
-/
import Derived.Test.YtjbfkblobaikdaaDoorUtfBad
namespace Go.Proofs.YtjbfkblobaikdaaDoor
open Go.RowKit
set_option linter.unusedVariables false

/-- What is wrong with bytes. -/
def checkE (l : List UInt8) : GErr := if badS l < 0 then .nil else .at_ (badS l) 30
/-- A call that answers an error, and writes nothing that was there. -/
def ErrPost (g : GErr) (w : World) (e : Ending) (w' : World) : Prop := ∃ v, e = .returned v ∧ IsErr w' g v ∧ Below w.heap.size w w'
theorem ErrPost.mk {g : GErr} {w w' : World} {v : Value} (h : IsErr w' g v) (hb : Below w.heap.size w w') : ErrPost g w (.returned v) w' := ⟨v, rfl, h, hb⟩
def CheckRel (l : List UInt8) (v : Value) : Prop := ∃ k : Nat, k ≤ l.length ∧ v = .int .i64 k ∧ badAt l k = badS l
theorem BytesAt.drop {w : World} {b o len cap : Nat} {l : List UInt8} (h : BytesAt w (some ⟨b, o, none⟩) len cap l) (k : Nat) (hk : k < len) : BytesAt w (some ⟨b, o + k, none⟩) (len - k) (cap - k) (l.drop k) := by
  obtain ⟨h1, h2, h3⟩ := h
  refine ⟨by simp; omega, by omega, .inr ⟨b, o + k, rfl, fun i hi => ?_⟩⟩
  rw [List.length_drop] at hi
  obtain ⟨b', o', he, hc⟩ := h3.resolve_left (by intro e; subst e; simp at h1; omega)
  obtain ⟨rfl, rfl⟩ : b = b' ∧ o = o' := by simpa using he
  rw [Nat.add_assoc, hc (k + i) (by omega)]
  simp [List.getD]

set_option maxRecDepth 100000 in
set_option maxHeartbeats 2000000 in
theorem check_any (b o len cap : Nat) (l : List UInt8) (w : World) (hL : LeastAt w) (h : BytesAt w (some ⟨b, o, none⟩) len cap l) (hlen : len ≤ 1048576) :
    Calls Tryd.prog 8 #[.slice (some ⟨b, o, none⟩) len cap] w (ErrPost (checkE l) w) := by
  have HH := hid h
  have HL := hid hL
  have HLEN := hid h.1
  have hcap := h.2.1
  clear h hL
  go_enter Tryd.func8, Tryd.ntmps8
  go_wp2_with fail
  go_loop [3] (fun v => CheckRel l v) (fun v => len - (intOf v).toNat)
  case atStart => exact ⟨0, by omega, rfl, badAt_zero _⟩
  case round =>
    obtain ⟨k, hk, rfl, ht⟩ := hrel
    have HT := hid ht
    have hk' : k ≤ len := by rw [HLEN.out]; exact hk
    clear ht hk
    by_cases hlt : k < len
    · have hlt' : k < l.length := by rw [← HLEN.out]; exact hlt
      have hp := nextS_pos _ (drop_ne l k hlt')
      have hcall := next_any (some ⟨b, o + k, none⟩) (len - k) (cap - k) (l.drop k) w HL.out (HH.out.drop k hlt)
      obtain ⟨x, n, hxn⟩ : ∃ x n, nextS (l.drop k) = (x, n) := ⟨_, _, rfl⟩
      have hstep := badAt_step l k hlt'
      have hhere := badAt_here l k hlt'
      unfold NextPost at hcall
      rw [hxn] at hcall hstep hhere hp
      simp only at hcall hstep hhere hp
      rw [List.length_drop, ← HLEN.out] at hp
      have HCALL := hid hcall
      have HSTEP := hid hstep
      have HHERE := hid hhere
      obtain ⟨hp1, hp2⟩ := hp
      have hp3 : (n.toNat : Int) = n := by omega
      have hn2 : n ≤ 1048576 := by omega
      have hnk : k + n.toNat ≤ len := by omega
      have HP3 := hid hp3
      have hck : ¬ cap = k := by omega
      have hki : (k : Int) ≤ (len : Int) := by omega
      clear hxn hcall hstep hhere hlt' hp3
      by_cases hx : x < 0
      · have HX := hid hx
        go_wp2_with (go_at_call 12; refine HCALL.out.mono ?_; intro e w1 hpp; obtain ⟨rfl, rfl⟩ := hpp)
        go_ret
        have hbe : badS l = k := by rw [← HT.out, HHERE.out HX.out]
        have hE : checkE l = .at_ k 30 := by unfold checkE; rw [hbe, if_neg (by omega)]
        rw [hE]
        exact ErrPost.mk ⟨w.heap.size, 0, rfl, by simp, by simp⟩ ((Below.refl _ _).alloc (Nat.le_refl _) _)
      · have HX := hid hx
        go_wp2_with (go_at_call 12; refine HCALL.out.mono ?_; intro e w1 hpp; obtain ⟨rfl, rfl⟩ := hpp)
        refine ⟨⟨k + n.toNat, by rw [← HLEN.out]; exact hnk, by have := HP3.out; congr 1; omega, by rw [HSTEP.out HX.out]; exact HT.out⟩, by simp [intOf]; omega⟩
    · have hke : k = len := by omega
      have hnl : decide (k < len) = false := decide_eq_false hlt
      have HE := hid (badAt_end l k (by rw [← HLEN.out]; omega))
      clear hke
      go_wp2_with fail
      go_ret
      have hE : checkE l = .nil := by unfold checkE; rw [← HT.out, HE.out, if_pos (by omega)]
      rw [hE]
      exact ErrPost.mk rfl (Below.refl _ _)
end Go.Proofs.YtjbfkblobaikdaaDoor
