/-
  b64.worth, b64.at, b64.Encode by contract.
-/
import Derived.Test.YtnbfllfccfppgaaDoorB64Pure
import Derived.Test.YtnbfllfccfppgaaDoorErr
import Derived.Test.YtnbfllfccfppgaaDoorBytes
import Derived.Test.YtnbfllfccfppgaaDoorBuilder
namespace Go.Proofs.YtnbfllfccfppgaaDoor.B64
open Go.RowKit Go.Proofs.YtnbfllfccfppgaaDoor
set_option linter.unusedVariables false

def WorthPost (n : Int) (w : World) (e : Ending) (w' : World) : Prop := e = .returned (.int .i64 n) ∧ w = w'
theorem WorthPost.mk {n m : Int} {w : World} (h : n = m) : WorthPost n w (.returned (.int .i64 m)) w := ⟨by rw [h], rfl⟩

set_option maxHeartbeats 1000000 in
theorem worth_any (c : UInt8) (w : World) : Calls Tryd.prog 18 #[.int .u8 (c.toNat : Int)] w (WorthPost (worthS c) w) := by
  obtain ⟨n, hn⟩ : ∃ n, worthS c = n := ⟨_, rfl⟩
  rw [hn]
  have HN := hid hn
  clear hn
  have hlt := c.toNat_lt
  go_enter Tryd.func18, Tryd.ntmps18
  go_wp2_with (fail)
  all_goals
    go_ret
    refine WorthPost.mk ?_
    rw [← HN.out]
    unfold worthS
    try simp only [beq_iff_eq, beq_eq_false_iff_ne, ne_eq] at *
    (repeat' split) <;> omega

/-- A call that answers an error, and writes nothing that was there. -/
def ErrPost (g : GErr) (w : World) (e : Ending) (w' : World) : Prop := ∃ v, e = .returned v ∧ IsErr w' g v ∧ Below w.heap.size w w'
theorem ErrPost.mk {g : GErr} {w w' : World} {v : Value} (h : IsErr w' g v) (hb : Below w.heap.size w w') : ErrPost g w (.returned v) w' := ⟨v, rfl, h, hb⟩
theorem at_any (p : Int) (w : World) : Calls Tryd.prog 19 #[.int .i64 p] w (ErrPost (.at_ p 20) w) := by
  go_enter Tryd.func19, Tryd.ntmps19
  go_wp2
  go_ret
  exact ErrPost.mk ⟨w.heap.size, 0, rfl, by simp, by simp⟩ ((Below.refl _ _).alloc (Nat.le_refl _) _)

/-- A slice of bytes, cut from k on. -/
theorem reads_drop {w : World} {b o len cap : Nat} {l : List UInt8} (h : ReadsB w (.slice (some ⟨b, o, none⟩) len cap) l) (k : Nat) (hk : k ≤ l.length) : ReadsB w (.slice (some ⟨b, o + k, none⟩) (len - k) (cap - k)) (l.drop k) := by
  rcases h with ⟨h, _⟩ | ⟨b', o', cap', hv, hc, hcell⟩
  · cases h
  · cases hv
    refine .inr ⟨b, o + k, cap - k, by rw [List.length_drop], by rw [List.length_drop]; omega, fun i hi => ?_⟩
    rw [List.length_drop] at hi
    rw [Nat.add_assoc, hcell (k + i) (by omega)]
    simp [List.getD]

def lenOf : Value → Nat
  | .slice _ n _ => n
  | _ => 0
theorem reads_some {w : World} {v : Value} {l : List UInt8} (h : ReadsB w v l) (h0 : 0 < l.length) : ∃ b o cap, v = .slice (some ⟨b, o, none⟩) l.length cap ∧ l.length ≤ cap ∧ ∀ i, i < l.length → w.cell? ⟨b, o + i, none⟩ = some (cellOf (l.getD i 0)) := by
  rcases h with ⟨_, rfl⟩ | h
  · simp at h0
  · exact h
theorem reads_cell {w : World} {b o q n : Nat} {l : List UInt8} (h : ∀ i, i < n → w.cell? ⟨b, o + i, none⟩ = some (cellOf ((l.drop q).getD i 0))) (i : Nat) (hi : i < n) : w.cell? ⟨b, o + i, none⟩ = some (.int .u8 (nb l (q + i) : Nat)) := by
  rw [h i hi]; simp [cellOf, nb, List.getD]
theorem reads_cut {w : World} {b o n cap : Nat} {l : List UInt8} (h : ReadsB w (.slice (some ⟨b, o, none⟩) n cap) l) (k : Nat) (hk : k ≤ n) : ReadsB w (.slice (if cap = k then some ⟨b, o, none⟩ else some ⟨b, o + k, none⟩) (n - k) (cap - k)) (l.drop k) := by
  have hn : n = l.length := by
    rcases h with ⟨h, _⟩ | ⟨b', o', cap', hv, hc, hcell⟩
    · cases h
    · cases hv; rfl
  subst hn
  by_cases e : cap = k
  · rw [if_pos e]
    have hl : l.drop k = [] := by
      rcases h with ⟨h, _⟩ | ⟨b', o', cap', hv, hc, hcell⟩
      · cases h
      · cases hv; apply List.drop_of_length_le; omega
    rw [hl]
    exact .inr ⟨b, o, cap - k, by
      have := congrArg List.length hl
      rw [List.length_drop] at this
      simp at this ⊢; omega, by simp, by simp⟩
  · rw [if_neg e]; exact reads_drop h k hk
theorem reads_none {w : World} {v : Value} (h : ReadsB w v []) : ∃ a c, v = .slice a 0 c := by
  rcases h with ⟨h, _⟩ | ⟨b', o', cap', hv, hc, hcell⟩
  · exact ⟨_, _, h⟩
  · exact ⟨_, _, hv⟩
def EncRel (l : List UInt8) (B b : Nat) (w0 : World) (v : Value) (w : World) : Prop :=
  ∃ q, ReadsB w0 v (l.drop (3 * q)) ∧ Bld B b ((encS l).take (4 * q)) w ∧ Below B w0 w ∧ B ≤ w.heap.size
def SignRel (l : List UInt8) (B b q m : Nat) (w0 : World) (i : Value) (w : World) : Prop :=
  ∃ k : Nat, i = .int .i64 k ∧ k ≤ m + 1 ∧ Bld B b ((encS l).take (4 * q + k)) w ∧ Below B w0 w ∧ B ≤ w.heap.size
theorem wraps_u32 (n : Int) (h₀ : 0 ≤ n) (h₁ : n < 2 ^ 32) : IntKind.u32.wrap n = n := by rw [IntKind.wrap_u32]; omega
theorem tri_1 (l : List UInt8) (q : Nat) (h : l.length - 3 * q = 1) : (nb l (3 * q) : Int) * 65536 = (tri l q : Nat) := by
  unfold tri; rw [nb_behind l (3 * q + 1) (by omega), nb_behind l (3 * q + 2) (by omega)]; omega
theorem tri_2 (l : List UInt8) (q : Nat) (h : l.length - 3 * q = 2) : bits .or .u32 ((nb l (3 * q) : Int) * 65536) ((nb l (3 * q + 1) : Int) * 256) = (tri l q : Nat) := by
  have h0 := nb_lt l (3 * q); have h1 := nb_lt l (3 * q + 1)
  rw [bits_join .u32 32 (by decide) wraps_u32 16 _ _ (by omega) (by omega) (by omega) (by omega) (by omega) (by omega)]
  unfold tri; rw [nb_behind l (3 * q + 2) (by omega)]; omega
theorem tri_3 (l : List UInt8) (q : Nat) : bits .or .u32 (bits .or .u32 ((nb l (3 * q) : Int) * 65536) (nb l (3 * q + 2) : Int)) ((nb l (3 * q + 1) : Int) * 256) = (tri l q : Nat) := by
  have h0 := nb_lt l (3 * q); have h1 := nb_lt l (3 * q + 1); have h2 := nb_lt l (3 * q + 2)
  have e0 := bits_join .u32 32 (by decide) wraps_u32 8 ((nb l (3 * q) : Int) * 65536) (nb l (3 * q + 2) : Int) (by omega) (by omega) (by omega) (by omega) (by omega) (by omega)
  rw [e0]
  have e : bits .or .u32 ((nb l (3 * q) : Int) * 65536 + (nb l (3 * q + 2) : Int)) ((nb l (3 * q + 1) : Int) * 256) = bits .or .u32 ((nb l (3 * q) * 65536 + nb l (3 * q + 2) : Nat) : Int) ((nb l (3 * q + 1) * 256 : Nat) : Int) := by congr 1
  rw [e, (bits_nat .u32 32 (by decide) wraps_u32 _ _ (by omega) (by omega)).2]
  have : (nb l (3 * q) * 65536 + nb l (3 * q + 2)) ||| nb l (3 * q + 1) * 256 = tri l q := by
    unfold tri
    generalize nb l (3 * q) = a at *
    generalize nb l (3 * q + 1) = b at *
    generalize nb l (3 * q + 2) = c at *
    have ea : a * 65536 = 2 ^ 16 * a := Nat.mul_comm _ _
    have eb : b * 256 = 2 ^ 8 * b := Nat.mul_comm _ _
    have e1 : a * 65536 + c = a * 65536 ||| c := by rw [ea]; exact Nat.two_pow_add_eq_or_of_lt (by omega) a
    have e2 : a * 65536 + b * 256 + c = a * 65536 ||| (b * 256 + c) := by rw [Nat.add_assoc, ea]; exact Nat.two_pow_add_eq_or_of_lt (by omega) a
    have e3 : b * 256 + c = b * 256 ||| c := by rw [eb]; exact Nat.two_pow_add_eq_or_of_lt (by omega) b
    rw [e1, e2, e3, Nat.or_assoc, Nat.or_comm c]
  rw [this]
theorem sign_of (l : List UInt8) (q k : Nat) (hk : k < 4) : bits .and .u32 ((tri l q : Nat) / 2 ^ (18 - 6 * k)) 63 = (encW l (4 * q + k) : Nat) := by
  have h := tri_sign l q k hk
  have hlt := tri_lt l q
  have e2 : (tri l q : Int) / 2 ^ (18 - 6 * k) = ((tri l q / 2 ^ (18 - 6 * k) : Nat) : Int) := by simp
  have hd : tri l q / 2 ^ (18 - 6 * k) ≤ tri l q := Nat.div_le_self _ _
  have hm := bits_mask .u32 32 (by decide) wraps_u32 6 (by decide) ((tri l q / 2 ^ (18 - 6 * k) : Nat) : Int) (Int.natCast_nonneg _) (by generalize tri l q / 2 ^ (18 - 6 * k) = z at *; omega)
  rw [e2, show (63 : Int) = 2 ^ 6 - 1 by decide, hm, ← h]
  simp
theorem sgn_get (n : Nat) (h : n < (⟨#[65, 66, 67, 68, 69, 70, 71, 72, 73, 74, 75, 76, 77, 78, 79, 80, 81, 82, 83, 84, 85, 86, 87, 88, 89, 90, 97, 98, 99, 100, 101, 102, 103, 104, 105, 106, 107, 108, 109, 110, 111, 112, 113, 114, 115, 116, 117, 118, 119, 120, 121, 122, 48, 49, 50, 51, 52, 53, 54, 55, 56, 57, 45, 95]⟩ : ByteArray).size) :
    (⟨#[65, 66, 67, 68, 69, 70, 71, 72, 73, 74, 75, 76, 77, 78, 79, 80, 81, 82, 83, 84, 85, 86, 87, 88, 89, 90, 97, 98, 99, 100, 101, 102, 103, 104, 105, 106, 107, 108, 109, 110, 111, 112, 113, 114, 115, 116, 117, 118, 119, 120, 121, 122, 48, 49, 50, 51, 52, 53, 54, 55, 56, 57, 45, 95]⟩ : ByteArray)[n]'h = sg n := by
  rw [str_get _ n h]; rfl
set_option maxRecDepth 100000 in
set_option maxHeartbeats 2000000 in
theorem encode_any (v : Value) (l : List UInt8) (w : World) (h : ReadsB w v l) (hl : l.length ≤ 1099511627776) : Calls Tryd.prog 8 #[v] w (TextPost (encS l) w) := by
  have HH := hid h
  have HL := hid hl
  have hbn := bld_new w
  have HB := hid hbn
  clear h hl hbn
  go_enter Tryd.func8, Tryd.ntmps8
  go_wp2_with fail
  go_loopw [0] (fun v wr => EncRel l w.heap.size w.heap.size w v wr) (fun v _ => lenOf v)
  case atStart => exact ⟨0, by simpa using HH.out, by simpa using HB.out, (Below.refl _ _).alloc (Nat.le_refl _) _, by simp⟩
  case round =>
    obtain ⟨q, hr, hbl, hbw, hsz⟩ := hrel
    by_cases hlt : l.length ≤ 3 * q
    · rw [List.drop_of_length_le hlt] at hr
      obtain ⟨a, c, rfl⟩ := reads_none hr
      rw [encS_done _ _ (by unfold encLen; omega)] at hbl
      have HBL := hid hbl
      have HBW := hid hbw
      clear hr hlt hbl hbw
      go_wp2_with (go_at_call 16; refine (bld_string _ _ _ _ HBL.out hsz).mono ?_; intro e w3 hpost; obtain ⟨rfl, hb3, hbel3⟩ := hpost; have HBEL3 := hid hbel3; clear hb3 hbel3)
      go_ret
      exact TextPost.mk rfl (HBW.out.trans HBEL3.out)
    · obtain ⟨bb, o, cap, rfl, hcap, hcell⟩ := reads_some (hr.below hbw) (by rw [List.length_drop]; omega)
      rw [List.length_drop] at hr hcap hcell ⊢
      obtain ⟨n, hn⟩ : ∃ n, l.length - 3 * q = n := ⟨_, rfl⟩
      rw [hn] at hr hcap hcell ⊢
      have HN := hid hn
      have HR := hid hr
      have HBL := hid hbl
      have HBW := hid hbw
      have c0 := reads_cell hcell 0 (by omega)
      simp only [Nat.add_zero] at c0
      have n0 : 0 < n := by omega
      have nl : n ≤ 1099511627776 := by have := HL.out; omega
      clear hr hbl hbw
      have b0 := nb_lt l (3 * q)
      have hlt' := hid hlt
      clear hlt
      by_cases h3 : n < 3
      · rcases (by omega : n = 1 ∨ n = 2) with rfl | rfl
        · have HX := hid (tri_1 l q hn)
          have hmin : min (1 : Int) 3 = 1 := by decide
          clear hcell hn
          go_wp2_with fail
          rw [HX.out]
          go_loopw [38] (fun i w2 => SignRel l w.heap.size w.heap.size q 1 w i w2) (fun i _ => 2 - (intOf i).toNat)
          case atStart => exact ⟨0, rfl, by omega, HBL.out, HBW.out, hsz⟩
          case round =>
            obtain ⟨k, rfl, hk, hbl, hbw, hsz2⟩ := hrel
            have HBL2 := hid hbl
            have HBW2 := hid hbw
            clear hbl hbw
            by_cases hk4 : k < 2
            · have hsn := sign_of l q k (by omega)
              have hlt64 := encW_lt l (4 * q + k)
              go_wp2_with (go_at_call 15; rw [sgn_get]; refine (bld_byte _ _ _ _ _ HBL2.out ?_ hsz2).mono ?_)
              · have := List.length_take_le' (4 * q + k) (encS l); have := encS_length l; have := HL.out; unfold encLen at *; omega
              intro e w3 hpost
              obtain ⟨rfl, hb3, hbel3⟩ := hpost
              have HB3 := hid hb3
              have HBEL3 := hid hbel3
              clear hb3 hbel3
              go_wp2
              go_roundw
              case rel => exact ⟨k + 1, by go_num, by omega, by rw [← Nat.add_assoc, encS_take _ _ (by have := HN.out; unfold encLen; omega)]; exact HB3.out, HBW2.out.trans HBEL3.out, Nat.le_trans hsz2 HBEL3.out.size⟩
              case measure => simp [intOf]; omega
            · have hN := HN.out
              have hB2 := HBL2.out
              have hE : (encS l).take (4 * q + k) = (encS l).take (4 * (q + 1)) := by rw [encS_done _ _ (by unfold encLen; omega), encS_done _ _ (by unfold encLen; omega)]
              rw [hE] at hB2
              have HB3 := hid hB2
              clear hN hB2 hE
              go_wp2_with fail
              exact ⟨⟨q + 1, by have := reads_cut HR.out 1 (by omega); rw [List.drop_drop, List.drop_of_length_le (by have := HN.out; omega)] at this; have e3 : l.drop (3 * (q + 1)) = [] := List.drop_of_length_le (by have := HN.out; omega); rw [e3]; exact this, HB3.out, HBW2.out, hsz2⟩, by first | (simp [lenOf]; done) | (simp [lenOf]; omega)⟩
        · have HX := hid (tri_2 l q hn)
          have hmin : min (2 : Int) 3 = 2 := by decide
          have c1 := reads_cell hcell 1 (by omega)
          have b1 := nb_lt l (3 * q + 1)
          clear hcell hn
          go_wp2_with fail
          rw [HX.out]
          go_loopw [38] (fun i w2 => SignRel l w.heap.size w.heap.size q 2 w i w2) (fun i _ => 3 - (intOf i).toNat)
          case atStart => exact ⟨0, rfl, by omega, HBL.out, HBW.out, hsz⟩
          case round =>
            obtain ⟨k, rfl, hk, hbl, hbw, hsz2⟩ := hrel
            have HBL2 := hid hbl
            have HBW2 := hid hbw
            clear hbl hbw
            by_cases hk4 : k < 3
            · have hsn := sign_of l q k (by omega)
              have hlt64 := encW_lt l (4 * q + k)
              go_wp2_with (go_at_call 15; rw [sgn_get]; refine (bld_byte _ _ _ _ _ HBL2.out ?_ hsz2).mono ?_)
              · have := List.length_take_le' (4 * q + k) (encS l); have := encS_length l; have := HL.out; unfold encLen at *; omega
              intro e w3 hpost
              obtain ⟨rfl, hb3, hbel3⟩ := hpost
              have HB3 := hid hb3
              have HBEL3 := hid hbel3
              clear hb3 hbel3
              go_wp2
              go_roundw
              case rel => exact ⟨k + 1, by go_num, by omega, by rw [← Nat.add_assoc, encS_take _ _ (by have := HN.out; unfold encLen; omega)]; exact HB3.out, HBW2.out.trans HBEL3.out, Nat.le_trans hsz2 HBEL3.out.size⟩
              case measure => simp [intOf]; omega
            · have hN := HN.out
              have hB2 := HBL2.out
              have hE : (encS l).take (4 * q + k) = (encS l).take (4 * (q + 1)) := by rw [encS_done _ _ (by unfold encLen; omega), encS_done _ _ (by unfold encLen; omega)]
              rw [hE] at hB2
              have HB3 := hid hB2
              clear hN hB2 hE
              go_wp2_with fail
              exact ⟨⟨q + 1, by have := reads_cut HR.out 2 (by omega); rw [List.drop_drop, List.drop_of_length_le (by have := HN.out; omega)] at this; have e3 : l.drop (3 * (q + 1)) = [] := List.drop_of_length_le (by have := HN.out; omega); rw [e3]; exact this, HB3.out, HBW2.out, hsz2⟩, by first | (simp [lenOf]; done) | (simp [lenOf]; omega)⟩
      · have c1 := reads_cell hcell 1 (by omega)
        have c2 := reads_cell hcell 2 (by omega)
        have b1 := nb_lt l (3 * q + 1)
        have b2 := nb_lt l (3 * q + 2)
        have n1 : 1 < n := by omega
        have n2 : 2 < n := by omega
        have hx := tri_3 l q
        have hmin : min (n : Int) 3 = 3 := by omega
        clear hcell hn
        go_wp2_with fail
        go_loopw [38] (fun i w2 => SignRel l w.heap.size w.heap.size q 3 w i w2) (fun i _ => 4 - (intOf i).toNat)
        case atStart => exact ⟨0, rfl, by omega, HBL.out, HBW.out, hsz⟩
        case round =>
          obtain ⟨k, rfl, hk, hbl, hbw, hsz2⟩ := hrel
          have HBL2 := hid hbl
          have HBW2 := hid hbw
          clear hbl hbw
          by_cases hk4 : k < 4
          · have hsn := sign_of l q k hk4
            have hlt64 := encW_lt l (4 * q + k)
            go_wp2_with (go_at_call 15; rw [sgn_get]; refine (bld_byte _ _ _ _ _ HBL2.out ?_ hsz2).mono ?_)
            · have := List.length_take_le' (4 * q + k) (encS l); have := encS_length l; have := HL.out; unfold encLen at *; omega
            intro e w3 hpost
            obtain ⟨rfl, hb3, hbel3⟩ := hpost
            have HB3 := hid hb3
            have HBEL3 := hid hbel3
            clear hb3 hbel3
            go_wp2
            go_roundw
            case rel => exact ⟨k + 1, by go_num, by omega, by rw [← Nat.add_assoc, encS_take _ _ (by have := HN.out; unfold encLen; omega)]; exact HB3.out, HBW2.out.trans HBEL3.out, Nat.le_trans hsz2 HBEL3.out.size⟩
            case measure => simp [intOf]; omega
          · have hN := HN.out
            have hB2 := HBL2.out
            have hE : (encS l).take (4 * q + k) = (encS l).take (4 * (q + 1)) := by rw [show 4 * q + k = 4 * (q + 1) by omega]
            rw [hE] at hB2
            have HB3 := hid hB2
            clear hN hB2 hE
            go_wp2_with fail
            exact ⟨⟨q + 1, by have := reads_cut HR.out 3 (by omega); rwa [List.drop_drop] at this, HB3.out, HBW2.out, hsz2⟩, by first | (simp [lenOf]; done) | (simp [lenOf]; omega)⟩

end Go.Proofs.YtnbfllfccfppgaaDoor.B64
