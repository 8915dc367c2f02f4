/-
  The statement UtfBack: its call answers true.
-/
import Derived.Test.YtjbfkblobaikdaaDoorUtfPut
import Derived.Test.YtjbfkblobaikdaaDoorUtfBackPure
namespace Go.Proofs.YtjbfkblobaikdaaDoor
open Go.RowKit
set_option linter.unusedVariables false

def BackRel (len : Nat) (w : World) (v : Value) (wr : World) : Prop := ∃ k : Nat, 1 ≤ k ∧ k ≤ len ∧ v = .int .i64 k ∧ Below w.heap.size w wr

set_option maxRecDepth 100000 in
set_option maxHeartbeats 4000000 in
theorem back_no (s : ByteArray) (letter : Int) (w : World) (hs : s.size ≤ maxLen) (hr : rightB letter = false) (hg : ErrorType w) (hL : LeastAt w) : Calls Tryd.prog 5 #[.int .i64 letter, .string s] w (TruePost w) := by
  have HG := hid hg
  have HL := hid hL
  have HP : Hid (putS letter = []) := hid (by unfold putS; rw [hr]; rfl)
  have hn := hid ((rightB_no letter).1 hr)
  clear hg hL hr
  go_enter Tryd.func5, Tryd.ntmps5
  go_wp2_with (first
    | (go_at_call 7; refine (alive_any _ HG.out HL.out).mono ?_; intro e w1 hp; obtain ⟨rfl, hb⟩ := hp.call; have HB1 := hid hb; clear hb hp)
    | (go_at_call 14; refine (put_any _ _).mono ?_; intro e w4 hp; rw [HP.out] at hp; obtain ⟨rfl, hb⟩ := hp; have HB4 := hid hb; clear hb))
  all_goals
    go_ret
    first | exact TruePost.mk (b := true) rfl (below_then HB1.out HB4.out) | (refine TruePost.mk ?_ (below_then HB1.out HB4.out); have := hn.out; simp; omega)

set_option maxRecDepth 100000 in
set_option maxHeartbeats 4000000 in
theorem back_yes (s : ByteArray) (n : Nat) (w : World) (hs : s.size ≤ maxLen) (hr : rightB n = true) (hn : n ≤ 1114111) (hg : ErrorType w) (hL : LeastAt w) : Calls Tryd.prog 5 #[.int .i64 n, .string s] w (TruePost w) := by
  unfold maxLen at hs
  have HG := hid hg
  have HL := hid hL
  have hlt := hL.lt
  have hgt := hg.lt
  have kc := fun (w : World) (s : ByteArray) => Lib.run_convert_string_bytes (P := Tryd.prog) w 9 26 5 s Tryd.underlying9 Tryd.underlying26 Tryd.underlying5
  obtain ⟨L, hLL⟩ : ∃ L, putN n = L := ⟨_, rfl⟩
  have hlen := put_length n
  have hpart := next_put_part n hr
  have hback := next_put n s.data.toList hr
  rw [hLL] at hlen hpart hback
  have HP : Hid (putS n = L) := hid (by unfold putS; rw [if_pos hr]; exact hLL)
  have HR := hid hr
  clear hg hL hr hLL
  obtain ⟨b, hb, hbl, hbn⟩ : ∃ b : ByteArray, strV L = .string b ∧ b.data.toList = L ∧ b.size = L.length := ⟨⟨L.toArray⟩, rfl, rfl, rfl⟩
  have hcut : ∀ i, 1 ≤ i → i < b.size → nextS (b.extract 0 i).data.toList = (-1, 1) ∧ nextS (b.extract i b.size).data.toList = (-1, 1) := by
    intro i h1 h2
    rw [extract_from, ← str_toList, extract_upto, hbl]
    exact hpart i h1 (by omega)
  have hall : nextS (b ++ s).data.toList = ((n : Int), (b.size : Int)) := by
    rw [show (b ++ s).data.toList = b.data.toList ++ s.data.toList by simp, hbl, hback, hbn]
  have hb1 : 1 ≤ b.size := by omega
  have hb4 : b.size ≤ 4 := by omega
  have hne : ¬ b.toList = [] := str_not_empty b (by omega)
  have hne2 : b.toList.isEmpty = false := by simpa using str_ne_empty b (by omega)
  have hne3 : (!b.toList.isEmpty) = true := str_ne_empty b (by omega)
  have HV := hid hb
  have HCUT := hid hcut
  have HALL := hid hall
  clear hb hcut hall hpart hback hbl hbn hlen
  by_cases hbig : s.size ≤ 5000
  · have hbi : decide ((5000 : Int) < (s.size : Int)) = false := by simp; omega
    have tb : decide ((4 : Int) < (b.size : Int)) = false := by simp; omega
    go_enter Tryd.func5, Tryd.ntmps5
    go_wp2_with (first
      | (go_at_call 7; refine (alive_any _ HG.out HL.out).mono ?_; intro e w1 hp; obtain ⟨rfl, hb⟩ := hp.call; have HB1 := hid hb; clear hb hp)
      | (go_at_call 14; refine (put_any _ _).mono ?_; intro e w4 hp; rw [HP.out] at hp; obtain ⟨he, hb⟩ := hp; rw [HV.out] at he; subst he; have HB4 := hid (below_then HB1.out hb); clear hb))
    have hba := bytes_at_world w4 5 (b ++ s)
    rw [ByteArray.size_append] at hba
    refine (next_any _ _ _ (b ++ s).data.toList _ (HL.out.below (below_then HB4.out (below_bytes _ 5 _)) hlt) hba).mono ?_
    clear hba
    intro e w2 hp
    unfold NextPost at hp
    rw [HALL.out] at hp
    obtain ⟨rfl, hw⟩ := hp
    have HB2 : Hid (Below w.heap.size w w2) := by rw [← hw]; exact below_then HB4.out (below_bytes _ 5 _)
    clear hw HB1 HB4
    go_wp2_with fail
    have LSZ : 1 ≤ w.heap.size := by omega
    go_loopw [8] (fun v wr => BackRel b.size w v wr) (fun v _ => b.size - (intOf v).toNat)
    case atStart => exact ⟨1, Nat.le_refl _, hb1, rfl, HB2.out⟩
    case round =>
      obtain ⟨k, hk1, hk, rfl, hb⟩ := hrel
      have HB := hid hb
      clear hb
      by_cases hlt2 : k < b.size
      · have hc := HCUT.out k hk1 hlt2
        have HC1 := hid hc.1
        have HC2 := hid hc.2
        clear hc
        go_wp2_with fail
        have hba := bytes_at_world wr 5 (b.extract 0 k)
        rw [show (b.extract 0 k).size = k by rw [ByteArray.size_extract]; omega] at hba
        refine (next_any _ _ _ _ _ (HL.out.below (below_then HB.out (below_bytes wr 5 _)) hlt) hba).mono ?_
        clear hba
        intro e w3 hp
        unfold NextPost at hp
        rw [HC1.out] at hp
        obtain ⟨rfl, hw⟩ := hp
        have HB3 : Hid (Below w.heap.size w w3) := by rw [← hw]; exact below_then HB.out (below_bytes wr 5 _)
        clear hw HB
        go_wp2_with fail
        have hba := bytes_at_world w3 5 (b.extract k b.size)
        rw [show (b.extract k b.size).size = b.size - k by rw [ByteArray.size_extract]; omega] at hba
        refine (next_any _ _ _ _ _ (HL.out.below (below_then HB3.out (below_bytes w3 5 _)) hlt) hba).mono ?_
        clear hba
        intro e w4 hp
        unfold NextPost at hp
        rw [HC2.out] at hp
        obtain ⟨rfl, hw⟩ := hp
        have HB4 : Hid (Below w.heap.size w w4) := by rw [← hw]; exact below_then HB3.out (below_bytes w3 5 _)
        clear hw HB3
        go_wp2_with fail
        exact ⟨⟨k + 1, by omega, by omega, by congr 1, HB4.out⟩, by simp [intOf]; omega⟩
      · have hke : k = b.size := by omega
        go_wp2_with fail
        go_ret
        exact TruePost.mk (b := true) rfl HB.out
  · have hbi : decide ((5000 : Int) < (s.size : Int)) = true := by simp; omega
    go_enter Tryd.func5, Tryd.ntmps5
    go_wp2_with (first
      | (go_at_call 7; refine (alive_any _ HG.out HL.out).mono ?_; intro e w1 hp; obtain ⟨rfl, hb⟩ := hp.call; have HB1 := hid hb; clear hb hp)
      | (go_at_call 14; refine (put_any _ _).mono ?_; intro e w4 hp; rw [HP.out] at hp; obtain ⟨he, hb⟩ := hp; rw [HV.out] at he; subst he; have HB4 := hid (below_then HB1.out hb); clear hb))
    go_ret
    exact TruePost.mk (b := true) rfl HB4.out

theorem utfBack_walk (letter : Int) (s : ByteArray) (w : World) (hlo : -9223372036854775808 ≤ letter) (hhi : letter ≤ 9223372036854775807) (hs : s.size ≤ maxLen) (hg : ErrorType w) (hL : LeastAt w) : Calls Tryd.prog 5 #[.int .i64 letter, .string s] w (TruePost w) := by
  by_cases hr : rightB letter = true
  · have hb := (rightB_iff letter).1 hr
    obtain ⟨m, rfl⟩ : ∃ m : Nat, letter = m := ⟨letter.toNat, by omega⟩
    exact back_yes s m w hs hr (by omega) hg hL
  · exact back_no s letter w hs (by simpa using hr) hg hL
end Go.Proofs.YtjbfkblobaikdaaDoor
