/-
  The statement B64Decodes: its call answers true.
-/
import Derived.Test.YtnbfllfccfppgaaDoorB64Law
import Derived.Test.YtnbfllfccfppgaaDoorB64RefDec
namespace Go.Proofs.YtnbfllfccfppgaaDoor.B64D
open Go.RowKit Go.Proofs.YtnbfllfccfppgaaDoor Go.Proofs.YtnbfllfccfppgaaDoor.B64
set_option linter.unusedVariables false
theorem own_read {w : World} {base : Nat} {v : Value} {l : List UInt8} (h : OwnB w base 5 v l) : ∃ a c, v = .slice a l.length c := by
  rcases h.reads with ⟨hv, rfl⟩ | ⟨b', o', cap', hv, hc, hcell⟩
  · exact ⟨_, _, hv⟩
  · exact ⟨_, _, hv⟩
theorem errOf_num (s : List UInt8) : (errOf (decS s).2.1 (decS s).2.2).num = (decS s).2.1 ∧ (errOf (decS s).2.1 (decS s).2.2).pos = (decS s).2.2 := by
  rcases dec_num s with ⟨h1, h2⟩ | ⟨h1, h2⟩ | h1
  · rw [h1, h2, errOf_nil]; exact ⟨rfl, rfl⟩
  · rw [h1, h2, errOf_no]; exact ⟨rfl, rfl⟩
  · rw [h1, errOf_at]; exact ⟨rfl, rfl⟩
set_option maxRecDepth 100000 in
set_option maxHeartbeats 1000000 in
theorem decodes_walk (s : ByteArray) (w : World) (hs : s.size ≤ maxLen) (hg : ErrorType w) : Calls Tryd.prog 4 #[.string s] w (TruePost w) := by
  unfold maxLen at hs
  have ha := hid (alive_any w hg)
  have HG := hid hg
  have hgt := hg.lt
  clear hg
  by_cases hl : 70000 < s.size
  · go_enter Tryd.func4, Tryd.ntmps4
    go_wp2_with (go_at_call 7; refine ha.out.mono ?_; intro e w1 hp; obtain ⟨rfl, hb⟩ := hp; have HB1 := hid hb; clear hb)
    go_ret
    exact TruePost.mk rfl HB1.out
  · obtain ⟨k, hk⟩ := B64R.ref_dec s
    have hen := errOf_num s.data.toList
    have hdec := hid (fun w' => decode_any s w' (by omega))
    have hright := fun w' => right_any s w' (by omega)
    unfold DecodePost at hdec
    obtain ⟨out, n, p, hd⟩ : ∃ out n p, decS s.data.toList = (out, n, p) := ⟨_, _, _, rfl⟩
    rw [hd] at hen hk hdec hright
    simp only [] at hen hk hdec hright
    have HK := hid hk
    have HEN := hid hen
    have HRI := hid hright
    obtain ⟨g, hgE⟩ : ∃ g, errOf n p = g := ⟨_, rfl⟩
    rw [hgE] at hdec HEN
    clear hk hd hen hright hgE
    go_enter Tryd.func4, Tryd.ntmps4
    go_wp2_with (go_at_call 7; refine ha.out.mono ?_; intro e w1 hp; obtain ⟨rfl, hb⟩ := hp; have HB1 := hid hb; clear hb)
    refine (hdec.out _).mono ?_
    intro e w2 hp
    obtain ⟨v, er, rfl, ho, he, hb⟩ := hp
    have HB2 := hid (below_then HB1.out hb)
    have HER := hid he
    have HO := hid ho
    have hg2 := hid (HG.out.below HB2.out hgt)
    obtain ⟨a, cc, rfl⟩ := own_read ho
    clear ho he hb
    go_wp2_with (go_at_call 11; refine (PB64Decodes.warrantref02_Decode.calls k s _ _ _ _ HK.out).mono ?_; intro e w3 hp; obtain ⟨rfl, hb⟩ := hp; have HB3 := hid hb; clear hb)
    have he3 := hid (HER.out.below HB3.out)
    have ho3 := hid (HO.out.reads.below HB3.out)
    have hg3 := hid (hg2.out.below HB3.out (Nat.lt_of_lt_of_le hgt HB2.out.size))
    go_wp2_with (go_at_call 12; refine (num_any _ _ _ hg3.out he3.out).mono ?_; rw [HEN.out.1]; intro e w4 hp; obtain ⟨rfl, hb4⟩ := hp; have HB4 := hid hb4; clear hb4)
    have he4 := hid (he3.out.below HB4.out)
    have ho4 := hid (ho3.out.below HB4.out)
    have HB5 := hid (below_then (below_then HB2.out HB3.out) HB4.out)
    have hg4 := hid (hg3.out.below HB4.out (Nat.lt_of_lt_of_le hgt (below_then HB2.out HB3.out).size))
    go_wp2_with (go_at_call 13; refine (pos_any _ _ _ hg4.out he4.out).mono ?_; rw [HEN.out.2]; intro e w5 hp; obtain ⟨rfl, hb5⟩ := hp; have HB6 := hid hb5; have hstr := run_string_of_reads (P := Tryd.prog) byteT Tryd.underlying9 (ho4.out.below hb5); clear hb5)
    refine (HRI.out _).mono ?_
    intro e w6 hp
    obtain ⟨rfl, hb6⟩ := hp
    have HB7 := hid (below_then (below_then HB5.out HB6.out) hb6)
    clear hb6
    go_wp2
    go_ret
    exact TruePost.mk (by simp; rw [Bool.eq_iff_iff]; simp) HB7.out
end Go.Proofs.YtnbfllfccfppgaaDoor.B64D
