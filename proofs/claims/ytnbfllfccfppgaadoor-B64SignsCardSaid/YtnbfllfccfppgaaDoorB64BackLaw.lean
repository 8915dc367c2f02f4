/-
  The statements B64Back and B64Signs: their calls answer true.
-/
import Derived.Test.YtnbfllfccfppgaaDoorB64Law
namespace Go.Proofs.YtnbfllfccfppgaaDoor.B64
open Go.RowKit Go.Proofs.YtnbfllfccfppgaaDoor
set_option linter.unusedVariables false
theorem own_read {w : World} {base : Nat} {v : Value} {l : List UInt8} (h : OwnB w base 5 v l) : ∃ a c, v = .slice a l.length c := by
  rcases h.reads with ⟨hv, rfl⟩ | ⟨b', o', cap', hv, hc, hcell⟩
  · exact ⟨_, _, hv⟩
  · exact ⟨_, _, hv⟩
theorem dec_len (s : List UInt8) : (decS s).1.length ≤ s.length := by
  unfold decS
  split
  · simp
  · split
    · simp
    · split
      · simp
      · split
        · simp only [decB_length]; omega
        · simp
theorem str_eta (s : ByteArray) : (⟨s.data.toList.toArray⟩ : ByteArray) = s := by cases s; simp
theorem ret_true {b : Bool} (h : b = true) : Ending.returned (.bool b) = .returned (.bool true) := by rw [h]
set_option maxRecDepth 100000 in
set_option maxHeartbeats 1000000 in
theorem back_walk (s t : ByteArray) (w : World) (hs : s.size ≤ maxLen) (ht : t.size ≤ maxLen) (hg : ErrorType w) : Calls Tryd.prog 5 #[.string s, .string t] w (TruePost w) := by
  unfold maxLen at hs ht
  have kc := fun (w : World) => Lib.run_convert_string_bytes (P := Tryd.prog) w 9 24 5 s Tryd.underlying9 Tryd.underlying24 Tryd.underlying5
  have ha := hid (alive_any w hg)
  by_cases hl : 20000 < s.size ∨ 60000 < t.size
  · have t1 : decide ((20000 : Int) < (s.size : Int)) = true ∨ decide ((20000 : Int) < (s.size : Int)) = false ∧ decide ((60000 : Int) < (t.size : Int)) = true := by
      by_cases h : 20000 < s.size
      · exact .inl (decide_eq_true (by omega))
      · exact .inr ⟨decide_eq_false (by omega), decide_eq_true (by omega)⟩
    clear hl
    rcases t1 with t1 | ⟨t1, t2⟩
    all_goals
      go_enter Tryd.func5, Tryd.ntmps5
      go_wp2_with (go_at_call 7; refine ha.out.mono ?_; intro e w1 hp; obtain ⟨rfl, hb⟩ := hp; have HB1 := hid hb; clear hb)
      go_ret
      exact TruePost.mk rfl HB1.out
  · have t1 : decide ((20000 : Int) < (s.size : Int)) = false := decide_eq_false (by omega)
    have t2 : decide ((60000 : Int) < (t.size : Int)) = false := decide_eq_false (by omega)
    have hde := dec_enc s.data.toList (by rw [str_len]; omega)
    have HDE := hid hde
    have hD0 : ∀ w', Calls Tryd.prog 10 #[strV (encS s.data.toList)] w' (DecodePost (encS s.data.toList) w') := fun w' =>
      decode_any ⟨(encS s.data.toList).toArray⟩ w' (by have := encS_length s.data.toList; have h3 := str_len s; unfold encLen at this; show (encS s.data.toList).toArray.size ≤ _; simp; omega)
    have hD := hid hD0
    clear hD0
    have hT := hid (fun w' => decode_any t w' (by omega))
    have hback := hid (enc_dec t.data.toList)
    have hdn := dec_num t.data.toList
    obtain ⟨c, n, p, hct⟩ : ∃ c n p, decS t.data.toList = (c, n, p) := ⟨_, _, _, rfl⟩
    have HCT := hid hct
    rw [hct] at hdn
    clear hct hde
    go_enter Tryd.func5, Tryd.ntmps5
    go_wp2_with (go_at_call 7; refine ha.out.mono ?_; intro e w1 hp; obtain ⟨rfl, hb⟩ := hp; have HB1 := hid hb; clear hb)
    refine (encode_any _ s.data.toList _ (reads_world w1 5 s) (by rw [str_len]; omega)).mono ?_
    intro e w2 hp
    obtain ⟨rfl, hb2⟩ := hp
    have HB2 : Hid (Below w.heap.size w w2) := hid (below_then HB1.out ((below_bytes w1 5 s).trans (hb2.mono (below_bytes w1 5 s).size)))
    clear hb2
    go_wp2_with fail
    refine (hD.out _).mono ?_
    intro e w3 hp
    unfold DecodePost at hp
    rw [HDE.out] at hp
    obtain ⟨v, er, rfl, ho, he, hb⟩ := hp
    simp only [] at ho he
    rw [errOf_nil] at he
    obtain rfl : er = .nilIface := he
    have HO := hid ho
    have HB3 := hid (below_then HB2.out hb)
    have hstr := run_string_of_reads (P := Tryd.prog) byteT Tryd.underlying9 ho.reads
    obtain ⟨a, cc, rfl⟩ := own_read ho
    unfold strV at hstr
    rw [str_eta, str_len] at hstr
    rw [str_len]
    clear ho hb
    go_wp2_with fail
    rcases hdn with ⟨h1, h2⟩ | ⟨h1, h2⟩ | h1
    · obtain rfl : n = 0 := h1
      obtain rfl : p = -1 := h2
      refine (hT.out _).mono ?_
      intro e w4 hp
      unfold DecodePost at hp
      rw [HCT.out] at hp
      obtain ⟨v, er, rfl, ho, he, hb⟩ := hp
      simp only [] at ho he
      rw [errOf_nil] at he
      obtain rfl : er = .nilIface := he
      have HB4 := hid (below_then HB3.out hb)
      have HBK := hid (hback.out c HCT.out)
      have hcl : c.length ≤ 1099511627776 := by have := dec_len t.data.toList; rw [HCT.out, str_len] at this; simp only [] at this; omega
      have hen := hid (encode_any v c _ ho.reads hcl)
      clear ho hb
      go_wp2_with (go_at_call 8; refine hen.out.mono ?_; intro e w5 hp; rw [HBK.out] at hp; obtain ⟨rfl, hb5⟩ := hp; have HB5 := hid hb5; clear hb5)
      go_ret
      exact TruePost.mk rfl (below_then HB4.out HB5.out)
    · obtain rfl : n = 2 := h1
      obtain rfl : p = -1 := h2
      refine (hT.out _).mono ?_
      intro e w4 hp
      unfold DecodePost at hp
      rw [HCT.out] at hp
      obtain ⟨v, er, rfl, ho, he, hb⟩ := hp
      simp only [] at ho he
      rw [errOf_no] at he
      obtain rfl : er = .iface 43 (.int .i64 2) := he
      have HB4 := hid (below_then HB3.out hb)
      clear ho hb
      go_wp2
      go_ret
      exact TruePost.mk rfl HB4.out
    · obtain rfl : n = 20 := h1
      refine (hT.out _).mono ?_
      intro e w4 hp
      unfold DecodePost at hp
      rw [HCT.out] at hp
      obtain ⟨v, er, rfl, ho, he, hb⟩ := hp
      simp only [] at ho he
      rw [errOf_at] at he
      obtain ⟨b, o, rfl, _, _⟩ := he
      have HB4 := hid (below_then HB3.out hb)
      clear ho hb
      go_wp2
      go_ret
      exact TruePost.mk rfl HB4.out

theorem signs_walk (s : ByteArray) (w : World) (hs : s.size ≤ maxLen) (hg : ErrorType w) : Calls Tryd.prog 6 #[.string s] w (TruePost w) := by
  unfold maxLen at hs
  have kc := fun (w : World) => Lib.run_convert_string_bytes (P := Tryd.prog) w 9 24 5 s Tryd.underlying9 Tryd.underlying24 Tryd.underlying5
  have ha := hid (alive_any w hg)
  by_cases hl : 20000 < s.size
  · go_enter Tryd.func6, Tryd.ntmps6
    go_wp2_with (go_at_call 7; refine ha.out.mono ?_; intro e w1 hp; obtain ⟨rfl, hb⟩ := hp; have HB1 := hid hb; clear hb)
    go_ret
    exact TruePost.mk rfl HB1.out
  · have hel := encS_length s.data.toList
    unfold encLen at hel
    rw [str_len] at hel
    obtain ⟨T, hT⟩ : ∃ T : ByteArray, (⟨(encS s.data.toList).toArray⟩ : ByteArray) = T := ⟨_, rfl⟩
    have hTl : encS s.data.toList = T.data.toList := by rw [← hT]
    have hTs : T.size = (8 * s.size + 5) / 6 := by rw [← str_len T, ← hTl]; exact hel
    have hkind : ∀ i (h : i < T.size), (65 ≤ T[i].toNat ∧ T[i].toNat ≤ 90) ∨ (97 ≤ T[i].toNat ∧ T[i].toNat ≤ 122) ∨ (48 ≤ T[i].toNat ∧ T[i].toNat ≤ 57) ∨ T[i].toNat = 45 ∨ T[i].toNat = 95 := by
      intro i h
      rw [str_get T i h, ← hTl, encS_get _ _ (by unfold encLen; rw [str_len]; omega)]
      exact sg_kind_all _ (encW_lt _ _)
    have HT := hid hT
    have HTS := hid hTs
    have HK := hid hkind
    clear hkind hel hT hTl hTs
    go_enter Tryd.func6, Tryd.ntmps6
    go_wp2_with (go_at_call 7; refine ha.out.mono ?_; intro e w1 hp; obtain ⟨rfl, hb⟩ := hp; have HB1 := hid hb; clear hb)
    refine (encode_any _ s.data.toList _ (reads_world w1 5 s) (by rw [str_len]; omega)).mono ?_
    intro e w2 hp
    unfold TextPost strV at hp
    rw [HT.out] at hp
    obtain ⟨rfl, hb2⟩ := hp
    have HB2 : Hid (Below w.heap.size w w2) := hid (below_then HB1.out ((below_bytes w1 5 s).trans (hb2.mono (below_bytes w1 5 s).size)))
    clear hb2
    have t3 : ((T.size : Int) != (8 * (s.size : Int) + 5) / 6) = false := by rw [bne_eq_false_iff_eq]; have := HTS.out; omega
    have hLl : T.size ≤ 100000 := by have := HTS.out; omega
    go_wp2
    go_loop [4] (fun i => ∃ k : Nat, k ≤ T.size ∧ i = .int .i64 k) (fun i => T.size - (intOf i).toNat)
    case atStart => exact ⟨0, by omega, rfl⟩
    case round =>
      obtain ⟨k, hk, rfl⟩ := hrel
      by_cases hlt : k < T.size
      · have hkd := HK.out k hlt
        have hc : T[k].toNat < 256 := T[k].toNat_lt
        obtain ⟨c, hcc⟩ : ∃ c, T[k].toNat = c := ⟨_, rfl⟩
        rw [hcc] at hkd hc
        rcases hkd with ⟨h1, h2⟩ | ⟨h1, h2⟩ | ⟨h1, h2⟩ | rfl | rfl
        all_goals
          go_wp2
          exact ⟨⟨k + 1, by omega, by go_num⟩, by simp [intOf]; omega⟩
      · go_wp2
        go_ret
        exact TruePost.mk rfl HB2.out
end Go.Proofs.YtnbfllfccfppgaaDoor.B64
