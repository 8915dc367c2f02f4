/-
  The document's Name, Check, Print, Split, Parse by contract.
-/
import Derived.Test.YtomkdnapnjkclaaDoorScoRef2
import Derived.Test.YtomkdnapnjkclaaDoorScoCheck
import Derived.Test.YtomkdnapnjkclaaDoorScoParse
namespace Go.Proofs.YtomkdnapnjkclaaDoor.Sco
open Go.RowKit Go.Proofs.YtomkdnapnjkclaaDoor Go.Proofs.YtomkdnapnjkclaaDoor.PScopeSets Go.Proofs.YtomkdnapnjkclaaDoorW.PrintWords Go.Proofs.YtomkdnapnjkclaaDoorW.PrintLast Go.Proofs.YtomkdnapnjkclaaDoorW.PrintMore
set_option linter.unusedVariables false
set_option linter.unusedSimpArgs false
theorem BP.mk {b c : Bool} {w w' : World} (h : b = c) (hb : Drawn0 w w') : BP b w (.returned (.bool c)) w' := ⟨by rw [h], hb⟩
theorem BB.mk {b c : Bool} {w w' : World} (h : b = c) (hb : Below w.heap.size w w') : BB b w (.returned (.bool c)) w' := ⟨by rw [h], hb⟩
set_option maxHeartbeats 4000000 in
set_option maxRecDepth 20000 in
theorem rname_any (s : ByteArray) (w : World) (hs : s.size ≤ 1048576) : Calls Tryd.prog 26 #[.string s] w (BP (nameB s) w) := by
  have hln := str_len s
  obtain ⟨r, hr⟩ : ∃ r, nameB s = r := ⟨_, rfl⟩
  rw [hr]
  have HLN := hid hln
  by_cases h0 : s.size < 1
  · have t0 : decide ((s.size : Int) < 1) = true := decide_eq_true (by omega)
    have HR : Hid (r = false) := hid (by rw [← hr]; unfold nameB; rw [decide_eq_false (p := s.size ≠ 0) (by omega)]; simp)
    clear hln hr h0
    go_enter Tryd.func26, Tryd.ntmps26
    go_wp2_with fail
    go_ret
    exact BP.mk HR.out (Drawn0.refl _)
  · have t0 : decide ((s.size : Int) < 1) = false := decide_eq_false (by omega)
    by_cases h1 : 32 < s.size
    · have t1 : decide ((32 : Int) < (s.size : Int)) = true := decide_eq_true (by omega)
      have HR : Hid (r = false) := hid (by rw [← hr]; unfold nameB; rw [decide_eq_false (p := s.size ≤ 32) (by omega)]; simp)
      clear hln hr h0 h1
      go_enter Tryd.func26, Tryd.ntmps26
      go_wp2_with fail
      go_ret
      exact BP.mk HR.out (Drawn0.refl _)
    · have t1 : decide ((32 : Int) < (s.size : Int)) = false := decide_eq_false (by omega)
      have HR : Hid (r = nameL s.data.toList) := hid (by rw [← hr]; unfold nameB; rw [decide_eq_true (p := s.size ≠ 0) (by omega), decide_eq_true (p := s.size ≤ 32) (by omega)]; simp)
      clear hln hr h0 h1
      go_enter Tryd.func26, Tryd.ntmps26
      go_wp2_with fail
      go_loopw [3] (fun vi wr => ∃ i : Nat, i ≤ s.size ∧ vi = .int .i64 (i : Nat) ∧ Hid (∀ q c, q < i → s.data.toList[q]? = some c → nameC c) ∧ w = wr) (fun vi _ => s.size - (intOf vi).toNat)
      case atStart => exact ⟨0, Nat.zero_le _, rfl, hid (fun q c h => absurd h (by omega)), rfl⟩
      case round =>
        obtain ⟨i, hi, rfl, hg, rfl⟩ := hrel
        by_cases hlt : i < s.size
        · have t2 : decide ((i : Int) < (s.size : Int)) = true := decide_eq_true (by omega)
          have p0 : (0 : Int) ≤ (i : Int) := by omega
          have hget := str_get s i hlt
          obtain ⟨c, hc⟩ : ∃ c, s.data.toList[i]? = some c := ⟨s.data.toList[i]'(by rw [HLN.out]; exact hlt), by simp⟩
          have hget2 : s[i] = c := by rw [hget, List.getD_eq_getElem?_getD, hc]; rfl
          have hcl := c.toNat_lt
          have HC := hid hc
          clear hget hc
          have NO : Hid (¬ nameC c → r = false) := hid (fun h => by
            rw [HR.out]
            unfold nameL
            rw [List.all_eq_false]
            exact ⟨c, List.mem_of_getElem? HC.out, by simpa using h⟩)
          have YES : Hid (nameC c → ∀ q d, q < i + 1 → s.data.toList[q]? = some d → nameC d) := hid (fun h q d hq hd => by
            rcases Nat.lt_or_ge q i with h9 | h9
            · exact hg.out q d h9 hd
            · obtain rfl : q = i := by omega
              rw [HC.out] at hd
              rw [← Option.some.inj hd]; exact h)
          go_wp2_with fail
          all_goals
            first
            | (go_ret
               exact BP.mk (NO.out (by
                 unfold nameC
                 try simp only [decide_eq_true_eq, decide_eq_false_iff_not, beq_iff_eq, beq_eq_false_iff_ne, bne, Bool.not_eq_eq_eq_not, Bool.not_false, Bool.not_true, Bool.not_eq_true, Bool.not_eq_false, beq_iff_eq, beq_eq_false_iff_ne, ne_eq] at *
                 omega)) (Drawn0.refl _))
            | (refine ⟨⟨i + 1, by omega, by congr 1, hid (YES.out (by
                 unfold nameC
                 try simp only [decide_eq_true_eq, decide_eq_false_iff_not, beq_iff_eq, beq_eq_false_iff_ne, bne, Bool.not_eq_eq_eq_not, Bool.not_false, Bool.not_true, Bool.not_eq_true, Bool.not_eq_false, beq_iff_eq, beq_eq_false_iff_ne, ne_eq] at *
                 omega)), by first | rfl | trivial⟩, by simp [intOf] <;> omega⟩)
            | trace_state
        · obtain rfl : i = s.size := by omega
          have t2 : decide ((s.size : Int) < (s.size : Int)) = false := decide_eq_false (by omega)
          go_wp2_with fail
          go_ret
          refine BP.mk ?_ (Drawn0.refl _)
          rw [HR.out]
          unfold nameL
          rw [List.all_eq_true.2 (fun c hc => by
            obtain ⟨q, hq⟩ := List.mem_iff_getElem?.1 hc
            exact decide_eq_true (hg.out q c (by rw [← HLN.out]; exact (List.getElem?_eq_some_iff.1 hq).1) hq))]
end Go.Proofs.YtomkdnapnjkclaaDoor.Sco
