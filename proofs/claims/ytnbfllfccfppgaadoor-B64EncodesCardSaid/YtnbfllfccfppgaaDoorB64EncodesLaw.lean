/-
  The statement B64Encodes: its call answers true.
-/
import Derived.Test.YtnbfllfccfppgaaDoorB64Law
import Derived.Test.YtnbfllfccfppgaaDoorB64RefEnc
namespace Go.Proofs.YtnbfllfccfppgaaDoor.B64
open Go.RowKit Go.Proofs.YtnbfllfccfppgaaDoor
set_option linter.unusedVariables false
set_option maxRecDepth 100000 in
set_option maxHeartbeats 4000000 in
theorem encodes_walk (s : ByteArray) (w : World) (hs : s.size ≤ maxLen) (hg : ErrorType w) : Calls Tryd.prog 3 #[.string s] w (TruePost w) := by
  unfold maxLen at hs
  have kc := fun (w : World) => Lib.run_convert_string_bytes (P := Tryd.prog) w 9 24 5 s Tryd.underlying9 Tryd.underlying24 Tryd.underlying5
  have ha := hid (alive_any w hg)
  by_cases hl : 20000 < s.size
  · go_enter Tryd.func3, Tryd.ntmps3
    go_wp2_with (go_at_call 7; refine ha.out.mono ?_; intro e w1 hp; obtain ⟨rfl, hb⟩ := hp; have HB1 := hid hb; clear hb)
    go_ret
    exact TruePost.mk rfl HB1.out
  · obtain ⟨k, hk⟩ := ref_enc s (by omega)
    have HK := hid hk
    clear hk
    go_enter Tryd.func3, Tryd.ntmps3
    go_wp2_with (go_at_call 7; refine ha.out.mono ?_; intro e w1 hp; obtain ⟨rfl, hb⟩ := hp; have HB1 := hid hb; clear hb)
    refine (encode_any _ s.data.toList _ (reads_world w1 5 s) (by rw [str_len]; omega)).mono ?_
    intro e w2 hp
    obtain ⟨rfl, hb2⟩ := hp
    have HB2 : Hid (Below w.heap.size w w2) := hid (below_then HB1.out ((below_bytes w1 5 s).trans (hb2.mono (below_bytes w1 5 s).size)))
    clear hb2
    go_wp2_with (go_at_call 9; refine (PB64Encodes.warrantref02_Encode.calls k s _ _ HK.out).mono ?_; intro e w3 hp; obtain ⟨rfl, hb⟩ := hp; have HB3 := hid hb; clear hb)
    go_ret
    exact TruePost.mk (by simp) (below_then HB2.out HB3.out)
end Go.Proofs.YtnbfllfccfppgaaDoor.B64
