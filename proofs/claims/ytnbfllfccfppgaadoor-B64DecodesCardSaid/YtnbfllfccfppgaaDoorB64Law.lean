/-
  What b64's statements share: the chapter's examples.
-/
import Derived.Test.YtnbfllfccfppgaaDoorB64Dec
import Derived.Lib.SlBytesConst
namespace Go.Proofs.YtnbfllfccfppgaaDoor.B64
open Go.RowKit Go.Proofs.YtnbfllfccfppgaaDoor
set_option linter.unusedVariables false

theorem enc_example : encS [251, 255] = [45, 95, 56] := by decide +kernel
theorem dec_example : decS [45, 95, 57] = ([], 20, 2) := by decide +kernel
theorem dec_example2 : decS [45, 95, 56] = ([251, 255], 0, -1) := by decide +kernel
/-- A new block of a constant's bytes. -/
theorem reads_const (w : World) (C : Array Value) (T : TypeId) (fr : Nat × Nat) (l : List UInt8) (n : Nat) (hn : n = l.length) (h : C.toList = l.map cellOf) : ReadsB (w.alloc (.cells C T fr)) (.slice (some ⟨w.heap.size, 0, none⟩) n n) l := by
  subst hn
  refine .inr ⟨w.heap.size, 0, l.length, rfl, Nat.le_refl _, fun i hi => ?_⟩
  rw [World.cell?_alloc_mark]
  have h2 : C.toList[i]? = some (cellOf (l.getD i 0)) := by rw [h]; simp [List.getD, hi]
  simpa using h2
/-- []byte(s). -/
theorem reads_world (w : World) (e : TypeId) (s : ByteArray) : ReadsB (Lib.bytesWorld w e s) (.slice (some ⟨w.heap.size, 0, none⟩) s.size (grownCap w s.size 0 e)) s.data.toList := by
  have hl := str_len s
  refine .inr ⟨w.heap.size, 0, grownCap w s.size 0 e, by rw [hl], by rw [hl]; exact grownCap_ge _ _ _ _, fun i hi => ?_⟩
  rw [Nat.zero_add, Lib.bytesWorld_cell w e s i hi]
  rfl
set_option maxRecDepth 100000 in
set_option maxHeartbeats 4000000 in
theorem alive_any (w : World) (hg : ErrorType w) : Calls Tryd.prog 7 #[] w (TruePost w) := by
  have HG := hid hg
  have hgt := hg.lt
  clear hg
  have kc := fun (w : World) (C : Array Value) (n c : Nat) => Lib.run_convert_bytes_const (P := Tryd.prog) w 24 5 C n c Tryd.underlying24 Tryd.underlying5
  have hd := decode_any ⟨#[45, 95, 57]⟩ w (by decide)
  have hr := fun (w1 : World) => right_any ⟨#[45, 95, 56]⟩ w1 (by decide)
  have HD := hid hd
  have HR := hid hr
  clear hd hr
  go_enter Tryd.func7, Tryd.ntmps7
  go_wp2_with (go_at_call 10; refine HD.out.mono ?_; intro e w1 hp; unfold DecodePost at hp; rw [dec_example, errOf_at] at hp; obtain ⟨v, er, rfl, ho, he, hb⟩ := hp; have HER := hid he; have HB := hid hb; obtain ⟨b, o, rfl, _, _⟩ := he; clear ho hb)
  refine (encode_any _ [251, 255] _ (reads_const _ _ _ _ _ _ rfl rfl) (by decide)).mono ?_
  intro e w2 hp
  rw [enc_example] at hp
  obtain ⟨rfl, hb2⟩ := hp
  have HB2 : Hid (Below w1.heap.size w1 w2) := hid (((Below.refl w1.heap.size w1).alloc (Nat.le_refl _) _).trans (hb2.mono (by simp)))
  clear hb2
  go_wp2_with (go_at_call 14; refine (HR.out _).mono ?_; intro e w3 hp; rw [dec_example2] at hp; obtain ⟨rfl, hb3⟩ := hp; have HB3 := hid (below_then HB2.out hb3); clear hb3)
  have her3 := hid (HER.out.below HB3.out)
  have hg3 := hid (HG.out.below (below_then HB.out HB3.out) hgt)
  go_wp2_with (go_at_call 12; refine (num_any _ _ _ hg3.out her3.out).mono ?_; intro e w4 hp; obtain ⟨rfl, hb4⟩ := hp; have HB4 := hid hb4; clear hb4)
  have her4 := hid (her3.out.below HB4.out)
  have hg4 := hid (hg3.out.below HB4.out (Nat.lt_of_lt_of_le hgt (below_then HB.out HB3.out).size))
  go_wp2_with (go_at_call 13; refine (pos_any _ _ _ hg4.out her4.out).mono ?_; intro e w5 hp; obtain ⟨rfl, hb5⟩ := hp; have HB5 := hid hb5; clear hb5)
  go_ret
  exact TruePost.mk rfl (below_then (below_then (below_then HB.out HB3.out) HB4.out) HB5.out)
end Go.Proofs.YtnbfllfccfppgaaDoor.B64
