/-
  The statement DiskNil: its call answers true.
-/
import Derived.Test.YtdchpabcaoghpaaDoorDiskNone
import Derived.Test.YtdchpabcaoghpaaDoorErr
import Derived.Test.YtdchpabcaoghpaaDoorRowInts
namespace Go.Proofs.YtdchpabcaoghpaaDoor
open Go.RowKit
set_option linter.unusedVariables false

/-- errors.errorType holds, all the way. -/
def Held (w0 w : World) : Prop := Below w0.heap.size w0 w ∧ ErrorType w
theorem Held.mk {w0 w : World} (h : Below w0.heap.size w0 w) (k : ErrorType w) : Held w0 w := ⟨h, k⟩
theorem Held.new {w0 w w' : World} (h : Held w0 w) (hlt : 0 < w0.heap.size) (hb : Below w.heap.size w w') : Held w0 w' := ⟨below_then h.1 hb, h.2.below hb (Nat.lt_of_lt_of_le hlt h.1.size)⟩
theorem num_no {w0 w : World} (h : Held w0 w) (hlt : 0 < w0.heap.size) (n : Int) : Calls Tryd.prog 9 #[errno n] w fun e w' => e = .returned (.int .i64 n) ∧ Held w0 w' :=
  (num_any (.no n) (errno n) w h.2 rfl).mono fun e w' ⟨h1, h2⟩ => ⟨h1, h.new hlt h2⟩
theorem num_is {w0 w : World} {d : Nat} {va vb : Value} {s : DS} (h : Held w0 w) (hd : DiskIs w d va vb s) (hlt : 0 < w0.heap.size) (n : Int) : Calls Tryd.prog 9 #[errno n] w fun e w' => e = .returned (.int .i64 n) ∧ Held w0 w' ∧ DiskIs w' d va vb s :=
  (num_any (.no n) (errno n) w h.2 rfl).mono fun e w' ⟨h1, h2⟩ => ⟨h1, h.new hlt h2, hd.new h2⟩
set_option maxRecDepth 100000 in
set_option maxHeartbeats 2000000 in
theorem diskNil_walk (file n : Int) (ba : Option Addr) (blen bcap : Nat) (zs : List Int) (w : World) (hf0 : -9223372036854775808 ≤ file) (hf1 : file ≤ 9223372036854775807) (hn0 : -9223372036854775808 ≤ n) (hn1 : n ≤ 9223372036854775807) (hk : IsRow .u8 w ba blen bcap zs) (hg : ErrorType w) :
    Calls Tryd.prog 4 #[.int .i64 file, .int .i64 n, .slice ba blen bcap] w (TruePost w) := by
  have hal := hid (alive_any w)
  have HG := hid hg
  have hlt := hg.lt
  clear hk hg
  by_cases hl : 5000 < blen
  · go_enter Tryd.func4, Tryd.ntmps4
    go_wp2_with (go_at_call 5; refine hal.out.mono ?_; intro e w1 hp; obtain ⟨rfl, hb⟩ := hp; have HB1 := hid hb; clear hb)
    go_ret
    exact TruePost.mk rfl HB1.out
  · go_enter Tryd.func4, Tryd.ntmps4
    go_wp2_with (go_at_call 5; refine hal.out.mono ?_; intro e w1 hp; obtain ⟨rfl, hb⟩ := hp; have H1 := hid (Held.mk hb (HG.out.below hb hlt)); clear hb)
    refine (read_nil _ _).mono ?_
    rintro e w2 ⟨v, rfl, ho, hb⟩
    have H2 := hid (H1.out.new hlt hb)
    clear ho hb
    go_wp2_with (go_at_call 14; refine (write_nil _ _ _).mono ?_; rintro e w3 ⟨rfl, rfl⟩)
    refine (num_no H2.out hlt 3).mono ?_
    rintro e w3 ⟨rfl, hh⟩
    have H3 := hid hh
    clear hh
    go_wp2_with (go_at_call 15; refine (sync_nil _ _).mono ?_; rintro e w4 ⟨rfl, rfl⟩)
    refine (num_no H3.out hlt 3).mono ?_
    rintro e w4 ⟨rfl, hh⟩
    have H4 := hid hh
    clear hh
    go_wp2_with (go_at_call 16; refine (erase_nil _ _).mono ?_; rintro e w5 ⟨rfl, hb⟩; have H5 := hid (H4.out.new hlt hb); clear hb)
    refine (num_no H5.out hlt 3).mono ?_
    rintro e w6 ⟨rfl, hh⟩
    have H6 := hid hh
    clear hh
    go_wp2_with (go_at_call 17; refine (cut_nil _ _ _).mono ?_; rintro e w7 ⟨rfl, hb⟩; have H7 := hid (H6.out.new hlt hb); clear hb)
    refine (num_no H7.out hlt 3).mono ?_
    rintro e w8 ⟨rfl, hh⟩
    have H8 := hid hh
    clear hh
    go_wp2_with fail
    refine (num_no H8.out hlt 3).mono ?_
    rintro e w9 ⟨rfl, hh⟩
    have H9 := hid hh
    clear hh
    go_wp2_with (go_at_call 18; refine (fuse_nil _ _).mono ?_; rintro e w10 ⟨rfl, hb⟩; have H10 := hid (H9.out.new hlt hb); clear hb)
    refine (num_no H10.out hlt 3).mono ?_
    rintro e w11 ⟨rfl, hh⟩
    have H11 := hid hh
    clear hh
    go_wp2_with (go_at_call 19; refine (crash_nil _ _).mono ?_; rintro e w12 ⟨rfl, hb⟩; have H12 := hid (H11.out.new hlt hb); clear hb)
    refine (num_no H12.out hlt 3).mono ?_
    rintro e w13 ⟨rfl, hh⟩
    have H13 := hid hh
    clear hh
    go_wp2_with (go_at_call 20; refine (turn_nil _ _ _ _).mono ?_; rintro e w14 ⟨rfl, hb⟩; have H14 := hid (H13.out.new hlt hb); clear hb)
    refine (num_no H14.out hlt 3).mono ?_
    rintro e w15 ⟨rfl, hh⟩
    have H15 := hid hh
    clear hh
    go_wp2_with (first
      | (go_at_call 21; refine (isOn_nil _).mono ?_; rintro e w' ⟨rfl, rfl⟩)
      | (go_at_call 22; refine (used_nil _).mono ?_; rintro e w' ⟨rfl, rfl⟩)
      | (go_at_call 23; refine (safe_nil _ _).mono ?_; rintro e w' ⟨rfl, rfl⟩))
    refine (new_any 65536 (by omega) (by omega) _).mono ?_
    rintro e x1 ⟨v2, G, rfl, ⟨d, va, vb, rfl, rfl, hd⟩, hb, hG⟩
    have D1 := hid hd
    have X1 := hid (H15.out.new hlt hb)
    clear hd hb hG
    by_cases hbad : file = 0 ∨ file = 1
    · rcases hbad with rfl | rfl
      all_goals
        go_wp2_with fail
        go_ret
        exact TruePost.mk rfl X1.out.1
    · have t0 : (file == 0) = false := beq_eq_false_iff_ne.2 (by omega)
      have t1 : (file == 1) = false := beq_eq_false_iff_ne.2 (by omega)
      go_wp2_with fail
      refine (read_bad d _ hbad _).mono ?_
      rintro e x2 ⟨v3, rfl, ho, hb⟩
      have D2 := hid (D1.out.new hb)
      have X2 := hid (X1.out.new hlt hb)
      clear ho hb
      go_wp2_with (go_at_call 14; refine (write_bad d _ hbad _ _).mono ?_; rintro e w3 ⟨rfl, rfl⟩)
      refine (num_is X2.out D2.out hlt 1).mono ?_
      rintro e x3 ⟨rfl, hh, hd⟩
      have X3 := hid hh
      have D3 := hid hd
      clear hh hd
      go_wp2_with (go_at_call 15; refine (sync_bad d _ hbad _).mono ?_; rintro e w4 ⟨rfl, rfl⟩)
      refine (num_is X3.out D3.out hlt 1).mono ?_
      rintro e x4 ⟨rfl, hh, hd⟩
      have X4 := hid hh
      have D4 := hid hd
      clear hh hd
      go_wp2_with (go_at_call 16; refine (erase_bad d _ hbad _).mono ?_; rintro e x5 ⟨rfl, hb⟩; have X5 := hid (X4.out.new hlt hb); have D5 := hid (D4.out.new hb); clear hb)
      refine (num_is X5.out D5.out hlt 1).mono ?_
      rintro e x6 ⟨rfl, hh, hd⟩
      have X6 := hid hh
      have D6 := hid hd
      clear hh hd
      go_wp2_with (go_at_call 17; refine (cut_bad d _ _ hbad _).mono ?_; rintro e x7 ⟨rfl, hb⟩; have X7 := hid (X6.out.new hlt hb); have D7 := hid (D6.out.new hb); clear hb)
      refine (num_is X7.out D7.out hlt 1).mono ?_
      rintro e x8 ⟨rfl, hh, hd⟩
      have X8 := hid hh
      have D8 := hid hd
      clear hh hd
      go_wp2_with fail
      refine (num_is X8.out D8.out hlt 1).mono ?_
      rintro e x9 ⟨rfl, hh, hd⟩
      have X9 := hid hh
      have D9 := hid hd
      clear hh hd
      go_wp2_with (go_at_call 20; refine (turn_bad d _ _ hbad _ _).mono ?_; rintro e x10 ⟨rfl, hb⟩; have X10 := hid (X9.out.new hlt hb); have D10 := hid (D9.out.new hb); clear hb)
      refine (num_is X10.out D10.out hlt 1).mono ?_
      rintro e x11 ⟨rfl, hh, hd⟩
      have X11 := hid hh
      have D11 := hid hd
      clear hh hd
      go_wp2_with (first
        | (go_at_call 23; refine (safe_bad d _ hbad _).mono ?_; rintro e w' ⟨rfl, rfl⟩)
        | (go_at_call 22; refine (used_any D11.out).mono ?_; rintro e x12 ⟨rfl, hb⟩; have X12 := hid (X11.out.new hlt hb); clear hb))
      go_ret
      exact TruePost.mk rfl X12.out.1
end Go.Proofs.YtdchpabcaoghpaaDoor
