/-
  table: the chapter's example; no table.
-/
import Derived.Test.YtcjmlfmpajcjjaaDoorTabPut
import Derived.Test.YtcjmlfmpajcjjaaDoorErr
namespace Go.Proofs.YtcjmlfmpajcjjaaDoor
open Go.RowKit
open Go.Proofs.YtcjmlfmpajcjjaaDoorW.PrintWords (Kd rdOf)
open Go.Proofs.YtcjmlfmpajcjjaaDoor.PTableLast
set_option linter.unusedVariables false
theorem put_end {w : World} {base b : Nat} {v : Value} {xs : List Ent} {most : Int} (h : TabAt w base b v xs most) (hbw : base ≤ w.heap.size) (hs : Rising xs) (hn : xs.length ≤ 1048576) (key : ByteArray) (n : Int) (hlb : IsLb xs key xs.length) (hm : (xs.length : Int) ≠ most) :
    Calls Tryd.prog 8 #[.pointer (some ⟨b, 0, none⟩), .string key, .int .i64 n] w (PutPost base b v .nilIface (xs ++ [⟨key, n⟩]) most w) :=
  put_in h hbw hs hn key n xs.length hlb (fun x hx => by rw [List.getElem?_eq_none (Nat.le_refl _)] at hx; cases hx) hm
    (fun w1 g ho hb h0 h1 _ _ => ins_end ho hb hn g ⟨key, n⟩ h0 h1)
theorem rising_nil : Rising [] := fun p q x y _ hx => by simp at hx
theorem rising_one (x : Ent) : Rising [x] := fun p q y z hpq hy hz => by
  have h1 := (List.getElem?_eq_some_iff.1 hy).1
  have h2 := (List.getElem?_eq_some_iff.1 hz).1
  simp at h1 h2
  omega
def kA : ByteArray := ⟨#[97]⟩
def kB : ByteArray := ⟨#[98]⟩
theorem lb_nil (key : ByteArray) : IsLb [] key 0 := ⟨Nat.le_refl _, fun q x h => by omega, fun q x _ hx => by simp at hx⟩
theorem one_get {x y : Ent} {q : Nat} (h : [x][q]? = some y) : q = 0 ∧ y = x := by
  have h9 := (List.getElem?_eq_some_iff.1 h).1
  simp at h9
  subst h9
  simp at h
  exact ⟨rfl, h.symm⟩
theorem lbB : IsLb [⟨kA, 1⟩] kB 1 := ⟨by simp, fun q x hq hx => by
  obtain ⟨_, rfl⟩ := one_get hx
  rw [str_toList, str_toList]
  show ([97] : List UInt8) < [98]
  decide, fun q x hq hx => by
  obtain ⟨h, _⟩ := one_get hx
  omega⟩
theorem lbA : IsLb [⟨kA, 1⟩] kA 0 := ⟨by simp, fun q x hq hx => by omega, fun q x hq hx => by
  obtain ⟨_, rfl⟩ := one_get hx
  rw [str_toList]
  exact List.lt_irrefl _⟩
theorem num_nil (w : World) (hg : ErrorType w) : Calls Tryd.prog 14 #[.nilIface] w fun e w' => e = .returned (.int .i64 0) ∧ Below w.heap.size w w' := num_any .nil .nilIface w hg rfl
theorem num_no (n : Int) (w : World) (hg : ErrorType w) : Calls Tryd.prog 14 #[.iface 56 (.int .i64 n)] w fun e w' => e = .returned (.int .i64 n) ∧ Below w.heap.size w w' := num_any (.no n) _ w hg rfl
theorem tab_below {w w' : World} {base b : Nat} {v v' : Value} {xs : List Ent} {most : Int} (h : TabAt w base b v xs most) (hs : Step (tfoot b v) w w' (tfoot b v')) (hbw : base ≤ w.heap.size) : Below base w w' := (hs.below hbw (fun k hk => (h.foot k hk).1)).1
set_option maxHeartbeats 4000000 in
set_option maxRecDepth 20000 in
theorem alive_any (w : World) (hg : ErrorType w) : Calls Tryd.prog 6 #[] w (TruePost w) := by
  have hn := new_any 1 w
  rw [if_neg (by omega)] at hn
  have HN := hid hn
  have HG := hid hg
  clear hn hg
  go_enter Tryd.func6, Tryd.ntmps6
  go_wp2_with fail
  refine HN.out.mono ?_
  clear HN
  rintro e w1 ⟨b, rfl, h1, hb1⟩
  have hp := put_end h1 hb1.size rising_nil (by simp) kA 1 (lb_nil kA) (by simp)
  have HP := hid hp
  have H1 := hid h1
  have HB1 := hid hb1
  clear hp h1 hb1
  go_wp2_with fail
  refine HP.out.mono ?_
  clear HP
  rintro e w2 ⟨rfl, v2, h2, s2⟩
  have hb2 : Below w.heap.size w w2 := HB1.out.trans (tab_below H1.out s2 HB1.out.size)
  rw [List.nil_append] at h2
  have hp := put_full h2 (rising_one _) (by simp) kB 2 1 lbB (fun x hx => by simp at hx) rfl
  have HP := hid hp
  have H2 := hid h2
  have HB2 := hid hb2
  clear hp h2 hb2 s2
  go_wp2_with fail
  refine HP.out.mono ?_
  clear HP
  rintro e w3 ⟨rfl, v3, h3, s3⟩
  have hb3 : Below w.heap.size w w3 := HB2.out.trans (tab_below H2.out s3 HB2.out.size)
  have H3 := hid h3
  have HB3 := hid hb3
  clear h3 hb3 s3
  go_wp2_with fail
  refine (num_no 180 w3 (HG.out.below HB3.out HG.out.lt)).mono ?_
  rintro e w4 ⟨rfl, hb4⟩
  have h4 := H3.out.new hb4
  have hb5 := below_then HB3.out hb4
  have hp := put_hit h4 (rising_one _) (by simp) kA 3 0 ⟨kA, 1⟩ rfl rfl lbA
  have HP := hid hp
  have H4 := hid h4
  have HB4 := hid hb5
  clear hp h4 hb5 hb4
  go_wp2_with fail
  refine HP.out.mono ?_
  clear HP
  rintro e w5 ⟨rfl, v5, h5, s5⟩
  have hb5 : Below w.heap.size w w5 := HB4.out.trans (tab_below H4.out s5 HB4.out.size)
  have HL := hid (len_any h5)
  have HB5 := hid hb5
  clear h5 hb5 s5
  go_wp2_with fail
  refine HL.out.mono ?_
  clear HL
  rintro e w6 ⟨rfl, rfl⟩
  go_wp2
  go_ret
  exact TruePost.mk (by simp) HB5.out
end Go.Proofs.YtcjmlfmpajcjjaaDoor
