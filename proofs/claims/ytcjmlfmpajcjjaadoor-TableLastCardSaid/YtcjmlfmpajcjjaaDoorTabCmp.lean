/-
  table: comparing keys.
-/
import Derived.Test.YtcjmlfmpajcjjaaDoorFoot
import Derived.Test.YtcjmlfmpajcjjaaDoorBytes
import Derived.Test.YtcjmlfmpajcjjaaDoorProg
import Derived.Test.YtcjmlfmpajcjjaaDoorPTableLastx0
import Derived.Sort.Walk0
namespace Go.Proofs.YtcjmlfmpajcjjaaDoor
open Go.RowKit
open Go.Proofs.YtcjmlfmpajcjjaaDoorW.PrintWords (Kd rdOf)
open Go.Proofs.YtcjmlfmpajcjjaaDoor.PTableLast
set_option linter.unusedVariables false
/-- The order of texts. -/
def cmpI (a b : ByteArray) : Int := if Op.bytesLess a.toList b.toList = true then -1 else if (a.toList == b.toList) = true then 0 else 1
theorem isnan_any (a : ByteArray) (w : World) : Calls Tryd.prog 37 #[.string a] w fun e w' => e = .returned (.bool false) ∧ w' = w := by
  go_enter Tryd.func37, Tryd.ntmps37
  go_wp2
  go_ret
  exact ⟨rfl, rfl⟩
theorem cmp_any (a b : ByteArray) (w : World) : Calls Tryd.prog 30 #[.string a, .string b] w fun e w' => e = .returned (.int .i64 (cmpI a b)) ∧ w' = w := by
  unfold cmpI
  obtain ⟨x, hx⟩ : ∃ x, Op.bytesLess a.toList b.toList = x := ⟨_, rfl⟩
  obtain ⟨y, hy⟩ : ∃ y, (a.toList == b.toList) = y := ⟨_, rfl⟩
  rw [hx, hy]
  cases x <;> cases y <;> (
    go_enter Tryd.func30, Tryd.ntmps30
    go_wp2_with (go_at_call 37; refine (isnan_any _ _).mono ?_; rintro e w' ⟨rfl, rfl⟩)
    go_ret
    exact ⟨rfl, rfl⟩)
/-- The function that find hands over. -/
theorem find1_any (x : S58) (key : ByteArray) (w : World) : Calls Tryd.prog 29 #[.agg #[.string x.f0, .int .i64 x.f1], .string key] w fun e w' => e = .returned (.int .i64 (cmpI x.f0 key)) ∧ Below w.heap.size w w' := by
  have hb : Below w.heap.size w (w.alloc (.cells #[.string x.f0, .int .i64 x.f1] 58)) := (Below.refl _ w).alloc (Nat.le_refl _) _
  have HB := hid hb
  clear hb
  go_enter Tryd.func29, Tryd.ntmps29
  go_wp2_with (go_at_call 30; refine (cmp_any _ _ _).mono ?_; rintro e w' ⟨rfl, rfl⟩)
  go_ret
  exact ⟨rfl, HB.out⟩
theorem toList_inj {a b : ByteArray} (h : a.toList = b.toList) : a = b := by
  rw [str_toList, str_toList] at h
  apply ByteArray.ext
  exact Array.toList_inj.1 h
theorem cmpI_lt (a b : ByteArray) : cmpI a b < 0 ↔ a.toList < b.toList := by
  unfold cmpI
  rw [bytesLess_eq]
  by_cases h : a.toList < b.toList
  · simp [h]
  · simp only [h, decide_false, Bool.false_eq_true, if_false, iff_false]
    split <;> omega
theorem cmpI_eq (a b : ByteArray) : cmpI a b = 0 ↔ a = b := by
  unfold cmpI
  rw [bytesLess_eq]
  constructor
  · intro h
    split at h
    · omega
    · split at h
      · rename_i h2
        exact toList_inj (by simpa using h2)
      · omega
  · rintro rfl
    simp
end Go.Proofs.YtcjmlfmpajcjjaaDoor
