/-
  The acts of DiskPlays as they lie in memory; the law's Great.
-/
import Derived.Test.YtdchpabcaoghpaaDoorDiskShows
namespace Go.Proofs.YtdchpabcaoghpaaDoor
open Go.RowKit
set_option linter.unusedVariables false

theorem amin2 (k k' : IntKind) (x y : Int) : Builtin.min2 (.int k x) (.int k' y) = pure (.int k (if y < x then y else x)) := by simp only [Builtin.min2]
theorem amin_two (ats : Array TypeId) (ty : TypeId) (a b : Value) : Builtin.min_ ats ty #[a, b] = (Builtin.min2 a b >>= fun s => pure s) := by simp only [Builtin.min_, List.foldlM_cons, List.foldlM_nil]
attribute [local go_sem] amin2 amin_two
/-- One act lies at the cell o of block b. -/
def ActAt (w : World) (b o : Nat) (a : ActD) : Prop :=
  w.cell? ⟨b, o, none⟩ = some (.int .i64 a.kind) ∧ w.cell? ⟨b, o + 1, none⟩ = some (.int .i64 a.file) ∧ w.cell? ⟨b, o + 2, none⟩ = some (.int .i64 a.n) ∧
  w.cell? ⟨b, o + 3, none⟩ = some (.string a.b) ∧ w.cell? ⟨b, o + 4, none⟩ = some a.kv ∧ w.cell? ⟨b, o + 5, none⟩ = some (.int .u8 (a.by_.toNat : Int))
structure ActsAt (w : World) (v : Value) (l : List ActD) : Prop where
  val : (∃ a c, v = .slice a 0 c ∧ l = []) ∨ ∃ b o cap, v = .slice (some ⟨b, o, none⟩) l.length cap ∧ ∀ (i : Nat) (a : ActD), l[i]? = some a → ActAt w b (o + i * 6) a
  n0 : ∀ a ∈ l, -9223372036854775808 ≤ a.n
  n1 : ∀ a ∈ l, a.n ≤ 9223372036854775807
  keep : ∀ a ∈ l, ReadsI w a.kv a.keep
  str : ∀ a ∈ l, a.b.size ≤ maxLen
  klen : ∀ a ∈ l, a.keep.length ≤ maxLen
  len : l.length ≤ maxLen
def Small (l : List ActD) (k : Nat) : Prop := ∀ (i : Nat) (a : ActD), i < k → l[i]? = some a → a.b.size ≤ 9000 ∧ a.keep.length ≤ 9000
def GreatPost (l : List ActD) (w : World) (e : Ending) (w' : World) : Prop := Below w.heap.size w w' ∧ (e = .returned (.bool true) ∨ (e = .returned (.bool false) ∧ Small l l.length ∧ l.length ≤ 9000))
def GRel (l : List ActD) (w : World) (n i : Value) (wr : World) : Prop := ∃ k m : Nat, k ≤ l.length ∧ k ≤ m ∧ m ≤ 9000 ∧ n = .int .i64 m ∧ i = .int .i64 k ∧ Small l k ∧ Below w.heap.size w wr
set_option maxHeartbeats 1000000 in
theorem great_any {w : World} {v : Value} {l : List ActD} (h : ActsAt w v l) : Calls Tryd.prog 6 #[v] w (GreatPost l w) := by
  have H := hid h
  have hll := h.len
  obtain ⟨a0, c0, rfl⟩ : ∃ a c, v = .slice a l.length c := by
    rcases h.val with ⟨a, c, rfl, rfl⟩ | ⟨b, o, cap, rfl, _⟩
    · exact ⟨a, c, rfl⟩
    · exact ⟨_, _, rfl⟩
  clear h
  go_enter Tryd.func6, Tryd.ntmps6
  go_wp2
  go_loopw [3, 4] (fun n i wr => GRel l w n i wr) (fun _ i _ => l.length - (intOf i).toNat)
  case atStart => exact ⟨0, 0, by omega, by omega, by omega, rfl, rfl, fun i a hi => absurd hi (by omega), Below.refl _ _⟩
  case round =>
    obtain ⟨k, m, hk, hkm, hm, rfl, rfl, hsm, hb⟩ := hrel
    have HB := hid hb
    have HS := hid hsm
    clear hb hsm
    by_cases c : k < l.length
    · have t0 : decide ((k : Int) < (l.length : Int)) = true := decide_eq_true (by omega)
      obtain ⟨a, ha⟩ : ∃ a, l[k]? = some a := ⟨l[k], List.getElem?_eq_getElem c⟩
      rcases H.out.val with ⟨_, _, _, rfl⟩ | ⟨b, o, cap, hv, hc⟩
      · simp at c
      injection hv with hv1 _ hv3
      subst hv1 hv3
      have hmem : a ∈ l := List.mem_of_getElem? ha
      obtain ⟨x0, x1, x2, x3, x4, x5⟩ := hc k a ha
      obtain ⟨ka, kc, hkv⟩ := (H.out.keep a hmem).len
      rw [hkv] at x4
      have y3 := (HB.out.cell (lt_of_cell x3)).trans x3
      have y4 := (HB.out.cell (lt_of_cell x4)).trans x4
      have hs := H.out.str a hmem
      have hkl := H.out.klen a hmem
      clear hc x0 x1 x2 x3 x4 x5
      obtain ⟨A, hA⟩ : ∃ A : Int, (if (9000 : Int) < (a.b.size : Int) then 9000 else (a.b.size : Int)) = A := ⟨_, rfl⟩
      obtain ⟨B, hB⟩ : ∃ B : Int, (if (9000 : Int) < (a.keep.length : Int) then 9000 else (a.keep.length : Int)) = B := ⟨_, rfl⟩
      have hA' : 0 ≤ A ∧ A ≤ 9000 ∧ (A < 9000 → (a.b.size : Int) = A) := by rw [← hA]; split <;> omega
      have hB' : 0 ≤ B ∧ B ≤ 9000 ∧ (B < 9000 → (a.keep.length : Int) = B) := by rw [← hB]; split <;> omega
      have w1 : IntKind.i64.wrap ((m : Int) + 1) = (m : Int) + 1 := IntWalk.i64_in _ (by omega)
      have w2 : IntKind.i64.wrap ((m : Int) + 1 + A) = (m : Int) + 1 + A := IntWalk.i64_in _ (by omega)
      have w3 : IntKind.i64.wrap ((m : Int) + 1 + A + B) = (m : Int) + 1 + A + B := IntWalk.i64_in _ (by omega)
      have w4 : IntKind.i64.wrap ((k : Int) + 1) = (k : Int) + 1 := IntWalk.i64_in _ (by omega)
      by_cases cg : 9000 < (m : Int) + 1 + A + B
      · have t1 : decide ((9000 : Int) < (m : Int) + 1 + A + B) = true := decide_eq_true cg
        go_wp2
        go_quiet (fail)
        go_wp2
        go_ret
        exact ⟨Below.drewN' HB.out _, .inl rfl⟩
      · have t1 : decide ((9000 : Int) < (m : Int) + 1 + A + B) = false := decide_eq_false cg
        go_wp2
        go_quiet (fail)
        go_wp2
        go_roundw
        case rel =>
          refine ⟨k + 1, m + 1 + A.toNat + B.toNat, by omega, by omega, by omega, by congr 1; omega, by congr 1, ?_, Below.drewN' HB.out _⟩
          intro i a' hi ha'
          rcases (by omega : i < k ∨ i = k) with h1 | rfl
          · exact HS.out i a' h1 ha'
          · obtain rfl : a = a' := Option.some.inj (ha.symm.trans ha')
            omega
        case measure =>
          simp [intOf]
          omega
    · have t0 : decide ((k : Int) < (l.length : Int)) = false := decide_eq_false (by omega)
      go_wp2
      go_ret
      have hkl : k = l.length := by omega
      subst hkl
      exact ⟨HB.out, .inr ⟨rfl, HS.out, by omega⟩⟩
end Go.Proofs.YtdchpabcaoghpaaDoor
