/-
  http.Parse's two closures by contract; what Parse answers.
-/
import Derived.Test.YtpkiahpdoejbcaaDoorHttHead
namespace Go.Proofs.YtpkiahpdoejbcaaDoor.Htt
open Go.RowKit Go.Proofs.YtpkiahpdoejbcaaDoor
open Go.Proofs.YtpkiahpdoejbcaaDoorW.PrintWords (results_ct)
set_option linter.unusedVariables false
set_option linter.unusedSimpArgs false
def crlf : List UInt8 := [13, 10]
/-- The first line, what stands behind it, whether it is ended. -/
def lineS (l : List UInt8) : List UInt8 × List UInt8 × Bool := Lib.cut l crlf
theorem next_any (s : ByteArray) (B : Nat) (m : Int) (w : World) (hM : MaxAt m w) (hc : w.cell? ⟨B, 0, none⟩ = some (.string s)) (hs : s.size ≤ 1000000) :
    Calls Tryd.prog 24 #[.pointer (some ⟨B, 0, none⟩)] w (fun e w' => e = .returned (.tuple #[.string (baL (lineS s.data.toList).1), .int .i64 (((lineS s.data.toList).1.length + 2 : Nat) : Int), .bool (lineS s.data.toList).2.2]) ∧ ∃ n, w' = w.drewN n) := by
  have hct := Tryd.strings_Cut s ⟨#[13, 10]⟩ m w (by omega) hM
  obtain ⟨a, b, r, hr⟩ : ∃ a b r, lineS s.data.toList = (a, b, r) := ⟨_, _, _, rfl⟩
  have hl : a.length ≤ 1000000 := by
    have := (cut_len1 s.data.toList crlf).1
    unfold lineS at hr
    rw [hr, str_len] at this
    simp only at this
    omega
  have hcu : Calls Tryd.prog 25 #[.string s, .string ⟨#[13, 10]⟩] w (fun e w' => e = .returned (.tuple #[.string (baL a), .string (baL b), .bool r]) ∧ ∃ n, w' = w.drewN n) := by
    refine hct.mono ?_
    rintro e w' ⟨rfl, hw⟩
    unfold lineS at hr
    refine ⟨?_, hw⟩
    rw [show (⟨#[13, 10]⟩ : ByteArray).data.toList = crlf from rfl, hr]
    rfl
  have hal : (baL a).size = a.length := by simp [baL, ByteArray.size]
  rw [hr]
  obtain ⟨x, hx⟩ : ∃ x, baL a = x := ⟨_, rfl⟩
  obtain ⟨n, hn⟩ : ∃ n, a.length = n := ⟨_, rfl⟩
  simp only [hx, hn] at hcu hal hl ⊢
  have HCU := hid hcu
  have x0 : IntKind.i64.wrap ((x.size : Int) + 2) = ((n + 2 : Nat) : Int) := by rw [IntKind.wrap_i64, hal]; omega
  clear hct hcu hr hM hx hn hal
  go_enter Tryd.func24, Tryd.ntmps24
  go_wp2_with (go_at_call 25; refine HCU.out.mono ?_; rintro e w1 ⟨rfl, k, rfl⟩; clear HCU)
  go_ret3
  exact ⟨rfl, _, rfl⟩
theorem fault_any (B : Nat) (a : Int) (w : World) (hc : w.cell? ⟨B, 0, none⟩ = some (.int .i64 a)) :
    Calls Tryd.prog 23 #[.pointer (some ⟨B, 0, none⟩)] w (fun e w' => ∃ v, e = .returned (.tuple #[reqZ, v]) ∧ IsErr w' (.at_ a 230) v ∧ Below w.heap.size w w') := by
  have HB0 := hid ((Below.refl w.heap.size w).alloc (Nat.le_refl _) reqOZ)
  have HH0 := hid (heap_alloc_new w reqOZ)
  have hlt := lt_of_cell hc
  have hc1 : (w.alloc reqOZ).cell? ⟨B, 0, none⟩ = some (.int .i64 a) := (HB0.out.cell (p := ⟨B, 0, none⟩) hlt).trans hc
  obtain ⟨c0, c1, c2, c3, c4, f0, f1, f2, f3, f4⟩ := five_at HH0.out
  go_enter Tryd.func23, Tryd.ntmps23
  go_wp2_with fail
  go_region
  go_wp2
  have hh : (((w.alloc reqOZ).alloc (.cells #[.int .i64 a, .iface 55 (.int .i64 230)] 60)).drew).heap[w.heap.size]? = some reqOZ := by
    have h1 := Below.heap_alloc (w.alloc reqOZ) (.cells #[.int .i64 a, .iface 55 (.int .i64 230)] 60) w.heap.size (by simp)
    exact h1.trans HH0.out
  refine bodyPost_ret (results_ct rfl _ _ w.heap.size 35 #[.string ⟨#[]⟩, .string ⟨#[]⟩, .string ⟨#[]⟩, .slice none 0 0, .string ⟨#[]⟩] (0, 0) _ rfl hh Tryd.underlying35 rfl reqInfo) rfl ?_
  refine ⟨_, rfl, ⟨w.heap.size + 1, 0, rfl, ?_, ?_⟩, (HB0.out.alloc (by simp) _).drew⟩
  · have := heap_alloc_new (w.alloc reqOZ) (.cells #[.int .i64 a, .iface 55 (.int .i64 230)] 60)
    simp at this ⊢
    try simp [World.cell?, this]
  · have := heap_alloc_new (w.alloc reqOZ) (.cells #[.int .i64 a, .iface 55 (.int .i64 230)] 60)
    simp at this ⊢
    try simp [World.cell?, this]
/-! ### What Parse answers -/
def headsF : Nat → List UInt8 → Nat → List Par → Except Nat (List Par × List UInt8 × Nat)
  | 0, _, at_, _ => .error at_
  | f + 1, l, at_, acc =>
    if (lineS l).2.2 = false then .error at_
    else if (lineS l).1 = [] then .ok (acc, l.drop 2, at_ + 2)
    else match headS acc (lineS l).1 with
      | none => .error at_
      | some y => headsF f (l.drop ((lineS l).1.length + 2)) (at_ + ((lineS l).1.length + 2)) (acc ++ [y])
structure Rq where
  m : List UInt8
  p : List UInt8
  q : List UInt8
  heads : List Par
  body : List UInt8
def parseE (m p q : List UInt8) : Except Nat (List Par × List UInt8 × Nat) → Except Nat Rq
  | .error k => .error k
  | .ok (acc, b, k) => if rightB acc b.length 4096 = true then .ok ⟨m, p, q, acc, b⟩ else .error k
def parseFo (ok : Bool) (E : Except Nat (List Par × List UInt8 × Nat)) : Option (List UInt8 × List UInt8 × List UInt8) → Except Nat Rq
  | none => .error 0
  | some (m, p, q) => if ok = false then .error 0 else parseE m p q E
def parseAt (l : List UInt8) : Except Nat Rq :=
  parseFo (lineS l).2.2 (headsF (l.length + 1) (l.drop ((lineS l).1.length + 2)) ((lineS l).1.length + 2) []) (firstS (lineS l).1)
def toG : Except Nat Rq → Except GErr Rq
  | .error k => .error (.at_ k 230)
  | .ok r => .ok r
def parseS (l : List UInt8) : Except GErr Rq := if 4096 < l.length then .error (.no 2) else toG (parseAt l)
/-- What Parse answers, its heads in blocks of their own. -/
def ParsePost (R : Except GErr Rq) (w : World) (e : Ending) (w' : World) : Prop :=
  (match R with
  | .ok r => ∃ (a b c d : ByteArray) (v : Value), a.data.toList = r.m ∧ b.data.toList = r.p ∧ c.data.toList = r.q ∧ d.data.toList = r.body ∧ OwnP w' w.heap.size v r.heads ∧ e = .returned (.tuple #[reqV a b c v d, .nilIface])
  | .error g => ∃ v, e = .returned (.tuple #[reqZ, v]) ∧ IsErr w' g v) ∧ Below w.heap.size w w'
theorem ParsePost.bad {R : Except GErr Rq} {g : GErr} {w w' : World} {v : Value} (h : R = .error g) (he : IsErr w' g v) (hb : Below w.heap.size w w') : ParsePost R w (.returned (.tuple #[reqZ, v])) w' := by subst h; exact ⟨⟨v, rfl, he⟩, hb⟩
theorem ParsePost.good {R : Except GErr Rq} {r : Rq} {a b c d : ByteArray} {w w' : World} {v : Value} (h : R = .ok r) (h0 : a.data.toList = r.m) (h1 : b.data.toList = r.p) (h2 : c.data.toList = r.q) (h3 : d.data.toList = r.body) (ho : OwnP w' w.heap.size v r.heads)
    (hb : Below w.heap.size w w') : ParsePost R w (.returned (.tuple #[reqV a b c v d, .nilIface])) w' := by subst h; exact ⟨⟨a, b, c, d, v, h0, h1, h2, h3, ho, rfl⟩, hb⟩
end Go.Proofs.YtpkiahpdoejbcaaDoor.Htt
