/-
  The law's Shows: both disks show the same.
-/
import Derived.Test.YtdchpabcaoghpaaDoorDiskLDo
import Derived.Outline
import Derived.Deep.RegionHeld3
namespace Go.Proofs.YtdchpabcaoghpaaDoor
open Go.RowKit
set_option linter.unusedVariables false

theorem used_q {w : World} {d : Nat} {va vb : Value} {s : DS} (h : DiskIs w d va vb s) : Calls Tryd.prog 22 #[.pointer (some ⟨d, 0, none⟩)] w fun e w' => e = .returned (.int .i64 ((s.b0.length : Int) + s.b1.length)) ∧ ∃ m, w' = w.drewN m := by
  have h0 := h.cells.1.1
  have h2 := h.cells.1.2.2.1
  obtain ⟨a0, c0, rfl, _⟩ := reads_slice h.own0.reads
  obtain ⟨a1, c1, rfl, _⟩ := reads_slice h.own1.reads
  have k1 := h.ok.room0
  have k2 := h.ok.room1
  clear h
  go_enter Tryd.func22, Tryd.ntmps22
  go_wp2
  go_region
  all_goals go_wp2
  all_goals
    go_ret
    exact ⟨rfl, 1, rfl⟩
theorem Below.drewN' {B : Nat} {a b : World} (h : Below B a b) (n : Nat) : Below B a (b.drewN n) := ⟨h.os, h.tape, h.output, h.size, h.block⟩
theorem num_nilq (w : World) : Calls Tryd.prog 9 #[.nilIface] w fun e w' => e = .returned (.int .i64 0) ∧ w' = w := by
  go_enter Tryd.func9, Tryd.ntmps9
  go_wp2
  go_ret
  exact ⟨rfl, rfl⟩
theorem safe_q {w : World} {d : Nat} {va vb : Value} {s : DS} (h : DiskIs w d va vb s) (n : Int) (hn : n = 0 ∨ n = 1) (x : Nat) (hx : s.safe n = x) : Calls Tryd.prog 23 #[.pointer (some ⟨d, 0, none⟩), .int .i64 n] w fun e w' => e = .returned (.int .i64 (x : Int)) ∧ w' = w :=
  (safe_any h n hn).mono fun e w' hp => ⟨by rw [hp.1, hx], hp.2.symm⟩
theorem strV_of (B : ByteArray) (l : List UInt8) (h : B.data.toList = l) : strV l = .string B := by subst h; unfold strV; congr 1
def ShowRel (w0 : World) (i : Value) (w : World) : Prop := ∃ k : Nat, k ≤ 2 ∧ i = .int .i64 k ∧ Below w0.heap.size w0 w
theorem safeN (s : DS) : s.safe 0 = s.s0 ∧ s.safe 1 = s.s1 := ⟨rfl, rfl⟩
set_option maxRecDepth 100000 in
set_option maxHeartbeats 2000000 in
theorem shows_on {w : World} {d r : Nat} {va vb : Value} {B0 B1 : ByteArray} {s : DS} (h : DiskIs w d va vb s) (hr : RefIs w r B0 B1 s) (hg : ErrorType w) (hoff : s.off = false) :
    Calls Tryd.prog 12 #[.pointer (some ⟨d, 0, none⟩), .pointer (some ⟨r, 0, none⟩)] w (TruePost w) := by
  have H := hid h
  have HR := hid hr
  have HG := hid hg
  have hgl := hg.lt
  have hsz := hr.size0
  have k1 := h.ok.room0
  have k2 := h.ok.room1
  obtain ⟨⟨c0, c1, c2, c3, c4, c5, c6⟩, _⟩ := hr.cells
  rw [hoff] at c6
  have hon := fun n => (isOn_any (H.out.drewN n)).mono fun e w' (hp : e = .returned (.bool (!s.off)) ∧ w.drewN n = w') => (⟨hp.1, hp.2.symm⟩ : e = .returned (.bool (!s.off)) ∧ w' = w.drewN n)
  rw [hoff] at hon
  have hus := fun n => used_q (H.out.drewN n)
  rw [← hsz.1, ← hsz.2] at hus
  have HON := hid hon
  have HUS := hid hus
  have w1 : IntKind.i64.wrap ((B0.size : Int) + B1.size) = (B0.size : Int) + B1.size := IntWalk.i64_in _ (by omega)
  clear h hr hg hsz hon hus
  go_enter Tryd.func12, Tryd.ntmps12
  go_wp2
  go_quiet ((first | (go_at_call 21; exact Calls.quiet_of_same (HON.out _)) | (go_at_call 22; exact Calls.quiet_of (HUS.out _))))
  go_wp2
  go_loopw [5] (fun i wr => ShowRel w i wr) (fun i _ => 2 - (intOf i).toNat)
  case atStart => exact ⟨0, by omega, rfl, Below.drewN' (Below.refl _ _) _⟩
  case round =>
    obtain ⟨k, hk, rfl, hb⟩ := hrel
    have HB := hid hb
    have D := hid (H.out.new hb)
    have R := hid (HR.out.new hb)
    have E := hid (HG.out.below hb hgl)
    have hwl := hb.size
    clear hb
    rcases (by omega : k = 0 ∨ k = 1 ∨ k = 2) with rfl | rfl | rfl
    · rw [show ((0 : Nat) : Int) = 0 from rfl]
      go_wp2_with fail
      refine (read_any D.out hoff 0 (by omega)).mono ?_
      rintro e w2 ⟨v, rfl, ho, hb2⟩
      have hstr := fun k => run_string_of_reads (P := Tryd.prog) (w := w2.drewN k) byteT Tryd.underlying9 ho.reads
      obtain ⟨a, c, rfl⟩ := own_read ho
      have hbt : strV (s.bytes 0) = .string B0 := strV_of B0 _ HR.out.b0
      rw [hbt] at hstr
      have HB2 := hid hb2
      have R2 := hid (R.out.new hb2)
      have D2 := hid (D.out.new hb2)
      have hcl := R2.out.cells.1.2.2.1
      have hnq := hid num_nilq
      clear ho hb2 hbt
      go_wp2_with (go_at_call 32; refine (rread_any R2.out 0 (by omega) hoff).mono ?_; rintro e w' ⟨rfl, rfl⟩)
      go_quiet ((first | (go_at_call 9; exact Calls.quiet_of_same (hnq.out _)) | (go_at_call 23; exact Calls.quiet_of_same (safe_q (D2.out.drewN _) 0 (by omega) s.s0 rfl))))
      go_wp2
      refine ⟨?_, ?_⟩
      repeat apply Exists.intro
      refine ⟨?_, rfl⟩
      exact ⟨1, by omega, rfl, Below.drewN' (below_then HB.out HB2.out) _⟩
      simp [intOf]
    · rw [show ((1 : Nat) : Int) = 1 from rfl]
      go_wp2_with fail
      refine (read_any D.out hoff 1 (by omega)).mono ?_
      rintro e w2 ⟨v, rfl, ho, hb2⟩
      have hstr := fun k => run_string_of_reads (P := Tryd.prog) (w := w2.drewN k) byteT Tryd.underlying9 ho.reads
      obtain ⟨a, c, rfl⟩ := own_read ho
      have hbt : strV (s.bytes 1) = .string B1 := strV_of B1 _ HR.out.b1
      rw [hbt] at hstr
      have HB2 := hid hb2
      have R2 := hid (R.out.new hb2)
      have D2 := hid (D.out.new hb2)
      have hcl := R2.out.cells.1.2.2.2.1
      have hnq := hid num_nilq
      clear ho hb2 hbt
      go_wp2_with (go_at_call 32; refine (rread_any R2.out 1 (by omega) hoff).mono ?_; rintro e w' ⟨rfl, rfl⟩)
      go_quiet ((first | (go_at_call 9; exact Calls.quiet_of_same (hnq.out _)) | (go_at_call 23; exact Calls.quiet_of_same (safe_q (D2.out.drewN _) 1 (by omega) s.s1 rfl))))
      go_wp2
      refine ⟨?_, ?_⟩
      repeat apply Exists.intro
      refine ⟨?_, rfl⟩
      exact ⟨2, by omega, rfl, Below.drewN' (below_then HB.out HB2.out) _⟩
      simp [intOf]
    · go_wp2
      go_ret
      exact TruePost.mk rfl HB.out
theorem read_offq {w : World} {d : Nat} {va vb : Value} {s : DS} (h : DiskIs w d va vb s) (hoff : s.off = true) (n : Int) (hn : n = 0 ∨ n = 1) :
    Calls Tryd.prog 13 #[.pointer (some ⟨d, 0, none⟩), .int .i64 n] w fun e w' => e = .returned (.tuple #[.slice none 0 0, errno 150]) ∧ w = w' := by
  have H := hid h
  clear h
  go_enter Tryd.func13, Tryd.ntmps13
  go_wp2_with (go_at_call 33; refine (on_off H.out hoff _ hn).mono ?_; rintro e w' ⟨rfl, rfl⟩)
  go_ret2
  exact ⟨rfl, rfl⟩
set_option maxRecDepth 100000 in
set_option maxHeartbeats 2000000 in
theorem shows_off {w : World} {d r : Nat} {va vb : Value} {B0 B1 : ByteArray} {s : DS} (h : DiskIs w d va vb s) (hr : RefIs w r B0 B1 s) (hg : ErrorType w) (hoff : s.off = true) :
    Calls Tryd.prog 12 #[.pointer (some ⟨d, 0, none⟩), .pointer (some ⟨r, 0, none⟩)] w (TruePost w) := by
  have H := hid h
  have HR := hid hr
  have HG := hid hg
  have hgl := hg.lt
  have hsz := hr.size0
  have k1 := h.ok.room0
  have k2 := h.ok.room1
  obtain ⟨⟨c0, c1, c2, c3, c4, c5, c6⟩, _⟩ := hr.cells
  rw [hoff] at c6
  have hon := fun n => (isOn_any (H.out.drewN n)).mono fun e w' (hp : e = .returned (.bool (!s.off)) ∧ w.drewN n = w') => (⟨hp.1, hp.2.symm⟩ : e = .returned (.bool (!s.off)) ∧ w' = w.drewN n)
  rw [hoff] at hon
  have hus := fun n => used_q (H.out.drewN n)
  rw [← hsz.1, ← hsz.2] at hus
  have HON := hid hon
  have HUS := hid hus
  have w1 : IntKind.i64.wrap ((B0.size : Int) + B1.size) = (B0.size : Int) + B1.size := IntWalk.i64_in _ (by omega)
  clear h hr hg hsz hon hus
  go_enter Tryd.func12, Tryd.ntmps12
  go_wp2
  go_quiet ((first | (go_at_call 21; exact Calls.quiet_of_same (HON.out _)) | (go_at_call 22; exact Calls.quiet_of (HUS.out _))))
  go_wp2
  go_loopw [5] (fun i wr => ShowRel w i wr) (fun i _ => 2 - (intOf i).toNat)
  case atStart => exact ⟨0, by omega, rfl, Below.drewN' (Below.refl _ _) _⟩
  case round =>
    obtain ⟨k, hk, rfl, hb⟩ := hrel
    have HB := hid hb
    have D := hid (H.out.new hb)
    have R := hid (HR.out.new hb)
    have E := hid (HG.out.below hb hgl)
    have hwl := hb.size
    clear hb
    rcases (by omega : k = 0 ∨ k = 1 ∨ k = 2) with rfl | rfl | rfl
    · rw [show ((0 : Nat) : Int) = 0 from rfl]
      go_wp2_with fail
      refine (read_offq D.out hoff 0 (by omega)).mono ?_
      rintro e w2 ⟨rfl, rfl⟩
      have hstr := fun w' : World => run_string_of_reads (P := Tryd.prog) (w := w') byteT Tryd.underlying9 (OwnB.nil w' 0 5).reads
      rw [show strV ([] : List UInt8) = .string ⟨#[]⟩ from rfl] at hstr
      replace hstr : ∀ w' : World, _ := hstr
      have hcl0 := R.out.cells.1.2.2.1
      generalize hev : errno 150 = ev
      have hev' : (if (150 : Int) = 0 then Value.nilIface else errno 150) = ev := hev
      have HEV := hid hev'
      clear hev hev'
      generalize hwx : wr = w2
      have D2 := hid D.out
      have R2 := hid R.out
      have E2 := hid E.out
      rw [hwx] at D2 R2 E2 hcl0
      go_wp2_with (go_at_call 32; refine (rread_off R2.out 0 (by omega) hoff).mono ?_; rintro e w' ⟨rfl, rfl⟩)
      go_region_held3 (fun x => Below w2.heap.size w2 x ∧ x.cell? ⟨r, 2, none⟩ = some (.int .i64 (s.s0 : Int)))
        (first | exact ⟨Below.drew (Below.refl _ _), (R2.out.new (Below.drew (Below.refl _ _))).cells.1.2.2.1⟩ | exact ⟨HB3.out, (R2.out.new HB3.out).cells.1.2.2.1⟩)
        (first | (go_at_call 9; refine (num_ev HEV.out (E2.out.below (‹Below w2.heap.size w2 _ ∧ _›).1 E2.out.lt)).mono ?_; rintro e w3 ⟨rfl, hb3⟩; have hb3' : Below w2.heap.size w2 w3 := Below.trans (‹Below w2.heap.size w2 _ ∧ _›).1 hb3; have HB3 := hid hb3'; clear hb3 hb3') | (go_at_call 23; refine (safe_q (D2.out.new (‹Below w2.heap.size w2 _ ∧ _›).1) 0 (by omega) s.s0 rfl).mono ?_; rintro e w3 ⟨rfl, rfl⟩))
      all_goals go_wp2
      refine ⟨?_, ?_⟩
      repeat apply Exists.intro
      refine ⟨?_, rfl⟩
      subst hwx
      exact ⟨1, by omega, rfl, below_then HB.out (‹Below wr.heap.size wr _ ∧ _›).1⟩
      simp [intOf]
    · rw [show ((1 : Nat) : Int) = 1 from rfl]
      go_wp2_with fail
      refine (read_offq D.out hoff 1 (by omega)).mono ?_
      rintro e w2 ⟨rfl, rfl⟩
      have hstr := fun w' : World => run_string_of_reads (P := Tryd.prog) (w := w') byteT Tryd.underlying9 (OwnB.nil w' 0 5).reads
      rw [show strV ([] : List UInt8) = .string ⟨#[]⟩ from rfl] at hstr
      replace hstr : ∀ w' : World, _ := hstr
      have hcl0 := R.out.cells.1.2.2.2.1
      generalize hev : errno 150 = ev
      have hev' : (if (150 : Int) = 0 then Value.nilIface else errno 150) = ev := hev
      have HEV := hid hev'
      clear hev hev'
      generalize hwx : wr = w2
      have D2 := hid D.out
      have R2 := hid R.out
      have E2 := hid E.out
      rw [hwx] at D2 R2 E2 hcl0
      go_wp2_with (go_at_call 32; refine (rread_off R2.out 1 (by omega) hoff).mono ?_; rintro e w' ⟨rfl, rfl⟩)
      go_region_held3 (fun x => Below w2.heap.size w2 x ∧ x.cell? ⟨r, 3, none⟩ = some (.int .i64 (s.s1 : Int)))
        (first | exact ⟨Below.drew (Below.refl _ _), (R2.out.new (Below.drew (Below.refl _ _))).cells.1.2.2.2.1⟩ | exact ⟨HB3.out, (R2.out.new HB3.out).cells.1.2.2.2.1⟩)
        (first | (go_at_call 9; refine (num_ev HEV.out (E2.out.below (‹Below w2.heap.size w2 _ ∧ _›).1 E2.out.lt)).mono ?_; rintro e w3 ⟨rfl, hb3⟩; have hb3' : Below w2.heap.size w2 w3 := Below.trans (‹Below w2.heap.size w2 _ ∧ _›).1 hb3; have HB3 := hid hb3'; clear hb3 hb3') | (go_at_call 23; refine (safe_q (D2.out.new (‹Below w2.heap.size w2 _ ∧ _›).1) 1 (by omega) s.s1 rfl).mono ?_; rintro e w3 ⟨rfl, rfl⟩))
      all_goals go_wp2
      refine ⟨?_, ?_⟩
      repeat apply Exists.intro
      refine ⟨?_, rfl⟩
      subst hwx
      exact ⟨2, by omega, rfl, below_then HB.out (‹Below wr.heap.size wr _ ∧ _›).1⟩
      simp [intOf]
    · go_wp2
      go_ret
      exact TruePost.mk rfl HB.out
theorem shows_any {w : World} {d r : Nat} {va vb : Value} {B0 B1 : ByteArray} {s : DS} (h : DiskIs w d va vb s) (hr : RefIs w r B0 B1 s) (hg : ErrorType w) :
    Calls Tryd.prog 12 #[.pointer (some ⟨d, 0, none⟩), .pointer (some ⟨r, 0, none⟩)] w (TruePost w) := by
  by_cases hoff : s.off = true
  · exact shows_off h hr hg hoff
  · exact shows_on h hr hg (by simpa using hoff)
end Go.Proofs.YtdchpabcaoghpaaDoor
