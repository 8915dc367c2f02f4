/-
  The chapter's examples.
-/
import Derived.Test.YtomkdnapnjkclaaDoorScoParse
namespace Go.Proofs.YtomkdnapnjkclaaDoor.Sco
open Go.RowKit Go.Proofs.YtomkdnapnjkclaaDoor Go.Proofs.YtomkdnapnjkclaaDoor.PScopeSets Go.Proofs.YtomkdnapnjkclaaDoorW.PrintWords Go.Proofs.YtomkdnapnjkclaaDoorW.PrintLast Go.Proofs.YtomkdnapnjkclaaDoorW.PrintMore
set_option linter.unusedVariables false
set_option linter.unusedSimpArgs false
theorem ex_parse : parseS [114, 101, 97, 100, 32, 119, 114, 105, 116, 101, 32, 114, 101, 97, 100] = some [⟨#[114, 101, 97, 100]⟩, ⟨#[119, 114, 105, 116, 101]⟩] := by kernel_rfl
theorem ex_both : bothS [⟨#[97]⟩, ⟨#[98]⟩] [⟨#[98]⟩, ⟨#[99]⟩] = [⟨#[98]⟩] := by kernel_rfl
theorem ex_name : nameB ⟨#[97, 46, 98, 58, 99]⟩ = true := by decide +kernel
theorem ex_no : nameB ⟨#[65]⟩ = false := by decide +kernel
theorem in_two (w : World) (x y : ByteArray) : InS (w.alloc (.cells #[.string x, .string y] 9)) (.slice (some ⟨w.heap.size, 0, none⟩) 2 2) [x, y] := by
  refine ⟨_, 2, rfl, Nat.le_refl _, rfl, by simp, fun _ => ⟨_, rfl, fun j p hj => ⟨[.string p], rfl, rfl, fun i u hu => ?_⟩⟩⟩
  match i, hu with
  | 0, hu =>
    cases hu
    match j, hj with
    | 0, hj => cases hj; rw [Addr.add_lit]; simp [show Kd.string.sz = 1 from rfl]
    | 1, hj => cases hj; rw [Addr.add_lit]; simp [show Kd.string.sz = 1 from rfl]
theorem own_cells {w : World} {base : Nat} {A : Option Addr} {n c : Nat} {xs : List ByteArray} (h : OwnS w base (.slice A n c) xs) : n = xs.length ∧ ∀ (i : Nat) x, xs[i]? = some x → ∃ ad, A = some ad ∧ w.cell? (ad.add i) = some (.string x) := by
  obtain ⟨h1, h2, h3⟩ := Kd.R_reads' h
  exact ⟨h1, fun i x hx => at_S h3 i (List.getElem?_eq_some_iff.1 hx).1 x hx⟩
set_option maxHeartbeats 4000000 in
set_option maxRecDepth 20000 in
theorem alive_any (w : World) : Calls Tryd.prog 7 #[] w (TruePost w) := by
  go_enter Tryd.func7, Tryd.ntmps7
  go_wp2_with fail
  have h1 := parse_any ⟨#[114, 101, 97, 100, 32, 119, 114, 105, 116, 101, 32, 114, 101, 97, 100]⟩ w (by decide)
  rw [show (⟨#[114, 101, 97, 100, 32, 119, 114, 105, 116, 101, 32, 114, 101, 97, 100]⟩ : ByteArray).data.toList = [114, 101, 97, 100, 32, 119, 114, 105, 116, 101, 32, 114, 101, 97, 100] from rfl, ex_parse] at h1
  refine h1.mono ?_
  rintro e w1 ⟨v1, er, rfl, ho, he, hb⟩
  obtain rfl : er = .nilIface := he
  have ho1 : OwnS w1 w.heap.size v1 [⟨#[114, 101, 97, 100]⟩, ⟨#[119, 114, 105, 116, 101]⟩] := ho
  have HO := hid ho1
  have HB := hid hb
  obtain ⟨A1, c1, rfl, hc1, _⟩ := ho1.reads
  clear h1 ho ho1 hb hc1
  go_wp2_with fail
  have hb2 : Below w1.heap.size w1 ((w1.alloc (.cells #[.string ⟨#[97]⟩, .string ⟨#[98]⟩] 9)).alloc (.cells #[.string ⟨#[98]⟩, .string ⟨#[99]⟩] 9)) := by
    have := (Below.refl w1.heap.size w1).alloc (Nat.le_refl _) (.cells #[.string ⟨#[97]⟩, .string ⟨#[98]⟩] 9)
    exact this.alloc this.size _
  have i1 := (in_two w1 ⟨#[97]⟩ ⟨#[98]⟩).below ((Below.refl (w1.alloc (.cells #[.string ⟨#[97]⟩, .string ⟨#[98]⟩] 9)).heap.size _).alloc (Nat.le_refl _) (.cells #[.string ⟨#[98]⟩, .string ⟨#[99]⟩] 9))
  have i2 := in_two (w1.alloc (.cells #[.string ⟨#[97]⟩, .string ⟨#[98]⟩] 9)) ⟨#[98]⟩ ⟨#[99]⟩
  rw [show (w1.alloc (.cells #[.string ⟨#[97]⟩, .string ⟨#[98]⟩] 9)).heap.size = w1.heap.size + 1 by simp] at i2
  have h2 := both_any [⟨#[97]⟩, ⟨#[98]⟩] [⟨#[98]⟩, ⟨#[99]⟩] _ _ _ i1 i2 (by decide) (by decide)
  rw [ex_both] at h2
  have h3 := h2.mono (fun e w' hq => list_post_up hb2 hq)
  refine h3.mono ?_
  rintro e w2 ⟨v2, rfl, ho2, hb3⟩
  have HO2 := hid ho2
  have HB2 := hid (below_then HB.out hb3)
  obtain ⟨A2, c2, rfl, _, _⟩ := ho2.reads
  obtain ⟨_, hq1⟩ := own_cells (HO.out.below hb3)
  obtain ⟨_, hq2⟩ := own_cells ho2
  obtain ⟨ad1, rfl, e1⟩ := hq1 0 _ rfl
  obtain ⟨ad2, rfl, e2⟩ := hq2 0 _ rfl
  replace e1 : w2.cell? ad1 = some (.string ⟨#[114, 101, 97, 100]⟩) := e1
  replace e2 : w2.cell? ad2 = some (.string ⟨#[98]⟩) := e2
  obtain ⟨T1, hT1⟩ : ∃ T : ByteArray, (⟨#[114, 101, 97, 100]⟩ : ByteArray) = T := ⟨_, rfl⟩
  obtain ⟨T2, hT2⟩ : ∃ T : ByteArray, (⟨#[98]⟩ : ByteArray) = T := ⟨_, rfl⟩
  have z1 : (T1.toList == ([114, 101, 97, 100] : List UInt8)) = true := by rw [← hT1, str_toList]; rfl
  have z2 : (T2.toList == ([98] : List UInt8)) = true := by rw [← hT2, str_toList]; rfl
  rw [hT1] at e1
  rw [hT2] at e2
  clear hT1 hT2 HO HO2
  clear h2 h3 i1 i2 hb2 hb3 hq1 hq2 ho2
  go_wp2_with fail
  have n1 := name_any ⟨#[97, 46, 98, 58, 99]⟩ w2 (by decide)
  rw [ex_name] at n1
  refine n1.mono ?_
  rintro e w3 ⟨rfl, hd⟩
  have HB3 := hid (below_then HB2.out hd.below)
  clear hd n1
  go_wp2_with fail
  have n2 := name_any ⟨#[65]⟩ w3 (by decide)
  rw [ex_no] at n2
  refine n2.mono ?_
  rintro e w4 ⟨rfl, hd⟩
  have HB4 := hid (below_then HB3.out hd.below)
  clear hd n2
  go_wp2_with fail
  go_ret
  exact TruePost.mk (by simp) HB4.out
end Go.Proofs.YtomkdnapnjkclaaDoor.Sco
