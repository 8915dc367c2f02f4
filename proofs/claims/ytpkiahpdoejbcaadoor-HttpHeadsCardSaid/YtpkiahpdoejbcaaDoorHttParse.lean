/-
  http.Parse by contract.
-/
import Derived.Test.YtpkiahpdoejbcaaDoorHttSt
namespace Go.Proofs.YtpkiahpdoejbcaaDoor.Htt
open Go.RowKit Go.Proofs.YtpkiahpdoejbcaaDoor
open Go.Proofs.YtpkiahpdoejbcaaDoorW.PrintWords (results_ct)
set_option linter.unusedVariables false
set_option linter.unusedSimpArgs false
set_option maxHeartbeats 8000000 in
set_option maxRecDepth 20000 in
theorem parse_any (a : Option Addr) (len cap : Nat) (l : List UInt8) (m : Int) (w : World) (hM : MaxAt m w) (h : BytesAt w a len cap l) (hl : l.length ≤ 1000000) :
    Calls Tryd.prog 12 #[.slice a len cap] w (ParsePost (parseS l) w) := by
  obtain ⟨hln, hc, hb⟩ := h
  have HM := hid hM
  have hml := hM.lt
  have HB0 := hid ((Below.refl w.heap.size w).alloc (Nat.le_refl _) reqOZ)
  have HH0 := hid (heap_alloc_new w reqOZ)
  obtain ⟨c0, c1, c2, c3, c4, f0, f1, f2, f3, f4⟩ := five_at HH0.out
  have HLN := hid hln
  have HL := hid hl
  have HBY := hid hb
  clear hM hc hb hl
  by_cases hbig : 4096 < len
  · have HP : Hid (parseS l = .error (.no 2)) := hid (by unfold parseS; rw [if_pos (by omega)])
    have t0 : decide ((4096 : Int) < (len : Int)) = true := decide_eq_true (by omega)
    clear hbig hln
    go_enter Tryd.func12, Tryd.ntmps12
    go_wp2_with fail
    refine bodyPost_ret (results_ct rfl _ _ w.heap.size 35 #[.string ⟨#[]⟩, .string ⟨#[]⟩, .string ⟨#[]⟩, .slice none 0 0, .string ⟨#[]⟩] (0, 0) _ rfl HH0.out Tryd.underlying35 rfl reqInfo) rfl ?_
    exact ParsePost.bad HP.out rfl HB0.out
  · have t0 : decide ((4096 : Int) < (len : Int)) = false := decide_eq_false (by omega)
    have HP : Hid (parseS l = toG (parseAt l)) := hid (by unfold parseS; rw [if_neg (by omega)])
    obtain ⟨s, hs⟩ : ∃ s, baL l = s := ⟨_, rfl⟩
    have hsl : s.data.toList = l := by rw [← hs, baL_data]
    have hsz : s.size = len := by rw [← str_len, hsl, hln]
    have HSL := hid hsl
    have HKC : Hid (∀ w1, Below w.heap.size w w1 → (convert 38 9 (.slice a len cap)).run Tryd.prog w1 = .ok (.string s) w1) := hid (fun w1 hb1 => by
      obtain ⟨b, o, rfl, hi⟩ := HBY.out
      rw [run_string_of_cells (P := Tryd.prog) Tryd.underlying38 Tryd.underlying5 Tryd.underlying9 b o len cap l HLN.out.symm (fun i h9 => by
        have h8 := hi i (by rw [← HLN.out]; exact h9)
        exact (hb1.cell (lt_of_cell h8)).trans h8), ← hs]
      rfl)
    have kc1 := HKC.out _ HB0.out
    have hlen9 : len ≤ 4096 := by omega
    clear hbig hsl hln hs
    have hlen4 : len ≤ 4096 := hlen9
    clear hlen9
    obtain ⟨line, tail, ok, hline⟩ : ∃ line tail ok, lineS l = (line, tail, ok) := ⟨_, _, _, rfl⟩
    have hll : line.length ≤ len := by
      have := (cut_len1 l crlf).1
      unfold lineS at hline
      rw [hline] at this
      rw [HLN.out]
      exact this
    obtain ⟨fo, hfo⟩ : ∃ fo, firstS line = fo := ⟨_, rfl⟩
    obtain ⟨E, hE⟩ : ∃ E, headsF (l.length + 1) (l.drop (line.length + 2)) (line.length + 2) [] = E := ⟨_, rfl⟩
    have HPA : Hid (parseAt l = parseFo ok E fo) := hid (by unfold parseAt; rw [hline, hfo, hE])
    have HEE := hid hE
    clear hE
    have hF := fun w1 => first_any (baL line) w1 (by rw [baL_size]; omega)
    rw [baL_data, hfo] at hF
    have HF := hid hF
    obtain ⟨ln, hln2⟩ : ∃ ln, baL line = ln := ⟨_, rfl⟩
    obtain ⟨k, hk⟩ : ∃ k, line.length = k := ⟨_, rfl⟩
    rw [hln2] at HF
    have HLI := hid hline
    have HLN2 := hid hln2
    have HK := hid hk
    have hk4 : k ≤ 4096 := by omega
    have hN : Hid (∀ w1, At1 w1 (w.heap.size + 1) (.string s) 9 → MaxAt m w1 → Calls Tryd.prog 24 #[.pointer (some ⟨w.heap.size + 1, 0, none⟩)] w1 (fun e w' => e = .returned (.tuple #[.string ln, .int .i64 ((k + 2 : Nat) : Int), .bool ok]) ∧ ∃ n, w' = w1.drewN n)) := hid (fun w1 h1 h2 => by
      have := next_any s (w.heap.size + 1) m w1 h2 h1.cell.1 (by omega)
      rw [HSL.out, hline, hln2, hk] at this
      exact this)
    clear hline hfo hF hln2 hk hll
    have HA0 : Hid (∃ W0, W0 = ((w.alloc reqOZ).alloc (.cells #[.string s] 9)).alloc (.cells #[.int .i64 0] 3) ∧ W0.heap[w.heap.size]? = some reqOZ ∧ At1 W0 (w.heap.size + 1) (.string s) 9 ∧ At1 W0 (w.heap.size + 1 + 1) (.int .i64 0) 3 ∧ Below w.heap.size w W0 ∧ W0.heap.size = w.heap.size + 3) := hid (by
      refine ⟨_, rfl, ?_, ?_, ?_, ?_, ?_⟩
      · have h1 := Below.heap_alloc (w.alloc reqOZ) (.cells #[.string s] 9) w.heap.size (by simp)
        have h2 := Below.heap_alloc ((w.alloc reqOZ).alloc (.cells #[.string s] 9)) (.cells #[.int .i64 0] 3) w.heap.size (by simp; omega)
        exact h2.trans (h1.trans HH0.out)
      · have h1 := heap_alloc_new (w.alloc reqOZ) (.cells #[.string s] 9)
        have h2 := Below.heap_alloc ((w.alloc reqOZ).alloc (.cells #[.string s] 9)) (.cells #[.int .i64 0] 3) (w.heap.size + 1) (by simp)
        unfold At1
        rw [h2]
        simpa using h1
      · have h1 := heap_alloc_new ((w.alloc reqOZ).alloc (.cells #[.string s] 9)) (.cells #[.int .i64 0] 3)
        unfold At1
        simpa using h1
      · exact (HB0.out.alloc (by simp) _).alloc (by simp; omega) _
      · simp)
    obtain ⟨W0, hW0, hG0, hR0, hT0, hBW0, hsz0⟩ := HA0.out
    have HG0 := hid hG0
    have HR0 := hid hR0
    have HT0 := hid hT0
    have HBW0 := hid hBW0
    clear hG0 hR0 hT0 hBW0 HA0
    go_enter Tryd.func12, Tryd.ntmps12
    go_wp2_with (rw [← hW0]; refine (hN.out _ HR0.out (HM.out.below HBW0.out hml)).mono ?_; rintro e w1 ⟨rfl, k1, rfl⟩; clear hN hW0)
    have HG1 := hid (by simpa using HG0.out : (W0.drewN k1).heap[w.heap.size]? = some reqOZ)
    have HR1 := hid (by simpa [At1] using HR0.out : At1 (W0.drewN k1) (w.heap.size + 1) (.string s) 9)
    have HT1 := hid (by simpa [At1] using HT0.out : At1 (W0.drewN k1) (w.heap.size + 1 + 1) (.int .i64 0) 3)
    have HBW1 := hid (below_drn HBW0.out k1)
    have hsz1 : (W0.drewN k1).heap.size = w.heap.size + 3 := by simpa using hsz0
    obtain ⟨W1, hW1⟩ : ∃ W1, W0.drewN k1 = W1 := ⟨_, rfl⟩
    rw [hW1] at HG1 HR1 HT1 HBW1 hsz1 ⊢
    clear HG0 HR0 HT0 HBW0 hsz0 hW1 W0
    refine (HF.out _).mono ?_
    clear HF
    rintro e w2 ⟨hq, hb2⟩
    have HB2 := hid (HBW1.out.trans (hb2.mono (by omega)))
    have HG2 := hid ((hb2.block w.heap.size (by omega)).trans HG1.out)
    have HR2 := hid (HR1.out.below hb2 (by omega))
    have HT2 := hid (HT1.out.below hb2 (by omega))
    have hs2 : w.heap.size + 3 ≤ w2.heap.size := by have := hb2.size; omega
    clear hb2 HG1 HR1 HT1 HBW1 hsz1
    cases fo with
    | none =>
      obtain rfl := hq
      have HE : Hid (parseS l = .error (.at_ 0 230)) := hid (by rw [HP.out, HPA.out]; rfl)
      have HBX := hid (HB2.out.alloc (by omega) reqOZ)
      have HGX := hid ((Below.heap_alloc w2 reqOZ w.heap.size (by omega)).trans HG2.out)
      have HTX := hid (HT2.out.below ((Below.refl w2.heap.size w2).alloc (Nat.le_refl _) reqOZ) (by omega))
      have HGL : Hid (w.heap.size < (w2.alloc reqOZ).heap.size) := hid (by simp; omega)
      have HFC := hid HTX.out.cell.1
      cases ok <;>
      · skip
        go_wp2_with (refine (fault_any (w.heap.size + 1 + 1) _ _ HFC.out).mono ?_; rintro e wf ⟨vf, rfl, he, hbf⟩; have HEF := hid he; have HBF := hid (below_then HBX.out hbf); have HGF := hid ((hbf.block w.heap.size HGL.out).trans HGX.out); obtain ⟨eb, eo, rfl, _, _⟩ := he; obtain ⟨c0, c1, c2, c3, c4, f0, f1, f2, f3, f4⟩ := five_at HGF.out; clear hbf)
        refine bodyPost_ret (results_ct rfl _ _ w.heap.size 35 #[.string ⟨#[]⟩, .string ⟨#[]⟩, .string ⟨#[]⟩, .slice none 0 0, .string ⟨#[]⟩] (0, 0) _ rfl (heap_five HGF.out _ _ _ _ _) Tryd.underlying35 rfl reqInfo) rfl ?_
        exact ParsePost.bad HE.out (err_five HGF.out HEF.out _ _ _ _ _) (below_five HBF.out (Nat.le_refl _) _ _ _ _ _)
    | some mpq =>
      obtain ⟨rm, rp, rq⟩ := mpq
      obtain ⟨a0, a1, a2, e0, e1, e2, rfl⟩ := hq
      have HE0 := hid e0
      have HE1 := hid e1
      have HE2 := hid e2
      clear e0 e1 e2
      cases ok with
      | false =>
        have HE : Hid (parseS l = .error (.at_ 0 230)) := hid (by rw [HP.out, HPA.out]; rfl)
        have HBX := hid (HB2.out.alloc (by omega) (reqO a0 a1 a2 (.slice none 0 0) ⟨#[]⟩))
        have HGX := hid ((Below.heap_alloc w2 (reqO a0 a1 a2 (.slice none 0 0) ⟨#[]⟩) w.heap.size (by omega)).trans HG2.out)
        have HTX := hid (HT2.out.below ((Below.refl w2.heap.size w2).alloc (Nat.le_refl _) (reqO a0 a1 a2 (.slice none 0 0) ⟨#[]⟩)) (by omega))
        have HGL : Hid (w.heap.size < (w2.alloc (reqO a0 a1 a2 (.slice none 0 0) ⟨#[]⟩)).heap.size) := hid (by simp; omega)
        have HFC := hid HTX.out.cell.1
        go_wp2_with (refine (fault_any (w.heap.size + 1 + 1) _ _ HFC.out).mono ?_; rintro e wf ⟨vf, rfl, he, hbf⟩; have HEF := hid he; have HBF := hid (below_then HBX.out hbf); have HGF := hid ((hbf.block w.heap.size HGL.out).trans HGX.out); obtain ⟨eb, eo, rfl, _, _⟩ := he; obtain ⟨c0, c1, c2, c3, c4, f0, f1, f2, f3, f4⟩ := five_at HGF.out; clear hbf)
        refine bodyPost_ret (results_ct rfl _ _ w.heap.size 35 #[.string ⟨#[]⟩, .string ⟨#[]⟩, .string ⟨#[]⟩, .slice none 0 0, .string ⟨#[]⟩] (0, 0) _ rfl (heap_five HGF.out _ _ _ _ _) Tryd.underlying35 rfl reqInfo) rfl ?_
        exact ParsePost.bad HE.out (err_five HGF.out HEF.out _ _ _ _ _) (below_five HBF.out (Nat.le_refl _) _ _ _ _ _)
      | true =>
        have HST : Hid (ParRel w w.heap.size w2.heap.size a0 a1 a2 len E (.int .i64 ((k : Int) + 2)) (w2.alloc (reqO a0 a1 a2 (.slice none 0 0) ⟨#[]⟩)) s (k + 2) 0 [] (len + 1) (.slice none 0 0)) := hid (by
          have hok := line_ok HLI.out
          refine ⟨rfl, by rw [hsz, HLN.out, ← HK.out]; exact hok.1, by omega, by omega, ?_, by simp, by simp, ⟨(Below.heap_alloc w2 (reqO a0 a1 a2 (.slice none 0 0) ⟨#[]⟩) w.heap.size (by omega)).trans HG2.out,
            HR2.out.below ((Below.refl w2.heap.size w2).alloc (Nat.le_refl _) (reqO a0 a1 a2 (.slice none 0 0) ⟨#[]⟩)) (by omega),
            HT2.out.below ((Below.refl w2.heap.size w2).alloc (Nat.le_refl _) (reqO a0 a1 a2 (.slice none 0 0) ⟨#[]⟩)) (by omega), heap_alloc_new w2 _, HB2.out.alloc (by omega) _, by simp⟩, own_none _ _⟩
          rw [HSL.out, HLN.out, ← HK.out, Nat.zero_add]
          exact HEE.out)
        obtain ⟨R, hR⟩ : ∃ R, w2.heap.size = R := ⟨_, rfl⟩
        have hRG : w.heap.size + 3 ≤ R := by omega
        go_wp2_with fail
        go_loopw [8, 9, 10] (fun _ vn _ wr => ∃ x n a acc f v, ParRel w w.heap.size R a0 a1 a2 len E vn wr x n a acc f v) (fun _ vn _ wr => sizeAt wr (w.heap.size + 1) - (intOf vn).toNat)
        case atStart =>
          rw [← hR]
          exact ⟨_, _, _, _, _, _, HST.out⟩
        case round =>
          obtain ⟨x, n, a9, acc, f, v, hr⟩ := hrel
          obtain ⟨rfl, hnx, hax, hfu, hhe, hal, hav, hst, ho⟩ := hr
          have HMU := hid (sizeAt_of hst.hR)
          have HHE := hid hhe
          have HAV := hid hav
          have HST := hid hst
          have HO := hid ho
          have HFU := hid hfu
          obtain ⟨r0, rf0⟩ := hst.hR.cell
          obtain ⟨r1, rf1⟩ := hst.hT.cell
          have p0 : (0 : Int) ≤ (n : Int) := by omega
          have p1 : (n : Int) ≤ (x.size : Int) := by omega
          have p2 : IntKind.i64.wrap ((a9 : Int) + (n : Int)) = (a9 : Int) + (n : Int) := by rw [IntKind.wrap_i64]; omega
          obtain ⟨y, hy⟩ : ∃ y, x.extract n x.size = y := ⟨_, rfl⟩
          have hyl : y.data.toList = x.data.toList.drop n := by rw [← hy]; exact ext_drop x n
          have hys : y.size = x.size - n := by rw [← str_len, hyl, List.length_drop, str_len]
          obtain ⟨f, rfl⟩ : ∃ f', f = f' + 1 := ⟨f - 1, by omega⟩
          obtain ⟨line2, tail2, ok2, hl2⟩ : ∃ a b c, lineS y.data.toList = (a, b, c) := ⟨_, _, _, rfl⟩
          have hcl2 : line2.length ≤ y.size := by
            have := (cut_len1 y.data.toList crlf).1
            unfold lineS at hl2
            rw [hl2, str_len] at this
            exact this
          have hE2 := HHE.out
          rw [← hyl, headsF, hl2] at hE2
          have HE2x := hid hE2
          have HLI4 := hid hl2
          have HYL := hid hyl
          have HY := hid hy
          clear hst ho hhe hav hfu c0 c1 c2 c3 c4 f0 f1 f2 f3 f4 hl2 hE2 hyl hy
          go_wp2_with fail
          go_region
          rw [HY.out]
          obtain ⟨W4, hW4⟩ : ∃ W4, ((wr.setCell ⟨w.heap.size + 1, 0, none⟩ (.string y)).setCell ⟨w.heap.size + 1 + 1, 0, none⟩ (.int .i64 ((a9 : Int) + (n : Int)))).drew = W4 := ⟨_, rfl⟩
          have HS4 : Hid (St w w.heap.size R a0 a1 a2 y (a9 + n) v ⟨#[]⟩ W4) := hid (by rw [← hW4]; exact HST.out.move hRG y (a9 + n))
          have HO4 : Hid (OwnP W4 (R + 1) v acc) := hid (by
            rw [← hW4]
            refine own_heap HO.out (fun k hk => ?_)
            have e1 : ¬ w.heap.size + 1 = k := by omega
            have e2 : ¬ w.heap.size + 1 + 1 = k := by omega
            show ((wr.setCell ⟨w.heap.size + 1, 0, none⟩ (.string y)).setCell ⟨w.heap.size + 1 + 1, 0, none⟩ (.int .i64 ((a9 : Int) + (n : Int)))).heap[k]? = _
            rw [heap_set e2, heap_set e1])
          rw [hW4]
          clear HST HO hW4 r0 rf0 r1 rf1
          cases ok2 with
          | false =>
            have HE : Hid (parseS l = .error (.at_ ((a9 : Int) + (n : Int)) 230)) := hid (by
              have h9 := HE2x.out
              simp at h9
              rw [HP.out, HPA.out, ← h9]; rfl)
            go_wp2_with (first | (refine (next_any y (w.heap.size + 1) m W4 (HM.out.below HS4.out.hb hml) HS4.out.hR.cell.1 (by omega)).mono ?_; rw [HLI4.out]; rintro e w5 ⟨rfl, k5, rfl⟩) | (have HBX := hid (HS4.out.drawn k5).hb; have HGX := hid (HS4.out.drawn k5).hG; have HGL : Hid (w.heap.size < (W4.drewN k5).heap.size) := hid (by have := (HS4.out.drawn k5).sz; omega); have HFC := hid (HS4.out.drawn k5).hT.cell.1; (refine (fault_any (w.heap.size + 1 + 1) _ _ HFC.out).mono ?_; rintro e wf ⟨vf, rfl, he, hbf⟩; have HEF := hid he; have HBF := hid (below_then HBX.out hbf); have HGF := hid ((hbf.block w.heap.size HGL.out).trans HGX.out); obtain ⟨eb, eo, rfl, _, _⟩ := he; obtain ⟨c0, c1, c2, c3, c4, f0, f1, f2, f3, f4⟩ := five_at HGF.out; clear hbf)))
            refine bodyPost_ret (results_ct rfl _ _ w.heap.size 35 #[.string ⟨#[]⟩, .string ⟨#[]⟩, .string ⟨#[]⟩, .slice none 0 0, .string ⟨#[]⟩] (0, 0) _ rfl (heap_five HGF.out _ _ _ _ _) Tryd.underlying35 rfl reqInfo) rfl ?_
            exact ParsePost.bad HE.out (err_five HGF.out HEF.out _ _ _ _ _) (below_five HBF.out (Nat.le_refl _) _ _ _ _ _)
          | true =>
            have hok2 := (line_ok HLI4.out).1
            rw [str_len] at hok2
            obtain ⟨k2, hk2⟩ : ∃ k2, line2.length = k2 := ⟨_, rfl⟩
            obtain ⟨ln2, hln2⟩ : ∃ ln2, baL line2 = ln2 := ⟨_, rfl⟩
            have hlnd : ln2.data.toList = line2 := by rw [← hln2, baL_data]
            obtain ⟨b9, hb9⟩ : ∃ b9, a9 + n = b9 := ⟨_, rfl⟩
            rw [hb9] at HS4 HE2x
            have HN4 : Hid (Calls Tryd.prog 24 #[.pointer (some ⟨w.heap.size + 1, 0, none⟩)] W4 (fun e w' => e = .returned (.tuple #[.string ln2, .int .i64 ((k2 + 2 : Nat) : Int), .bool true]) ∧ ∃ n, w' = W4.drewN n)) := hid (by
              have := next_any y (w.heap.size + 1) m W4 (HM.out.below HS4.out.hb hml) HS4.out.hR.cell.1 (by omega)
              rw [HLI4.out, hln2, hk2] at this
              exact this)
            rw [hk2] at hok2
            have hs2n : ln2.size = k2 := by rw [← str_len, hlnd, hk2]
            have HLD := hid hlnd
            have HK2 := hid hk2
            have HYS := hid hys
            have hys4 : y.size ≤ 4096 := by omega
            have hys5 : b9 + y.size = len := by omega
            have HB9 := hid hb9
            have HMX : Hid (y.size - (k2 + 2) < x.size - n) := hid (by omega)
            have HFX : Hid (y.size - (k2 + 2) < f) := hid (by have := HFU.out; omega)
            obtain ⟨A, cap, rfl, hcap⟩ := HO4.out.form
            have hE3 := HE2x.out
            simp only [Bool.true_eq_false, if_false] at hE3
            clear hln2 hlnd hk2 HE2x p0 p1 p2 hys
            by_cases hz : k2 = 0
            · have hz2 : ln2.toList = [] := str_empty ln2 (by omega)
              rw [if_pos (by rw [← HLD.out, ← str_toList]; exact hz2)] at hE3
              obtain ⟨z, hzz⟩ : ∃ z, y.extract (k2 + 2) y.size = z := ⟨_, rfl⟩
              have hzl : z.data.toList = y.data.toList.drop 2 := by rw [← hzz, ext_drop, hz]
              have hzs : z.size = y.size - 2 := by rw [← str_len, hzl, List.length_drop, str_len]
              have HZL := hid hzl
              have HZ := hid hzz
              have HE3 := hid hE3
              have HZ0 := hid hz
              have p3 : (0 : Int) ≤ (k2 : Int) + 2 := by omega
              have p4 : (k2 : Int) + 2 ≤ (y.size : Int) := by omega
              have p5 : IntKind.i64.wrap ((b9 : Int) + ((k2 : Int) + 2)) = (b9 : Int) + ((k2 : Int) + 2) := by rw [IntKind.wrap_i64]; omega
              have p6 : ((k2 : Int) + 2).toNat = k2 + 2 := by omega
              have HZS := hid hzs
              have hzs4 : z.size ≤ 4096 := by omega
              clear hzl hzz hE3 hz hzs
              go_wp2_with (refine HN4.out.mono ?_; rintro e w5 ⟨rfl, k5, rfl⟩; clear HN4; have HS5 := hid (HS4.out.drawn k5); have HO5 := hid (own_heap (w' := W4.drewN k5) HO4.out (fun k _ => rfl)); obtain ⟨r0, rf0⟩ := HS5.out.hR.cell; obtain ⟨r1, rf1⟩ := HS5.out.hT.cell; obtain ⟨q0, q1, q2, q3, q4, qf0, qf1, qf2, qf3, qf4⟩ := five_at HS5.out.hQ; obtain ⟨W5, hW5⟩ : ∃ W5, W4.drewN k5 = W5 := ⟨_, rfl⟩; rw [hW5] at HS5 HO5 r0 rf0 r1 rf1 q0 q1 q2 q3 q4 qf0 qf1 qf2 qf3 qf4 ⊢; clear hW5 HS4 HO4)
              go_region
              rw [HZ.out]
              obtain ⟨d9, hd9⟩ : ∃ d9, b9 + (k2 + 2) = d9 := ⟨_, rfl⟩
              have hd9i : ((b9 : Int) + ((k2 : Int) + 2)) = (d9 : Int) := by omega
              rw [hd9i]
              obtain ⟨W6, hW6⟩ : ∃ W6, ((W5.setCell ⟨w.heap.size + 1, 0, none⟩ (.string z)).setCell ⟨w.heap.size + 1 + 1, 0, none⟩ (.int .i64 (d9 : Int))).drew = W6 := ⟨_, rfl⟩
              have HS6 : Hid (St w w.heap.size R a0 a1 a2 z d9 (.slice A acc.length cap) ⟨#[]⟩ W6) := hid (by rw [← hW6]; exact HS5.out.move hRG z d9)
              have HO6 : Hid (OwnP W6 (R + 1) (.slice A acc.length cap) acc) := hid (by
                rw [← hW6]
                refine own_heap HO5.out (fun k hk => ?_)
                have e1 : ¬ w.heap.size + 1 = k := by omega
                have e2 : ¬ w.heap.size + 1 + 1 = k := by omega
                show ((W5.setCell ⟨w.heap.size + 1, 0, none⟩ (.string z)).setCell ⟨w.heap.size + 1 + 1, 0, none⟩ (.int .i64 (d9 : Int))).heap[k]? = _
                rw [heap_set e2, heap_set e1])
              rw [hW6]
              have HD9 : Hid (d9 = b9 + 2) := hid (by have := HZ0.out; omega)
              have hrt := right_any acc A cap z W6 HO6.out.reads hcap (by omega) HAV.out (by omega)
              obtain ⟨rb, hrb⟩ : ∃ rb, rightB acc z.size 4096 = rb := ⟨_, rfl⟩
              rw [hrb] at hrt
              have HRT := hid hrt
              have HRB := hid hrb
              obtain ⟨r0, rf0⟩ := HS6.out.hR.cell
              obtain ⟨q0, q1, q2, q3, q4, qf0, qf1, qf2, qf3, qf4⟩ := five_at HS6.out.hQ
              clear hrt hrb hW6 HS5 HO5 hd9 hd9i
              have hzb : (y.data.toList.drop 2).length = z.size := by rw [← HZL.out, str_len]
              cases rb with
              | false =>
                have HE : Hid (parseS l = .error (.at_ (d9 : Int) 230)) := hid (by
                  rw [HP.out, HPA.out, ← HE3.out]
                  simp only [parseFo, parseE, Bool.true_eq_false, if_false]
                  rw [hzb, HRB.out, HD9.out]; rfl)
                clear hzb
                go_wp2_with (first | (go_at_call 28; refine HRT.out.mono ?_; rintro e w7 ⟨rfl, hb7⟩; clear HRT; have HS7 := hid (HS6.out.below hRG (hb7.mono HS6.out.sz)); have HO7 := hid (HO6.out.below hb7); obtain ⟨q0, q1, q2, q3, q4, qf0, qf1, qf2, qf3, qf4⟩ := five_at HS7.out.hQ; obtain ⟨r0, rf0⟩ := HS7.out.hR.cell; obtain ⟨c0, c1, c2, c3, c4, f0, f1, f2, f3, f4⟩ := five_at HS7.out.hG; clear hb7) | (have HBX := hid HS7.out.hb; have HGX := hid HS7.out.hG; have HGL : Hid (w.heap.size < w7.heap.size) := hid (by have := HS7.out.sz; omega); have HFC := hid HS7.out.hT.cell.1; (refine (fault_any (w.heap.size + 1 + 1) _ _ HFC.out).mono ?_; rintro e wf ⟨vf, rfl, he, hbf⟩; have HEF := hid he; have HBF := hid (below_then HBX.out hbf); have HGF := hid ((hbf.block w.heap.size HGL.out).trans HGX.out); obtain ⟨eb, eo, rfl, _, _⟩ := he; obtain ⟨c0, c1, c2, c3, c4, f0, f1, f2, f3, f4⟩ := five_at HGF.out; clear hbf)))
                refine bodyPost_ret (results_ct rfl _ _ w.heap.size 35 #[.string ⟨#[]⟩, .string ⟨#[]⟩, .string ⟨#[]⟩, .slice none 0 0, .string ⟨#[]⟩] (0, 0) _ rfl (heap_five HGF.out _ _ _ _ _) Tryd.underlying35 rfl reqInfo) rfl ?_
                exact ParsePost.bad HE.out (err_five HGF.out HEF.out _ _ _ _ _) (below_five HBF.out (Nat.le_refl _) _ _ _ _ _)
              | true =>
                have HE : Hid (parseS l = .ok ⟨rm, rp, rq, acc, y.data.toList.drop 2⟩) := hid (by
                  rw [HP.out, HPA.out, ← HE3.out]
                  simp only [parseFo, parseE, Bool.true_eq_false, if_false]
                  rw [hzb, HRB.out]; rfl)
                clear hzb
                go_wp2_with (go_at_call 28; refine HRT.out.mono ?_; rintro e w7 ⟨rfl, hb7⟩; clear HRT; have HS7 := hid (HS6.out.below hRG (hb7.mono HS6.out.sz)); have HO7 := hid (HO6.out.below hb7); obtain ⟨q0, q1, q2, q3, q4, qf0, qf1, qf2, qf3, qf4⟩ := five_at HS7.out.hQ; obtain ⟨r0, rf0⟩ := HS7.out.hR.cell; obtain ⟨c0, c1, c2, c3, c4, f0, f1, f2, f3, f4⟩ := five_at HS7.out.hG; clear hb7)
                have HS8 := hid (HS7.out.body hRG z)
                refine bodyPost_ret (results_ct rfl _ _ w.heap.size 35 #[.string a0, .string a1, .string a2, .slice A acc.length cap, .string z] (0, 0) _ rfl (heap_five HS8.out.hG _ _ _ _ _) Tryd.underlying35 rfl reqInfo) rfl ?_
                refine ParsePost.good HE.out HE0.out HE1.out HE2.out HZL.out ?_ (below_five HS8.out.hb (Nat.le_refl _) _ _ _ _ _)
                refine own_mono (own_heap HO7.out (fun k hk => ?_)) (show w.heap.size ≤ R + 1 by omega)
                have g0 : ¬ w.heap.size = k := by omega
                have g1 : ¬ R = k := by omega
                rw [heap_set g0, heap_set g0, heap_set g0, heap_set g0, heap_set g0, heap_set g1]
            · have hn1 : 0 < ln2.size := by omega
              have hn2 := str_ne_empty ln2 hn1
              have hn3 := str_not_empty ln2 hn1
              have hn4 : (ln2.toList == ([] : List UInt8)) = false := by simpa using hn3
              have hn5 : ln2.toList.isEmpty = false := by simpa using hn3
              rw [if_neg (by rw [← HLD.out, ← str_toList]; exact hn3)] at hE3
              obtain ⟨o, ho⟩ : ∃ o, headS acc line2 = o := ⟨_, rfl⟩
              have HHS := hid ho
              rw [ho, HK2.out] at hE3
              have HHD : Hid (∀ w1, MaxAt m w1 → OwnP w1 (R + 1) (.slice A acc.length cap) acc → R + 1 ≤ w1.heap.size → Calls Tryd.prog 27 #[.slice A acc.length cap, .string ln2] w1 (HeadsPost (R + 1) acc o w1)) := hid (fun w1 h1 h2 h3 => by
                have := heads_any (R + 1) acc (.slice A acc.length cap) ln2 m w1 h1 h2 h3 (by omega) (by omega) (by omega)
                rw [HLD.out, ho] at this
                exact this)
              clear ho hz
              cases o with
              | none =>
                have HE : Hid (parseS l = .error (.at_ (b9 : Int) 230)) := hid (by
                  rw [HP.out, HPA.out, ← hE3]; rfl)
                clear hE3
                go_wp2_with (first | (refine HN4.out.mono ?_; rintro e w5 ⟨rfl, k5, rfl⟩; clear HN4; have HS5 := hid (HS4.out.drawn k5); have HO5 := hid (own_heap (w' := W4.drewN k5) HO4.out (fun k _ => rfl)); obtain ⟨r0, rf0⟩ := HS5.out.hR.cell; obtain ⟨r1, rf1⟩ := HS5.out.hT.cell; obtain ⟨q0, q1, q2, q3, q4, qf0, qf1, qf2, qf3, qf4⟩ := five_at HS5.out.hQ; obtain ⟨W5, hW5⟩ : ∃ W5, W4.drewN k5 = W5 := ⟨_, rfl⟩; rw [hW5] at HS5 HO5 r0 rf0 r1 rf1 q0 q1 q2 q3 q4 qf0 qf1 qf2 qf3 qf4 ⊢; clear hW5 HS4 HO4) | (go_at_call 27; refine (HHD.out _ (HM.out.below HS5.out.hb hml) HO5.out HS5.out.sz).mono ?_; rintro e w6 ⟨rfl, hb6⟩; have HS6 := hid (HS5.out.below hRG hb6); have HS7 := hid (HS6.out.put hRG (.slice none 0 0)); obtain ⟨q0, q1, q2, q3, q4, qf0, qf1, qf2, qf3, qf4⟩ := five_at HS6.out.hQ; clear hb6 HHD) | (have HBX := hid HS7.out.hb; have HGX := hid HS7.out.hG; have HGL : Hid (w.heap.size < (w6.setCell ⟨R, 3, none⟩ (.slice none 0 0)).heap.size) := hid (by have := HS7.out.sz; omega); have HFC := hid HS7.out.hT.cell.1; (refine (fault_any (w.heap.size + 1 + 1) _ _ HFC.out).mono ?_; rintro e wf ⟨vf, rfl, he, hbf⟩; have HEF := hid he; have HBF := hid (below_then HBX.out hbf); have HGF := hid ((hbf.block w.heap.size HGL.out).trans HGX.out); obtain ⟨eb, eo, rfl, _, _⟩ := he; obtain ⟨c0, c1, c2, c3, c4, f0, f1, f2, f3, f4⟩ := five_at HGF.out; clear hbf)))
                refine bodyPost_ret (results_ct rfl _ _ w.heap.size 35 #[.string ⟨#[]⟩, .string ⟨#[]⟩, .string ⟨#[]⟩, .slice none 0 0, .string ⟨#[]⟩] (0, 0) _ rfl (heap_five HGF.out _ _ _ _ _) Tryd.underlying35 rfl reqInfo) rfl ?_
                exact ParsePost.bad HE.out (err_five HGF.out HEF.out _ _ _ _ _) (below_five HBF.out (Nat.le_refl _) _ _ _ _ _)
              | some yy =>
                have hyy := headS_val HHS.out
                have HYY := hid hyy
                have hacl := hyy.2.2
                clear hyy
                have HE4 := hid hE3
                clear hE3
                go_wp2_with (first | (refine HN4.out.mono ?_; rintro e w5 ⟨rfl, k5, rfl⟩; clear HN4; have HS5 := hid (HS4.out.drawn k5); have HO5 := hid (own_heap (w' := W4.drewN k5) HO4.out (fun k _ => rfl)); obtain ⟨r0, rf0⟩ := HS5.out.hR.cell; obtain ⟨r1, rf1⟩ := HS5.out.hT.cell; obtain ⟨q0, q1, q2, q3, q4, qf0, qf1, qf2, qf3, qf4⟩ := five_at HS5.out.hQ; obtain ⟨W5, hW5⟩ : ∃ W5, W4.drewN k5 = W5 := ⟨_, rfl⟩; rw [hW5] at HS5 HO5 r0 rf0 r1 rf1 q0 q1 q2 q3 q4 qf0 qf1 qf2 qf3 qf4 ⊢; clear hW5 HS4 HO4) | (go_at_call 27; refine (HHD.out _ (HM.out.below HS5.out.hb hml) HO5.out HS5.out.sz).mono ?_; rintro e w6 ⟨⟨v6, rfl, ho6⟩, hb6⟩; have HS6 := hid (HS5.out.below hRG hb6); have HO6 := hid ho6; obtain ⟨A6, cap6, rfl, hcap6⟩ := ho6.form; have HS7 := hid (HS6.out.put hRG (.slice A6 (acc ++ [yy]).length cap6)); obtain ⟨q0, q1, q2, q3, q4, qf0, qf1, qf2, qf3, qf4⟩ := five_at HS6.out.hQ; clear hb6 HHD ho6))
                have hL : (acc ++ [yy]).length = acc.length + 1 := by simp
                rw [hL] at HS7 HO6
                have HM7 := hid (sizeAt_of HS7.out.hR)
                refine ⟨⟨y, k2 + 2, b9, acc ++ [yy], f, _, rfl, hok2, hys5, HFX.out, HE4.out, by rw [hL]; omega, ?_, HS7.out, own_heap HO6.out (fun k hk => ?_)⟩, ?_⟩
                · intro q hq
                  rcases List.mem_append.1 hq with h9 | h9
                  · exact HAV.out q h9
                  · rw [List.mem_singleton.1 h9]
                    have := HYY.out.1
                    omega
                · have g1 : ¬ R = k := by omega
                  rw [heap_set g1]
                · rw [HM7.out, HMU.out]
                  have h9 := HMX.out
                  simp only [intOf]
                  omega
end Go.Proofs.YtpkiahpdoejbcaaDoor.Htt
