/-
  The statement DiskSafe: its call answers true.
-/
import Derived.Test.YtdchpabcaoghpaaDiskLaw
import Derived.Test.YtdchpabcaoghpaaRowInts
import Derived.Deep.QuietTactic
import Derived.BigQuiet
import Derived.IntWalk
namespace Go.Proofs.Ytdchpabcaoghpaa
open Go.RowKit
set_option linter.unusedVariables false

theorem IsRow.readsI {W : World} {a : Option Addr} {len cap : Nat} {zs : List Int} (h : IsRow .i64 W a len cap zs) : ReadsI W (.slice a len cap) (zs.take len) := by
  by_cases h0 : len = 0
  · subst h0; exact .inl ⟨_, _, rfl, by simp⟩
  · obtain ⟨b, o, rfl, hc⟩ := h.cells (by omega)
    have hl := h.len.1
    refine .inr ⟨b, o, cap, by rw [hl], fun i hi => hc i (by omega)⟩
/-- []byte(s). -/
theorem reads_world (w : World) (e : TypeId) (s : ByteArray) : ReadsB (Lib.bytesWorld w e s) (.slice (some ⟨w.heap.size, 0, none⟩) s.data.toList.length (grownCap w s.size 0 e)) s.data.toList := by
  have hl := str_len s
  refine .inr ⟨w.heap.size, 0, grownCap w s.size 0 e, rfl, by rw [hl]; exact grownCap_ge _ _ _ _, fun i hi => ?_⟩
  rw [Nat.zero_add, Lib.bytesWorld_cell w e s i hi]
  rfl
/-- The disk behind the second Write, Sync and Crash. -/
def dA (A : List UInt8) (F : Int) : DS := ⟨[], 0, A, A.length, 20000, F, false⟩
theorem plan (A M : List UInt8) (F : Nat) (keep : List Int) (hA : A.length ≤ 5000) (hM : M.length ≤ 5000) :
    ∃ cw cs s3 s4 K, (dA A F).write 1 M = (cw, s3) ∧ s3.sync 1 = (cs, s4) ∧ (s4.crash keep).b1 = (A ++ M).take (A.length + K) ∧ (s4.crash keep).s1 = A.length + K ∧ K ≤ M.length ∧ K ≤ F ∧ (M.length < F → K = M.length) ∧
      ((cw = 0 ∧ M.length ≤ F) ∨ (cw = 150 ∧ F < M.length)) ∧ ((cs = 0 ∧ M.length < F) ∨ (cs = 150 ∧ F ≤ M.length)) := by
  have hroom : ¬ ((dA A F).room - ((dA A F).used : Nat) < (M.length : Int)) := by unfold dA DS.used; simp; omega
  by_cases h1 : F < M.length
  · have hn : (dA A F).unitsN M.length = F := by unfold dA DS.unitsN; rw [if_neg (by simp), if_pos (by simpa using h1)]; simp
    have hs : (dA A F).unitsS M.length = ⟨[], 0, A, A.length, 20000, 0, true⟩ := by unfold dA DS.unitsS; rw [if_neg (by simp), if_pos (by simpa using h1)]
    have hw := write_eq1 (dA A F) M F rfl hroom hn
    rw [hs, if_pos h1] at hw
    have hk := keepN_le keep 1 ((A ++ M.take F).length - A.length)
    have hl : (A ++ M.take F).length = A.length + F := by rw [List.length_append, List.length_take]; omega
    refine ⟨150, 150, _, _, keepN keep 1 ((A ++ M.take F).length - A.length), hw, rfl, ?_, rfl, by omega, by omega, by omega, .inr ⟨rfl, h1⟩, .inr ⟨rfl, by omega⟩⟩
    show List.take (A.length + keepN keep 1 ((A ++ M.take F).length - A.length)) (A ++ M.take F) = _
    rw [hl] at hk ⊢
    rw [← List.take_length_add_append, List.take_take, Nat.min_eq_left (by omega)]
  · by_cases h2 : F = M.length
    · subst h2
      have hn : (dA A (M.length : Nat)).unitsN M.length = M.length := by unfold dA DS.unitsN; simp
      have hs : (dA A (M.length : Nat)).unitsS M.length = ⟨[], 0, A, A.length, 20000, 0, false⟩ := by unfold dA DS.unitsS; rw [if_neg (by simp), if_neg (by simp)]; simp
      have hw := write_eq1 (dA A (M.length : Nat)) M M.length rfl hroom hn
      rw [hs, if_neg (by omega), List.take_length] at hw
      have hk := keepN_le keep 1 ((A ++ M).length - A.length)
      have hl : (A ++ M).length = A.length + M.length := List.length_append
      refine ⟨0, 150, _, ⟨[], 0, A ++ M, A.length, 20000, 0, true⟩, keepN keep 1 ((A ++ M).length - A.length), hw, ?_, rfl, rfl, by omega, by omega, by omega, .inl ⟨rfl, by omega⟩, .inr ⟨rfl, by omega⟩⟩
      unfold DS.sync DS.one
      rw [if_neg (by simp), if_pos rfl]
      unfold DS.unitsS; rw [if_neg (by simp), if_pos (by simp)]; rfl
    · have h3 : M.length < F := by omega
      have hn : (dA A F).unitsN M.length = M.length := by unfold dA DS.unitsN; simp; omega
      have hs : (dA A F).unitsS M.length = ⟨[], 0, A, A.length, 20000, (F : Int) - M.length, false⟩ := by unfold dA DS.unitsS; rw [if_neg (by simp), if_neg (by simp; omega)]
      have hw := write_eq1 (dA A F) M M.length rfl hroom hn
      rw [hs, if_neg (by omega), List.take_length] at hw
      refine ⟨0, 0, _, ⟨[], 0, A ++ M, (A ++ M).length, 20000, (F : Int) - M.length - 1, false⟩, M.length, hw, ?_, ?_, ?_, by omega, by omega, fun _ => rfl, .inl ⟨rfl, by omega⟩, .inl ⟨rfl, h3⟩⟩
      · unfold DS.sync DS.one
        rw [if_neg (by simp), if_neg (by show ¬ ((F : Int) - M.length = 0); omega)]
        unfold DS.unitsS; rw [if_neg (by show ¬ ((F : Int) - M.length < 0); omega), if_neg (by show ¬ ((F : Int) - M.length < ((1 : Nat) : Int)); omega)]
        rfl
      · have hk := keepN_le keep 1 ((A ++ M).length - (A ++ M).length)
        show List.take ((A ++ M).length + keepN keep 1 ((A ++ M).length - (A ++ M).length)) (A ++ M) = _
        rw [List.take_of_length_le (by omega), List.take_of_length_le (by rw [List.length_append]; omega)]
      · have hk := keepN_le keep 1 ((A ++ M).length - (A ++ M).length)
        show (A ++ M).length + keepN keep 1 ((A ++ M).length - (A ++ M).length) = _
        rw [List.length_append] at hk ⊢; omega
theorem b1_len (A : List UInt8) : DS.write ⟨[], 0, [], 0, 20000, -1, false⟩ 1 A = (if 20000 < (A.length : Int) then 151 else 0, if 20000 < (A.length : Int) then ⟨[], 0, [], 0, 20000, -1, false⟩ else ⟨[], 0, A, 0, 20000, -1, false⟩) := by
  by_cases h : 20000 < (A.length : Int)
  · unfold DS.write
    rw [if_pos h, if_pos h, if_neg (by simp), if_pos (by unfold DS.used; simp; omega)]
  · have hw := write_eq1 ⟨[], 0, [], 0, 20000, -1, false⟩ A A.length rfl (by unfold DS.used; simp; omega) (by unfold DS.unitsN; rw [if_pos (by show (-1 : Int) < 0; omega)])
    rw [if_neg h, if_neg h, hw, if_neg (by omega), List.take_length]
    unfold DS.unitsS; rw [if_pos (by show (-1 : Int) < 0; omega)]; rfl
theorem ReadsB.drewN {w : World} {v : Value} {l : List UInt8} (h : ReadsB w v l) (k : Nat) : ReadsB (w.drewN k) v l := h
theorem Below.drewN' {B : Nat} {a b : World} (h : Below B a b) (n : Nat) : Below B a (b.drewN n) := ⟨h.os, h.tape, h.output, h.size, h.block⟩
theorem cut_str (s1 s2 : ByteArray) (n : Nat) (hn : n ≤ s1.size + s2.size) : strV ((s1.data.toList ++ s2.data.toList).take n) = .string ((s1 ++ s2).extract 0 n) := by
  unfold strV
  congr 1
  apply ByteArray.ext
  apply Array.toList_inj.1
  simp [ByteArray.data_extract, ByteArray.data_append]
  rw [List.take_append, str_len]
set_option maxRecDepth 100000 in
set_option maxHeartbeats 2000000 in
theorem diskSafe_walk (s1 s2 : ByteArray) (F : Int) (ka : Option Addr) (klen kcap : Nat) (zs : List Int) (w : World) (hs1 : s1.size ≤ maxLen) (hs2 : s2.size ≤ maxLen) (hF0 : 0 ≤ F) (hF1 : F ≤ 65535) (hk : IsRow .i64 w ka klen kcap zs) :
    Calls Try.prog 3 #[.string s1, .string s2, .int .u16 F, .slice ka klen kcap] w (TruePost w) := by
  unfold maxLen at hs1 hs2
  have kc1 := fun (w : World) => Lib.run_convert_string_bytes (P := Try.prog) w 9 31 5 s1 Try.underlying9 Try.underlying31 Try.underlying5
  have kc2 := fun (w : World) => Lib.run_convert_string_bytes (P := Try.prog) w 9 31 5 s2 Try.underlying9 Try.underlying31 Try.underlying5
  by_cases hl : 5000 < s1.size ∨ 5000 < s2.size ∨ 100 < klen
  · have hal := hid (alive_any w)
    have hways : decide ((5000 : Int) < (s1.size : Int)) = true ∨ (decide ((5000 : Int) < (s1.size : Int)) = false ∧ decide ((5000 : Int) < (s2.size : Int)) = true) ∨ (decide ((5000 : Int) < (s1.size : Int)) = false ∧ decide ((5000 : Int) < (s2.size : Int)) = false ∧ decide ((100 : Int) < (klen : Int)) = true) := by
      by_cases h1 : 5000 < s1.size
      · exact .inl (decide_eq_true (by omega))
      · by_cases h2 : 5000 < s2.size
        · exact .inr (.inl ⟨decide_eq_false (by omega), decide_eq_true (by omega)⟩)
        · exact .inr (.inr ⟨decide_eq_false (by omega), decide_eq_false (by omega), decide_eq_true (by omega)⟩)
    clear hl hk
    rcases hways with t1 | ⟨t1, t2⟩ | ⟨t1, t2, t3⟩
    all_goals
      go_enter Try.func3, Try.ntmps3
      go_wp2_with (go_at_call 4; refine hal.out.mono ?_; intro e w1 hp; obtain ⟨rfl, hb⟩ := hp; have HB1 := hid hb; clear hb)
      go_ret
      exact TruePost.mk rfl HB1.out
  · have t1 : decide ((5000 : Int) < (s1.size : Int)) = false := decide_eq_false (by omega)
    have t2 : decide ((5000 : Int) < (s2.size : Int)) = false := decide_eq_false (by omega)
    have t3 : decide ((100 : Int) < (klen : Int)) = false := decide_eq_false (by omega)
    obtain ⟨f, rfl⟩ := Int.eq_ofNat_of_zero_le hF0
    have hl1 : s1.data.toList.length = s1.size := str_len s1
    have hl2 : s2.data.toList.length = s2.size := str_len s2
    obtain ⟨cw, cs, d3, d4, K, hw, hsy, hcb, hcs, hK1, hK2, hK3, hcw, hcc⟩ := plan s1.data.toList s2.data.toList f (zs.take klen) (by omega) (by omega)
    rw [hl1] at hcb hcs
    rw [hl2] at hK1 hK3 hcw hcc
    have hW1 := b1_len s1.data.toList
    rw [hl1, if_neg (by omega), if_neg (by omega)] at hW1
    have HW1 := hid hW1
    have HW := hid hw; have HSY := hid hsy; have HCB := hid hcb; have HCS := hid hcs; have HK3 := hid hK3
    have HR := hid hk.readsI
    have HKL := hid hk.len
    have hkw : ∀ k, (Value.slice ka klen kcap).ownBlock = some k → k < w.heap.size ∨ klen = 0 := by
      intro k hkk
      by_cases h0 : klen = 0
      · exact .inr h0
      · obtain ⟨b, o, rfl, hc⟩ := hk.cells (by omega)
        obtain rfl : b = k := by simpa [Value.ownBlock] using hkk
        exact .inl (lt_of_cell (hc 0 (by omega)))
    have HKW := hid hkw
    have hal := hid (alive_any w)
    have q1 : s1.size ≤ 5000 := by omega
    have q2 : s2.size ≤ 5000 := by omega
    have q3 : klen ≤ 100 := by omega
    clear hW1 hw hsy hcb hcs hK3 hk hkw hl
    go_enter Try.func3, Try.ntmps3
    go_wp2_with (go_at_call 4; refine hal.out.mono ?_; intro e w1 hp; obtain ⟨rfl, hb⟩ := hp; have HB1 := hid hb; clear hb)
    refine (new_any 20000 (by omega) (by omega) w1).mono ?_
    rintro e w2 ⟨v, G, rfl, ⟨d, va, vb, rfl, rfl, hd⟩, hb, hG⟩
    have H2 := hid hd
    have L2 : Hid (Live w w2 (dfoot d va vb)) := hid ⟨below_then HB1.out hb, fun k hk => Nat.le_trans HB1.out.size (hG k hk)⟩
    clear hd hb hG
    go_wp2_with fail
    refine (write_any (H2.out.new (below_bytes w2 5 s1)) 1 (.inr rfl) w2.heap.size 0 _ s1.data.toList (reads_world w2 5 s1) (by rw [hl1]; exact grownCap_ge _ _ _ _) (by omega)).mono ?_
    intro e w3 hp
    obtain ⟨rfl, va3, vb3, hd, hs⟩ := hp.to HW1.out
    have H3 := hid hd
    have L3 := hid (L2.out.act (below_bytes w2 5 s1) hs)
    rw [err0]
    clear hp hd hs
    go_wp2_with fail
    refine (sync_any H3.out 1 (.inr rfl)).mono ?_
    intro e w4 hp
    have hsy1 : DS.sync ⟨[], 0, s1.data.toList, 0, 20000, -1, false⟩ 1 = (0, dA s1.data.toList (-1)) := by
      unfold DS.sync DS.one
      rw [if_neg (by simp), if_neg (by show ¬ ((-1 : Int) = 0); omega)]
      unfold DS.unitsS; rw [if_pos (by show (-1 : Int) < 0; omega)]; rfl
    obtain ⟨rfl, va4, vb4, hd, hs⟩ := hp.to hsy1
    have H4 := hid hd
    have L4 := hid (L3.out.act (Below.refl _ _) hs)
    rw [err0]
    clear hp hd hs hsy1
    go_wp2_with fail
    refine (fuse_any H4.out (f : Int) (by omega) (by omega)).mono ?_
    rintro e w5 ⟨rfl, hd, hm⟩
    have H5 : Hid (DiskIs w5 d va4 vb4 (dA s1.data.toList f)) := hid hd
    have L5 := hid (L4.out.act (Below.refl _ _) (Step.of_mod hm))
    clear hd hm
    go_wp2_with fail
    refine (write_any (H5.out.new (below_bytes w5 5 s2)) 1 (.inr rfl) w5.heap.size 0 _ s2.data.toList (reads_world w5 5 s2) (by rw [hl2]; exact grownCap_ge _ _ _ _) (by omega)).mono ?_
    intro e w6 hp
    obtain ⟨rfl, va6, vb6, hd, hs⟩ := hp.to HW.out
    have H6 := hid hd
    have L6 := hid (L5.out.act (below_bytes w5 5 s2) hs)
    generalize hfv : (if cw = 0 then Value.nilIface else errno cw) = fv
    have HFV := hid hfv
    clear hp hd hs hfv
    go_wp2_with fail
    refine (sync_any H6.out 1 (.inr rfl)).mono ?_
    intro e w7 hp
    obtain ⟨rfl, va7, vb7, hd, hs⟩ := hp.to HSY.out
    have H7 := hid hd
    have L7 := hid (L6.out.act (Below.refl _ _) hs)
    generalize hgv : (if cs = 0 then Value.nilIface else errno cs) = gv
    have HGV := hid hgv
    clear hp hd hs hgv
    go_wp2_with fail
    have hrk : ReadsI w7 (.slice ka klen kcap) (zs.take klen) := HR.out.below L7.out.1
    have hd0 := L7.out.2 d (.inl rfl)
    refine (crash_any H7.out _ (zs.take klen) hrk ?_ (by rw [HKL.out.1]; omega)).mono ?_
    · by_cases h0 : klen = 0
      · exact .inr (List.eq_nil_of_length_eq_zero (by rw [HKL.out.1]; exact h0))
      · refine .inl (fun e => ?_)
        rcases HKW.out d e with h | h
        · omega
        · exact h0 h
    intro e w8 hp
    obtain ⟨rfl, va8, vb8, hd, hs⟩ := hp.to rfl
    rw [err0]
    have H8 := hid hd
    have L8 := hid (L7.out.act (Below.refl _ _) hs)
    clear hp hd hs hrk hd0
    go_wp2_with fail
    refine (read_any H8.out rfl 1 (.inr rfl)).mono ?_
    rintro e w9 ⟨v, rfl, ho, hb⟩
    have H9 := hid (H8.out.new hb)
    have L9 := hid (L8.out.new hb)
    have hbe : (d4.crash (zs.take klen)).bytes 1 = (s1.data.toList ++ s2.data.toList).take (s1.size + K) := HCB.out
    rw [hbe] at ho
    have hrd := ho.reads
    have hstr := fun k => run_string_of_reads (P := Try.prog) byteT Try.underlying9 (hrd.drewN k)
    simp only [cut_str s1 s2 _ (show s1.size + K ≤ s1.size + s2.size by omega)] at hstr
    obtain ⟨a, c, rfl⟩ := own_read ho
    have hlen : ((s1.data.toList ++ s2.data.toList).take (s1.size + K)).length = s1.size + K := by rw [List.length_take, List.length_append, hl1, hl2, Nat.min_eq_left (by omega)]
    rw [hlen] at hstr ⊢
    clear hrd hlen
    have hsafe : (d4.crash (zs.take klen)).safe 1 = s1.size + K := HCS.out
    have HSA := hid hsafe
    clear ho hb hbe hsafe
    obtain ⟨n, hn⟩ : ∃ n, s1.size + K = n := ⟨_, rfl⟩
    rw [hn] at hstr HSA ⊢
    have HN := hid hn
    have n1 : s1.size ≤ n := by omega
    have n2 : n ≤ s1.size + s2.size := by omega
    clear hn
    have g1 : decide ((n : Int) < (s1.size : Int)) = false := decide_eq_false (by omega)
    have g2 : decide ((s1.size : Int) + (s2.size : Int) < (n : Int)) = false := decide_eq_false (by omega)
    have hwr : IntKind.i64.wrap ((s1.size : Int) + (s2.size : Int)) = (s1.size : Int) + (s2.size : Int) := IntWalk.i64_in _ (by omega)
    have hadd := fun w' => run_string_add_sum (P := Try.prog) (w := w') s1 s2 (by omega)
    obtain ⟨T, hT⟩ : ∃ T, s1 ++ s2 = T := ⟨_, rfl⟩
    have hTn : n ≤ T.size := by rw [← hT, ByteArray.size_append]; exact n2
    rw [hT] at hadd hstr
    clear hT
    go_wp2_with fail
    go_quiet (fail)
    clear hstr hadd g1 g2
    have hmax : max (f : Int) 0 = f := by omega
    have k3 := HK3.out
    have k4 := HN.out
    have hret : ∀ b : Bool, b = true → Ending.returned (.bool b) = .returned (.bool true) := fun b h => by rw [h]
    rcases hcw with ⟨rfl, c1⟩ | ⟨rfl, c1⟩
    · obtain rfl : fv = .nilIface := by have := HFV.out; rw [if_pos rfl] at this; exact this.symm
      have u1 : decide ((s2.size : Int) ≤ (f : Int)) = true := decide_eq_true (by omega)
      rcases hcc with ⟨rfl, c2⟩ | ⟨rfl, c2⟩
      · obtain rfl : gv = .nilIface := by have := HGV.out; rw [if_pos rfl] at this; exact this.symm
        have u2 : decide ((s2.size : Int) < (f : Int)) = true := decide_eq_true (by omega)
        have u3 : ((n : Int) == (s1.size : Int) + (s2.size : Int)) = true := beq_iff_eq.2 (by have := k3 c2; omega)
        have u4 : decide ((n : Int) ≤ (s1.size : Int) + (f : Int)) = true := decide_eq_true (by have := k3 c2; omega)
        go_wp2_with (go_at_call 11; refine (safe_any (H9.out.drewN _) 1 (.inr rfl)).mono ?_; intro e w' hp; unfold SameInt at hp; rw [HSA.out] at hp; obtain ⟨rfl, rfl⟩ := hp)
        go_ret
        exact TruePost.mk (by first | rfl | (simp; done) | (simp; omega)) (Below.drewN' L9.out.1 _)
      · obtain rfl : gv = errno 150 := by have := HGV.out; rw [if_neg (by omega)] at this; exact this.symm
        have u2 : decide ((s2.size : Int) < (f : Int)) = false := decide_eq_false (by omega)
        have u4 : decide ((n : Int) ≤ (s1.size : Int) + (f : Int)) = true := decide_eq_true (by omega)
        go_wp2_with (go_at_call 11; refine (safe_any (H9.out.drewN _) 1 (.inr rfl)).mono ?_; intro e w' hp; unfold SameInt at hp; rw [HSA.out] at hp; obtain ⟨rfl, rfl⟩ := hp)
        go_ret
        exact TruePost.mk (by first | rfl | (simp; done) | (simp; omega)) (Below.drewN' L9.out.1 _)
    · obtain rfl : fv = errno 150 := by have := HFV.out; rw [if_neg (by omega)] at this; exact this.symm
      have u1 : decide ((s2.size : Int) ≤ (f : Int)) = false := decide_eq_false (by omega)
      rcases hcc with ⟨rfl, c2⟩ | ⟨rfl, c2⟩
      · omega
      · obtain rfl : gv = errno 150 := by have := HGV.out; rw [if_neg (by omega)] at this; exact this.symm
        have u2 : decide ((s2.size : Int) < (f : Int)) = false := decide_eq_false (by omega)
        have u4 : decide ((n : Int) ≤ (s1.size : Int) + (f : Int)) = true := decide_eq_true (by omega)
        go_wp2_with (go_at_call 11; refine (safe_any (H9.out.drewN _) 1 (.inr rfl)).mono ?_; intro e w' hp; unfold SameInt at hp; rw [HSA.out] at hp; obtain ⟨rfl, rfl⟩ := hp)
        go_ret
        exact TruePost.mk (by first | rfl | (simp; done) | (simp; omega)) (Below.drewN' L9.out.1 _)
end Go.Proofs.Ytdchpabcaoghpaa
