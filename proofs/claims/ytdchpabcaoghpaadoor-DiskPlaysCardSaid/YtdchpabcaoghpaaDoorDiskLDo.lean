/-
  Calls of a script, on both disks: the law's Do.
-/
import Derived.Test.YtdchpabcaoghpaaDoorDiskDo
import Derived.Test.YtdchpabcaoghpaaDoorErr
namespace Go.Proofs.YtdchpabcaoghpaaDoor
open Go.RowKit
set_option linter.unusedVariables false
/-- []byte(s). -/
theorem reads_world (w : World) (e : TypeId) (s : ByteArray) : ReadsB (Lib.bytesWorld w e s) (.slice (some ⟨w.heap.size, 0, none⟩) s.data.toList.length (grownCap w s.size 0 e)) s.data.toList := by
  have hl := str_len s
  refine .inr ⟨w.heap.size, 0, grownCap w s.size 0 e, rfl, by rw [hl]; exact grownCap_ge _ _ _ _, fun i hi => ?_⟩
  rw [Nat.zero_add, Lib.bytesWorld_cell w e s i hi]
  rfl
/-- What the law's Do leaves. -/
def LDoPost (d : Nat) (va vb : Value) (x : Int × DS) (w : World) (e : Ending) (w' : World) : Prop :=
  e = .returned (.int .i64 x.1) ∧ ErrorType w' ∧ ∃ va' vb', DiskIs w' d va' vb' x.2 ∧ Step (dfoot d va vb) w w' (dfoot d va' vb')
theorem ErrorType.step {F G : Nat → Prop} {w w' : World} (h : ErrorType w) (hs : Step F w w' G) (hF : ¬ F 0) : ErrorType w' := hs.mod.cell h hF
theorem num_err {w : World} (hg : ErrorType w) (c : Int) : Calls Tryd.prog 9 #[if c = 0 then .nilIface else errno c] w fun e w' => e = .returned (.int .i64 c) ∧ Below w.heap.size w w' := by
  by_cases h : c = 0
  · subst h; rw [if_pos rfl]; exact num_any .nil .nilIface w hg rfl
  · rw [if_neg h]; exact num_any (.no c) (errno c) w hg rfl
theorem num_ev {w : World} {c : Int} {ev : Value} (h : (if c = 0 then Value.nilIface else errno c) = ev) (hg : ErrorType w) : Calls Tryd.prog 9 #[ev] w fun e w' => e = .returned (.int .i64 c) ∧ Below w.heap.size w w' := by subst h; exact num_err hg c
theorem ldo_end {d : Nat} {va vb va' vb' : Value} {x : Int × DS} {w w1 w2 w3 : World} (hb : Below w.heap.size w w1) (hd : DiskIs w2 d va' vb' x.2) (hs : Step (dfoot d va vb) w1 w2 (dfoot d va' vb')) (hn : Below w2.heap.size w2 w3) (hg : ErrorType w2) (hl : 0 < w2.heap.size) :
    LDoPost d va vb x w (.returned (.int .i64 x.1)) w3 :=
  ⟨rfl, hg.below hn hl, va', vb', hd.new hn, (Step.new_then hb hs).then_new hn⟩
set_option maxHeartbeats 1000000 in
theorem ldo_0 {w : World} {d : Nat} {va vb : Value} {s : DS} (h : DiskIs w d va vb s) (hg : ErrorType w) (hF : ¬ dfoot d va vb 0) (k f n : Int) (b : ByteArray) (kv : Value) (keep : List Int) (y : UInt8) (hk : k = 0) (hn0 : -9223372036854775808 ≤ n) (hn1 : n ≤ 9223372036854775807) (hb : b.size ≤ 1099511627776) (hkp : ReadsI w kv keep) (hka : Away kv d keep) (hlen : keep.length ≤ 1099511627776) :
    Calls Tryd.prog 10 #[.pointer (some ⟨d, 0, none⟩), .agg #[.int .i64 k, .int .i64 f, .int .i64 n, .string b, kv, .int .u8 (y.toNat : Int)]] w (LDoPost d va vb ((if f = 0 ∨ f = 1 then s.write f b.data.toList else (1, s)) : Int × DS) w) := by
  have HBW : RowKit.Hid (Below w.heap.size w (Lib.bytesWorld (w.alloc (.cells #[.int .i64 k, .int .i64 f, .int .i64 n, .string b, kv, .int .u8 (y.toNat : Int)] 37)) 5 b)) := hid (below_then (below_alloc1 w (.cells #[.int .i64 k, .int .i64 f, .int .i64 n, .string b, kv, .int .u8 (y.toNat : Int)] 37)) (below_bytes (w.alloc (.cells #[.int .i64 k, .int .i64 f, .int .i64 n, .string b, kv, .int .u8 (y.toNat : Int)] 37)) 5 b))
  have HR := hid (h.new HBW.out)
  have HK := hid (hkp.below HBW.out)
  have HE := hid (hg.below HBW.out hg.lt)
  have t0 : (k == 0) = true := by rw [hk]; rfl
  have t1 : (k == 1) = false := by rw [hk]; rfl
  have t2 : (k == 2) = false := by rw [hk]; rfl
  have t3 : (k == 3) = false := by rw [hk]; rfl
  have t4 : (k == 4) = false := by rw [hk]; rfl
  have t5 : (k == 5) = false := by rw [hk]; rfl
  have t6 : (k == 6) = false := by rw [hk]; rfl
  have kc := fun (w : World) => Lib.run_convert_string_bytes (P := Tryd.prog) w 9 41 5 b Tryd.underlying9 Tryd.underlying41 Tryd.underlying5
  have hsz : (w.alloc (.cells #[.int .i64 k, .int .i64 f, .int .i64 n, .string b, kv, .int .u8 (y.toNat : Int)] 37)).heap.size = w.heap.size + 1 := by simp
  have hW0 := Write_all HR.out f _ 0 _ b.data.toList (reads_world (w.alloc (.cells #[.int .i64 k, .int .i64 f, .int .i64 n, .string b, kv, .int .u8 (y.toNat : Int)] 37)) 5 b) (by rw [str_len]; exact grownCap_ge _ _ _ _) (by rw [str_len]; exact hb)
  rw [str_len, hsz] at hW0
  have HW0 := hid hW0
  clear hW0 hsz
  obtain ⟨x, hx⟩ : ∃ x : Int × DS, ((if f = 0 ∨ f = 1 then s.write f b.data.toList else (1, s)) : Int × DS) = x := ⟨_, rfl⟩
  rw [hx]
  have HX := hid hx
  clear h hkp hk hx hg
  go_enter Tryd.func10, Tryd.ntmps10
  go_wp2_with (go_at_call 14; refine (HW0.out).mono ?_; intro e w1 hp; rw [HX.out] at hp; obtain ⟨rfl, va1, vb1, hd1, hs1⟩ := hp; have H1 := hid hd1; have HS1 := hid hs1; have HE1 := hid (HE.out.step hs1 hF); have HL1 := hid (Nat.lt_of_lt_of_le HE.out.lt hs1.mod.size); clear hd1 hs1; generalize hev : (if x.1 = 0 then Value.nilIface else errno x.1) = ev; have HEV := hid hev; clear hev)
  refine (num_ev HEV.out HE1.out).mono ?_
  rintro e w2 ⟨rfl, hb2⟩
  have HB2 := hid hb2
  clear hb2
  go_wp2
  go_ret
  exact ldo_end HBW.out H1.out HS1.out HB2.out HE1.out HL1.out
set_option maxHeartbeats 1000000 in
theorem ldo_1 {w : World} {d : Nat} {va vb : Value} {s : DS} (h : DiskIs w d va vb s) (hg : ErrorType w) (hF : ¬ dfoot d va vb 0) (k f n : Int) (b : ByteArray) (kv : Value) (keep : List Int) (y : UInt8) (hk : k = 1) (hn0 : -9223372036854775808 ≤ n) (hn1 : n ≤ 9223372036854775807) (hb : b.size ≤ 1099511627776) (hkp : ReadsI w kv keep) (hka : Away kv d keep) (hlen : keep.length ≤ 1099511627776) :
    Calls Tryd.prog 10 #[.pointer (some ⟨d, 0, none⟩), .agg #[.int .i64 k, .int .i64 f, .int .i64 n, .string b, kv, .int .u8 (y.toNat : Int)]] w (LDoPost d va vb ((if f = 0 ∨ f = 1 then s.sync f else (1, s)) : Int × DS) w) := by
  have HBW : RowKit.Hid (Below w.heap.size w (w.alloc (.cells #[.int .i64 k, .int .i64 f, .int .i64 n, .string b, kv, .int .u8 (y.toNat : Int)] 37))) := hid (below_alloc1 w (.cells #[.int .i64 k, .int .i64 f, .int .i64 n, .string b, kv, .int .u8 (y.toNat : Int)] 37))
  have HR := hid (h.new HBW.out)
  have HK := hid (hkp.below HBW.out)
  have HE := hid (hg.below HBW.out hg.lt)
  have t0 : (k == 0) = false := by rw [hk]; rfl
  have t1 : (k == 1) = true := by rw [hk]; rfl
  have t2 : (k == 2) = false := by rw [hk]; rfl
  have t3 : (k == 3) = false := by rw [hk]; rfl
  have t4 : (k == 4) = false := by rw [hk]; rfl
  have t5 : (k == 5) = false := by rw [hk]; rfl
  have t6 : (k == 6) = false := by rw [hk]; rfl
  obtain ⟨x, hx⟩ : ∃ x : Int × DS, ((if f = 0 ∨ f = 1 then s.sync f else (1, s)) : Int × DS) = x := ⟨_, rfl⟩
  rw [hx]
  have HX := hid hx
  clear h hkp hk hx hg
  go_enter Tryd.func10, Tryd.ntmps10
  go_wp2_with (go_at_call 15; refine (Sync_all HR.out f).mono ?_; intro e w1 hp; rw [HX.out] at hp; obtain ⟨rfl, va1, vb1, hd1, hs1⟩ := hp; have H1 := hid hd1; have HS1 := hid hs1; have HE1 := hid (HE.out.step hs1 hF); have HL1 := hid (Nat.lt_of_lt_of_le HE.out.lt hs1.mod.size); clear hd1 hs1; generalize hev : (if x.1 = 0 then Value.nilIface else errno x.1) = ev; have HEV := hid hev; clear hev)
  refine (num_ev HEV.out HE1.out).mono ?_
  rintro e w2 ⟨rfl, hb2⟩
  have HB2 := hid hb2
  clear hb2
  go_wp2
  go_ret
  exact ldo_end HBW.out H1.out HS1.out HB2.out HE1.out HL1.out
set_option maxHeartbeats 1000000 in
theorem ldo_2 {w : World} {d : Nat} {va vb : Value} {s : DS} (h : DiskIs w d va vb s) (hg : ErrorType w) (hF : ¬ dfoot d va vb 0) (k f n : Int) (b : ByteArray) (kv : Value) (keep : List Int) (y : UInt8) (hk : k = 2) (hn0 : -9223372036854775808 ≤ n) (hn1 : n ≤ 9223372036854775807) (hb : b.size ≤ 1099511627776) (hkp : ReadsI w kv keep) (hka : Away kv d keep) (hlen : keep.length ≤ 1099511627776) :
    Calls Tryd.prog 10 #[.pointer (some ⟨d, 0, none⟩), .agg #[.int .i64 k, .int .i64 f, .int .i64 n, .string b, kv, .int .u8 (y.toNat : Int)]] w (LDoPost d va vb ((if f = 0 ∨ f = 1 then s.erase f else (1, s)) : Int × DS) w) := by
  have HBW : RowKit.Hid (Below w.heap.size w (w.alloc (.cells #[.int .i64 k, .int .i64 f, .int .i64 n, .string b, kv, .int .u8 (y.toNat : Int)] 37))) := hid (below_alloc1 w (.cells #[.int .i64 k, .int .i64 f, .int .i64 n, .string b, kv, .int .u8 (y.toNat : Int)] 37))
  have HR := hid (h.new HBW.out)
  have HK := hid (hkp.below HBW.out)
  have HE := hid (hg.below HBW.out hg.lt)
  have t0 : (k == 0) = false := by rw [hk]; rfl
  have t1 : (k == 1) = false := by rw [hk]; rfl
  have t2 : (k == 2) = true := by rw [hk]; rfl
  have t3 : (k == 3) = false := by rw [hk]; rfl
  have t4 : (k == 4) = false := by rw [hk]; rfl
  have t5 : (k == 5) = false := by rw [hk]; rfl
  have t6 : (k == 6) = false := by rw [hk]; rfl
  obtain ⟨x, hx⟩ : ∃ x : Int × DS, ((if f = 0 ∨ f = 1 then s.erase f else (1, s)) : Int × DS) = x := ⟨_, rfl⟩
  rw [hx]
  have HX := hid hx
  clear h hkp hk hx hg
  go_enter Tryd.func10, Tryd.ntmps10
  go_wp2_with (go_at_call 16; refine (Erase_all HR.out f).mono ?_; intro e w1 hp; rw [HX.out] at hp; obtain ⟨rfl, va1, vb1, hd1, hs1⟩ := hp; have H1 := hid hd1; have HS1 := hid hs1; have HE1 := hid (HE.out.step hs1 hF); have HL1 := hid (Nat.lt_of_lt_of_le HE.out.lt hs1.mod.size); clear hd1 hs1; generalize hev : (if x.1 = 0 then Value.nilIface else errno x.1) = ev; have HEV := hid hev; clear hev)
  refine (num_ev HEV.out HE1.out).mono ?_
  rintro e w2 ⟨rfl, hb2⟩
  have HB2 := hid hb2
  clear hb2
  go_wp2
  go_ret
  exact ldo_end HBW.out H1.out HS1.out HB2.out HE1.out HL1.out
set_option maxHeartbeats 1000000 in
theorem ldo_3 {w : World} {d : Nat} {va vb : Value} {s : DS} (h : DiskIs w d va vb s) (hg : ErrorType w) (hF : ¬ dfoot d va vb 0) (k f n : Int) (b : ByteArray) (kv : Value) (keep : List Int) (y : UInt8) (hk : k = 3) (hn0 : -9223372036854775808 ≤ n) (hn1 : n ≤ 9223372036854775807) (hb : b.size ≤ 1099511627776) (hkp : ReadsI w kv keep) (hka : Away kv d keep) (hlen : keep.length ≤ 1099511627776) :
    Calls Tryd.prog 10 #[.pointer (some ⟨d, 0, none⟩), .agg #[.int .i64 k, .int .i64 f, .int .i64 n, .string b, kv, .int .u8 (y.toNat : Int)]] w (LDoPost d va vb ((s.fuseAt n) : Int × DS) w) := by
  have HBW : RowKit.Hid (Below w.heap.size w (w.alloc (.cells #[.int .i64 k, .int .i64 f, .int .i64 n, .string b, kv, .int .u8 (y.toNat : Int)] 37))) := hid (below_alloc1 w (.cells #[.int .i64 k, .int .i64 f, .int .i64 n, .string b, kv, .int .u8 (y.toNat : Int)] 37))
  have HR := hid (h.new HBW.out)
  have HK := hid (hkp.below HBW.out)
  have HE := hid (hg.below HBW.out hg.lt)
  have t0 : (k == 0) = false := by rw [hk]; rfl
  have t1 : (k == 1) = false := by rw [hk]; rfl
  have t2 : (k == 2) = false := by rw [hk]; rfl
  have t3 : (k == 3) = true := by rw [hk]; rfl
  have t4 : (k == 4) = false := by rw [hk]; rfl
  have t5 : (k == 5) = false := by rw [hk]; rfl
  have t6 : (k == 6) = false := by rw [hk]; rfl
  obtain ⟨x, hx⟩ : ∃ x : Int × DS, ((s.fuseAt n) : Int × DS) = x := ⟨_, rfl⟩
  rw [hx]
  have HX := hid hx
  clear h hkp hk hx hg
  go_enter Tryd.func10, Tryd.ntmps10
  go_wp2_with (go_at_call 18; refine (Fuse_all HR.out n hn1).mono ?_; intro e w1 hp; rw [HX.out] at hp; obtain ⟨rfl, va1, vb1, hd1, hs1⟩ := hp; have H1 := hid hd1; have HS1 := hid hs1; have HE1 := hid (HE.out.step hs1 hF); have HL1 := hid (Nat.lt_of_lt_of_le HE.out.lt hs1.mod.size); clear hd1 hs1; generalize hev : (if x.1 = 0 then Value.nilIface else errno x.1) = ev; have HEV := hid hev; clear hev)
  refine (num_ev HEV.out HE1.out).mono ?_
  rintro e w2 ⟨rfl, hb2⟩
  have HB2 := hid hb2
  clear hb2
  go_wp2
  go_ret
  exact ldo_end HBW.out H1.out HS1.out HB2.out HE1.out HL1.out
set_option maxHeartbeats 1000000 in
theorem ldo_4 {w : World} {d : Nat} {va vb : Value} {s : DS} (h : DiskIs w d va vb s) (hg : ErrorType w) (hF : ¬ dfoot d va vb 0) (k f n : Int) (b : ByteArray) (kv : Value) (keep : List Int) (y : UInt8) (hk : k = 4) (hn0 : -9223372036854775808 ≤ n) (hn1 : n ≤ 9223372036854775807) (hb : b.size ≤ 1099511627776) (hkp : ReadsI w kv keep) (hka : Away kv d keep) (hlen : keep.length ≤ 1099511627776) :
    Calls Tryd.prog 10 #[.pointer (some ⟨d, 0, none⟩), .agg #[.int .i64 k, .int .i64 f, .int .i64 n, .string b, kv, .int .u8 (y.toNat : Int)]] w (LDoPost d va vb ((0, s.crash keep) : Int × DS) w) := by
  have HBW : RowKit.Hid (Below w.heap.size w (w.alloc (.cells #[.int .i64 k, .int .i64 f, .int .i64 n, .string b, kv, .int .u8 (y.toNat : Int)] 37))) := hid (below_alloc1 w (.cells #[.int .i64 k, .int .i64 f, .int .i64 n, .string b, kv, .int .u8 (y.toNat : Int)] 37))
  have HR := hid (h.new HBW.out)
  have HK := hid (hkp.below HBW.out)
  have HE := hid (hg.below HBW.out hg.lt)
  have t0 : (k == 0) = false := by rw [hk]; rfl
  have t1 : (k == 1) = false := by rw [hk]; rfl
  have t2 : (k == 2) = false := by rw [hk]; rfl
  have t3 : (k == 3) = false := by rw [hk]; rfl
  have t4 : (k == 4) = true := by rw [hk]; rfl
  have t5 : (k == 5) = false := by rw [hk]; rfl
  have t6 : (k == 6) = false := by rw [hk]; rfl
  obtain ⟨x, hx⟩ : ∃ x : Int × DS, ((0, s.crash keep) : Int × DS) = x := ⟨_, rfl⟩
  rw [hx]
  have HX := hid hx
  clear h hkp hk hx hg
  go_enter Tryd.func10, Tryd.ntmps10
  go_wp2_with (go_at_call 19; refine (crash_any HR.out kv keep HK.out hka hlen).mono ?_; intro e w1 hp; rw [HX.out] at hp; obtain ⟨rfl, va1, vb1, hd1, hs1⟩ := hp; have H1 := hid hd1; have HS1 := hid hs1; have HE1 := hid (HE.out.step hs1 hF); have HL1 := hid (Nat.lt_of_lt_of_le HE.out.lt hs1.mod.size); clear hd1 hs1; generalize hev : (if x.1 = 0 then Value.nilIface else errno x.1) = ev; have HEV := hid hev; clear hev)
  refine (num_ev HEV.out HE1.out).mono ?_
  rintro e w2 ⟨rfl, hb2⟩
  have HB2 := hid hb2
  clear hb2
  go_wp2
  go_ret
  exact ldo_end HBW.out H1.out HS1.out HB2.out HE1.out HL1.out
set_option maxHeartbeats 1000000 in
theorem ldo_5 {w : World} {d : Nat} {va vb : Value} {s : DS} (h : DiskIs w d va vb s) (hg : ErrorType w) (hF : ¬ dfoot d va vb 0) (k f n : Int) (b : ByteArray) (kv : Value) (keep : List Int) (y : UInt8) (hk : k = 5) (hn0 : -9223372036854775808 ≤ n) (hn1 : n ≤ 9223372036854775807) (hb : b.size ≤ 1099511627776) (hkp : ReadsI w kv keep) (hka : Away kv d keep) (hlen : keep.length ≤ 1099511627776) :
    Calls Tryd.prog 10 #[.pointer (some ⟨d, 0, none⟩), .agg #[.int .i64 k, .int .i64 f, .int .i64 n, .string b, kv, .int .u8 (y.toNat : Int)]] w (LDoPost d va vb ((if f = 0 ∨ f = 1 then s.turn f n y else (1, s)) : Int × DS) w) := by
  have HBW : RowKit.Hid (Below w.heap.size w (w.alloc (.cells #[.int .i64 k, .int .i64 f, .int .i64 n, .string b, kv, .int .u8 (y.toNat : Int)] 37))) := hid (below_alloc1 w (.cells #[.int .i64 k, .int .i64 f, .int .i64 n, .string b, kv, .int .u8 (y.toNat : Int)] 37))
  have HR := hid (h.new HBW.out)
  have HK := hid (hkp.below HBW.out)
  have HE := hid (hg.below HBW.out hg.lt)
  have t0 : (k == 0) = false := by rw [hk]; rfl
  have t1 : (k == 1) = false := by rw [hk]; rfl
  have t2 : (k == 2) = false := by rw [hk]; rfl
  have t3 : (k == 3) = false := by rw [hk]; rfl
  have t4 : (k == 4) = false := by rw [hk]; rfl
  have t5 : (k == 5) = true := by rw [hk]; rfl
  have t6 : (k == 6) = false := by rw [hk]; rfl
  obtain ⟨x, hx⟩ : ∃ x : Int × DS, ((if f = 0 ∨ f = 1 then s.turn f n y else (1, s)) : Int × DS) = x := ⟨_, rfl⟩
  rw [hx]
  have HX := hid hx
  clear h hkp hk hx hg
  go_enter Tryd.func10, Tryd.ntmps10
  go_wp2_with (go_at_call 20; refine (Turn_all HR.out f n y).mono ?_; intro e w1 hp; rw [HX.out] at hp; obtain ⟨rfl, va1, vb1, hd1, hs1⟩ := hp; have H1 := hid hd1; have HS1 := hid hs1; have HE1 := hid (HE.out.step hs1 hF); have HL1 := hid (Nat.lt_of_lt_of_le HE.out.lt hs1.mod.size); clear hd1 hs1; generalize hev : (if x.1 = 0 then Value.nilIface else errno x.1) = ev; have HEV := hid hev; clear hev)
  refine (num_ev HEV.out HE1.out).mono ?_
  rintro e w2 ⟨rfl, hb2⟩
  have HB2 := hid hb2
  clear hb2
  go_wp2
  go_ret
  exact ldo_end HBW.out H1.out HS1.out HB2.out HE1.out HL1.out
set_option maxHeartbeats 1000000 in
theorem ldo_6 {w : World} {d : Nat} {va vb : Value} {s : DS} (h : DiskIs w d va vb s) (hg : ErrorType w) (hF : ¬ dfoot d va vb 0) (k f n : Int) (b : ByteArray) (kv : Value) (keep : List Int) (y : UInt8) (hk : k = 6) (hn0 : -9223372036854775808 ≤ n) (hn1 : n ≤ 9223372036854775807) (hb : b.size ≤ 1099511627776) (hkp : ReadsI w kv keep) (hka : Away kv d keep) (hlen : keep.length ≤ 1099511627776) :
    Calls Tryd.prog 10 #[.pointer (some ⟨d, 0, none⟩), .agg #[.int .i64 k, .int .i64 f, .int .i64 n, .string b, kv, .int .u8 (y.toNat : Int)]] w (LDoPost d va vb ((if f = 0 ∨ f = 1 then s.cut f n else (1, s)) : Int × DS) w) := by
  have HBW : RowKit.Hid (Below w.heap.size w (w.alloc (.cells #[.int .i64 k, .int .i64 f, .int .i64 n, .string b, kv, .int .u8 (y.toNat : Int)] 37))) := hid (below_alloc1 w (.cells #[.int .i64 k, .int .i64 f, .int .i64 n, .string b, kv, .int .u8 (y.toNat : Int)] 37))
  have HR := hid (h.new HBW.out)
  have HK := hid (hkp.below HBW.out)
  have HE := hid (hg.below HBW.out hg.lt)
  have t0 : (k == 0) = false := by rw [hk]; rfl
  have t1 : (k == 1) = false := by rw [hk]; rfl
  have t2 : (k == 2) = false := by rw [hk]; rfl
  have t3 : (k == 3) = false := by rw [hk]; rfl
  have t4 : (k == 4) = false := by rw [hk]; rfl
  have t5 : (k == 5) = false := by rw [hk]; rfl
  have t6 : (k == 6) = true := by rw [hk]; rfl
  obtain ⟨x, hx⟩ : ∃ x : Int × DS, ((if f = 0 ∨ f = 1 then s.cut f n else (1, s)) : Int × DS) = x := ⟨_, rfl⟩
  rw [hx]
  have HX := hid hx
  clear h hkp hk hx hg
  go_enter Tryd.func10, Tryd.ntmps10
  go_wp2_with (go_at_call 17; refine (Cut_all HR.out f n hn0 hn1).mono ?_; intro e w1 hp; rw [HX.out] at hp; obtain ⟨rfl, va1, vb1, hd1, hs1⟩ := hp; have H1 := hid hd1; have HS1 := hid hs1; have HE1 := hid (HE.out.step hs1 hF); have HL1 := hid (Nat.lt_of_lt_of_le HE.out.lt hs1.mod.size); clear hd1 hs1; generalize hev : (if x.1 = 0 then Value.nilIface else errno x.1) = ev; have HEV := hid hev; clear hev)
  refine (num_ev HEV.out HE1.out).mono ?_
  rintro e w2 ⟨rfl, hb2⟩
  have HB2 := hid hb2
  clear hb2
  go_wp2
  go_ret
  exact ldo_end HBW.out H1.out HS1.out HB2.out HE1.out HL1.out
set_option maxHeartbeats 1000000 in
theorem ldo_7 {w : World} {d : Nat} {va vb : Value} {s : DS} (h : DiskIs w d va vb s) (hg : ErrorType w) (hF : ¬ dfoot d va vb 0) (k f n : Int) (b : ByteArray) (kv : Value) (keep : List Int) (y : UInt8) (hk : ¬ (k = 0 ∨ k = 1 ∨ k = 2 ∨ k = 3 ∨ k = 4 ∨ k = 5 ∨ k = 6)) (hn0 : -9223372036854775808 ≤ n) (hn1 : n ≤ 9223372036854775807) (hb : b.size ≤ 1099511627776) (hkp : ReadsI w kv keep) (hka : Away kv d keep) (hlen : keep.length ≤ 1099511627776) :
    Calls Tryd.prog 10 #[.pointer (some ⟨d, 0, none⟩), .agg #[.int .i64 k, .int .i64 f, .int .i64 n, .string b, kv, .int .u8 (y.toNat : Int)]] w (LDoPost d va vb ((0, s) : Int × DS) w) := by
  have HBW : RowKit.Hid (Below w.heap.size w (w.alloc (.cells #[.int .i64 k, .int .i64 f, .int .i64 n, .string b, kv, .int .u8 (y.toNat : Int)] 37))) := hid (below_alloc1 w (.cells #[.int .i64 k, .int .i64 f, .int .i64 n, .string b, kv, .int .u8 (y.toNat : Int)] 37))
  have HR := hid (h.new HBW.out)
  have HK := hid (hkp.below HBW.out)
  have HE := hid (hg.below HBW.out hg.lt)
  have t0 : (k == 0) = false := by exact beq_eq_false_iff_ne.2 (fun e => hk (by omega))
  have t1 : (k == 1) = false := by exact beq_eq_false_iff_ne.2 (fun e => hk (by omega))
  have t2 : (k == 2) = false := by exact beq_eq_false_iff_ne.2 (fun e => hk (by omega))
  have t3 : (k == 3) = false := by exact beq_eq_false_iff_ne.2 (fun e => hk (by omega))
  have t4 : (k == 4) = false := by exact beq_eq_false_iff_ne.2 (fun e => hk (by omega))
  have t5 : (k == 5) = false := by exact beq_eq_false_iff_ne.2 (fun e => hk (by omega))
  have t6 : (k == 6) = false := by exact beq_eq_false_iff_ne.2 (fun e => hk (by omega))
  obtain ⟨x, hx⟩ : ∃ x : Int × DS, ((0, s) : Int × DS) = x := ⟨_, rfl⟩
  rw [hx]
  have HX := hid hx
  clear h hkp hk hx hg
  go_enter Tryd.func10, Tryd.ntmps10
  go_wp2
  go_ret
  rw [← HX.out]
  exact ldo_end (x := (0, s)) HBW.out HR.out (Step.refl _ _) (Below.refl _ _) HE.out HE.out.lt
theorem ldo_any {w : World} {d : Nat} {va vb : Value} {s : DS} (h : DiskIs w d va vb s) (hg : ErrorType w) (hF : ¬ dfoot d va vb 0) (a : ActD) (ha : a.Ok w) (hka : Away a.kv d a.keep) :
    Calls Tryd.prog 10 #[.pointer (some ⟨d, 0, none⟩), a.val] w (LDoPost d va vb (s.act a) w) := by
  unfold ActD.val DS.act
  by_cases h0 : a.kind = 0
  · rw [if_pos h0]; exact ldo_0 h hg hF _ _ _ _ _ _ _ h0 ha.n0 ha.n1 ha.b ha.keep hka ha.len
  rw [if_neg h0]
  by_cases h1 : a.kind = 1
  · rw [if_pos h1]; exact ldo_1 h hg hF _ _ _ _ _ _ _ h1 ha.n0 ha.n1 ha.b ha.keep hka ha.len
  rw [if_neg h1]
  by_cases h2 : a.kind = 2
  · rw [if_pos h2]; exact ldo_2 h hg hF _ _ _ _ _ _ _ h2 ha.n0 ha.n1 ha.b ha.keep hka ha.len
  rw [if_neg h2]
  by_cases h3 : a.kind = 3
  · rw [if_pos h3]; exact ldo_3 h hg hF _ _ _ _ _ _ _ h3 ha.n0 ha.n1 ha.b ha.keep hka ha.len
  rw [if_neg h3]
  by_cases h4 : a.kind = 4
  · rw [if_pos h4]; exact ldo_4 h hg hF _ _ _ _ _ _ _ h4 ha.n0 ha.n1 ha.b ha.keep hka ha.len
  rw [if_neg h4]
  by_cases h5 : a.kind = 5
  · rw [if_pos h5]; exact ldo_5 h hg hF _ _ _ _ _ _ _ h5 ha.n0 ha.n1 ha.b ha.keep hka ha.len
  rw [if_neg h5]
  by_cases h6 : a.kind = 6
  · rw [if_pos h6]; exact ldo_6 h hg hF _ _ _ _ _ _ _ h6 ha.n0 ha.n1 ha.b ha.keep hka ha.len
  rw [if_neg h6]
  exact ldo_7 h hg hF _ _ _ _ _ _ _ (by omega) ha.n0 ha.n1 ha.b ha.keep hka ha.len
theorem rdo_any {w : World} {r : Nat} {B0 B1 : ByteArray} {s : DS} (h : RefIs w r B0 B1 s) (a : ActD) (ha : a.Ok w) (hka : Away a.kv r a.keep) :
    Calls Tryd.prog 11 #[.pointer (some ⟨r, 0, none⟩), a.val] w (RDoPost r (s.act a) w) := by
  unfold ActD.val DS.act
  by_cases h0 : a.kind = 0
  · rw [if_pos h0]; exact rdo_0 h _ _ _ _ _ _ _ h0 ha.n0 ha.n1 ha.b ha.keep hka ha.len
  rw [if_neg h0]
  by_cases h1 : a.kind = 1
  · rw [if_pos h1]; exact rdo_1 h _ _ _ _ _ _ _ h1 ha.n0 ha.n1 ha.b ha.keep hka ha.len
  rw [if_neg h1]
  by_cases h2 : a.kind = 2
  · rw [if_pos h2]; exact rdo_2 h _ _ _ _ _ _ _ h2 ha.n0 ha.n1 ha.b ha.keep hka ha.len
  rw [if_neg h2]
  by_cases h3 : a.kind = 3
  · rw [if_pos h3]; exact rdo_3 h _ _ _ _ _ _ _ h3 ha.n0 ha.n1 ha.b ha.keep hka ha.len
  rw [if_neg h3]
  by_cases h4 : a.kind = 4
  · rw [if_pos h4]; exact rdo_4 h _ _ _ _ _ _ _ h4 ha.n0 ha.n1 ha.b ha.keep hka ha.len
  rw [if_neg h4]
  by_cases h5 : a.kind = 5
  · rw [if_pos h5]; exact rdo_5 h _ _ _ _ _ _ _ h5 ha.n0 ha.n1 ha.b ha.keep hka ha.len
  rw [if_neg h5]
  by_cases h6 : a.kind = 6
  · rw [if_pos h6]; exact rdo_6 h _ _ _ _ _ _ _ h6 ha.n0 ha.n1 ha.b ha.keep hka ha.len
  rw [if_neg h6]
  exact rdo_7 h _ _ _ _ _ _ _ (by omega) ha.n0 ha.n1 ha.b ha.keep hka ha.len
end Go.Proofs.YtdchpabcaoghpaaDoor
