/-
  Calls of a script, on both disks: the document's Do.
-/
import Derived.Test.YtdchpabcaoghpaaDoorDiskRefD
import Derived.Test.YtdchpabcaoghpaaDoorDiskNone
namespace Go.Proofs.YtdchpabcaoghpaaDoor
open Go.RowKit
set_option linter.unusedVariables false
/-- A call of a script, as data. -/
structure ActD where
  kind : Int
  file : Int
  n : Int
  b : ByteArray
  keep : List Int
  kv : Value
  by_ : UInt8
def DS.fuseAt (s : DS) (n : Int) : Int × DS := if n < 0 then (1, s) else (0, { s with fuse := n })
def DS.act (s : DS) (a : ActD) : Int × DS :=
  if a.kind = 0 then (if a.file = 0 ∨ a.file = 1 then s.write a.file a.b.data.toList else (1, s))
  else if a.kind = 1 then (if a.file = 0 ∨ a.file = 1 then s.sync a.file else (1, s))
  else if a.kind = 2 then (if a.file = 0 ∨ a.file = 1 then s.erase a.file else (1, s))
  else if a.kind = 3 then s.fuseAt a.n
  else if a.kind = 4 then (0, s.crash a.keep)
  else if a.kind = 5 then (if a.file = 0 ∨ a.file = 1 then s.turn a.file a.n a.by_ else (1, s))
  else if a.kind = 6 then (if a.file = 0 ∨ a.file = 1 then s.cut a.file a.n else (1, s))
  else (0, s)
def ActD.val (a : ActD) : Value := .agg #[.int .i64 a.kind, .int .i64 a.file, .int .i64 a.n, .string a.b, a.kv, .int .u8 (a.by_.toNat : Int)]
structure ActD.Ok (a : ActD) (w : World) : Prop where
  n0 : -9223372036854775808 ≤ a.n
  n1 : a.n ≤ 9223372036854775807
  b : a.b.size ≤ 1099511627776
  keep : ReadsI w a.kv a.keep
  len : a.keep.length ≤ 1099511627776
theorem ActD.Ok.below {a : ActD} {w w' : World} (h : a.Ok w) (hb : Below w.heap.size w w') : a.Ok w' := ⟨h.n0, h.n1, h.b, h.keep.below hb, h.len⟩
section
variable {w : World} {r : Nat} {B0 B1 : ByteArray} {s : DS} (h : RefIs w r B0 B1 s)
include h
theorem RPost.bad {e : Ending} {w' : World} (hp : e = .returned (.int .i64 1) ∧ w = w') : RPost r (1, s) w e w' := by obtain ⟨rfl, rfl⟩ := hp; exact RPost.mk rfl rfl h (Mod.refl _ _)
theorem rWrite_all (n : Int) (m : ByteArray) (hm : m.size ≤ 1099511627776) : Calls Tryd.prog 25 #[.pointer (some ⟨r, 0, none⟩), .int .i64 n, .string m] w (RPost r (if n = 0 ∨ n = 1 then s.write n m.data.toList else (1, s)) w) := by
  by_cases hn : n = 0 ∨ n = 1
  · rw [if_pos hn]
    by_cases hoff : s.off = true
    · exact rWrite_off h hoff n hn m
    · have hoff' : s.off = false := by simpa using hoff
      rcases hn with rfl | rfl
      · exact rwrite_0 h hoff' m hm
      · exact rwrite_1 h hoff' m hm
  · rw [if_neg hn]
    exact (rWrite_none r n hn m w).mono fun e w' hp => RPost.bad h hp
theorem rSync_all (n : Int) : Calls Tryd.prog 26 #[.pointer (some ⟨r, 0, none⟩), .int .i64 n] w (RPost r (if n = 0 ∨ n = 1 then s.sync n else (1, s)) w) := by
  by_cases hn : n = 0 ∨ n = 1
  · rw [if_pos hn]
    by_cases hoff : s.off = true
    · exact rSync_off h hoff n hn
    · have hoff' : s.off = false := by simpa using hoff
      rcases hn with rfl | rfl
      · exact rsync_0 h hoff'
      · exact rsync_1 h hoff'
  · rw [if_neg hn]
    exact (rSync_none r n hn w).mono fun e w' hp => RPost.bad h hp
theorem rErase_all (n : Int) : Calls Tryd.prog 27 #[.pointer (some ⟨r, 0, none⟩), .int .i64 n] w (RPost r (if n = 0 ∨ n = 1 then s.erase n else (1, s)) w) := by
  by_cases hn : n = 0 ∨ n = 1
  · rw [if_pos hn]
    by_cases hoff : s.off = true
    · exact rErase_off h hoff n hn
    · have hoff' : s.off = false := by simpa using hoff
      rcases hn with rfl | rfl
      · exact rerase_0 h hoff'
      · exact rerase_1 h hoff'
  · rw [if_neg hn]
    exact (rErase_none r n hn w).mono fun e w' hp => RPost.bad h hp
theorem rCut_all (n : Int) (k : Int) : Calls Tryd.prog 31 #[.pointer (some ⟨r, 0, none⟩), .int .i64 n, .int .i64 k] w (RPost r (if n = 0 ∨ n = 1 then s.cut n k else (1, s)) w) := by
  by_cases hn : n = 0 ∨ n = 1
  · rw [if_pos hn]
    by_cases hoff : s.off = true
    · exact rCut_off h hoff n hn k
    · have hoff' : s.off = false := by simpa using hoff
      rcases hn with rfl | rfl
      · exact rcut_0 h hoff' k
      · exact rcut_1 h hoff' k
  · rw [if_neg hn]
    exact (rCut_none r n hn k w).mono fun e w' hp => RPost.bad h hp
theorem rTurn_all (n : Int) (k : Int) (x : UInt8) : Calls Tryd.prog 30 #[.pointer (some ⟨r, 0, none⟩), .int .i64 n, .int .i64 k, .int .u8 (x.toNat : Int)] w (RPost r (if n = 0 ∨ n = 1 then s.turn n k x else (1, s)) w) := by
  by_cases hn : n = 0 ∨ n = 1
  · rw [if_pos hn]
    rcases hn with rfl | rfl
    · exact rturn_0 h k x
    · exact rturn_1 h k x
  · rw [if_neg hn]
    exact (rturn_none r n k _ hn w).mono fun e w' hp => RPost.bad h hp
theorem rFused_all (n : Int) (hn1 : n ≤ 9223372036854775807) : Calls Tryd.prog 28 #[.pointer (some ⟨r, 0, none⟩), .int .i64 n] w (RPost r (s.fuseAt n) w) := by
  unfold DS.fuseAt
  by_cases hn : n < 0
  · rw [if_pos hn]; exact rfuse_neg h n hn
  · rw [if_neg hn]; exact rfuse_any h n (by omega) hn1
end
section
variable {w : World} {d : Nat} {va vb : Value} {s : DS} (h : DiskIs w d va vb s)
include h
theorem ActPost.bad {e : Ending} {w' : World} (hp : NoPost 1 w e w') : ActPost d va vb (1, s) w e w' := by
  obtain ⟨rfl, hb⟩ := hp
  exact ActPost.mk rfl rfl (h.new hb) (Step.then_new (Step.refl _ _) hb)
theorem Sync_all (n : Int) : Calls Tryd.prog 15 #[.pointer (some ⟨d, 0, none⟩), .int .i64 n] w (ActPost d va vb (if n = 0 ∨ n = 1 then s.sync n else (1, s)) w) := by
  by_cases hn : n = 0 ∨ n = 1
  · rw [if_pos hn]; exact sync_any h n hn
  · rw [if_neg hn]; exact (sync_bad d n hn w).mono fun e w' hp => ActPost.bad h ⟨hp.1, by rw [hp.2]; exact Below.refl _ _⟩
theorem Erase_all (n : Int) : Calls Tryd.prog 16 #[.pointer (some ⟨d, 0, none⟩), .int .i64 n] w (ActPost d va vb (if n = 0 ∨ n = 1 then s.erase n else (1, s)) w) := by
  by_cases hn : n = 0 ∨ n = 1
  · rw [if_pos hn]; exact erase_any h n hn
  · rw [if_neg hn]; exact (erase_bad d n hn w).mono fun e w' hp => ActPost.bad h hp
theorem Cut_all (n : Int) (k : Int) (hk0 : -9223372036854775808 ≤ k) (hk1 : k ≤ 9223372036854775807) : Calls Tryd.prog 17 #[.pointer (some ⟨d, 0, none⟩), .int .i64 n, .int .i64 k] w (ActPost d va vb (if n = 0 ∨ n = 1 then s.cut n k else (1, s)) w) := by
  by_cases hn : n = 0 ∨ n = 1
  · rw [if_pos hn]; exact cut_any h n hn k hk0 hk1
  · rw [if_neg hn]; exact (cut_bad d n k hn w).mono fun e w' hp => ActPost.bad h hp
theorem Turn_all (n : Int) (k : Int) (x : UInt8) : Calls Tryd.prog 20 #[.pointer (some ⟨d, 0, none⟩), .int .i64 n, .int .i64 k, .int .u8 (x.toNat : Int)] w (ActPost d va vb (if n = 0 ∨ n = 1 then s.turn n k x else (1, s)) w) := by
  by_cases hn : n = 0 ∨ n = 1
  · rw [if_pos hn]; exact turn_any h n hn k x
  · rw [if_neg hn]; exact (turn_bad d n k hn _ w).mono fun e w' hp => ActPost.bad h hp
theorem Write_all (n : Int) (b o cap : Nat) (m : List UInt8) (hm : ReadsB w (.slice (some ⟨b, o, none⟩) m.length cap) m) (hcap : m.length ≤ cap) (hlen : m.length ≤ 1099511627776) :
    Calls Tryd.prog 14 #[.pointer (some ⟨d, 0, none⟩), .int .i64 n, .slice (some ⟨b, o, none⟩) m.length cap] w (ActPost d va vb (if n = 0 ∨ n = 1 then s.write n m else (1, s)) w) := by
  by_cases hn : n = 0 ∨ n = 1
  · rw [if_pos hn]; exact write_any h n hn b o cap m hm hcap hlen
  · rw [if_neg hn]; exact (write_bad d n hn _ w).mono fun e w' hp => ActPost.bad h ⟨hp.1, by rw [hp.2]; exact Below.refl _ _⟩
omit h in
theorem fuse_neg (n : Int) (hn : n < 0) : Calls Tryd.prog 18 #[.pointer (some ⟨d, 0, none⟩), .int .i64 n] w fun e w' => e = .returned (errno 1) ∧ w = w' := by
  go_enter Tryd.func18, Tryd.ntmps18
  go_wp2
  go_ret
  exact ⟨rfl, rfl⟩
theorem Fuse_all (n : Int) (hn1 : n ≤ 9223372036854775807) : Calls Tryd.prog 18 #[.pointer (some ⟨d, 0, none⟩), .int .i64 n] w (ActPost d va vb (s.fuseAt n) w) := by
  unfold DS.fuseAt
  by_cases hn : n < 0
  · rw [if_pos hn]; exact (fuse_neg n hn).mono fun e w' hp => ActPost.bad h ⟨hp.1, by rw [hp.2]; exact Below.refl _ _⟩
  · rw [if_neg hn]; exact (fuse_any h n (by omega) hn1).mono fun e w' hp => ⟨by rw [hp.1]; rfl, va, vb, hp.2.1, Step.of_mod hp.2.2⟩
end
/-- What the document's Do leaves. -/
def RDoPost (r : Nat) (x : Int × DS) (w : World) (e : Ending) (w' : World) : Prop := e = .returned (.int .i64 x.1) ∧ ∃ B0 B1, RefIs w' r B0 B1 x.2 ∧ Mod (fun k => k = r) w w'
theorem RPost.ret {r : Nat} {x : Int × DS} {w w' : World} {e : Ending} (h : RPost r x w e w') : e = .returned (.int .i64 x.1) ∧ RPost r x w (.returned (.int .i64 x.1)) w' := ⟨h.1, rfl, h.2⟩
theorem mod_alloc_then {r : Nat} {w w' : World} {o : Obj} (h : Mod (fun k => k = r) (w.alloc o) w') : Mod (fun k => k = r) w w' := (Mod.new (below_alloc1 w o) (fun k => k = r)).trans h (fun _ e => .inl e)
set_option maxHeartbeats 1000000 in
theorem rdo_0 {w : World} {r : Nat} {B0 B1 : ByteArray} {s : DS} (h : RefIs w r B0 B1 s) (k f n : Int) (b : ByteArray) (kv : Value) (keep : List Int) (y : UInt8) (hk : k = 0) (hn0 : -9223372036854775808 ≤ n) (hn1 : n ≤ 9223372036854775807) (hb : b.size ≤ 1099511627776) (hkp : ReadsI w kv keep) (hka : Away kv r keep) (hlen : keep.length ≤ 1099511627776) :
    Calls Tryd.prog 11 #[.pointer (some ⟨r, 0, none⟩), .agg #[.int .i64 k, .int .i64 f, .int .i64 n, .string b, kv, .int .u8 (y.toNat : Int)]] w (RDoPost r (if f = 0 ∨ f = 1 then s.write f b.data.toList else (1, s)) w) := by
  have HR := hid (h.new (below_alloc1 w (.cells #[.int .i64 k, .int .i64 f, .int .i64 n, .string b, kv, .int .u8 (y.toNat : Int)] 37)))
  have HK := hid (hkp.below (below_alloc1 w (.cells #[.int .i64 k, .int .i64 f, .int .i64 n, .string b, kv, .int .u8 (y.toNat : Int)] 37)))
  have t0 : (k == 0) = true := by rw [hk]; rfl
  have t1 : (k == 1) = false := by rw [hk]; rfl
  have t2 : (k == 2) = false := by rw [hk]; rfl
  have t3 : (k == 3) = false := by rw [hk]; rfl
  have t4 : (k == 4) = false := by rw [hk]; rfl
  have t5 : (k == 5) = false := by rw [hk]; rfl
  have t6 : (k == 6) = false := by rw [hk]; rfl
  obtain ⟨x, hx⟩ : ∃ x : Int × DS, ((if f = 0 ∨ f = 1 then s.write f b.data.toList else (1, s)) : Int × DS) = x := ⟨_, rfl⟩
  rw [hx]
  have HX := hid hx
  clear h hkp hk hx
  go_enter Tryd.func11, Tryd.ntmps11
  go_wp2_with (go_at_call 25; refine (rWrite_all HR.out f b hb).mono ?_; intro e w1 hp; rw [HX.out] at hp; obtain ⟨rfl, hp⟩ := hp.ret; have HP := hid hp; clear hp)
  go_ret
  obtain ⟨_, B0', B1', h1, h2⟩ := HP.out
  exact ⟨rfl, B0', B1', h1, mod_alloc_then h2⟩
set_option maxHeartbeats 1000000 in
theorem rdo_1 {w : World} {r : Nat} {B0 B1 : ByteArray} {s : DS} (h : RefIs w r B0 B1 s) (k f n : Int) (b : ByteArray) (kv : Value) (keep : List Int) (y : UInt8) (hk : k = 1) (hn0 : -9223372036854775808 ≤ n) (hn1 : n ≤ 9223372036854775807) (hb : b.size ≤ 1099511627776) (hkp : ReadsI w kv keep) (hka : Away kv r keep) (hlen : keep.length ≤ 1099511627776) :
    Calls Tryd.prog 11 #[.pointer (some ⟨r, 0, none⟩), .agg #[.int .i64 k, .int .i64 f, .int .i64 n, .string b, kv, .int .u8 (y.toNat : Int)]] w (RDoPost r (if f = 0 ∨ f = 1 then s.sync f else (1, s)) w) := by
  have HR := hid (h.new (below_alloc1 w (.cells #[.int .i64 k, .int .i64 f, .int .i64 n, .string b, kv, .int .u8 (y.toNat : Int)] 37)))
  have HK := hid (hkp.below (below_alloc1 w (.cells #[.int .i64 k, .int .i64 f, .int .i64 n, .string b, kv, .int .u8 (y.toNat : Int)] 37)))
  have t0 : (k == 0) = false := by rw [hk]; rfl
  have t1 : (k == 1) = true := by rw [hk]; rfl
  have t2 : (k == 2) = false := by rw [hk]; rfl
  have t3 : (k == 3) = false := by rw [hk]; rfl
  have t4 : (k == 4) = false := by rw [hk]; rfl
  have t5 : (k == 5) = false := by rw [hk]; rfl
  have t6 : (k == 6) = false := by rw [hk]; rfl
  obtain ⟨x, hx⟩ : ∃ x : Int × DS, ((if f = 0 ∨ f = 1 then s.sync f else (1, s)) : Int × DS) = x := ⟨_, rfl⟩
  rw [hx]
  have HX := hid hx
  clear h hkp hk hx
  go_enter Tryd.func11, Tryd.ntmps11
  go_wp2_with (go_at_call 26; refine (rSync_all HR.out f).mono ?_; intro e w1 hp; rw [HX.out] at hp; obtain ⟨rfl, hp⟩ := hp.ret; have HP := hid hp; clear hp)
  go_ret
  obtain ⟨_, B0', B1', h1, h2⟩ := HP.out
  exact ⟨rfl, B0', B1', h1, mod_alloc_then h2⟩
set_option maxHeartbeats 1000000 in
theorem rdo_2 {w : World} {r : Nat} {B0 B1 : ByteArray} {s : DS} (h : RefIs w r B0 B1 s) (k f n : Int) (b : ByteArray) (kv : Value) (keep : List Int) (y : UInt8) (hk : k = 2) (hn0 : -9223372036854775808 ≤ n) (hn1 : n ≤ 9223372036854775807) (hb : b.size ≤ 1099511627776) (hkp : ReadsI w kv keep) (hka : Away kv r keep) (hlen : keep.length ≤ 1099511627776) :
    Calls Tryd.prog 11 #[.pointer (some ⟨r, 0, none⟩), .agg #[.int .i64 k, .int .i64 f, .int .i64 n, .string b, kv, .int .u8 (y.toNat : Int)]] w (RDoPost r (if f = 0 ∨ f = 1 then s.erase f else (1, s)) w) := by
  have HR := hid (h.new (below_alloc1 w (.cells #[.int .i64 k, .int .i64 f, .int .i64 n, .string b, kv, .int .u8 (y.toNat : Int)] 37)))
  have HK := hid (hkp.below (below_alloc1 w (.cells #[.int .i64 k, .int .i64 f, .int .i64 n, .string b, kv, .int .u8 (y.toNat : Int)] 37)))
  have t0 : (k == 0) = false := by rw [hk]; rfl
  have t1 : (k == 1) = false := by rw [hk]; rfl
  have t2 : (k == 2) = true := by rw [hk]; rfl
  have t3 : (k == 3) = false := by rw [hk]; rfl
  have t4 : (k == 4) = false := by rw [hk]; rfl
  have t5 : (k == 5) = false := by rw [hk]; rfl
  have t6 : (k == 6) = false := by rw [hk]; rfl
  obtain ⟨x, hx⟩ : ∃ x : Int × DS, ((if f = 0 ∨ f = 1 then s.erase f else (1, s)) : Int × DS) = x := ⟨_, rfl⟩
  rw [hx]
  have HX := hid hx
  clear h hkp hk hx
  go_enter Tryd.func11, Tryd.ntmps11
  go_wp2_with (go_at_call 27; refine (rErase_all HR.out f).mono ?_; intro e w1 hp; rw [HX.out] at hp; obtain ⟨rfl, hp⟩ := hp.ret; have HP := hid hp; clear hp)
  go_ret
  obtain ⟨_, B0', B1', h1, h2⟩ := HP.out
  exact ⟨rfl, B0', B1', h1, mod_alloc_then h2⟩
set_option maxHeartbeats 1000000 in
theorem rdo_3 {w : World} {r : Nat} {B0 B1 : ByteArray} {s : DS} (h : RefIs w r B0 B1 s) (k f n : Int) (b : ByteArray) (kv : Value) (keep : List Int) (y : UInt8) (hk : k = 3) (hn0 : -9223372036854775808 ≤ n) (hn1 : n ≤ 9223372036854775807) (hb : b.size ≤ 1099511627776) (hkp : ReadsI w kv keep) (hka : Away kv r keep) (hlen : keep.length ≤ 1099511627776) :
    Calls Tryd.prog 11 #[.pointer (some ⟨r, 0, none⟩), .agg #[.int .i64 k, .int .i64 f, .int .i64 n, .string b, kv, .int .u8 (y.toNat : Int)]] w (RDoPost r (s.fuseAt n) w) := by
  have HR := hid (h.new (below_alloc1 w (.cells #[.int .i64 k, .int .i64 f, .int .i64 n, .string b, kv, .int .u8 (y.toNat : Int)] 37)))
  have HK := hid (hkp.below (below_alloc1 w (.cells #[.int .i64 k, .int .i64 f, .int .i64 n, .string b, kv, .int .u8 (y.toNat : Int)] 37)))
  have t0 : (k == 0) = false := by rw [hk]; rfl
  have t1 : (k == 1) = false := by rw [hk]; rfl
  have t2 : (k == 2) = false := by rw [hk]; rfl
  have t3 : (k == 3) = true := by rw [hk]; rfl
  have t4 : (k == 4) = false := by rw [hk]; rfl
  have t5 : (k == 5) = false := by rw [hk]; rfl
  have t6 : (k == 6) = false := by rw [hk]; rfl
  obtain ⟨x, hx⟩ : ∃ x : Int × DS, ((s.fuseAt n) : Int × DS) = x := ⟨_, rfl⟩
  rw [hx]
  have HX := hid hx
  clear h hkp hk hx
  go_enter Tryd.func11, Tryd.ntmps11
  go_wp2_with (go_at_call 28; refine (rFused_all HR.out n hn1).mono ?_; intro e w1 hp; rw [HX.out] at hp; obtain ⟨rfl, hp⟩ := hp.ret; have HP := hid hp; clear hp)
  go_ret
  obtain ⟨_, B0', B1', h1, h2⟩ := HP.out
  exact ⟨rfl, B0', B1', h1, mod_alloc_then h2⟩
set_option maxHeartbeats 1000000 in
theorem rdo_4 {w : World} {r : Nat} {B0 B1 : ByteArray} {s : DS} (h : RefIs w r B0 B1 s) (k f n : Int) (b : ByteArray) (kv : Value) (keep : List Int) (y : UInt8) (hk : k = 4) (hn0 : -9223372036854775808 ≤ n) (hn1 : n ≤ 9223372036854775807) (hb : b.size ≤ 1099511627776) (hkp : ReadsI w kv keep) (hka : Away kv r keep) (hlen : keep.length ≤ 1099511627776) :
    Calls Tryd.prog 11 #[.pointer (some ⟨r, 0, none⟩), .agg #[.int .i64 k, .int .i64 f, .int .i64 n, .string b, kv, .int .u8 (y.toNat : Int)]] w (RDoPost r (0, s.crash keep) w) := by
  have HR := hid (h.new (below_alloc1 w (.cells #[.int .i64 k, .int .i64 f, .int .i64 n, .string b, kv, .int .u8 (y.toNat : Int)] 37)))
  have HK := hid (hkp.below (below_alloc1 w (.cells #[.int .i64 k, .int .i64 f, .int .i64 n, .string b, kv, .int .u8 (y.toNat : Int)] 37)))
  have t0 : (k == 0) = false := by rw [hk]; rfl
  have t1 : (k == 1) = false := by rw [hk]; rfl
  have t2 : (k == 2) = false := by rw [hk]; rfl
  have t3 : (k == 3) = false := by rw [hk]; rfl
  have t4 : (k == 4) = true := by rw [hk]; rfl
  have t5 : (k == 5) = false := by rw [hk]; rfl
  have t6 : (k == 6) = false := by rw [hk]; rfl
  obtain ⟨x, hx⟩ : ∃ x : Int × DS, ((0, s.crash keep) : Int × DS) = x := ⟨_, rfl⟩
  rw [hx]
  have HX := hid hx
  clear h hkp hk hx
  go_enter Tryd.func11, Tryd.ntmps11
  go_wp2_with (go_at_call 29; refine (rcrash_any HR.out kv keep HK.out hka hlen).mono ?_; intro e w1 hp; obtain ⟨rfl, B0', B1', h1, h2⟩ := hp; have H1 := hid h1; have H2 := hid h2; clear h1 h2)
  go_ret
  rw [← HX.out]
  exact ⟨rfl, B0', B1', H1.out, mod_alloc_then H2.out⟩
set_option maxHeartbeats 1000000 in
theorem rdo_5 {w : World} {r : Nat} {B0 B1 : ByteArray} {s : DS} (h : RefIs w r B0 B1 s) (k f n : Int) (b : ByteArray) (kv : Value) (keep : List Int) (y : UInt8) (hk : k = 5) (hn0 : -9223372036854775808 ≤ n) (hn1 : n ≤ 9223372036854775807) (hb : b.size ≤ 1099511627776) (hkp : ReadsI w kv keep) (hka : Away kv r keep) (hlen : keep.length ≤ 1099511627776) :
    Calls Tryd.prog 11 #[.pointer (some ⟨r, 0, none⟩), .agg #[.int .i64 k, .int .i64 f, .int .i64 n, .string b, kv, .int .u8 (y.toNat : Int)]] w (RDoPost r (if f = 0 ∨ f = 1 then s.turn f n y else (1, s)) w) := by
  have HR := hid (h.new (below_alloc1 w (.cells #[.int .i64 k, .int .i64 f, .int .i64 n, .string b, kv, .int .u8 (y.toNat : Int)] 37)))
  have HK := hid (hkp.below (below_alloc1 w (.cells #[.int .i64 k, .int .i64 f, .int .i64 n, .string b, kv, .int .u8 (y.toNat : Int)] 37)))
  have t0 : (k == 0) = false := by rw [hk]; rfl
  have t1 : (k == 1) = false := by rw [hk]; rfl
  have t2 : (k == 2) = false := by rw [hk]; rfl
  have t3 : (k == 3) = false := by rw [hk]; rfl
  have t4 : (k == 4) = false := by rw [hk]; rfl
  have t5 : (k == 5) = true := by rw [hk]; rfl
  have t6 : (k == 6) = false := by rw [hk]; rfl
  obtain ⟨x, hx⟩ : ∃ x : Int × DS, ((if f = 0 ∨ f = 1 then s.turn f n y else (1, s)) : Int × DS) = x := ⟨_, rfl⟩
  rw [hx]
  have HX := hid hx
  clear h hkp hk hx
  go_enter Tryd.func11, Tryd.ntmps11
  go_wp2_with (go_at_call 30; refine (rTurn_all HR.out f n y).mono ?_; intro e w1 hp; rw [HX.out] at hp; obtain ⟨rfl, hp⟩ := hp.ret; have HP := hid hp; clear hp)
  go_ret
  obtain ⟨_, B0', B1', h1, h2⟩ := HP.out
  exact ⟨rfl, B0', B1', h1, mod_alloc_then h2⟩
set_option maxHeartbeats 1000000 in
theorem rdo_6 {w : World} {r : Nat} {B0 B1 : ByteArray} {s : DS} (h : RefIs w r B0 B1 s) (k f n : Int) (b : ByteArray) (kv : Value) (keep : List Int) (y : UInt8) (hk : k = 6) (hn0 : -9223372036854775808 ≤ n) (hn1 : n ≤ 9223372036854775807) (hb : b.size ≤ 1099511627776) (hkp : ReadsI w kv keep) (hka : Away kv r keep) (hlen : keep.length ≤ 1099511627776) :
    Calls Tryd.prog 11 #[.pointer (some ⟨r, 0, none⟩), .agg #[.int .i64 k, .int .i64 f, .int .i64 n, .string b, kv, .int .u8 (y.toNat : Int)]] w (RDoPost r (if f = 0 ∨ f = 1 then s.cut f n else (1, s)) w) := by
  have HR := hid (h.new (below_alloc1 w (.cells #[.int .i64 k, .int .i64 f, .int .i64 n, .string b, kv, .int .u8 (y.toNat : Int)] 37)))
  have HK := hid (hkp.below (below_alloc1 w (.cells #[.int .i64 k, .int .i64 f, .int .i64 n, .string b, kv, .int .u8 (y.toNat : Int)] 37)))
  have t0 : (k == 0) = false := by rw [hk]; rfl
  have t1 : (k == 1) = false := by rw [hk]; rfl
  have t2 : (k == 2) = false := by rw [hk]; rfl
  have t3 : (k == 3) = false := by rw [hk]; rfl
  have t4 : (k == 4) = false := by rw [hk]; rfl
  have t5 : (k == 5) = false := by rw [hk]; rfl
  have t6 : (k == 6) = true := by rw [hk]; rfl
  obtain ⟨x, hx⟩ : ∃ x : Int × DS, ((if f = 0 ∨ f = 1 then s.cut f n else (1, s)) : Int × DS) = x := ⟨_, rfl⟩
  rw [hx]
  have HX := hid hx
  clear h hkp hk hx
  go_enter Tryd.func11, Tryd.ntmps11
  go_wp2_with (go_at_call 31; refine (rCut_all HR.out f n).mono ?_; intro e w1 hp; rw [HX.out] at hp; obtain ⟨rfl, hp⟩ := hp.ret; have HP := hid hp; clear hp)
  go_ret
  obtain ⟨_, B0', B1', h1, h2⟩ := HP.out
  exact ⟨rfl, B0', B1', h1, mod_alloc_then h2⟩
set_option maxHeartbeats 1000000 in
theorem rdo_7 {w : World} {r : Nat} {B0 B1 : ByteArray} {s : DS} (h : RefIs w r B0 B1 s) (k f n : Int) (b : ByteArray) (kv : Value) (keep : List Int) (y : UInt8) (hk : ¬ (k = 0 ∨ k = 1 ∨ k = 2 ∨ k = 3 ∨ k = 4 ∨ k = 5 ∨ k = 6)) (hn0 : -9223372036854775808 ≤ n) (hn1 : n ≤ 9223372036854775807) (hb : b.size ≤ 1099511627776) (hkp : ReadsI w kv keep) (hka : Away kv r keep) (hlen : keep.length ≤ 1099511627776) :
    Calls Tryd.prog 11 #[.pointer (some ⟨r, 0, none⟩), .agg #[.int .i64 k, .int .i64 f, .int .i64 n, .string b, kv, .int .u8 (y.toNat : Int)]] w (RDoPost r (0, s) w) := by
  have HR := hid (h.new (below_alloc1 w (.cells #[.int .i64 k, .int .i64 f, .int .i64 n, .string b, kv, .int .u8 (y.toNat : Int)] 37)))
  have HK := hid (hkp.below (below_alloc1 w (.cells #[.int .i64 k, .int .i64 f, .int .i64 n, .string b, kv, .int .u8 (y.toNat : Int)] 37)))
  have t0 : (k == 0) = false := by exact beq_eq_false_iff_ne.2 (fun e => hk (by omega))
  have t1 : (k == 1) = false := by exact beq_eq_false_iff_ne.2 (fun e => hk (by omega))
  have t2 : (k == 2) = false := by exact beq_eq_false_iff_ne.2 (fun e => hk (by omega))
  have t3 : (k == 3) = false := by exact beq_eq_false_iff_ne.2 (fun e => hk (by omega))
  have t4 : (k == 4) = false := by exact beq_eq_false_iff_ne.2 (fun e => hk (by omega))
  have t5 : (k == 5) = false := by exact beq_eq_false_iff_ne.2 (fun e => hk (by omega))
  have t6 : (k == 6) = false := by exact beq_eq_false_iff_ne.2 (fun e => hk (by omega))
  obtain ⟨x, hx⟩ : ∃ x : Int × DS, ((0, s) : Int × DS) = x := ⟨_, rfl⟩
  rw [hx]
  have HX := hid hx
  clear h hkp hk hx
  go_enter Tryd.func11, Tryd.ntmps11
  go_wp2
  go_ret
  rw [← HX.out]
  exact ⟨rfl, B0, B1, HR.out, mod_alloc_then (Mod.refl _ _)⟩
end Go.Proofs.YtdchpabcaoghpaaDoor
