/-
  The statement DiskPlays: its call answers true.
-/
import Derived.Test.YtdchpabcaoghpaaDoorDiskActs
namespace Go.Proofs.YtdchpabcaoghpaaDoor
open Go.RowKit
set_option linter.unusedVariables false

def s0 (room : Int) : DS := ⟨[], 0, [], 0, room, -1, false⟩
theorem new_bad (room : Int) (h : room < 0 ∨ 16777216 < room) (w : World) : Calls Tryd.prog 7 #[.int .i64 room] w
    fun e w' => e = .returned (.tuple #[.pointer none, errno 1]) ∧ Below w.heap.size w w' := by
  go_enter Tryd.func7, Tryd.ntmps7
  by_cases h1 : room < 0
  · have t1 : decide (room < 0) = true := decide_eq_true h1
    go_wp2
    go_ret2
    exact ⟨rfl, Below.refl _ _⟩
  · have t1 : decide (room < 0) = false := decide_eq_false h1
    have t2 : decide ((16777216 : Int) < room) = true := decide_eq_true (by omega)
    go_wp2
    go_ret2
    exact ⟨rfl, Below.refl _ _⟩
theorem rnew_bad (room : Int) (h : room < 0 ∨ 16777216 < room) (w : World) : Calls Tryd.prog 8 #[.int .i64 room] w
    fun e w' => e = .returned (.tuple #[.pointer none, .int .i64 1]) ∧ Below w.heap.size w w' := by
  go_enter Tryd.func8, Tryd.ntmps8
  by_cases h1 : room < 0
  · have t1 : decide (room < 0) = true := decide_eq_true h1
    go_wp2
    go_ret2
    exact ⟨rfl, Below.refl _ _⟩
  · have t1 : decide (room < 0) = false := decide_eq_false h1
    have t2 : decide ((16777216 : Int) < room) = true := decide_eq_true (by omega)
    go_wp2
    go_ret2
    exact ⟨rfl, Below.refl _ _⟩
theorem rnew_any (room : Int) (h0 : 0 ≤ room) (h1 : room ≤ 16777216) (w : World) : Calls Tryd.prog 8 #[.int .i64 room] w
    fun e w' => ∃ r, e = .returned (.tuple #[.pointer (some ⟨r, 0, none⟩), .int .i64 0]) ∧ RefIs w' r ⟨#[]⟩ ⟨#[]⟩ (s0 room) ∧ Below w.heap.size w w' ∧ w.heap.size ≤ r := by
  have t1 : decide (room < 0) = false := decide_eq_false (by omega)
  have t2 : decide ((16777216 : Int) < room) = false := decide_eq_false (by omega)
  go_enter Tryd.func8, Tryd.ntmps8
  go_wp2
  go_ret2
  exact ⟨w.heap.size, rfl, ⟨⟨_, heap_alloc_new w _⟩, rfl, rfl, ⟨by simp [s0], by simp [s0], by simp [s0]; omega, h1, by simp [s0], by simp [s0]⟩⟩, (Below.refl _ _).alloc (Nat.le_refl _) _, Nat.le_refl _⟩
/-- Both disks in one world. -/
structure Two (w : World) (d r : Nat) (va vb : Value) (B0 B1 : ByteArray) (sd sr : DS) (x : World) : Prop where
  D : DiskIs x d va vb sd
  R : RefIs x r B0 B1 sr
  E : ErrorType x
  L : Live w x (dfoot d va vb)
  lr : w.heap.size ≤ r
  ne : ¬ dfoot d va vb r
  lw : ErrorType w
theorem Two.new {w : World} {d r : Nat} {va vb : Value} {B0 B1 : ByteArray} {sd sr : DS} {x y : World} (h : Two w d r va vb B0 B1 sd sr x) (hb : Below x.heap.size x y) : Two w d r va vb B0 B1 sd sr y :=
  ⟨h.D.new hb, h.R.new hb, h.E.below hb h.E.lt, h.L.new hb, h.lr, h.ne, h.lw⟩
theorem Two.hF {w : World} {d r : Nat} {va vb : Value} {B0 B1 : ByteArray} {sd sr : DS} {x : World} (h : Two w d r va vb B0 B1 sd sr x) : ¬ dfoot d va vb 0 := by
  intro hh
  have h1 := h.L.2 _ hh
  have h2 := h.lw.lt
  omega
theorem Two.do_ {w : World} {d r : Nat} {va vb : Value} {B0 B1 : ByteArray} {sd sr : DS} {x y : World} (h : Two w d r va vb B0 B1 sd sr x) {q : Int × DS} {e : Ending} (hp : LDoPost d va vb q x e y) :
    e = .returned (.int .i64 q.1) ∧ ∃ va' vb', Two w d r va' vb' B0 B1 q.2 sr y := by
  obtain ⟨he, hE, va', vb', hD, hS⟩ := hp
  refine ⟨he, va', vb', hD, h.R.mod hS.mod h.ne, hE, h.L.act (Below.refl _ _) hS, h.lr, ?_, h.lw⟩
  intro hr
  rcases hS.foot _ hr with h1 | h1
  · exact h.ne h1
  · have := h.R.lt
    omega
theorem Two.rdo {w : World} {d r : Nat} {va vb : Value} {B0 B1 : ByteArray} {sd sr : DS} {x y : World} (h : Two w d r va vb B0 B1 sd sr x) {q : Int × DS} {e : Ending} (hp : RDoPost r q x e y) :
    e = .returned (.int .i64 q.1) ∧ ∃ B0' B1', Two w d r va vb B0' B1' sd q.2 y := by
  obtain ⟨he, B0', B1', hR, hM⟩ := hp
  have hw := h.L.1.size
  refine ⟨he, B0', B1', h.D.mod hM (fun k hk e => h.ne (e ▸ hk)), hR, hM.cell h.E ?_, ⟨h.L.1.trans (hM.below hw (fun k e => by rw [e]; exact h.lr)), h.L.2⟩, h.lr, h.ne, h.lw⟩
  intro e
  have h1 := h.lw.lt
  have h2 := h.lr
  have e' : 0 = r := e
  omega
theorem away_of {w : World} {v : Value} {l : List Int} {d : Nat} (h : ReadsI w v l) (hd : w.heap.size ≤ d) : Away v d l := by
  rcases h with ⟨a, c, rfl, rfl⟩ | ⟨b, o, cap, rfl, hc⟩
  · exact .inr rfl
  · by_cases hl : l = []
    · exact .inr hl
    · refine .inl ?_
      have h0 : 0 < l.length := List.length_pos_iff.2 hl
      have h1 := lt_of_cell (hc 0 h0)
      simp [Value.ownBlock]
      intro e
      simp at h1
      omega
theorem ActAt.below {w x : World} {b o : Nat} {a : ActD} (h : ActAt w b o a) (hb : Below w.heap.size w x) : ActAt x b o a := by
  obtain ⟨x0, x1, x2, x3, x4, x5⟩ := h
  exact ⟨(hb.cell (lt_of_cell x0)).trans x0, (hb.cell (lt_of_cell x1)).trans x1, (hb.cell (lt_of_cell x2)).trans x2, (hb.cell (lt_of_cell x3)).trans x3, (hb.cell (lt_of_cell x4)).trans x4, (hb.cell (lt_of_cell x5)).trans x5⟩
theorem ok_of {w x : World} {v : Value} {l : List ActD} (h : ActsAt w v l) (hs : Small l l.length) {k : Nat} {a : ActD} (ha : l[k]? = some a) (hb : Below w.heap.size w x) : a.Ok x := by
  have hm : a ∈ l := List.mem_of_getElem? ha
  have hk : k < l.length := (List.getElem?_eq_some_iff.1 ha).1
  have h1 := hs k a hk ha
  exact ⟨h.n0 a hm, h.n1 a hm, by omega, (h.keep a hm).below hb, by omega⟩
theorem ActsAt.below {w x : World} {v : Value} {l : List ActD} (h : ActsAt w v l) (hb : Below w.heap.size w x) : ActsAt x v l :=
  ⟨by
    rcases h.val with hv | ⟨b, o, cap, hv, hc⟩
    · exact .inl hv
    · exact .inr ⟨b, o, cap, hv, fun i a ha => (hc i a ha).below hb⟩, h.n0, h.n1, fun a ha => (h.keep a ha).below hb, h.str, h.klen, h.len⟩
def PRel (l : List ActD) (w : World) (d r : Nat) (i : Value) (wr : World) : Prop := ∃ (k : Nat) (s : DS) (va vb : Value) (B0 B1 : ByteArray), k ≤ l.length ∧ i = .int .i64 k ∧ Two w d r va vb B0 B1 s s wr
theorem Two.dn {w : World} {d r : Nat} {va vb : Value} {B0 B1 : ByteArray} {sd sr : DS} {x : World} (h : Two w d r va vb B0 B1 sd sr x) : Two w d r va vb B0 B1 sd sr x.drew := h.new (Below.drew (Below.refl _ _))
theorem ldo_agg {w : World} {d r : Nat} {va vb : Value} {B0 B1 : ByteArray} {sd sr : DS} {x : World} (h : Two w d r va vb B0 B1 sd sr x) (a : ActD) (hok : ∀ x : World, Below w.heap.size w x → a.Ok x) (hka : Away a.kv d a.keep) :
    Calls Tryd.prog 10 #[.pointer (some ⟨d, 0, none⟩), .agg #[.int .i64 a.kind, .int .i64 a.file, .int .i64 a.n, .string a.b, a.kv, .int .u8 (a.by_.toNat : Int)]] x fun e y =>
      e = .returned (.int .i64 (sd.act a).1) ∧ ∃ va' vb', Two w d r va' vb' B0 B1 (sd.act a).2 sr y :=
  (ldo_any h.D h.E h.hF a (hok x h.L.1) hka).mono fun e y hp => h.do_ hp
theorem rdo_agg {w : World} {d r : Nat} {va vb : Value} {B0 B1 : ByteArray} {sd sr : DS} {x : World} (h : Two w d r va vb B0 B1 sd sr x) (a : ActD) (hok : ∀ x : World, Below w.heap.size w x → a.Ok x) (hka : Away a.kv r a.keep) :
    Calls Tryd.prog 11 #[.pointer (some ⟨r, 0, none⟩), .agg #[.int .i64 a.kind, .int .i64 a.file, .int .i64 a.n, .string a.b, a.kv, .int .u8 (a.by_.toNat : Int)]] x fun e y =>
      e = .returned (.int .i64 (sr.act a).1) ∧ ∃ B0' B1', Two w d r va vb B0' B1' sd (sr.act a).2 y :=
  (rdo_any h.R a (hok x h.L.1) hka).mono fun e y hp => h.rdo hp
theorem shows_two {w : World} {d r : Nat} {va vb : Value} {B0 B1 : ByteArray} {s : DS} {x : World} (h : Two w d r va vb B0 B1 s s x) :
    Calls Tryd.prog 12 #[.pointer (some ⟨d, 0, none⟩), .pointer (some ⟨r, 0, none⟩)] x fun e y => e = .returned (.bool true) ∧ Two w d r va vb B0 B1 s s y :=
  (shows_any h.D h.R h.E).mono fun e y hp => ⟨hp.1, h.new hp.2⟩
set_option maxRecDepth 100000 in
set_option maxHeartbeats 4000000 in
theorem diskPlays_walk (room : Int) (v : Value) (l : List ActD) (w : World) (h0 : -9223372036854775808 ≤ room) (h1 : room ≤ 9223372036854775807) (h : ActsAt w v l) (hg : ErrorType w) :
    Calls Tryd.prog 3 #[.int .i64 room, v] w (TruePost w) := by
  have H := hid h
  have HG := hid hg
  obtain ⟨a0, c0, rfl⟩ : ∃ a c, v = .slice a l.length c := by
    rcases h.val with ⟨a, c, rfl, rfl⟩ | ⟨b, o, cap, rfl, _⟩
    · exact ⟨a, c, rfl⟩
    · exact ⟨_, _, rfl⟩
  have hll := h.len
  clear h hg
  go_enter Tryd.func3, Tryd.ntmps3
  go_wp2_with (go_at_call 5; refine (alive_any _).mono ?_; rintro e w1 ⟨rfl, hb⟩; have HB1 := hid hb; clear hb)
  refine (great_any (H.out.below HB1.out)).mono ?_
  rintro e w2 ⟨hb2, rfl | ⟨rfl, hsm, hl9⟩⟩
  · have HB2 := hid (below_then HB1.out hb2)
    clear hb2
    go_wp2
    go_ret
    exact TruePost.mk rfl HB2.out
  have HB2 := hid (below_then HB1.out hb2)
  have HSM := hid hsm
  have E2 := hid (HG.out.below HB2.out HG.out.lt)
  have hs2 := HB2.out.size
  clear hb2 hsm HB1
  by_cases hroom : room < 0 ∨ 16777216 < room
  · generalize hev : errno 1 = ev
    have hev' : (if (1 : Int) = 0 then Value.nilIface else errno 1) = ev := hev
    have HEV := hid hev'
    have HEV0 := hid hev
    clear hev hev'
    go_wp2_with (go_at_call 7; refine (new_bad room hroom _).mono ?_; rw [HEV0.out]; rintro e w3 ⟨rfl, hb⟩; have HB3 := hid hb; have E3 := hid (E2.out.below hb E2.out.lt); clear hb)
    refine (rnew_bad room hroom _).mono ?_
    rintro e w4 ⟨rfl, hb⟩
    have HB4 := hid (below_then HB3.out hb)
    have E4 := hid (E3.out.below hb E3.out.lt)
    clear hb
    go_wp2_with (go_at_call 9; refine (num_ev HEV.out E4.out).mono ?_; rintro e w5 ⟨rfl, hb⟩; have HB5 := hid hb; clear hb)
    go_loopw [9] (fun i wr => i = .int .i64 0 ∧ wr = w5) (fun _ _ => 0)
    case atStart => exact ⟨rfl, rfl⟩
    case round =>
      obtain ⟨rfl, rfl⟩ := hrel
      go_wp2
      all_goals go_ret
      all_goals exact TruePost.mk rfl (below_then (below_then HB2.out HB4.out) HB5.out)
  · obtain ⟨hr0, hr1⟩ : 0 ≤ room ∧ room ≤ 16777216 := by omega
    go_wp2_with (go_at_call 7; refine (new_any room hr0 hr1 _).mono ?_; rintro e w3 ⟨vd, F, rfl, hd, hb, hF⟩; have HB3 := hid hb; have HF := hid hF; have HD := hid hd; have E3 := hid (E2.out.below hb E2.out.lt); clear hb hF hd)
    refine (rnew_any room hr0 hr1 _).mono ?_
    rintro e w4 ⟨r, rfl, hr, hb, hrl⟩
    obtain ⟨d, va, vb, rfl, rfl, hd⟩ := HD.out
    have hs3 := HB3.out.size
    have T0 : RowKit.Hid (Two w d r va vb ⟨#[]⟩ ⟨#[]⟩ (s0 room) (s0 room) w4) := hid ⟨hd.new hb, hr, E3.out.below hb E3.out.lt, ⟨below_then HB2.out (below_then HB3.out hb), fun k hk => by have := HF.out k hk; omega⟩, by omega, fun hk => by have := hd.lt _ hk; omega, HG.out⟩
    clear hb hr hd
    go_wp2_with (go_at_call 9; refine (num_any .nil .nilIface _ T0.out.E rfl).mono ?_; rintro e w5 ⟨rfl, hb⟩; have T1 := hid (T0.out.new hb); clear hb)
    go_loopw [9] (fun i wr => PRel l w d r i wr) (fun i _ => l.length - (intOf i).toNat)
    case atStart => exact ⟨0, _, _, _, _, _, by omega, rfl, T1.out⟩
    case round =>
      obtain ⟨k, s, va, vb, B0, B1, hk, rfl, ht⟩ := hrel
      have T := hid ht
      clear ht T0 T1
      by_cases c : k < l.length
      · have t0 : decide ((k : Int) < (l.length : Int)) = true := decide_eq_true (by omega)
        obtain ⟨a, ha⟩ : ∃ a, l[k]? = some a := ⟨l[k], List.getElem?_eq_getElem c⟩
        have OK := fun (x : World) (hb : Below w.heap.size w x) => ok_of H.out HSM.out ha hb
        have hmem : a ∈ l := List.mem_of_getElem? ha
        have hAd : Away a.kv d a.keep := away_of (H.out.keep a hmem) (T.out.L.2 d (.inl rfl))
        have hAr : Away a.kv r a.keep := away_of (H.out.keep a hmem) T.out.lr
        have w4 : IntKind.i64.wrap ((k : Int) + 1) = (k : Int) + 1 := IntWalk.i64_in _ (by omega)
        rcases H.out.val with ⟨_, _, _, hl0⟩ | ⟨b, o, cap, hv, hc⟩
        · rw [hl0] at c; simp at c
        injection hv with hv1 _ hv3
        subst hv1 hv3
        have hat := hid (hc k a ha)
        have OK' := hid OK
        have AD := hid hAd
        have AR := hid hAr
        clear hc OK hAd hAr
        go_wp2
        obtain ⟨q, hq⟩ : ∃ q : Int, (s.act a).1 = q := ⟨_, rfl⟩
        have HQ := hid hq
        clear hq
        go_region_held3 (fun x => Below w.heap.size w x ∧ x.cell? ⟨b, o + k * 6, none⟩ = some (.int .i64 a.kind) ∧ x.cell? ⟨b, o + k * 6 + 1, none⟩ = some (.int .i64 a.file) ∧ x.cell? ⟨b, o + k * 6 + 2, none⟩ = some (.int .i64 a.n) ∧ x.cell? ⟨b, o + k * 6 + 3, none⟩ = some (.string a.b) ∧ x.cell? ⟨b, o + k * 6 + 4, none⟩ = some a.kv ∧ x.cell? ⟨b, o + k * 6 + 5, none⟩ = some (.int .u8 (a.by_.toNat : Int)))
          (first | exact ⟨T4.out.L.1, hat.out.below T4.out.L.1⟩ | exact ⟨T3.out.L.1, hat.out.below T3.out.L.1⟩ | exact ⟨T1.out.L.1, hat.out.below T1.out.L.1⟩ | exact ⟨T2.out.L.1, hat.out.below T2.out.L.1⟩ | exact ⟨T.out.dn.L.1, hat.out.below T.out.dn.L.1⟩)
          (first | (go_at_call 12; refine (shows_two T3.out).mono ?_; rintro e y ⟨rfl, ht⟩; have T4 := hid ht; clear ht)
                 | (go_at_call 11; refine (rdo_agg T1.out a OK'.out AR.out).mono ?_; rw [HQ.out]; rintro e y ⟨rfl, B0', B1', ht⟩; have T3 := hid ht; clear ht)
                 | (go_at_call 10; refine (ldo_agg T2.out a OK'.out AD.out).mono ?_; rw [HQ.out]; rintro e y ⟨rfl, va', vb', ht⟩; have T3 := hid ht; clear ht)
                 | (go_at_call 11; refine (rdo_agg T.out.dn a OK'.out AR.out).mono ?_; rw [HQ.out]; rintro e y ⟨rfl, B0', B1', ht⟩; have T2 := hid ht; clear ht)
                 | (go_at_call 10; refine (ldo_agg T.out.dn a OK'.out AD.out).mono ?_; rw [HQ.out]; rintro e y ⟨rfl, va', vb', ht⟩; have T1 := hid ht; clear ht))
        all_goals go_wp2
        go_roundw
        case rel => exact ⟨k + 1, _, _, _, _, _, by omega, by congr 1, T4.out⟩
        case measure =>
          simp [intOf]
          omega
      · have t0 : decide ((k : Int) < (l.length : Int)) = false := decide_eq_false (by omega)
        go_wp2
        go_ret
        exact TruePost.mk rfl T.out.L.1
end Go.Proofs.YtdchpabcaoghpaaDoor
