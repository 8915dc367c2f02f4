/-
  Lists of names in memory; Name, Has, Great by their printed texts.
-/
import Derived.Test.YtomkdnapnjkclaaDoorScoPure
import Derived.Test.YtomkdnapnjkclaaDoorPScopeSetsx8
import Derived.Maps.AppendAt
import Derived.Laws.OwnMore
import Derived.Shelf.GgClosure.Gives
namespace Go.Proofs.YtomkdnapnjkclaaDoor.Sco
open Go.RowKit Go.Proofs.YtomkdnapnjkclaaDoor Go.Proofs.YtomkdnapnjkclaaDoor.PScopeSets Go.Proofs.YtomkdnapnjkclaaDoorW.PrintWords Go.Proofs.YtomkdnapnjkclaaDoorW.PrintLast Go.Proofs.YtomkdnapnjkclaaDoorW.PrintMore
set_option linter.unusedVariables false
set_option linter.unusedSimpArgs false
theorem wrap_in (n : Int) (h0 : -9223372036854775808 ≤ n) (h1 : n ≤ 9223372036854775807) : wrap64 n = n := by unfold wrap64; omega
theorem bt_get (s : ByteArray) (i : Nat) (c : UInt8) (h : s.data.toList[i]? = some c) : bt s (i : Int) = (c.toNat : Nat) := by
  have hi : i < s.size := by rw [← str_len]; exact (List.getElem?_eq_some_iff.1 h).1
  unfold bt
  rw [Int.toNat_natCast, dif_pos hi, str_get s i hi, List.getD_eq_getElem?_getD, h]
  rfl
/-- A list of names of the call's own. -/
def OwnS (w : World) (base : Nat) (v : Value) (xs : List ByteArray) : Prop := Kd.R Kd.string 9 w base (fun _ => True) v xs
/-- A list of names that is read. -/
def InS (w : World) (v : Value) (xs : List ByteArray) : Prop := ∃ A c, v = .slice A xs.length c ∧ xs.length ≤ c ∧ Kd.string.C w A xs.length xs
theorem OwnS.nil (w : World) (base : Nat) : OwnS w base (.slice none 0 0) [] := Kd.R_nil _ _ _ _ _
theorem OwnS.below {w w' : World} {base : Nat} {v : Value} {xs : List ByteArray} (h : OwnS w base v xs) (hb : Below w.heap.size w w') : OwnS w' base v xs := Kd.R_below h hb
theorem OwnS.lower {w : World} {base base' : Nat} {v : Value} {xs : List ByteArray} (h : OwnS w base v xs) (hb : base' ≤ base) : OwnS w base' v xs := Kd.R_lower h hb
theorem OwnS.reads {w : World} {base : Nat} {v : Value} {xs : List ByteArray} (h : OwnS w base v xs) : InS w v xs := Kd.R_reads h
theorem InS.below {w w' : World} {v : Value} {xs : List ByteArray} (h : InS w v xs) (hb : Below w.heap.size w w') : InS w' v xs := by
  obtain ⟨A, c, rfl, h1, h2⟩ := h
  exact ⟨A, c, rfl, h1, Kd.C_below h2 hb⟩
theorem InS.nil (w : World) : InS w (.slice none 0 0) [] := ⟨none, 0, rfl, Nat.le_refl _, Kd.C_nil _ _⟩
theorem at_S {w : World} {A : Option Addr} {xs : List ByteArray} {n : Nat} (h : Kd.string.C w A n xs) (i : Nat) (hi : i < n) (x : ByteArray) (hx : xs[i]? = some x) : ∃ ad, A = some ad ∧ w.cell? (ad.add i) = some (.string x) := by
  obtain ⟨ad, e, hc⟩ := Kd.at_string h (i : Int) (by omega) (by omega)
  refine ⟨ad, e, ?_⟩
  rw [Int.toNat_natCast] at hc
  rw [hc]
  unfold rdOf
  rw [Int.toNat_natCast, List.getD_eq_getElem?_getD, hx]
  rfl
theorem sinfo : (Tryd.prog.info? 9).map (fun i => (i.zero, i.size, i.bytes)) = some (some (.string ⟨#[]⟩), 1, 16) := by kernel_rfl
theorem wpList_append_s {w : World} {ops : Array Oper} {rest : List Oper} {o : Oper} {a : Act} {Q : Exit → Act → World → Prop} (hgd : o.guard = none) (s x : Operand)
    (ho : o.op = .call { callee := .builtin .append, args := #[s, x], argTypes := #[22, 22] }) (base : Nat) (xs : List ByteArray) (y : ByteArray) (v : Value) (g : Nat) (hs : a.eval s = v) (hx : a.eval x = .slice (some ⟨g, 0, none⟩) 1 1)
    (hown : OwnS w base v xs) (h0 : w.cell? ⟨g, 0, none⟩ = some (.string y)) (hlen : xs.length ≤ 1048576) (hbase : base ≤ w.heap.size)
    (h : ∀ v' w', OwnS w' base v' (xs ++ [y]) → w.grownBy w' v.ownBlock → (v'.ownBlock = v.ownBlock ∨ v'.ownBlock = some w.heap.size) → wpList Tryd.prog ops Q rest (a.put o.dst v') w') : wpList Tryd.prog ops Q (o :: rest) a w := by
  obtain ⟨i, hi, hz, hsize, hby⟩ := info_parts sinfo
  obtain ⟨v', w', hr, h2, h3, _, h5⟩ := run_append_own_at (P := Tryd.prog) (w := w) base 22 o.type 9 i (.string ⟨#[]⟩) 1 16 Tryd.underlying22 hi hz hsize hby rfl (by omega) v xs.length (encs Value.string xs) (Kd.own_of_R hown) ⟨g, 0, none⟩ 1 1 [.string y] rfl
    (by
      intro j u hu
      match j, hu with
      | 0, hu => cases hu; exact h0)
    (by intro u hu; simp at hu; subst hu; rfl) (by have : maxLen = 9223372036854775807 := rfl; omega) (by omega) hbase
  refine wpList_plain hgd fun _ hK => ?_
  unfold Oper.wp execOp
  simp only [ho, resolve, invoke, builtin, Sem.run_bind, Sem.run_pure, Result.andThen_ok, List.map_toArray, List.map_cons, List.map_nil, hs, hx, hr]
  refine hK _ _ (h v' w' ?_ h3 h5)
  refine Kd.R_of_own ?_ (fun _ _ => trivial)
  have e : encs Value.string (xs ++ [y]) = encs Value.string xs ++ [.string y] := by simp [encs]
  rw [List.length_append, e]
  exact h2
theorem grown_low {B : Nat} {w w' : World} {base : Nat} {v : Value} {xs : List ByteArray} (h : OwnS w base v xs) (hg : w.grownBy w' v.ownBlock) (hB : B ≤ base) (hb : B ≤ w.heap.size) : Below B w w' :=
  (Below.refl B w).grown hg hb (fun k hk => by have := (World.ownsRow.lt (Kd.own_of_R h) k hk).1; omega)
/-- An answer of yes or no, and draws. -/
def BP (b : Bool) (w : World) (e : Ending) (w' : World) : Prop := e = .returned (.bool b) ∧ Drawn0 w w'
/-! ### Name -/
def nameC (c : UInt8) : Prop := (97 ≤ c.toNat ∧ c.toNat ≤ 122) ∨ (48 ≤ c.toNat ∧ c.toNat ≤ 57) ∨ c.toNat = 46 ∨ c.toNat = 58 ∨ c.toNat = 95 ∨ c.toNat = 45
instance (c : UInt8) : Decidable (nameC c) := by unfold nameC; infer_instance
def nameL (l : List UInt8) : Bool := l.all fun c => decide (nameC c)
def nameB (s : ByteArray) : Bool := nameL s.data.toList && (decide (s.size ≠ 0) && decide (s.size ≤ 32))
theorem name_ev (s : ByteArray) (hs : s.size ≤ 1048576) (d : Nat) : ∀ i : Nat, s.size - i = d → i ≤ s.size → Ev (fun k => scope_Name.l0 k s (s.size : Int) i) (nameL (s.data.toList.drop i) && (decide (s.size ≠ 0) && decide (s.size ≤ 32))) := by
  have hln := str_len s
  induction d with
  | zero =>
    intro i h1 h2
    obtain rfl : i = s.size := by omega
    rw [List.drop_of_length_le (by omega)]
    refine Ev.step (f := fun _ => some (decide (s.size ≠ 0) && decide (s.size ≤ 32))) (fun k => ?_) (Ev.now _)
    simp only [scope_Name.l0]
    rw [if_neg (by omega)]
    by_cases h0 : s.size = 0
    · rw [if_pos (str_empty s h0), decide_eq_false (p := s.size ≠ 0) (by omega)]; rfl
    · rw [if_neg (str_not_empty s (by omega)), decide_eq_true (p := s.size ≠ 0) h0, Bool.true_and]
      congr 1
      rw [decide_eq_decide]
      omega
  | succ d ih =>
    intro i h1 h2
    obtain ⟨c, hc⟩ : ∃ c, s.data.toList[i]? = some c := ⟨s.data.toList[i]'(by omega), by simp⟩
    have hb := bt_get s i c hc
    have hdr : s.data.toList.drop i = c :: s.data.toList.drop (i + 1) := by
      rw [List.drop_eq_getElem_cons (by omega)]
      rw [List.getElem?_eq_getElem (by omega)] at hc
      rw [Option.some.inj hc]
    rw [hdr]
    have next := ih (i + 1) (by omega) (by omega)
    have yes : nameC c → Ev (fun k => scope_Name.l0 k s (s.size : Int) (wrap64 ((i : Int) + 1))) (nameL (c :: s.data.toList.drop (i + 1)) && (decide (s.size ≠ 0) && decide (s.size ≤ 32))) := fun h => by
      have e : nameL (c :: s.data.toList.drop (i + 1)) = nameL (s.data.toList.drop (i + 1)) := by unfold nameL; rw [List.all_cons, decide_eq_true h, Bool.true_and]
      rw [e, wrap_in _ (by omega) (by omega)]
      exact next
    have no : ¬ nameC c → (nameL (c :: s.data.toList.drop (i + 1)) && (decide (s.size ≠ 0) && decide (s.size ≤ 32))) = false := fun h => by
      unfold nameL; rw [List.all_cons, decide_eq_false h, Bool.false_and, Bool.false_and]
    obtain ⟨t, ht⟩ : ∃ t, (nameL (c :: s.data.toList.drop (i + 1)) && (decide (s.size ≠ 0) && decide (s.size ≤ 32))) = t := ⟨_, rfl⟩
    rw [ht] at yes no ⊢
    have j2t : nameC c → Ev (fun k => scope_Name.j2 k s ((c.toNat : Nat) : Int) (s.size : Int) i true) t := fun h => by
      refine Ev.step (fun k => ?_) (yes h)
      simp only [scope_Name.j2]
      rw [if_pos trivial]
    have j2f : ¬ (48 ≤ c.toNat ∧ c.toNat ≤ 57) → ¬ (97 ≤ c.toNat ∧ c.toNat ≤ 122) → Ev (fun k => scope_Name.j2 k s ((c.toNat : Nat) : Int) (s.size : Int) i false) t := fun h0 h9 => by
      by_cases hn : nameC c
      · refine Ev.step (fun k => ?_) (yes hn)
        simp only [scope_Name.j2]
        rw [if_neg (by simp)]
        have hn2 : c.toNat = 46 ∨ c.toNat = 58 ∨ c.toNat = 95 ∨ c.toNat = 45 := by unfold nameC at hn; omega
        rcases hn2 with h | h | h | h
        · rw [if_pos (by omega)]
        · rw [if_neg (by omega), if_pos (by omega)]
        · rw [if_neg (by omega), if_neg (by omega), if_pos (by omega)]
        · rw [if_neg (by omega), if_neg (by omega), if_neg (by omega), if_pos (by omega)]
      · rw [no hn]
        refine Ev.step (f := fun _ => some false) (fun k => ?_) (Ev.now _)
        simp only [scope_Name.j2]
        unfold nameC at hn
        rw [if_neg (by simp), if_neg (by omega), if_neg (by omega), if_neg (by omega), if_neg (by omega)]
    have j1t : nameC c → Ev (fun k => scope_Name.j1 k s ((c.toNat : Nat) : Int) (s.size : Int) i true) t := fun h => by
      refine Ev.step (fun k => ?_) (yes h)
      simp only [scope_Name.j1]
      rw [if_pos trivial]
    have j1f : ¬ (97 ≤ c.toNat ∧ c.toNat ≤ 122) → Ev (fun k => scope_Name.j1 k s ((c.toNat : Nat) : Int) (s.size : Int) i false) t := fun h9 => by
      by_cases h0 : 48 ≤ c.toNat
      · by_cases h1 : c.toNat ≤ 57
        · refine Ev.step (fun k => ?_) (j2t (.inr (.inl ⟨h0, h1⟩)))
          simp only [scope_Name.j1]
          rw [if_neg (by simp), if_pos (by omega), show decide (((c.toNat : Nat) : Int) ≤ 57) = true from decide_eq_true (by omega)]
        · refine Ev.step (fun k => ?_) (j2f (by omega) h9)
          simp only [scope_Name.j1]
          rw [if_neg (by simp), if_pos (by omega), show decide (((c.toNat : Nat) : Int) ≤ 57) = false from decide_eq_false (by omega)]
      · refine Ev.step (fun k => ?_) (j2f (by omega) h9)
        simp only [scope_Name.j1]
        rw [if_neg (by simp), if_neg (by omega)]
    by_cases h0 : 97 ≤ c.toNat
    · by_cases h1 : c.toNat ≤ 122
      · refine Ev.step (fun k => ?_) (j1t (.inl ⟨h0, h1⟩))
        simp only [scope_Name.l0]
        rw [if_pos (by omega), if_pos (by omega), if_pos (by omega), hb, if_pos (by omega), show decide (((c.toNat : Nat) : Int) ≤ 122) = true from decide_eq_true (by omega)]
      · refine Ev.step (fun k => ?_) (j1f (by omega))
        simp only [scope_Name.l0]
        rw [if_pos (by omega), if_pos (by omega), if_pos (by omega), hb, if_pos (by omega), show decide (((c.toNat : Nat) : Int) ≤ 122) = false from decide_eq_false (by omega)]
    · refine Ev.step (fun k => ?_) (j1f (by omega))
      simp only [scope_Name.l0]
      rw [if_pos (by omega), if_pos (by omega), if_pos (by omega), hb, if_neg (by omega)]
theorem name_any (s : ByteArray) (w : World) (hs : s.size ≤ 1048576) : Calls Tryd.prog 25 #[.string s] w (BP (nameB s) w) := by
  have h := name_ev s hs s.size 0 (by omega) (by omega)
  rw [List.drop_zero] at h
  obtain ⟨k, hk⟩ := h.rounds
  exact scope_Name.calls k s _ w hk
/-! ### Has -/
theorem rd_get (xs : List ByteArray) (i : Nat) (h : i < xs.length) : rdOf ByteArray.empty xs (i : Int) = xs[i] := by
  unfold rdOf
  rw [Int.toNat_natCast, List.getD_eq_getElem?_getD, List.getElem?_eq_getElem h]
  rfl
theorem idx_ev (xs : List ByteArray) (x : ByteArray) (hn : xs.length ≤ 1048576) (d : Nat) : ∀ i : Nat, xs.length - i = d → i ≤ xs.length → ∃ r : Int, Ev (fun k => slices_Index_string_string.l0 k xs x (xs.length : Int) i) r ∧ (0 ≤ r ↔ x ∈ xs.drop i) := by
  induction d with
  | zero =>
    intro i h1 h2
    obtain rfl : i = xs.length := by omega
    refine ⟨-1, Ev.step (f := fun _ => some (-1)) (fun k => ?_) (Ev.now _), by rw [List.drop_length]; simp⟩
    simp only [slices_Index_string_string.l0]
    rw [if_neg (by omega)]
  | succ d ih =>
    intro i h1 h2
    have hi : i < xs.length := by omega
    rw [List.drop_eq_getElem_cons hi]
    by_cases e : x = xs[i]
    · refine ⟨i, Ev.step (f := fun _ => some (i : Int)) (fun k => ?_) (Ev.now _), by simp [← e]⟩
      simp only [slices_Index_string_string.l0]
      rw [if_pos (by omega), if_pos (by omega), if_pos (by omega), rd_get xs i hi, if_pos (by rw [← e])]
    · obtain ⟨r, h3, h4⟩ := ih (i + 1) (by omega) (by omega)
      refine ⟨r, Ev.step (fun k => ?_) h3, ?_⟩
      · simp only [slices_Index_string_string.l0]
        rw [if_pos (by omega), if_pos (by omega), if_pos (by omega), rd_get xs i hi, if_neg (fun h => e (ba_injL h)), wrap_in _ (by omega) (by omega)]
        rfl
      · rw [h4, List.mem_cons]
        constructor
        · exact .inr
        · rintro (h | h)
          · exact absurd h e
          · exact h
theorem has_f (xs : List ByteArray) (x : ByteArray) (hn : xs.length ≤ 1048576) : Ev (fun k => scope_Has.f k xs x) (decide (x ∈ xs)) := by
  obtain ⟨r, h1, h2⟩ := idx_ev xs x hn xs.length 0 (by omega) (by omega)
  rw [List.drop_zero] at h2
  have h3 : Ev (fun k => slices_Contains_string_string.f k xs x) (decide (x ∈ xs)) := by
    refine Ev.congr (fun k => rfl) (Ev.bind h1 (f := fun _ t239 => some (decide (t239 ≥ 0))) (Ev.congr (fun k => ?_) (Ev.now _)))
    rw [show decide (r ≥ 0) = decide (x ∈ xs) by rw [decide_eq_decide]; exact h2]
  exact Ev.congr (fun k => rfl) (Ev.bind h3 (f := fun _ t240 => some t240) (Ev.now _))
theorem has_any (xs : List ByteArray) (x : ByteArray) (A : Option Addr) (c : Nat) (w : World) (hC : Kd.string.C w A xs.length xs) (hc : xs.length ≤ c) (hn : xs.length ≤ 1048576) :
    Calls Tryd.prog 9 #[.slice A xs.length c, .string x] w (BP (decide (x ∈ xs)) w) := by
  obtain ⟨k, hk⟩ := (has_f xs x hn).rounds
  exact scope_Has.calls k A c xs x _ w hC hc hk
theorem rhas_ev (xs : List ByteArray) (x : ByteArray) (hn : xs.length ≤ 1048576) (d : Nat) : ∀ i : Nat, xs.length - i = d → i ≤ xs.length → Ev (fun k => warrantref07_Has.l0 k xs x i) (decide (x ∈ xs.drop i)) := by
  induction d with
  | zero =>
    intro i h1 h2
    obtain rfl : i = xs.length := by omega
    rw [List.drop_length]
    refine Ev.step (f := fun _ => some false) (fun k => ?_) (Ev.congr (fun k => ?_) (Ev.now _))
    · simp only [warrantref07_Has.l0]
      rw [if_neg (by omega)]
    · simp
  | succ d ih =>
    intro i h1 h2
    have hi : i < xs.length := by omega
    rw [List.drop_eq_getElem_cons hi]
    by_cases e : x = xs[i]
    · refine Ev.step (f := fun _ => some true) (fun k => ?_) (Ev.congr (fun k => ?_) (Ev.now _))
      · simp only [warrantref07_Has.l0]
        rw [if_pos (by omega), if_pos (by omega), rd_get xs i hi, if_pos (by rw [← e])]
      · rw [decide_eq_true (by simp [← e])]
    · have h9 : decide (x ∈ xs[i] :: xs.drop (i + 1)) = decide (x ∈ xs.drop (i + 1)) := by
        rw [decide_eq_decide, List.mem_cons]
        constructor
        · rintro (h | h)
          · exact absurd h e
          · exact h
        · exact .inr
      rw [h9]
      refine Ev.step (fun k => ?_) (ih (i + 1) (by omega) (by omega))
      simp only [warrantref07_Has.l0]
      rw [if_pos (by omega), if_pos (by omega), rd_get xs i hi, if_neg (fun h => e (ba_injL h.symm)), wrap_in _ (by omega) (by omega)]
      rfl
theorem rhas_any (xs : List ByteArray) (x : ByteArray) (A : Option Addr) (c : Nat) (w : World) (hC : Kd.string.C w A xs.length xs) (hc : xs.length ≤ c) (hn : xs.length ≤ 1048576) :
    Calls Tryd.prog 10 #[.slice A xs.length c, .string x] w (BP (decide (x ∈ xs)) w) := by
  have h := rhas_ev xs x hn xs.length 0 (by omega) (by omega)
  rw [List.drop_zero] at h
  obtain ⟨k, hk⟩ := h.rounds
  exact warrantref07_Has.calls k A c xs x _ w hC hc hk
/-! ### Great -/
theorem great_ev (xs : List ByteArray) (hn : xs.length ≤ 100) (d : Nat) : ∀ i : Nat, xs.length - i = d → i ≤ xs.length → ∃ b, Ev (fun k => warrantref07_Great.l0 k xs i) b ∧ (b = false → ∀ x ∈ xs.drop i, x.size ≤ 1000) := by
  induction d with
  | zero =>
    intro i h1 h2
    obtain rfl : i = xs.length := by omega
    refine ⟨false, Ev.step (f := fun _ => some false) (fun k => ?_) (Ev.now _), by rw [List.drop_length]; simp⟩
    simp only [warrantref07_Great.l0]
    rw [if_neg (by omega)]
  | succ d ih =>
    intro i h1 h2
    have hi : i < xs.length := by omega
    by_cases e : (xs[i].size : Int) > 1000
    · refine ⟨true, Ev.step (f := fun _ => some true) (fun k => ?_) (Ev.now _), by simp⟩
      simp only [warrantref07_Great.l0]
      rw [if_pos (by omega), if_pos (by omega), rd_get xs i hi, if_pos e]
    · obtain ⟨b, h3, h4⟩ := ih (i + 1) (by omega) (by omega)
      refine ⟨b, Ev.step (fun k => ?_) h3, fun hb x hx => ?_⟩
      · simp only [warrantref07_Great.l0]
        rw [if_pos (by omega), if_pos (by omega), rd_get xs i hi, if_neg e, wrap_in _ (by omega) (by omega)]
        rfl
      · rw [List.drop_eq_getElem_cons hi] at hx
        rcases List.mem_cons.1 hx with rfl | hx
        · omega
        · exact h4 hb x hx
/-- What Great answers. -/
def GreatPost (xs : List ByteArray) (w : World) (e : Ending) (w' : World) : Prop := ∃ b, e = .returned (.bool b) ∧ (b = false → xs.length ≤ 100 ∧ ∀ x ∈ xs, x.size ≤ 1000) ∧ Drawn0 w w'
theorem great_any (xs : List ByteArray) (A : Option Addr) (c : Nat) (w : World) (hC : Kd.string.C w A xs.length xs) (hc : xs.length ≤ c) :
    Calls Tryd.prog 8 #[.slice A xs.length c] w (GreatPost xs w) := by
  by_cases h : 100 < xs.length
  · have h2 : Ev (fun k => warrantref07_Great.f k xs) true := Ev.congr (fun k => if_pos (by omega)) (Ev.now _)
    obtain ⟨k, hk⟩ := h2.rounds
    exact (warrantref07_Great.calls k A c xs _ w hC hc hk).mono (fun e w' hq => ⟨true, hq.1, by simp, hq.2⟩)
  · obtain ⟨b, h1, h2⟩ := great_ev xs (by omega) xs.length 0 (by omega) (by omega)
    rw [List.drop_zero] at h2
    have h3 : Ev (fun k => warrantref07_Great.f k xs) b := Ev.congr (fun k => if_neg (by omega)) h1
    obtain ⟨k, hk⟩ := h3.rounds
    exact (warrantref07_Great.calls k A c xs _ w hC hc hk).mono (fun e w' hq => ⟨b, hq.1, fun hb => ⟨by omega, h2 hb⟩, hq.2⟩)
end Go.Proofs.YtomkdnapnjkclaaDoor.Sco
