/-
  RowAt, RowSmall, RowAlive, OpenK, RowOpen, RowGs: this proof's parts in one text.
-/
import Derived.Test.YtcgjacffemjehaaDoorMRowBackRowk
import Derived.Test.YtcgjacffemjehaaDoorMRowBackRowl
import Derived.Test.YtcgjacffemjehaaDoorMRowBackRowh
import Derived.Test.YtcgjacffemjehaaDoorMRowBackRowe
import Derived.Test.YtcgjacffemjehaaDoorMRowBackRowa
import Derived.Test.YtcgjacffemjehaaDoorWWords
import Derived.Test.YtcgjacffemjehaaDoorRows
import Derived.Deep.Slices
import Derived.ChangeArms
import Derived.OpenShut
import Derived.ProofKit
namespace Go.Proofs.YtcgjacffemjehaaDoor
open Go.RowKit
open Go.Proofs.YtcgjacffemjehaaDoorW.PrintWords (Kd rdOf results_ct)
open Go.Proofs.YtcgjacffemjehaaDoor.PRowReads
set_option linter.unusedVariables false
theorem far_at (w : World) (vs : Array Value) (x : S41) (hK : k41.K w x vs.toList) (hs : Small x) :
    Calls Tryd.prog 9 #[.agg vs] w (FarPost x w) := by
  obtain ⟨A3, c3, A8, c8, A16, c16, A28, c28, A29, c29, A37, c37, A41, c41, A45, c45, e, l3, g3, l8, g8, l16, g16, l28, g28, l29, g29, l37, g37, l41, g41, l45, g45⟩ := k41_open hK
  cases vs with
  | mk l =>
    simp only at e
    subst e
    exact far_any w x l3 g3 l8 g8 l16 g16 l28 g28 l29 g29 l37 g37 l41 g41 l45 g45 (lens x hs)
theorem bytes_at (w : World) (vs : Array Value) (x : S41) (hK : k41.K w x vs.toList) (hs : Small x) (hf : Fits x) :
    Calls Tryd.prog 10 #[.agg vs] w (TextPost (rowB x) w) := by
  obtain ⟨A3, c3, A8, c8, A16, c16, A28, c28, A29, c29, A37, c37, A41, c41, A45, c45, e, l3, g3, l8, g8, l16, g16, l28, g28, l29, g29, l37, g37, l41, g41, l45, g45⟩ := k41_open hK
  cases vs with
  | mk l =>
    simp only at e
    subst e
    exact lawBytes_any w x l3 g3 l8 g8 l16 g16 l28 g28 l29 g29 l37 g37 l41 g41 l45 g45 hs hf
theorem refBytes_at (w : World) (vs : Array Value) (x : S41) (hK : k41.K w x vs.toList) (hs : Small x) (hf : Fits x) :
    Calls Tryd.prog 8 #[.agg vs] w (TextPost (rowB x) w) := by
  obtain ⟨A3, c3, A8, c8, A16, c16, A28, c28, A29, c29, A37, c37, A41, c41, A45, c45, e, l3, g3, l8, g8, l16, g16, l28, g28, l29, g29, l37, g37, l41, g41, l45, g45⟩ := k41_open hK
  cases vs with
  | mk l =>
    simp only at e
    subst e
    exact refBytes_any w x l3 g3 l8 g8 l16 g16 l28 g28 l29 g29 l37 g37 l41 g41 l45 g45 hs hf
theorem kind_at (w : World) (vs : Array Value) (x : S41) (hK : k41.K w x vs.toList) : vs[0]? = some (.int .i64 x.f0) ∧ vs.size = 46 ∧ vs.all (·.oneCell') = true := by
  have h1 := k41.K_len hK
  have h2 := k41.K_one hK
  obtain ⟨A3, c3, A8, c8, A16, c16, A28, c28, A29, c29, A37, c37, A41, c41, A45, c45, e, l3, g3, l8, g8, l16, g16, l28, g28, l29, g29, l37, g37, l41, g41, l45, g45⟩ := k41_open hK
  refine ⟨?_, by rw [← Array.length_toList]; exact h1, ?_⟩
  · rw [← Array.getElem?_toList, e]; rfl
  · rw [← Array.all_toList]; exact List.all_eq_true.2 h2
theorem read_at (w : World) (hg : ErrorType w) (k : Int) (h1 : 1 ≤ k) (h8 : k ≤ 8) (s : ByteArray) (hs : s.size ≤ 1099511627776) :
    Calls Tryd.prog 6 #[.int .i64 k, .string s] w (ReadPost (readRow k s.data.toList).1 (readRow k s.data.toList).2 w) := by
  have hk : k = 1 ∨ k = 2 ∨ k = 3 ∨ k = 4 ∨ k = 5 ∨ k = 6 ∨ k = 7 ∨ k = 8 := by omega
  rcases hk with rfl | rfl | rfl | rfl | rfl | rfl | rfl | rfl
  · exact readConsent w hg s hs
  · exact readCode w hg s hs
  · exact readFamily w hg s hs
  · exact readRefresh w hg s hs
  · exact readAccess w hg s hs
  · exact readResource w hg s hs
  · exact readTicket w hg s hs
  · exact readKeys w hg s hs
end Go.Proofs.YtcgjacffemjehaaDoor

namespace Go.Proofs.YtcgjacffemjehaaDoor
open Go.RowKit
open Go.Proofs.YtcgjacffemjehaaDoorW.PrintWords (Kd rdOf results_ct)
open Go.Proofs.YtcgjacffemjehaaDoor.PRowReads
set_option linter.unusedVariables false
theorem len_mem {α : Type} {B : α → List UInt8} {l : List α} {x : α} (h : x ∈ l) : (B x).length ≤ (l.flatMap B).length := by
  induction l with
  | nil => cases h
  | cons y l ih =>
    rw [List.flatMap_cons, List.length_append]
    rcases List.mem_cons.1 h with rfl | h
    · omega
    · have := ih h; omega
theorem textB_len (s : ByteArray) : (textB s).length = 4 + s.size := by rw [textB, List.length_append, four_len', str_len]
theorem textsB_len (l : List ByteArray) : (textsB l).length = 4 + (l.flatMap textB).length := by rw [textsB, List.length_append, four_len']
theorem permsB_len (l : List S86) : (permsB l).length = 4 + (l.flatMap permB).length := by rw [permsB, List.length_append, four_len']
theorem keysB_len (l : List S117) : (keysB l).length = 4 + (l.flatMap keyB).length := by rw [keysB, List.length_append, four_len']
theorem szT {s : ByteArray} (h : (textB s).length ≤ 1048576) : Sz s := by rw [textB_len] at h; unfold Sz; omega
theorem szL {l : List ByteArray} (h : (textsB l).length ≤ 1048576) : SzL l := by
  rw [textsB_len] at h
  have h1 := flat_ge textB l textB_ge
  exact ⟨by omega, fun s hs => szT (by have := len_mem (B := textB) hs; omega)⟩
theorem szP {l : List S86} (h : (permsB l).length ≤ 1048576) : SzP l := by
  rw [permsB_len] at h
  have h1 := flat_ge permB l permB_ge
  refine ⟨by omega, fun s hs => ?_⟩
  have h2 := len_mem (B := permB) hs
  have h3 : (permB s).length = (textB s.f0).length + (textsB s.f1).length := by rw [permB, List.length_append]
  exact ⟨szT (by omega), szL (by omega)⟩
theorem szK {l : List S117} (h : (keysB l).length ≤ 1048576) : SzK l := by
  rw [keysB_len] at h
  have h1 := flat_ge keyB l keyB_ge
  refine ⟨by omega, fun s hs => ?_⟩
  have h2 := len_mem (B := keyB) hs
  have h3 : (keyB s).length = (textB s.f0).length + (textB s.f1).length := by rw [keyB, List.length_append]
  exact ⟨szT (by omega), szT (by omega)⟩
theorem okConsent_few {y : S25} (h : (consentB y).length ≤ 1048576) (c : CConsent y) : OkConsent y := by
  simp only [consentB, List.length_append] at h
  exact ⟨szT (by omega), szT (by omega), szL (by omega)⟩
theorem cConsent_z : CConsent z25 := ⟨by unfold OkT; exact of_decide_eq_true (by kernel_rfl), by unfold OkT; exact of_decide_eq_true (by kernel_rfl), ⟨of_decide_eq_true (by kernel_rfl), fun _ h => by cases h⟩⟩
theorem consent_zlen : (consentB z25).length ≤ 1048576 := of_decide_eq_true (by kernel_rfl)
theorem okCode_few {y : S27} (h : (codeB y).length ≤ 1048576) (c : CCode y) : OkCode y := by
  simp only [codeB, List.length_append] at h
  exact ⟨szT (by omega), szT (by omega), szT (by omega), szT (by omega), szL (by omega), szT (by omega), c.2.2.2.2.2.2.2.2⟩
theorem cCode_z : CCode z27 := ⟨by unfold OkT; exact of_decide_eq_true (by kernel_rfl), by unfold OkT; exact of_decide_eq_true (by kernel_rfl), by unfold OkT; exact of_decide_eq_true (by kernel_rfl), by unfold OkT; exact of_decide_eq_true (by kernel_rfl), ⟨of_decide_eq_true (by kernel_rfl), fun _ h => by cases h⟩, by unfold OkT; exact of_decide_eq_true (by kernel_rfl), trivial, trivial, ⟨of_decide_eq_true (by kernel_rfl), of_decide_eq_true (by kernel_rfl)⟩⟩
theorem code_zlen : (codeB z27).length ≤ 1048576 := of_decide_eq_true (by kernel_rfl)
theorem okFamily_few {y : S29} (h : (familyB y).length ≤ 1048576) (c : CFamily y) : OkFamily y := by
  simp only [familyB, List.length_append] at h
  exact ⟨szT (by omega), szT (by omega), szT (by omega), szL (by omega), c.2.2.2.2.1, c.2.2.2.2.2.1⟩
theorem cFamily_z : CFamily z29 := ⟨by unfold OkT; exact of_decide_eq_true (by kernel_rfl), by unfold OkT; exact of_decide_eq_true (by kernel_rfl), by unfold OkT; exact of_decide_eq_true (by kernel_rfl), ⟨of_decide_eq_true (by kernel_rfl), fun _ h => by cases h⟩, ⟨of_decide_eq_true (by kernel_rfl), of_decide_eq_true (by kernel_rfl)⟩, ⟨of_decide_eq_true (by kernel_rfl), of_decide_eq_true (by kernel_rfl)⟩, trivial⟩
theorem family_zlen : (familyB z29).length ≤ 1048576 := of_decide_eq_true (by kernel_rfl)
theorem okRefresh_few {y : S31} (h : (refreshB y).length ≤ 1048576) (c : CRefresh y) : OkRefresh y := by
  simp only [refreshB, List.length_append] at h
  exact ⟨szT (by omega), szT (by omega), c.2.2⟩
theorem cRefresh_z : CRefresh z31 := ⟨by unfold OkT; exact of_decide_eq_true (by kernel_rfl), by unfold OkT; exact of_decide_eq_true (by kernel_rfl), ⟨of_decide_eq_true (by kernel_rfl), of_decide_eq_true (by kernel_rfl)⟩⟩
theorem refresh_zlen : (refreshB z31).length ≤ 1048576 := of_decide_eq_true (by kernel_rfl)
theorem okAccess_few {y : S34} (h : (accessB y).length ≤ 1048576) (c : CAccess y) : OkAccess y := by
  simp only [accessB, List.length_append] at h
  exact ⟨szT (by omega), szT (by omega), szT (by omega), szT (by omega), szT (by omega), szL (by omega), szP (by omega), c.2.2.2.2.2.2.2.1, c.2.2.2.2.2.2.2.2.1⟩
theorem cAccess_z : CAccess z34 := ⟨by unfold OkT; exact of_decide_eq_true (by kernel_rfl), by unfold OkT; exact of_decide_eq_true (by kernel_rfl), by unfold OkT; exact of_decide_eq_true (by kernel_rfl), by unfold OkT; exact of_decide_eq_true (by kernel_rfl), by unfold OkT; exact of_decide_eq_true (by kernel_rfl), ⟨of_decide_eq_true (by kernel_rfl), fun _ h => by cases h⟩, ⟨of_decide_eq_true (by kernel_rfl), fun _ h => by cases h⟩, ⟨of_decide_eq_true (by kernel_rfl), of_decide_eq_true (by kernel_rfl)⟩, ⟨of_decide_eq_true (by kernel_rfl), of_decide_eq_true (by kernel_rfl)⟩, trivial⟩
theorem access_zlen : (accessB z34).length ≤ 1048576 := of_decide_eq_true (by kernel_rfl)
theorem okResource_few {y : S36} (h : (resourceB y).length ≤ 1048576) (c : CResource y) : OkResource y := by
  simp only [resourceB, List.length_append] at h
  exact ⟨szT (by omega), szT (by omega), szT (by omega), szT (by omega), szL (by omega), szT (by omega)⟩
theorem cResource_z : CResource z36 := ⟨by unfold OkT; exact of_decide_eq_true (by kernel_rfl), by unfold OkT; exact of_decide_eq_true (by kernel_rfl), by unfold OkT; exact of_decide_eq_true (by kernel_rfl), by unfold OkT; exact of_decide_eq_true (by kernel_rfl), ⟨of_decide_eq_true (by kernel_rfl), fun _ h => by cases h⟩, by unfold OkT; exact of_decide_eq_true (by kernel_rfl)⟩
theorem resource_zlen : (resourceB z36).length ≤ 1048576 := of_decide_eq_true (by kernel_rfl)
theorem okTicket_few {y : S38} (h : (ticketB y).length ≤ 1048576) (c : CTicket y) : OkTicket y := by
  simp only [ticketB, List.length_append] at h
  exact ⟨szT (by omega), szT (by omega), szP (by omega), szT (by omega), c.2.2.2.2.1⟩
theorem cTicket_z : CTicket z38 := ⟨by unfold OkT; exact of_decide_eq_true (by kernel_rfl), by unfold OkT; exact of_decide_eq_true (by kernel_rfl), ⟨of_decide_eq_true (by kernel_rfl), fun _ h => by cases h⟩, by unfold OkT; exact of_decide_eq_true (by kernel_rfl), ⟨of_decide_eq_true (by kernel_rfl), of_decide_eq_true (by kernel_rfl)⟩, trivial⟩
theorem ticket_zlen : (ticketB z38).length ≤ 1048576 := of_decide_eq_true (by kernel_rfl)
theorem keys_zlen : (keysB []).length ≤ 1048576 := of_decide_eq_true (by kernel_rfl)
theorem cKeys_z : OkL CKey [] := ⟨of_decide_eq_true (by kernel_rfl), fun _ h => by cases h⟩
theorem okKeys_few {y : List S117} (h : (keysB y).length ≤ 1048576) (c : OkL CKey y) : SzK y := szK h
theorem smallConsent {y : S25} (h : (consentB y).length ≤ 1048576) (c : CConsent y) : Small (rowConsent y) ∧ Fits (rowConsent y) :=
  ⟨⟨okConsent_few h c, okCode_few code_zlen cCode_z, okFamily_few family_zlen cFamily_z, okRefresh_few refresh_zlen cRefresh_z, okAccess_few access_zlen cAccess_z, okResource_few resource_zlen cResource_z, okTicket_few ticket_zlen cTicket_z, szK keys_zlen⟩, ⟨Nat.le_trans h (by omega), Nat.le_trans code_zlen (by omega), Nat.le_trans family_zlen (by omega), Nat.le_trans refresh_zlen (by omega), Nat.le_trans access_zlen (by omega), Nat.le_trans resource_zlen (by omega), Nat.le_trans ticket_zlen (by omega), Nat.le_trans keys_zlen (by omega)⟩⟩
theorem smallConsent_read (l : List UInt8) (hl : l.length ≤ 1048576) : Small (rowConsent ((unR (consentR l false)).getD z25)) ∧ Fits (rowConsent ((unR (consentR l false)).getD z25)) := by
  cases e : unR (consentR l false) with
  | none => exact smallConsent consent_zlen cConsent_z
  | some y =>
    obtain ⟨rfl, c⟩ := consentCod.un_bwd e
    exact smallConsent hl c
theorem smallCode {y : S27} (h : (codeB y).length ≤ 1048576) (c : CCode y) : Small (rowCode y) ∧ Fits (rowCode y) :=
  ⟨⟨okConsent_few consent_zlen cConsent_z, okCode_few h c, okFamily_few family_zlen cFamily_z, okRefresh_few refresh_zlen cRefresh_z, okAccess_few access_zlen cAccess_z, okResource_few resource_zlen cResource_z, okTicket_few ticket_zlen cTicket_z, szK keys_zlen⟩, ⟨Nat.le_trans consent_zlen (by omega), Nat.le_trans h (by omega), Nat.le_trans family_zlen (by omega), Nat.le_trans refresh_zlen (by omega), Nat.le_trans access_zlen (by omega), Nat.le_trans resource_zlen (by omega), Nat.le_trans ticket_zlen (by omega), Nat.le_trans keys_zlen (by omega)⟩⟩
theorem smallCode_read (l : List UInt8) (hl : l.length ≤ 1048576) : Small (rowCode ((unR (codeR l false)).getD z27)) ∧ Fits (rowCode ((unR (codeR l false)).getD z27)) := by
  cases e : unR (codeR l false) with
  | none => exact smallCode code_zlen cCode_z
  | some y =>
    obtain ⟨rfl, c⟩ := codeCod.un_bwd e
    exact smallCode hl c
theorem smallFamily {y : S29} (h : (familyB y).length ≤ 1048576) (c : CFamily y) : Small (rowFamily y) ∧ Fits (rowFamily y) :=
  ⟨⟨okConsent_few consent_zlen cConsent_z, okCode_few code_zlen cCode_z, okFamily_few h c, okRefresh_few refresh_zlen cRefresh_z, okAccess_few access_zlen cAccess_z, okResource_few resource_zlen cResource_z, okTicket_few ticket_zlen cTicket_z, szK keys_zlen⟩, ⟨Nat.le_trans consent_zlen (by omega), Nat.le_trans code_zlen (by omega), Nat.le_trans h (by omega), Nat.le_trans refresh_zlen (by omega), Nat.le_trans access_zlen (by omega), Nat.le_trans resource_zlen (by omega), Nat.le_trans ticket_zlen (by omega), Nat.le_trans keys_zlen (by omega)⟩⟩
theorem smallFamily_read (l : List UInt8) (hl : l.length ≤ 1048576) : Small (rowFamily ((unR (familyR l false)).getD z29)) ∧ Fits (rowFamily ((unR (familyR l false)).getD z29)) := by
  cases e : unR (familyR l false) with
  | none => exact smallFamily family_zlen cFamily_z
  | some y =>
    obtain ⟨rfl, c⟩ := familyCod.un_bwd e
    exact smallFamily hl c
theorem smallRefresh {y : S31} (h : (refreshB y).length ≤ 1048576) (c : CRefresh y) : Small (rowRefresh y) ∧ Fits (rowRefresh y) :=
  ⟨⟨okConsent_few consent_zlen cConsent_z, okCode_few code_zlen cCode_z, okFamily_few family_zlen cFamily_z, okRefresh_few h c, okAccess_few access_zlen cAccess_z, okResource_few resource_zlen cResource_z, okTicket_few ticket_zlen cTicket_z, szK keys_zlen⟩, ⟨Nat.le_trans consent_zlen (by omega), Nat.le_trans code_zlen (by omega), Nat.le_trans family_zlen (by omega), Nat.le_trans h (by omega), Nat.le_trans access_zlen (by omega), Nat.le_trans resource_zlen (by omega), Nat.le_trans ticket_zlen (by omega), Nat.le_trans keys_zlen (by omega)⟩⟩
theorem smallRefresh_read (l : List UInt8) (hl : l.length ≤ 1048576) : Small (rowRefresh ((unR (refreshR l false)).getD z31)) ∧ Fits (rowRefresh ((unR (refreshR l false)).getD z31)) := by
  cases e : unR (refreshR l false) with
  | none => exact smallRefresh refresh_zlen cRefresh_z
  | some y =>
    obtain ⟨rfl, c⟩ := refreshCod.un_bwd e
    exact smallRefresh hl c
theorem smallAccess {y : S34} (h : (accessB y).length ≤ 1048576) (c : CAccess y) : Small (rowAccess y) ∧ Fits (rowAccess y) :=
  ⟨⟨okConsent_few consent_zlen cConsent_z, okCode_few code_zlen cCode_z, okFamily_few family_zlen cFamily_z, okRefresh_few refresh_zlen cRefresh_z, okAccess_few h c, okResource_few resource_zlen cResource_z, okTicket_few ticket_zlen cTicket_z, szK keys_zlen⟩, ⟨Nat.le_trans consent_zlen (by omega), Nat.le_trans code_zlen (by omega), Nat.le_trans family_zlen (by omega), Nat.le_trans refresh_zlen (by omega), Nat.le_trans h (by omega), Nat.le_trans resource_zlen (by omega), Nat.le_trans ticket_zlen (by omega), Nat.le_trans keys_zlen (by omega)⟩⟩
theorem smallAccess_read (l : List UInt8) (hl : l.length ≤ 1048576) : Small (rowAccess ((unR (accessR l false)).getD z34)) ∧ Fits (rowAccess ((unR (accessR l false)).getD z34)) := by
  cases e : unR (accessR l false) with
  | none => exact smallAccess access_zlen cAccess_z
  | some y =>
    obtain ⟨rfl, c⟩ := accessCod.un_bwd e
    exact smallAccess hl c
theorem smallResource {y : S36} (h : (resourceB y).length ≤ 1048576) (c : CResource y) : Small (rowResource y) ∧ Fits (rowResource y) :=
  ⟨⟨okConsent_few consent_zlen cConsent_z, okCode_few code_zlen cCode_z, okFamily_few family_zlen cFamily_z, okRefresh_few refresh_zlen cRefresh_z, okAccess_few access_zlen cAccess_z, okResource_few h c, okTicket_few ticket_zlen cTicket_z, szK keys_zlen⟩, ⟨Nat.le_trans consent_zlen (by omega), Nat.le_trans code_zlen (by omega), Nat.le_trans family_zlen (by omega), Nat.le_trans refresh_zlen (by omega), Nat.le_trans access_zlen (by omega), Nat.le_trans h (by omega), Nat.le_trans ticket_zlen (by omega), Nat.le_trans keys_zlen (by omega)⟩⟩
theorem smallResource_read (l : List UInt8) (hl : l.length ≤ 1048576) : Small (rowResource ((unR (resourceR l false)).getD z36)) ∧ Fits (rowResource ((unR (resourceR l false)).getD z36)) := by
  cases e : unR (resourceR l false) with
  | none => exact smallResource resource_zlen cResource_z
  | some y =>
    obtain ⟨rfl, c⟩ := resourceCod.un_bwd e
    exact smallResource hl c
theorem smallTicket {y : S38} (h : (ticketB y).length ≤ 1048576) (c : CTicket y) : Small (rowTicket y) ∧ Fits (rowTicket y) :=
  ⟨⟨okConsent_few consent_zlen cConsent_z, okCode_few code_zlen cCode_z, okFamily_few family_zlen cFamily_z, okRefresh_few refresh_zlen cRefresh_z, okAccess_few access_zlen cAccess_z, okResource_few resource_zlen cResource_z, okTicket_few h c, szK keys_zlen⟩, ⟨Nat.le_trans consent_zlen (by omega), Nat.le_trans code_zlen (by omega), Nat.le_trans family_zlen (by omega), Nat.le_trans refresh_zlen (by omega), Nat.le_trans access_zlen (by omega), Nat.le_trans resource_zlen (by omega), Nat.le_trans h (by omega), Nat.le_trans keys_zlen (by omega)⟩⟩
theorem smallTicket_read (l : List UInt8) (hl : l.length ≤ 1048576) : Small (rowTicket ((unR (ticketR l false)).getD z38)) ∧ Fits (rowTicket ((unR (ticketR l false)).getD z38)) := by
  cases e : unR (ticketR l false) with
  | none => exact smallTicket ticket_zlen cTicket_z
  | some y =>
    obtain ⟨rfl, c⟩ := ticketCod.un_bwd e
    exact smallTicket hl c
theorem smallKeys {y : List S117} (h : (keysB y).length ≤ 1048576) (c : OkL CKey y) : Small (rowKeysR y) ∧ Fits (rowKeysR y) :=
  ⟨⟨okConsent_few consent_zlen cConsent_z, okCode_few code_zlen cCode_z, okFamily_few family_zlen cFamily_z, okRefresh_few refresh_zlen cRefresh_z, okAccess_few access_zlen cAccess_z, okResource_few resource_zlen cResource_z, okTicket_few ticket_zlen cTicket_z, okKeys_few h c⟩, ⟨Nat.le_trans consent_zlen (by omega), Nat.le_trans code_zlen (by omega), Nat.le_trans family_zlen (by omega), Nat.le_trans refresh_zlen (by omega), Nat.le_trans access_zlen (by omega), Nat.le_trans resource_zlen (by omega), Nat.le_trans ticket_zlen (by omega), Nat.le_trans h (by omega)⟩⟩
theorem smallKeys_read (l : List UInt8) (hl : l.length ≤ 1048576) : Small (rowKeysR ((unR (listR keyR l false)).getD [])) ∧ Fits (rowKeysR ((unR (listR keyR l false)).getD [])) := by
  cases e : unR (listR keyR l false) with
  | none => exact smallKeys keys_zlen cKeys_z
  | some y =>
    obtain ⟨rfl, c⟩ := keysCod.un_bwd e
    exact smallKeys hl c
theorem small_read (k : Int) (h1 : 1 ≤ k) (h8 : k ≤ 8) (l : List UInt8) (hl : l.length ≤ 1048576) : Small (readRow k l).1 ∧ Fits (readRow k l).1 := by
  have hk : k = 1 ∨ k = 2 ∨ k = 3 ∨ k = 4 ∨ k = 5 ∨ k = 6 ∨ k = 7 ∨ k = 8 := by omega
  rcases hk with rfl | rfl | rfl | rfl | rfl | rfl | rfl | rfl
  · exact smallConsent_read l hl
  · exact smallCode_read l hl
  · exact smallFamily_read l hl
  · exact smallRefresh_read l hl
  · exact smallAccess_read l hl
  · exact smallResource_read l hl
  · exact smallTicket_read l hl
  · exact smallKeys_read l hl
end Go.Proofs.YtcgjacffemjehaaDoor

namespace Go.Proofs.YtcgjacffemjehaaDoor
open Go.RowKit
open Go.Proofs.YtcgjacffemjehaaDoorW.PrintWords (Kd rdOf)
open Go.Proofs.YtcgjacffemjehaaDoor.PRowReads
set_option linter.unusedVariables false
theorem amax2 (k k' : IntKind) (x y : Int) : Builtin.max2 (.int k x) (.int k' y) = pure (.int k (if x < y then y else x)) := by simp only [Builtin.max2]
theorem amax_two (ats : Array TypeId) (ty : TypeId) (a b : Value) : Builtin.max_ ats ty #[a, b] = (Builtin.max2 a b >>= fun s => pure s) := by simp only [Builtin.max_, List.foldlM_cons, List.foldlM_nil]
attribute [local go_sem] amax2 amax_two
def exR : S31 := ⟨⟨#[104]⟩, ⟨#[102]⟩, 3⟩
def exB : List UInt8 := [0, 0, 0, 1, 104, 0, 0, 0, 1, 102, 0, 0, 0, 0, 0, 0, 0, 3]
theorem ex_bytes : refreshB exR = exB := by rfl
theorem ex_read : unR (refreshR exB false) = some exR := by rfl
theorem ex_short : unR (refreshR (exB.take 17) false) = none := by rfl
set_option maxHeartbeats 8000000 in
set_option maxRecDepth 100000 in
theorem alive_any (w : World) : Calls Tryd.prog 5 #[] w (TruePost w) := by
  have h1 : Calls Tryd.prog 11 #[.agg #[.string ⟨#[104]⟩, .string ⟨#[102]⟩, .int .i64 3]] w (BytesPost exB w) := by
    have := rowRefresh_any w exR ⟨(show (1 : Nat) ≤ 1048576 by omega), (show (1 : Nat) ≤ 1048576 by omega), (show (-9223372036854775808 : Int) ≤ 3 by omega), (show (3 : Int) ≤ 9223372036854775807 by omega)⟩ (by decide)
    rw [ex_bytes] at this
    exact this
  have H1 := hid h1
  clear h1
  go_enter Tryd.func5, Tryd.ntmps5
  go_wp2_with fail
  refine H1.out.mono ?_
  intro e w1 hq
  obtain ⟨v1, rfl, hr1, hb1⟩ := hq
  obtain ⟨B, o, cap, rfl, hcap, _⟩ := reads_some hr1 18 rfl (by omega)
  have HR1 := hid hr1
  have HB1 := hid hb1
  clear hr1 hb1
  go_wp2_with fail
  refine (toRefresh_any w1 _ exB HR1.out (by decide)).mono ?_
  rw [ex_read]
  intro e w2 hq
  obtain ⟨cs2, rfl, hM2, hb2⟩ := hq
  obtain rfl := k31_openM hM2
  have HB2 := hid (below_then HB1.out hb2)
  have HR2 := hid (HR1.out.below hb2)
  have HR3 := hid (reads_take HR2.out 17 (by omega))
  clear hM2 hb2
  go_wp2_with fail
  have hal : Below w2.heap.size w2 (w2.alloc (.cells #[.string exR.f0, .string exR.f1, .int .i64 exR.f2] 31)) := (Below.refl _ w2).alloc (Nat.le_refl _) _
  have hcl := cells_of_alloc w2 #[.string exR.f0, .string exR.f1, .int .i64 exR.f2] 31 2 (.int .i64 3) rfl
  refine (toRefresh_any _ _ (exB.take 17) (HR3.out.below hal) (by decide)).mono ?_
  rw [ex_short]
  intro e w3 hq
  obtain ⟨cs3, rfl, hM3, hb3⟩ := hq
  obtain rfl := k31_openM hM3
  have HB3 := hid (below_then HB2.out (below_then hal hb3))
  have hd : w3.cell? ⟨w2.heap.size, 2, none⟩ = some (.int .i64 3) := (hb3.cell (p := ⟨w2.heap.size, 2, none⟩) (by simp)).trans hcl
  have hd2 : ∀ q, (w3.alloc q).cell? ⟨w2.heap.size, 2, none⟩ = some (.int .i64 3) := fun q => (World.cell?_alloc_lt w3 q ⟨w2.heap.size, 2, none⟩ (lt_of_cell hd)).trans hd
  have hr4 := (HR2.out.below hal).below hb3
  have kc := fun q => run_string_of_reads (P := Tryd.prog) byteT Tryd.underlying9 (hr4.below ((Below.refl _ w3).alloc (Nat.le_refl _) q))
  have ev1 : errV true = .nilIface := rfl
  have ev2 : errV false = .iface 111 (.int .i64 170) := rfl
  have ekb : strV exB = .string ⟨#[0, 0, 0, 1, 104, 0, 0, 0, 1, 102, 0, 0, 0, 0, 0, 0, 0, 3]⟩ := rfl
  rw [ekb] at kc
  clear hM3 hb3 hal hr4 ekb hcl
  go_wp2
  go_ret
  exact TruePost.mk rfl (HB3.out.alloc HB3.out.size _)
end Go.Proofs.YtcgjacffemjehaaDoor

namespace Go.Proofs.YtcgjacffemjehaaDoor
open Go.RowKit Go.ChangeShapes Go.WideShapes Go.ChangeAt Go.Deep
open Go.Proofs.YtcgjacffemjehaaDoorW.PrintWords (Kd)
set_option linter.unusedVariables false
theorem bulk_part {H : Type} {d : DataW H} {l : List (DataW H)} (h : d ∈ l) : Rows.uptoBulk d ≤ Rows.uptoBulkAll l := by
  induction l with
  | nil => cases h
  | cons x r ih =>
    simp only [Rows.uptoBulkAll]
    cases List.mem_cons.1 h with
    | inl e => subst e; omega
    | inr e => have := ih e; omega
theorem bulk_one {H : Type} (d : DataW H) : 1 ≤ Rows.uptoBulk d := by
  cases d with
  | lit l => cases l <;> simp [Rows.uptoBulk]
  | nil => simp [Rows.uptoBulk]
  | ptr d => simp [Rows.uptoBulk]
  | slice elems spare => simp [Rows.uptoBulk]
  | agg parts => simp [Rows.uptoBulk]
  | iface t d => simp [Rows.uptoBulk]
  | map entries => simp [Rows.uptoBulk]
  | held h => simp [Rows.uptoBulk]
theorem bulk_length {H : Type} (l : List (DataW H)) : l.length ≤ Rows.uptoBulkAll l := by
  induction l with
  | nil => simp [Rows.uptoBulkAll]
  | cons x r ih => have := bulk_one x; simp only [Rows.uptoBulkAll, List.length_cons]; omega
/-- A type whose values open to a kind, with a fact of each. -/
def Opens {α : Type} (H : Type) (enc : TypeId × Value → H) (W : World) (T : TypeId) (d : Kd α) (G : α → Prop) : Prop :=
  ∀ (fuel : Nat) (cs : List Value) (y : DataW H × List MemPlace), DataW.trod enc Tryd.prog W 0 (fun _ => true) true fuel T cs = some y → Rows.uptoBulk y.1 ≤ 1048576 → ∃ x, d.K W x cs ∧ G x
section
variable {H : Type} {enc : TypeId × Value → H} {W : World}
theorem opens_string : Opens H enc W 9 Kd.string (fun s => s.size ≤ 1048576) := by
  intro fuel cs y h hb
  obtain ⟨s, rfl, rfl, hs⟩ := DataW.trod_string Tryd.underlying9 h
  refine ⟨s, rfl, ?_⟩
  simp only [Rows.uptoBulk, str_len] at hb
  omega
theorem opens_int {T : TypeId} {k : IntKind} (hT : Tryd.prog.underlying T = some (.int k)) : Opens H enc W T (Kd.int k) (fun n => (Lit.int k n).wf = true) := by
  intro fuel cs y h hb
  obtain ⟨n, rfl, rfl, hw⟩ := DataW.trod_int hT h
  exact ⟨n, rfl, hw⟩
theorem opens_bool : Opens H enc W 4 Kd.bool (fun _ => True) := by
  intro fuel cs y h hb
  obtain ⟨n, rfl, rfl⟩ := DataW.trod_bool Tryd.underlying4 h
  exact ⟨n, rfl, trivial⟩
theorem cells_get {a : Addr} {n : Nat} {cs : List Value} (h : W.cells? 0 a n = some cs) : cs.length = n ∧ ∀ j v, cs[j]? = some v → W.cell? (a.add j) = some v := by
  unfold World.cells? at h
  rw [if_pos (Nat.zero_le _)] at h
  have hl := mapM_some_length h
  have hn : cs.length = n := by simpa using hl
  refine ⟨hn, fun j v hv => ?_⟩
  have hlt : j < cs.length := (List.getElem?_eq_some_iff.1 hv).1
  have h2 := mapM_some_get h j j (by first | (rw [List.getElem?_range (by omega)]) | (simp; omega))
  rw [hv] at h2
  exact h2
theorem opens_slice {α : Type} {T e : TypeId} {d : Kd α} {G : α → Prop} (z : α) (hT : Tryd.prog.underlying T = some (.slice e)) (hc : Tryd.prog.cellsOf e = d.sz) (hE : Opens H enc W e d G) :
    Opens H enc W T (Kd.slice e d) (fun xs => xs.length ≤ 1048576 ∧ ∀ x ∈ xs, G x) := by
  intro fuel cs y h hb
  rcases open_slice hT h with ⟨rfl, rfl⟩ | ⟨a, len, cap, m, n, D, Pl, rfl, _, hl, hm, hmm, rfl, hel⟩
  · exact ⟨[], ⟨none, 0, rfl, Nat.le_refl _, Kd.C_nil d W⟩, by simp, by simp⟩
  · rw [if_pos rfl] at hmm
    subst hmm
    rw [hc] at hel
    simp only [Rows.uptoBulk] at hb
    have hbl := bulk_length ((List.range len).map D)
    rw [List.length_map, List.length_range] at hbl
    have hx : ∀ i, ∃ x, i < len → (G x ∧ ∃ c, c.length = d.sz ∧ d.K W x c ∧ ∀ j u, c[j]? = some u → W.cell? (a.add (i * d.sz + j)) = some u) := by
      intro i
      by_cases hi : i < len
      · obtain ⟨cs', h1, h2⟩ := hel i (by omega)
        have hbi : Rows.uptoBulk (D i) ≤ 1048576 := by
          have := bulk_part (d := D i) (l := (List.range len).map D) (List.mem_map.2 ⟨i, List.mem_range.2 hi, rfl⟩)
          omega
        obtain ⟨x, hK, hG⟩ := hE _ _ _ h2 hbi
        obtain ⟨h3, h4⟩ := cells_get h1
        exact ⟨x, fun _ => ⟨hG, cs', h3, hK, fun j u hu => by rw [← add_add]; exact h4 j u hu⟩⟩
      · exact ⟨z, fun h => absurd h hi⟩
    have hf := fun i => Classical.choose_spec (hx i)
    obtain ⟨f, hff⟩ : ∃ f : Nat → α, f = fun i => Classical.choose (hx i) := ⟨_, rfl⟩
    have hf2 : ∀ i, i < len → (G (f i) ∧ ∃ c, c.length = d.sz ∧ d.K W (f i) c ∧ ∀ j u, c[j]? = some u → W.cell? (a.add (i * d.sz + j)) = some u) := by rw [hff]; exact hf
    have hlen : ((List.range len).map f).length = len := by simp
    refine ⟨(List.range len).map f, ⟨some a, m, by rw [hlen], by rw [hlen]; exact hl, ?_⟩, by rw [hlen]; omega, fun x hx => ?_⟩
    · rw [hlen]
      refine ⟨hlen, by have : maxLen = 9223372036854775807 := rfl; omega, fun _ => ⟨a, rfl, fun j p hj => ?_⟩⟩
      have hjl : j < len := by have := (List.getElem?_eq_some_iff.1 hj).1; rw [hlen] at this; exact this
      have hp : p = f j := by rw [List.getElem?_map, List.getElem?_range hjl] at hj; simpa using hj.symm
      subst hp
      obtain ⟨_, c, h1, h2, h3⟩ := hf2 j hjl
      exact ⟨c, h1, h2, h3⟩
    · obtain ⟨i, hi, rfl⟩ := List.mem_map.1 hx
      exact (hf2 i (List.mem_range.1 hi)).1
theorem pair_K {α β : Type} {d : Kd α} {d' : Kd β} {x : α} {x' : β} {cs : List Value} (n : Nat) (h : d.K W x (cs.take n)) (h' : d'.K W x' (cs.drop n)) : (Kd.pair d d').K W (x, x') cs := ⟨cs.take n, cs.drop n, (List.take_append_drop n cs).symm, h, h'⟩
end
end Go.Proofs.YtcgjacffemjehaaDoor

namespace Go.Proofs.YtcgjacffemjehaaDoor
open Go.RowKit Go.ChangeShapes Go.WideShapes Go.ChangeAt Go.Deep
open Go.Proofs.YtcgjacffemjehaaDoorW.PrintWords (Kd)
open Go.Proofs.YtcgjacffemjehaaDoor.PRowReads
set_option linter.unusedVariables false
section
variable {H : Type} {enc : TypeId × Value → H} {W : World}
def GPerm (x : S86) : Prop := x.f0.size ≤ 1048576 ∧ (x.f1.length ≤ 1048576 ∧ ∀ s ∈ x.f1, s.size ≤ 1048576)
set_option maxHeartbeats 4000000 in
set_option maxRecDepth 100000 in
theorem opens_Perm : Opens H enc W 86 k86 GPerm := by
  intro fuel cs y h hb
  obtain ⟨xs, n, _, rfl, hl, hlen, hf⟩ := DataW.trod_struct Tryd.underlying86 h
  rw [show Tryd.prog.cellsOf 86 = 2 by kernel_rfl] at hl
  match xs, hlen with
  | [y0, y1], _ =>
    simp only [Rows.uptoBulk, List.map_cons, List.map_nil, Rows.uptoBulkAll] at hb
    have e0 : DataW.trod enc Tryd.prog W 0 (fun _ => true) true n 9 ((cs.drop 0).take (Tryd.prog.cellsOf 9)) = some y0 := hf 0 _ rfl
    rw [show Tryd.prog.cellsOf 9 = 1 by kernel_rfl] at e0
    have e1 : DataW.trod enc Tryd.prog W 0 (fun _ => true) true n 23 ((cs.drop 1).take (Tryd.prog.cellsOf 23)) = some y1 := hf 1 _ rfl
    rw [show Tryd.prog.cellsOf 23 = 1 by kernel_rfl] at e1
    obtain ⟨x0, K0, g0⟩ := opens_string _ _ _ e0 (by omega)
    obtain ⟨x1, K1, g1⟩ := (opens_slice ByteArray.empty Tryd.underlying23 (by kernel_rfl) opens_string) _ _ _ e1 (by omega)
    rw [List.take_of_length_le (by rw [List.length_drop]; omega)] at K1
    exact ⟨⟨x0, x1⟩, (pair_K 1 (by simpa only [List.drop_drop, Nat.reduceAdd, List.drop_zero] using K0) (by simpa only [List.drop_drop, Nat.reduceAdd, List.drop_zero] using K1)), g0, g1⟩
def GKey (x : S117) : Prop := x.f0.size ≤ 1048576 ∧ x.f1.size ≤ 1048576
set_option maxHeartbeats 4000000 in
set_option maxRecDepth 100000 in
theorem opens_Key : Opens H enc W 117 k117 GKey := by
  intro fuel cs y h hb
  obtain ⟨xs, n, _, rfl, hl, hlen, hf⟩ := DataW.trod_struct Tryd.underlying117 h
  rw [show Tryd.prog.cellsOf 117 = 2 by kernel_rfl] at hl
  match xs, hlen with
  | [y0, y1], _ =>
    simp only [Rows.uptoBulk, List.map_cons, List.map_nil, Rows.uptoBulkAll] at hb
    have e0 : DataW.trod enc Tryd.prog W 0 (fun _ => true) true n 9 ((cs.drop 0).take (Tryd.prog.cellsOf 9)) = some y0 := hf 0 _ rfl
    rw [show Tryd.prog.cellsOf 9 = 1 by kernel_rfl] at e0
    have e1 : DataW.trod enc Tryd.prog W 0 (fun _ => true) true n 9 ((cs.drop 1).take (Tryd.prog.cellsOf 9)) = some y1 := hf 1 _ rfl
    rw [show Tryd.prog.cellsOf 9 = 1 by kernel_rfl] at e1
    obtain ⟨x0, K0, g0⟩ := opens_string _ _ _ e0 (by omega)
    obtain ⟨x1, K1, g1⟩ := opens_string _ _ _ e1 (by omega)
    rw [List.take_of_length_le (by rw [List.length_drop]; omega)] at K1
    exact ⟨⟨x0, x1⟩, (pair_K 1 (by simpa only [List.drop_drop, Nat.reduceAdd, List.drop_zero] using K0) (by simpa only [List.drop_drop, Nat.reduceAdd, List.drop_zero] using K1)), g0, g1⟩
def GConsent (x : S25) : Prop := x.f0.size ≤ 1048576 ∧ x.f1.size ≤ 1048576 ∧ (x.f2.length ≤ 1048576 ∧ ∀ s ∈ x.f2, s.size ≤ 1048576)
set_option maxHeartbeats 4000000 in
set_option maxRecDepth 100000 in
theorem opens_Consent : Opens H enc W 25 k25 GConsent := by
  intro fuel cs y h hb
  obtain ⟨xs, n, _, rfl, hl, hlen, hf⟩ := DataW.trod_struct Tryd.underlying25 h
  rw [show Tryd.prog.cellsOf 25 = 3 by kernel_rfl] at hl
  match xs, hlen with
  | [y0, y1, y2], _ =>
    simp only [Rows.uptoBulk, List.map_cons, List.map_nil, Rows.uptoBulkAll] at hb
    have e0 : DataW.trod enc Tryd.prog W 0 (fun _ => true) true n 9 ((cs.drop 0).take (Tryd.prog.cellsOf 9)) = some y0 := hf 0 _ rfl
    rw [show Tryd.prog.cellsOf 9 = 1 by kernel_rfl] at e0
    have e1 : DataW.trod enc Tryd.prog W 0 (fun _ => true) true n 9 ((cs.drop 1).take (Tryd.prog.cellsOf 9)) = some y1 := hf 1 _ rfl
    rw [show Tryd.prog.cellsOf 9 = 1 by kernel_rfl] at e1
    have e2 : DataW.trod enc Tryd.prog W 0 (fun _ => true) true n 23 ((cs.drop 2).take (Tryd.prog.cellsOf 23)) = some y2 := hf 2 _ rfl
    rw [show Tryd.prog.cellsOf 23 = 1 by kernel_rfl] at e2
    obtain ⟨x0, K0, g0⟩ := opens_string _ _ _ e0 (by omega)
    obtain ⟨x1, K1, g1⟩ := opens_string _ _ _ e1 (by omega)
    obtain ⟨x2, K2, g2⟩ := (opens_slice ByteArray.empty Tryd.underlying23 (by kernel_rfl) opens_string) _ _ _ e2 (by omega)
    rw [List.take_of_length_le (by rw [List.length_drop]; omega)] at K2
    exact ⟨⟨x0, x1, x2⟩, (pair_K 1 (by simpa only [List.drop_drop, Nat.reduceAdd, List.drop_zero] using K0) (pair_K 1 (by simpa only [List.drop_drop, Nat.reduceAdd, List.drop_zero] using K1) (by simpa only [List.drop_drop, Nat.reduceAdd, List.drop_zero] using K2))), g0, g1, g2⟩
def GCode (x : S27) : Prop := x.f0.size ≤ 1048576 ∧ x.f1.size ≤ 1048576 ∧ x.f2.size ≤ 1048576 ∧ x.f3.size ≤ 1048576 ∧ (x.f4.length ≤ 1048576 ∧ ∀ s ∈ x.f4, s.size ≤ 1048576) ∧ x.f5.size ≤ 1048576 ∧ True ∧ True ∧ (Lit.int .i64 x.f8).wf = true
set_option maxHeartbeats 4000000 in
set_option maxRecDepth 100000 in
theorem opens_Code : Opens H enc W 27 k27 GCode := by
  intro fuel cs y h hb
  obtain ⟨xs, n, _, rfl, hl, hlen, hf⟩ := DataW.trod_struct Tryd.underlying27 h
  rw [show Tryd.prog.cellsOf 27 = 9 by kernel_rfl] at hl
  match xs, hlen with
  | [y0, y1, y2, y3, y4, y5, y6, y7, y8], _ =>
    simp only [Rows.uptoBulk, List.map_cons, List.map_nil, Rows.uptoBulkAll] at hb
    have e0 : DataW.trod enc Tryd.prog W 0 (fun _ => true) true n 9 ((cs.drop 0).take (Tryd.prog.cellsOf 9)) = some y0 := hf 0 _ rfl
    rw [show Tryd.prog.cellsOf 9 = 1 by kernel_rfl] at e0
    have e1 : DataW.trod enc Tryd.prog W 0 (fun _ => true) true n 9 ((cs.drop 1).take (Tryd.prog.cellsOf 9)) = some y1 := hf 1 _ rfl
    rw [show Tryd.prog.cellsOf 9 = 1 by kernel_rfl] at e1
    have e2 : DataW.trod enc Tryd.prog W 0 (fun _ => true) true n 9 ((cs.drop 2).take (Tryd.prog.cellsOf 9)) = some y2 := hf 2 _ rfl
    rw [show Tryd.prog.cellsOf 9 = 1 by kernel_rfl] at e2
    have e3 : DataW.trod enc Tryd.prog W 0 (fun _ => true) true n 9 ((cs.drop 3).take (Tryd.prog.cellsOf 9)) = some y3 := hf 3 _ rfl
    rw [show Tryd.prog.cellsOf 9 = 1 by kernel_rfl] at e3
    have e4 : DataW.trod enc Tryd.prog W 0 (fun _ => true) true n 23 ((cs.drop 4).take (Tryd.prog.cellsOf 23)) = some y4 := hf 4 _ rfl
    rw [show Tryd.prog.cellsOf 23 = 1 by kernel_rfl] at e4
    have e5 : DataW.trod enc Tryd.prog W 0 (fun _ => true) true n 9 ((cs.drop 5).take (Tryd.prog.cellsOf 9)) = some y5 := hf 5 _ rfl
    rw [show Tryd.prog.cellsOf 9 = 1 by kernel_rfl] at e5
    have e6 : DataW.trod enc Tryd.prog W 0 (fun _ => true) true n 4 ((cs.drop 6).take (Tryd.prog.cellsOf 4)) = some y6 := hf 6 _ rfl
    rw [show Tryd.prog.cellsOf 4 = 1 by kernel_rfl] at e6
    have e7 : DataW.trod enc Tryd.prog W 0 (fun _ => true) true n 4 ((cs.drop 7).take (Tryd.prog.cellsOf 4)) = some y7 := hf 7 _ rfl
    rw [show Tryd.prog.cellsOf 4 = 1 by kernel_rfl] at e7
    have e8 : DataW.trod enc Tryd.prog W 0 (fun _ => true) true n 2 ((cs.drop 8).take (Tryd.prog.cellsOf 2)) = some y8 := hf 8 _ rfl
    rw [show Tryd.prog.cellsOf 2 = 1 by kernel_rfl] at e8
    obtain ⟨x0, K0, g0⟩ := opens_string _ _ _ e0 (by omega)
    obtain ⟨x1, K1, g1⟩ := opens_string _ _ _ e1 (by omega)
    obtain ⟨x2, K2, g2⟩ := opens_string _ _ _ e2 (by omega)
    obtain ⟨x3, K3, g3⟩ := opens_string _ _ _ e3 (by omega)
    obtain ⟨x4, K4, g4⟩ := (opens_slice ByteArray.empty Tryd.underlying23 (by kernel_rfl) opens_string) _ _ _ e4 (by omega)
    obtain ⟨x5, K5, g5⟩ := opens_string _ _ _ e5 (by omega)
    obtain ⟨x6, K6, g6⟩ := opens_bool _ _ _ e6 (by omega)
    obtain ⟨x7, K7, g7⟩ := opens_bool _ _ _ e7 (by omega)
    obtain ⟨x8, K8, g8⟩ := (opens_int Tryd.underlying2) _ _ _ e8 (by omega)
    rw [List.take_of_length_le (by rw [List.length_drop]; omega)] at K8
    exact ⟨⟨x0, x1, x2, x3, x4, x5, x6, x7, x8⟩, (pair_K 1 (by simpa only [List.drop_drop, Nat.reduceAdd, List.drop_zero] using K0) (pair_K 1 (by simpa only [List.drop_drop, Nat.reduceAdd, List.drop_zero] using K1) (pair_K 1 (by simpa only [List.drop_drop, Nat.reduceAdd, List.drop_zero] using K2) (pair_K 1 (by simpa only [List.drop_drop, Nat.reduceAdd, List.drop_zero] using K3) (pair_K 1 (by simpa only [List.drop_drop, Nat.reduceAdd, List.drop_zero] using K4) (pair_K 1 (by simpa only [List.drop_drop, Nat.reduceAdd, List.drop_zero] using K5) (pair_K 1 (by simpa only [List.drop_drop, Nat.reduceAdd, List.drop_zero] using K6) (pair_K 1 (by simpa only [List.drop_drop, Nat.reduceAdd, List.drop_zero] using K7) (by simpa only [List.drop_drop, Nat.reduceAdd, List.drop_zero] using K8))))))))), g0, g1, g2, g3, g4, g5, g6, g7, g8⟩
def GFamily (x : S29) : Prop := x.f0.size ≤ 1048576 ∧ x.f1.size ≤ 1048576 ∧ x.f2.size ≤ 1048576 ∧ (x.f3.length ≤ 1048576 ∧ ∀ s ∈ x.f3, s.size ≤ 1048576) ∧ (Lit.int .i64 x.f4).wf = true ∧ (Lit.int .i64 x.f5).wf = true ∧ True
set_option maxHeartbeats 4000000 in
set_option maxRecDepth 100000 in
theorem opens_Family : Opens H enc W 29 k29 GFamily := by
  intro fuel cs y h hb
  obtain ⟨xs, n, _, rfl, hl, hlen, hf⟩ := DataW.trod_struct Tryd.underlying29 h
  rw [show Tryd.prog.cellsOf 29 = 7 by kernel_rfl] at hl
  match xs, hlen with
  | [y0, y1, y2, y3, y4, y5, y6], _ =>
    simp only [Rows.uptoBulk, List.map_cons, List.map_nil, Rows.uptoBulkAll] at hb
    have e0 : DataW.trod enc Tryd.prog W 0 (fun _ => true) true n 9 ((cs.drop 0).take (Tryd.prog.cellsOf 9)) = some y0 := hf 0 _ rfl
    rw [show Tryd.prog.cellsOf 9 = 1 by kernel_rfl] at e0
    have e1 : DataW.trod enc Tryd.prog W 0 (fun _ => true) true n 9 ((cs.drop 1).take (Tryd.prog.cellsOf 9)) = some y1 := hf 1 _ rfl
    rw [show Tryd.prog.cellsOf 9 = 1 by kernel_rfl] at e1
    have e2 : DataW.trod enc Tryd.prog W 0 (fun _ => true) true n 9 ((cs.drop 2).take (Tryd.prog.cellsOf 9)) = some y2 := hf 2 _ rfl
    rw [show Tryd.prog.cellsOf 9 = 1 by kernel_rfl] at e2
    have e3 : DataW.trod enc Tryd.prog W 0 (fun _ => true) true n 23 ((cs.drop 3).take (Tryd.prog.cellsOf 23)) = some y3 := hf 3 _ rfl
    rw [show Tryd.prog.cellsOf 23 = 1 by kernel_rfl] at e3
    have e4 : DataW.trod enc Tryd.prog W 0 (fun _ => true) true n 2 ((cs.drop 4).take (Tryd.prog.cellsOf 2)) = some y4 := hf 4 _ rfl
    rw [show Tryd.prog.cellsOf 2 = 1 by kernel_rfl] at e4
    have e5 : DataW.trod enc Tryd.prog W 0 (fun _ => true) true n 2 ((cs.drop 5).take (Tryd.prog.cellsOf 2)) = some y5 := hf 5 _ rfl
    rw [show Tryd.prog.cellsOf 2 = 1 by kernel_rfl] at e5
    have e6 : DataW.trod enc Tryd.prog W 0 (fun _ => true) true n 4 ((cs.drop 6).take (Tryd.prog.cellsOf 4)) = some y6 := hf 6 _ rfl
    rw [show Tryd.prog.cellsOf 4 = 1 by kernel_rfl] at e6
    obtain ⟨x0, K0, g0⟩ := opens_string _ _ _ e0 (by omega)
    obtain ⟨x1, K1, g1⟩ := opens_string _ _ _ e1 (by omega)
    obtain ⟨x2, K2, g2⟩ := opens_string _ _ _ e2 (by omega)
    obtain ⟨x3, K3, g3⟩ := (opens_slice ByteArray.empty Tryd.underlying23 (by kernel_rfl) opens_string) _ _ _ e3 (by omega)
    obtain ⟨x4, K4, g4⟩ := (opens_int Tryd.underlying2) _ _ _ e4 (by omega)
    obtain ⟨x5, K5, g5⟩ := (opens_int Tryd.underlying2) _ _ _ e5 (by omega)
    obtain ⟨x6, K6, g6⟩ := opens_bool _ _ _ e6 (by omega)
    rw [List.take_of_length_le (by rw [List.length_drop]; omega)] at K6
    exact ⟨⟨x0, x1, x2, x3, x4, x5, x6⟩, (pair_K 1 (by simpa only [List.drop_drop, Nat.reduceAdd, List.drop_zero] using K0) (pair_K 1 (by simpa only [List.drop_drop, Nat.reduceAdd, List.drop_zero] using K1) (pair_K 1 (by simpa only [List.drop_drop, Nat.reduceAdd, List.drop_zero] using K2) (pair_K 1 (by simpa only [List.drop_drop, Nat.reduceAdd, List.drop_zero] using K3) (pair_K 1 (by simpa only [List.drop_drop, Nat.reduceAdd, List.drop_zero] using K4) (pair_K 1 (by simpa only [List.drop_drop, Nat.reduceAdd, List.drop_zero] using K5) (by simpa only [List.drop_drop, Nat.reduceAdd, List.drop_zero] using K6))))))), g0, g1, g2, g3, g4, g5, g6⟩
def GRefresh (x : S31) : Prop := x.f0.size ≤ 1048576 ∧ x.f1.size ≤ 1048576 ∧ (Lit.int .i64 x.f2).wf = true
set_option maxHeartbeats 4000000 in
set_option maxRecDepth 100000 in
theorem opens_Refresh : Opens H enc W 31 k31 GRefresh := by
  intro fuel cs y h hb
  obtain ⟨xs, n, _, rfl, hl, hlen, hf⟩ := DataW.trod_struct Tryd.underlying31 h
  rw [show Tryd.prog.cellsOf 31 = 3 by kernel_rfl] at hl
  match xs, hlen with
  | [y0, y1, y2], _ =>
    simp only [Rows.uptoBulk, List.map_cons, List.map_nil, Rows.uptoBulkAll] at hb
    have e0 : DataW.trod enc Tryd.prog W 0 (fun _ => true) true n 9 ((cs.drop 0).take (Tryd.prog.cellsOf 9)) = some y0 := hf 0 _ rfl
    rw [show Tryd.prog.cellsOf 9 = 1 by kernel_rfl] at e0
    have e1 : DataW.trod enc Tryd.prog W 0 (fun _ => true) true n 9 ((cs.drop 1).take (Tryd.prog.cellsOf 9)) = some y1 := hf 1 _ rfl
    rw [show Tryd.prog.cellsOf 9 = 1 by kernel_rfl] at e1
    have e2 : DataW.trod enc Tryd.prog W 0 (fun _ => true) true n 2 ((cs.drop 2).take (Tryd.prog.cellsOf 2)) = some y2 := hf 2 _ rfl
    rw [show Tryd.prog.cellsOf 2 = 1 by kernel_rfl] at e2
    obtain ⟨x0, K0, g0⟩ := opens_string _ _ _ e0 (by omega)
    obtain ⟨x1, K1, g1⟩ := opens_string _ _ _ e1 (by omega)
    obtain ⟨x2, K2, g2⟩ := (opens_int Tryd.underlying2) _ _ _ e2 (by omega)
    rw [List.take_of_length_le (by rw [List.length_drop]; omega)] at K2
    exact ⟨⟨x0, x1, x2⟩, (pair_K 1 (by simpa only [List.drop_drop, Nat.reduceAdd, List.drop_zero] using K0) (pair_K 1 (by simpa only [List.drop_drop, Nat.reduceAdd, List.drop_zero] using K1) (by simpa only [List.drop_drop, Nat.reduceAdd, List.drop_zero] using K2))), g0, g1, g2⟩
def GAccess (x : S34) : Prop := x.f0.size ≤ 1048576 ∧ x.f1.size ≤ 1048576 ∧ x.f2.size ≤ 1048576 ∧ x.f3.size ≤ 1048576 ∧ x.f4.size ≤ 1048576 ∧ (x.f5.length ≤ 1048576 ∧ ∀ s ∈ x.f5, s.size ≤ 1048576) ∧ (x.f6.length ≤ 1048576 ∧ ∀ s ∈ x.f6, GPerm s) ∧ (Lit.int .i64 x.f7).wf = true ∧ (Lit.int .i64 x.f8).wf = true ∧ True
set_option maxHeartbeats 4000000 in
set_option maxRecDepth 100000 in
theorem opens_Access : Opens H enc W 34 k34 GAccess := by
  intro fuel cs y h hb
  obtain ⟨xs, n, _, rfl, hl, hlen, hf⟩ := DataW.trod_struct Tryd.underlying34 h
  rw [show Tryd.prog.cellsOf 34 = 10 by kernel_rfl] at hl
  match xs, hlen with
  | [y0, y1, y2, y3, y4, y5, y6, y7, y8, y9], _ =>
    simp only [Rows.uptoBulk, List.map_cons, List.map_nil, Rows.uptoBulkAll] at hb
    have e0 : DataW.trod enc Tryd.prog W 0 (fun _ => true) true n 9 ((cs.drop 0).take (Tryd.prog.cellsOf 9)) = some y0 := hf 0 _ rfl
    rw [show Tryd.prog.cellsOf 9 = 1 by kernel_rfl] at e0
    have e1 : DataW.trod enc Tryd.prog W 0 (fun _ => true) true n 9 ((cs.drop 1).take (Tryd.prog.cellsOf 9)) = some y1 := hf 1 _ rfl
    rw [show Tryd.prog.cellsOf 9 = 1 by kernel_rfl] at e1
    have e2 : DataW.trod enc Tryd.prog W 0 (fun _ => true) true n 9 ((cs.drop 2).take (Tryd.prog.cellsOf 9)) = some y2 := hf 2 _ rfl
    rw [show Tryd.prog.cellsOf 9 = 1 by kernel_rfl] at e2
    have e3 : DataW.trod enc Tryd.prog W 0 (fun _ => true) true n 9 ((cs.drop 3).take (Tryd.prog.cellsOf 9)) = some y3 := hf 3 _ rfl
    rw [show Tryd.prog.cellsOf 9 = 1 by kernel_rfl] at e3
    have e4 : DataW.trod enc Tryd.prog W 0 (fun _ => true) true n 9 ((cs.drop 4).take (Tryd.prog.cellsOf 9)) = some y4 := hf 4 _ rfl
    rw [show Tryd.prog.cellsOf 9 = 1 by kernel_rfl] at e4
    have e5 : DataW.trod enc Tryd.prog W 0 (fun _ => true) true n 23 ((cs.drop 5).take (Tryd.prog.cellsOf 23)) = some y5 := hf 5 _ rfl
    rw [show Tryd.prog.cellsOf 23 = 1 by kernel_rfl] at e5
    have e6 : DataW.trod enc Tryd.prog W 0 (fun _ => true) true n 32 ((cs.drop 6).take (Tryd.prog.cellsOf 32)) = some y6 := hf 6 _ rfl
    rw [show Tryd.prog.cellsOf 32 = 1 by kernel_rfl] at e6
    have e7 : DataW.trod enc Tryd.prog W 0 (fun _ => true) true n 2 ((cs.drop 7).take (Tryd.prog.cellsOf 2)) = some y7 := hf 7 _ rfl
    rw [show Tryd.prog.cellsOf 2 = 1 by kernel_rfl] at e7
    have e8 : DataW.trod enc Tryd.prog W 0 (fun _ => true) true n 2 ((cs.drop 8).take (Tryd.prog.cellsOf 2)) = some y8 := hf 8 _ rfl
    rw [show Tryd.prog.cellsOf 2 = 1 by kernel_rfl] at e8
    have e9 : DataW.trod enc Tryd.prog W 0 (fun _ => true) true n 4 ((cs.drop 9).take (Tryd.prog.cellsOf 4)) = some y9 := hf 9 _ rfl
    rw [show Tryd.prog.cellsOf 4 = 1 by kernel_rfl] at e9
    obtain ⟨x0, K0, g0⟩ := opens_string _ _ _ e0 (by omega)
    obtain ⟨x1, K1, g1⟩ := opens_string _ _ _ e1 (by omega)
    obtain ⟨x2, K2, g2⟩ := opens_string _ _ _ e2 (by omega)
    obtain ⟨x3, K3, g3⟩ := opens_string _ _ _ e3 (by omega)
    obtain ⟨x4, K4, g4⟩ := opens_string _ _ _ e4 (by omega)
    obtain ⟨x5, K5, g5⟩ := (opens_slice ByteArray.empty Tryd.underlying23 (by kernel_rfl) opens_string) _ _ _ e5 (by omega)
    obtain ⟨x6, K6, g6⟩ := (opens_slice z86 Tryd.underlying32 (by kernel_rfl) opens_Perm) _ _ _ e6 (by omega)
    obtain ⟨x7, K7, g7⟩ := (opens_int Tryd.underlying2) _ _ _ e7 (by omega)
    obtain ⟨x8, K8, g8⟩ := (opens_int Tryd.underlying2) _ _ _ e8 (by omega)
    obtain ⟨x9, K9, g9⟩ := opens_bool _ _ _ e9 (by omega)
    rw [List.take_of_length_le (by rw [List.length_drop]; omega)] at K9
    exact ⟨⟨x0, x1, x2, x3, x4, x5, x6, x7, x8, x9⟩, (pair_K 1 (by simpa only [List.drop_drop, Nat.reduceAdd, List.drop_zero] using K0) (pair_K 1 (by simpa only [List.drop_drop, Nat.reduceAdd, List.drop_zero] using K1) (pair_K 1 (by simpa only [List.drop_drop, Nat.reduceAdd, List.drop_zero] using K2) (pair_K 1 (by simpa only [List.drop_drop, Nat.reduceAdd, List.drop_zero] using K3) (pair_K 1 (by simpa only [List.drop_drop, Nat.reduceAdd, List.drop_zero] using K4) (pair_K 1 (by simpa only [List.drop_drop, Nat.reduceAdd, List.drop_zero] using K5) (pair_K 1 (by simpa only [List.drop_drop, Nat.reduceAdd, List.drop_zero] using K6) (pair_K 1 (by simpa only [List.drop_drop, Nat.reduceAdd, List.drop_zero] using K7) (pair_K 1 (by simpa only [List.drop_drop, Nat.reduceAdd, List.drop_zero] using K8) (by simpa only [List.drop_drop, Nat.reduceAdd, List.drop_zero] using K9)))))))))), g0, g1, g2, g3, g4, g5, g6, g7, g8, g9⟩
def GResource (x : S36) : Prop := x.f0.size ≤ 1048576 ∧ x.f1.size ≤ 1048576 ∧ x.f2.size ≤ 1048576 ∧ x.f3.size ≤ 1048576 ∧ (x.f4.length ≤ 1048576 ∧ ∀ s ∈ x.f4, s.size ≤ 1048576) ∧ x.f5.size ≤ 1048576
set_option maxHeartbeats 4000000 in
set_option maxRecDepth 100000 in
theorem opens_Resource : Opens H enc W 36 k36 GResource := by
  intro fuel cs y h hb
  obtain ⟨xs, n, _, rfl, hl, hlen, hf⟩ := DataW.trod_struct Tryd.underlying36 h
  rw [show Tryd.prog.cellsOf 36 = 6 by kernel_rfl] at hl
  match xs, hlen with
  | [y0, y1, y2, y3, y4, y5], _ =>
    simp only [Rows.uptoBulk, List.map_cons, List.map_nil, Rows.uptoBulkAll] at hb
    have e0 : DataW.trod enc Tryd.prog W 0 (fun _ => true) true n 9 ((cs.drop 0).take (Tryd.prog.cellsOf 9)) = some y0 := hf 0 _ rfl
    rw [show Tryd.prog.cellsOf 9 = 1 by kernel_rfl] at e0
    have e1 : DataW.trod enc Tryd.prog W 0 (fun _ => true) true n 9 ((cs.drop 1).take (Tryd.prog.cellsOf 9)) = some y1 := hf 1 _ rfl
    rw [show Tryd.prog.cellsOf 9 = 1 by kernel_rfl] at e1
    have e2 : DataW.trod enc Tryd.prog W 0 (fun _ => true) true n 9 ((cs.drop 2).take (Tryd.prog.cellsOf 9)) = some y2 := hf 2 _ rfl
    rw [show Tryd.prog.cellsOf 9 = 1 by kernel_rfl] at e2
    have e3 : DataW.trod enc Tryd.prog W 0 (fun _ => true) true n 9 ((cs.drop 3).take (Tryd.prog.cellsOf 9)) = some y3 := hf 3 _ rfl
    rw [show Tryd.prog.cellsOf 9 = 1 by kernel_rfl] at e3
    have e4 : DataW.trod enc Tryd.prog W 0 (fun _ => true) true n 23 ((cs.drop 4).take (Tryd.prog.cellsOf 23)) = some y4 := hf 4 _ rfl
    rw [show Tryd.prog.cellsOf 23 = 1 by kernel_rfl] at e4
    have e5 : DataW.trod enc Tryd.prog W 0 (fun _ => true) true n 9 ((cs.drop 5).take (Tryd.prog.cellsOf 9)) = some y5 := hf 5 _ rfl
    rw [show Tryd.prog.cellsOf 9 = 1 by kernel_rfl] at e5
    obtain ⟨x0, K0, g0⟩ := opens_string _ _ _ e0 (by omega)
    obtain ⟨x1, K1, g1⟩ := opens_string _ _ _ e1 (by omega)
    obtain ⟨x2, K2, g2⟩ := opens_string _ _ _ e2 (by omega)
    obtain ⟨x3, K3, g3⟩ := opens_string _ _ _ e3 (by omega)
    obtain ⟨x4, K4, g4⟩ := (opens_slice ByteArray.empty Tryd.underlying23 (by kernel_rfl) opens_string) _ _ _ e4 (by omega)
    obtain ⟨x5, K5, g5⟩ := opens_string _ _ _ e5 (by omega)
    rw [List.take_of_length_le (by rw [List.length_drop]; omega)] at K5
    exact ⟨⟨x0, x1, x2, x3, x4, x5⟩, (pair_K 1 (by simpa only [List.drop_drop, Nat.reduceAdd, List.drop_zero] using K0) (pair_K 1 (by simpa only [List.drop_drop, Nat.reduceAdd, List.drop_zero] using K1) (pair_K 1 (by simpa only [List.drop_drop, Nat.reduceAdd, List.drop_zero] using K2) (pair_K 1 (by simpa only [List.drop_drop, Nat.reduceAdd, List.drop_zero] using K3) (pair_K 1 (by simpa only [List.drop_drop, Nat.reduceAdd, List.drop_zero] using K4) (by simpa only [List.drop_drop, Nat.reduceAdd, List.drop_zero] using K5)))))), g0, g1, g2, g3, g4, g5⟩
def GTicket (x : S38) : Prop := x.f0.size ≤ 1048576 ∧ x.f1.size ≤ 1048576 ∧ (x.f2.length ≤ 1048576 ∧ ∀ s ∈ x.f2, GPerm s) ∧ x.f3.size ≤ 1048576 ∧ (Lit.int .i64 x.f4).wf = true ∧ True
set_option maxHeartbeats 4000000 in
set_option maxRecDepth 100000 in
theorem opens_Ticket : Opens H enc W 38 k38 GTicket := by
  intro fuel cs y h hb
  obtain ⟨xs, n, _, rfl, hl, hlen, hf⟩ := DataW.trod_struct Tryd.underlying38 h
  rw [show Tryd.prog.cellsOf 38 = 6 by kernel_rfl] at hl
  match xs, hlen with
  | [y0, y1, y2, y3, y4, y5], _ =>
    simp only [Rows.uptoBulk, List.map_cons, List.map_nil, Rows.uptoBulkAll] at hb
    have e0 : DataW.trod enc Tryd.prog W 0 (fun _ => true) true n 9 ((cs.drop 0).take (Tryd.prog.cellsOf 9)) = some y0 := hf 0 _ rfl
    rw [show Tryd.prog.cellsOf 9 = 1 by kernel_rfl] at e0
    have e1 : DataW.trod enc Tryd.prog W 0 (fun _ => true) true n 9 ((cs.drop 1).take (Tryd.prog.cellsOf 9)) = some y1 := hf 1 _ rfl
    rw [show Tryd.prog.cellsOf 9 = 1 by kernel_rfl] at e1
    have e2 : DataW.trod enc Tryd.prog W 0 (fun _ => true) true n 32 ((cs.drop 2).take (Tryd.prog.cellsOf 32)) = some y2 := hf 2 _ rfl
    rw [show Tryd.prog.cellsOf 32 = 1 by kernel_rfl] at e2
    have e3 : DataW.trod enc Tryd.prog W 0 (fun _ => true) true n 9 ((cs.drop 3).take (Tryd.prog.cellsOf 9)) = some y3 := hf 3 _ rfl
    rw [show Tryd.prog.cellsOf 9 = 1 by kernel_rfl] at e3
    have e4 : DataW.trod enc Tryd.prog W 0 (fun _ => true) true n 2 ((cs.drop 4).take (Tryd.prog.cellsOf 2)) = some y4 := hf 4 _ rfl
    rw [show Tryd.prog.cellsOf 2 = 1 by kernel_rfl] at e4
    have e5 : DataW.trod enc Tryd.prog W 0 (fun _ => true) true n 4 ((cs.drop 5).take (Tryd.prog.cellsOf 4)) = some y5 := hf 5 _ rfl
    rw [show Tryd.prog.cellsOf 4 = 1 by kernel_rfl] at e5
    obtain ⟨x0, K0, g0⟩ := opens_string _ _ _ e0 (by omega)
    obtain ⟨x1, K1, g1⟩ := opens_string _ _ _ e1 (by omega)
    obtain ⟨x2, K2, g2⟩ := (opens_slice z86 Tryd.underlying32 (by kernel_rfl) opens_Perm) _ _ _ e2 (by omega)
    obtain ⟨x3, K3, g3⟩ := opens_string _ _ _ e3 (by omega)
    obtain ⟨x4, K4, g4⟩ := (opens_int Tryd.underlying2) _ _ _ e4 (by omega)
    obtain ⟨x5, K5, g5⟩ := opens_bool _ _ _ e5 (by omega)
    rw [List.take_of_length_le (by rw [List.length_drop]; omega)] at K5
    exact ⟨⟨x0, x1, x2, x3, x4, x5⟩, (pair_K 1 (by simpa only [List.drop_drop, Nat.reduceAdd, List.drop_zero] using K0) (pair_K 1 (by simpa only [List.drop_drop, Nat.reduceAdd, List.drop_zero] using K1) (pair_K 1 (by simpa only [List.drop_drop, Nat.reduceAdd, List.drop_zero] using K2) (pair_K 1 (by simpa only [List.drop_drop, Nat.reduceAdd, List.drop_zero] using K3) (pair_K 1 (by simpa only [List.drop_drop, Nat.reduceAdd, List.drop_zero] using K4) (by simpa only [List.drop_drop, Nat.reduceAdd, List.drop_zero] using K5)))))), g0, g1, g2, g3, g4, g5⟩
def GRow (x : S41) : Prop := (Lit.int .i64 x.f0).wf = true ∧ GConsent x.f1 ∧ GCode x.f2 ∧ GFamily x.f3 ∧ GRefresh x.f4 ∧ GAccess x.f5 ∧ GResource x.f6 ∧ GTicket x.f7 ∧ (x.f8.length ≤ 1048576 ∧ ∀ s ∈ x.f8, GKey s)
set_option maxHeartbeats 4000000 in
set_option maxRecDepth 100000 in
theorem opens_Row : Opens H enc W 41 k41 GRow := by
  intro fuel cs y h hb
  obtain ⟨xs, n, _, rfl, hl, hlen, hf⟩ := DataW.trod_struct Tryd.underlying41 h
  rw [show Tryd.prog.cellsOf 41 = 46 by kernel_rfl] at hl
  match xs, hlen with
  | [y0, y1, y2, y3, y4, y5, y6, y7, y8], _ =>
    simp only [Rows.uptoBulk, List.map_cons, List.map_nil, Rows.uptoBulkAll] at hb
    have e0 : DataW.trod enc Tryd.prog W 0 (fun _ => true) true n 3 ((cs.drop 0).take (Tryd.prog.cellsOf 3)) = some y0 := hf 0 _ rfl
    rw [show Tryd.prog.cellsOf 3 = 1 by kernel_rfl] at e0
    have e1 : DataW.trod enc Tryd.prog W 0 (fun _ => true) true n 25 ((cs.drop 1).take (Tryd.prog.cellsOf 25)) = some y1 := hf 1 _ rfl
    rw [show Tryd.prog.cellsOf 25 = 3 by kernel_rfl] at e1
    have e2 : DataW.trod enc Tryd.prog W 0 (fun _ => true) true n 27 ((cs.drop 4).take (Tryd.prog.cellsOf 27)) = some y2 := hf 2 _ rfl
    rw [show Tryd.prog.cellsOf 27 = 9 by kernel_rfl] at e2
    have e3 : DataW.trod enc Tryd.prog W 0 (fun _ => true) true n 29 ((cs.drop 13).take (Tryd.prog.cellsOf 29)) = some y3 := hf 3 _ rfl
    rw [show Tryd.prog.cellsOf 29 = 7 by kernel_rfl] at e3
    have e4 : DataW.trod enc Tryd.prog W 0 (fun _ => true) true n 31 ((cs.drop 20).take (Tryd.prog.cellsOf 31)) = some y4 := hf 4 _ rfl
    rw [show Tryd.prog.cellsOf 31 = 3 by kernel_rfl] at e4
    have e5 : DataW.trod enc Tryd.prog W 0 (fun _ => true) true n 34 ((cs.drop 23).take (Tryd.prog.cellsOf 34)) = some y5 := hf 5 _ rfl
    rw [show Tryd.prog.cellsOf 34 = 10 by kernel_rfl] at e5
    have e6 : DataW.trod enc Tryd.prog W 0 (fun _ => true) true n 36 ((cs.drop 33).take (Tryd.prog.cellsOf 36)) = some y6 := hf 6 _ rfl
    rw [show Tryd.prog.cellsOf 36 = 6 by kernel_rfl] at e6
    have e7 : DataW.trod enc Tryd.prog W 0 (fun _ => true) true n 38 ((cs.drop 39).take (Tryd.prog.cellsOf 38)) = some y7 := hf 7 _ rfl
    rw [show Tryd.prog.cellsOf 38 = 6 by kernel_rfl] at e7
    have e8 : DataW.trod enc Tryd.prog W 0 (fun _ => true) true n 39 ((cs.drop 45).take (Tryd.prog.cellsOf 39)) = some y8 := hf 8 _ rfl
    rw [show Tryd.prog.cellsOf 39 = 1 by kernel_rfl] at e8
    obtain ⟨x0, K0, g0⟩ := (opens_int Tryd.underlying3) _ _ _ e0 (by omega)
    obtain ⟨x1, K1, g1⟩ := opens_Consent _ _ _ e1 (by omega)
    obtain ⟨x2, K2, g2⟩ := opens_Code _ _ _ e2 (by omega)
    obtain ⟨x3, K3, g3⟩ := opens_Family _ _ _ e3 (by omega)
    obtain ⟨x4, K4, g4⟩ := opens_Refresh _ _ _ e4 (by omega)
    obtain ⟨x5, K5, g5⟩ := opens_Access _ _ _ e5 (by omega)
    obtain ⟨x6, K6, g6⟩ := opens_Resource _ _ _ e6 (by omega)
    obtain ⟨x7, K7, g7⟩ := opens_Ticket _ _ _ e7 (by omega)
    obtain ⟨x8, K8, g8⟩ := (opens_slice z117 Tryd.underlying39 (by kernel_rfl) opens_Key) _ _ _ e8 (by omega)
    rw [List.take_of_length_le (by rw [List.length_drop]; omega)] at K8
    exact ⟨⟨x0, x1, x2, x3, x4, x5, x6, x7, x8⟩, (pair_K 1 (by simpa only [List.drop_drop, Nat.reduceAdd, List.drop_zero] using K0) (pair_K 3 (by simpa only [List.drop_drop, Nat.reduceAdd, List.drop_zero] using K1) (pair_K 9 (by simpa only [List.drop_drop, Nat.reduceAdd, List.drop_zero] using K2) (pair_K 7 (by simpa only [List.drop_drop, Nat.reduceAdd, List.drop_zero] using K3) (pair_K 3 (by simpa only [List.drop_drop, Nat.reduceAdd, List.drop_zero] using K4) (pair_K 10 (by simpa only [List.drop_drop, Nat.reduceAdd, List.drop_zero] using K5) (pair_K 6 (by simpa only [List.drop_drop, Nat.reduceAdd, List.drop_zero] using K6) (pair_K 6 (by simpa only [List.drop_drop, Nat.reduceAdd, List.drop_zero] using K7) (by simpa only [List.drop_drop, Nat.reduceAdd, List.drop_zero] using K8))))))))), g0, g1, g2, g3, g4, g5, g6, g7, g8⟩
end
end Go.Proofs.YtcgjacffemjehaaDoor

namespace Go.Proofs.YtcgjacffemjehaaDoor
open Go.RowKit
open Go.Proofs.YtcgjacffemjehaaDoorW.PrintWords (Kd)
open Go.Proofs.YtcgjacffemjehaaDoor.PRowReads
set_option linter.unusedVariables false
theorem i64_of {n : Int} (h : (Lit.int .i64 n).wf = true) : I64 n := by
  have := bounds_i64 h
  exact this
theorem small_of (x : S41) (g : GRow x) : Small x := by
  obtain ⟨_, ⟨a0, a1, a2⟩, ⟨b0, b1, b2, b3, b4, b5, _, _, b8⟩, ⟨c0, c1, c2, c3, c4, c5, _⟩, ⟨d0, d1, d2⟩, ⟨e0, e1, e2, e3, e4, e5, e6, e7, e8, _⟩, ⟨f0, f1, f2, f3, f4, f5⟩, ⟨g0, g1, g2, g3, g4, _⟩, h8⟩ := g
  exact ⟨⟨a0, a1, a2⟩, ⟨b0, b1, b2, b3, b4, b5, i64_of b8⟩, ⟨c0, c1, c2, c3, i64_of c4, i64_of c5⟩, ⟨d0, d1, i64_of d2⟩, ⟨e0, e1, e2, e3, e4, e5, e6, i64_of e7, i64_of e8⟩, ⟨f0, f1, f2, f3, f4, f5⟩, ⟨g0, g1, g2, g3, i64_of g4⟩, h8⟩
end Go.Proofs.YtcgjacffemjehaaDoor
