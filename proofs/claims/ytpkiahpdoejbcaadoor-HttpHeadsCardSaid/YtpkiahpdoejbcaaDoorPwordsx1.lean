-- PRINTED BY print.sh 35421559b90ae4d0a3588c463048766b98c2df88dd9212a6774a882060cdf62d: not written by this session
import Derived.Test.YtpkiahpdoejbcaaDoorPwordsx0
namespace Go.Proofs.YtpkiahpdoejbcaaDoor.Pwords
open Go.RowKit Go.Proofs.YtpkiahpdoejbcaaDoorW.PrintWords Go.Proofs.YtpkiahpdoejbcaaDoorW.PrintLast Go.Proofs.YtpkiahpdoejbcaaDoorW.PrintMore
attribute [local go_sem] max2_int min2_int max_two min_two max_three min_three max_four min_four   -- for this text's walks alone
set_option linter.unusedVariables false
set_option linter.unusedSimpArgs false

/-! ### http_words: function 30 -/
def http_words.f (a0 : Int) : Option (ByteArray) := if a0 = 200 then (some (⟨#[79, 75]⟩ : ByteArray)) else (if a0 = 201 then (some (⟨#[67, 114, 101, 97, 116, 101, 100]⟩ : ByteArray)) else (if a0 = 204 then (some (⟨#[78, 111, 32, 67, 111, 110, 116, 101, 110, 116]⟩ : ByteArray)) else (if a0 = 302 then (some (⟨#[70, 111, 117, 110, 100]⟩ : ByteArray)) else (if a0 = 400 then (some (⟨#[66, 97, 100, 32, 82, 101, 113, 117, 101, 115, 116]⟩ : ByteArray)) else (if a0 = 401 then (some (⟨#[85, 110, 97, 117, 116, 104, 111, 114, 105, 122, 101, 100]⟩ : ByteArray)) else (if a0 = 403 then (some (⟨#[70, 111, 114, 98, 105, 100, 100, 101, 110]⟩ : ByteArray)) else (if a0 = 404 then (some (⟨#[78, 111, 116, 32, 70, 111, 117, 110, 100]⟩ : ByteArray)) else (if a0 = 405 then (some (⟨#[77, 101, 116, 104, 111, 100, 32, 78, 111, 116, 32, 65, 108, 108, 111, 119, 101, 100]⟩ : ByteArray)) else (if a0 = 413 then (some (⟨#[84, 111, 111, 32, 76, 97, 114, 103, 101]⟩ : ByteArray)) else (if a0 = 500 then (some (⟨#[83, 101, 114, 118, 101, 114, 32, 69, 114, 114, 111, 114]⟩ : ByteArray)) else (if a0 = 503 then (some (⟨#[85, 110, 97, 118, 97, 105, 108, 97, 98, 108, 101]⟩ : ByteArray)) else (some (⟨#[]⟩ : ByteArray)))))))))))))
set_option maxHeartbeats 8000000 in
set_option maxRecDepth 100000 in
theorem http_words.calls (a0 : Int) (r : ByteArray) (w : World) (h : http_words.f a0 = some r) :
    Calls Tryd.prog 30 #[.int .i64 a0] w fun e w' => e = .returned (.string r) ∧ Drawn0 w w' := by
  have H : (if a0 = 200 then (some (⟨#[79, 75]⟩ : ByteArray)) else (if a0 = 201 then (some (⟨#[67, 114, 101, 97, 116, 101, 100]⟩ : ByteArray)) else (if a0 = 204 then (some (⟨#[78, 111, 32, 67, 111, 110, 116, 101, 110, 116]⟩ : ByteArray)) else (if a0 = 302 then (some (⟨#[70, 111, 117, 110, 100]⟩ : ByteArray)) else (if a0 = 400 then (some (⟨#[66, 97, 100, 32, 82, 101, 113, 117, 101, 115, 116]⟩ : ByteArray)) else (if a0 = 401 then (some (⟨#[85, 110, 97, 117, 116, 104, 111, 114, 105, 122, 101, 100]⟩ : ByteArray)) else (if a0 = 403 then (some (⟨#[70, 111, 114, 98, 105, 100, 100, 101, 110]⟩ : ByteArray)) else (if a0 = 404 then (some (⟨#[78, 111, 116, 32, 70, 111, 117, 110, 100]⟩ : ByteArray)) else (if a0 = 405 then (some (⟨#[77, 101, 116, 104, 111, 100, 32, 78, 111, 116, 32, 65, 108, 108, 111, 119, 101, 100]⟩ : ByteArray)) else (if a0 = 413 then (some (⟨#[84, 111, 111, 32, 76, 97, 114, 103, 101]⟩ : ByteArray)) else (if a0 = 500 then (some (⟨#[83, 101, 114, 118, 101, 114, 32, 69, 114, 114, 111, 114]⟩ : ByteArray)) else (if a0 = 503 then (some (⟨#[85, 110, 97, 118, 97, 105, 108, 97, 98, 108, 101]⟩ : ByteArray)) else (some (⟨#[]⟩ : ByteArray)))))))))))))) = some r := h
  clear h
  by_cases c2 : a0 = 200
  · rw [if_pos c2] at H
    have c2b0 : (a0 == 200) = true := beq_iff_eq.mpr c2
    have c2b1 : (a0 != 200) = false := bne_eq_false_iff_eq.mpr c2
    clear c2
    obtain rfl := Option.some.inj H
    go_enter Tryd.func30, Tryd.ntmps30
    go_wp2
    go_ret
    exact ⟨by first | rfl | (simp; done) | (simp [*]; done), by repeat (first | exact Drawn0.refl _ | apply Drawn0.step)⟩
  · rw [if_neg c2] at H
    have c2b0 : (a0 == 200) = false := beq_eq_false_iff_ne.mpr c2
    have c2b1 : (a0 != 200) = true := bne_iff_ne.mpr c2
    by_cases c3 : a0 = 201
    · rw [if_pos c3] at H
      have c3b0 : (a0 == 201) = true := beq_iff_eq.mpr c3
      have c3b1 : (a0 != 201) = false := bne_eq_false_iff_eq.mpr c3
      clear c3
      obtain rfl := Option.some.inj H
      go_enter Tryd.func30, Tryd.ntmps30
      go_wp2
      go_ret
      exact ⟨by first | rfl | (simp; done) | (simp [*]; done), by repeat (first | exact Drawn0.refl _ | apply Drawn0.step)⟩
    · rw [if_neg c3] at H
      have c3b0 : (a0 == 201) = false := beq_eq_false_iff_ne.mpr c3
      have c3b1 : (a0 != 201) = true := bne_iff_ne.mpr c3
      by_cases c4 : a0 = 204
      · rw [if_pos c4] at H
        have c4b0 : (a0 == 204) = true := beq_iff_eq.mpr c4
        have c4b1 : (a0 != 204) = false := bne_eq_false_iff_eq.mpr c4
        clear c4
        obtain rfl := Option.some.inj H
        go_enter Tryd.func30, Tryd.ntmps30
        go_wp2
        go_ret
        exact ⟨by first | rfl | (simp; done) | (simp [*]; done), by repeat (first | exact Drawn0.refl _ | apply Drawn0.step)⟩
      · rw [if_neg c4] at H
        have c4b0 : (a0 == 204) = false := beq_eq_false_iff_ne.mpr c4
        have c4b1 : (a0 != 204) = true := bne_iff_ne.mpr c4
        by_cases c5 : a0 = 302
        · rw [if_pos c5] at H
          have c5b0 : (a0 == 302) = true := beq_iff_eq.mpr c5
          have c5b1 : (a0 != 302) = false := bne_eq_false_iff_eq.mpr c5
          clear c5
          obtain rfl := Option.some.inj H
          go_enter Tryd.func30, Tryd.ntmps30
          go_wp2
          go_ret
          exact ⟨by first | rfl | (simp; done) | (simp [*]; done), by repeat (first | exact Drawn0.refl _ | apply Drawn0.step)⟩
        · rw [if_neg c5] at H
          have c5b0 : (a0 == 302) = false := beq_eq_false_iff_ne.mpr c5
          have c5b1 : (a0 != 302) = true := bne_iff_ne.mpr c5
          by_cases c6 : a0 = 400
          · rw [if_pos c6] at H
            have c6b0 : (a0 == 400) = true := beq_iff_eq.mpr c6
            have c6b1 : (a0 != 400) = false := bne_eq_false_iff_eq.mpr c6
            clear c6
            obtain rfl := Option.some.inj H
            go_enter Tryd.func30, Tryd.ntmps30
            go_wp2
            go_ret
            exact ⟨by first | rfl | (simp; done) | (simp [*]; done), by repeat (first | exact Drawn0.refl _ | apply Drawn0.step)⟩
          · rw [if_neg c6] at H
            have c6b0 : (a0 == 400) = false := beq_eq_false_iff_ne.mpr c6
            have c6b1 : (a0 != 400) = true := bne_iff_ne.mpr c6
            by_cases c7 : a0 = 401
            · rw [if_pos c7] at H
              have c7b0 : (a0 == 401) = true := beq_iff_eq.mpr c7
              have c7b1 : (a0 != 401) = false := bne_eq_false_iff_eq.mpr c7
              clear c7
              obtain rfl := Option.some.inj H
              go_enter Tryd.func30, Tryd.ntmps30
              go_wp2
              go_ret
              exact ⟨by first | rfl | (simp; done) | (simp [*]; done), by repeat (first | exact Drawn0.refl _ | apply Drawn0.step)⟩
            · rw [if_neg c7] at H
              have c7b0 : (a0 == 401) = false := beq_eq_false_iff_ne.mpr c7
              have c7b1 : (a0 != 401) = true := bne_iff_ne.mpr c7
              by_cases c8 : a0 = 403
              · rw [if_pos c8] at H
                have c8b0 : (a0 == 403) = true := beq_iff_eq.mpr c8
                have c8b1 : (a0 != 403) = false := bne_eq_false_iff_eq.mpr c8
                clear c8
                obtain rfl := Option.some.inj H
                go_enter Tryd.func30, Tryd.ntmps30
                go_wp2
                go_ret
                exact ⟨by first | rfl | (simp; done) | (simp [*]; done), by repeat (first | exact Drawn0.refl _ | apply Drawn0.step)⟩
              · rw [if_neg c8] at H
                have c8b0 : (a0 == 403) = false := beq_eq_false_iff_ne.mpr c8
                have c8b1 : (a0 != 403) = true := bne_iff_ne.mpr c8
                by_cases c9 : a0 = 404
                · rw [if_pos c9] at H
                  have c9b0 : (a0 == 404) = true := beq_iff_eq.mpr c9
                  have c9b1 : (a0 != 404) = false := bne_eq_false_iff_eq.mpr c9
                  clear c9
                  obtain rfl := Option.some.inj H
                  go_enter Tryd.func30, Tryd.ntmps30
                  go_wp2
                  go_ret
                  exact ⟨by first | rfl | (simp; done) | (simp [*]; done), by repeat (first | exact Drawn0.refl _ | apply Drawn0.step)⟩
                · rw [if_neg c9] at H
                  have c9b0 : (a0 == 404) = false := beq_eq_false_iff_ne.mpr c9
                  have c9b1 : (a0 != 404) = true := bne_iff_ne.mpr c9
                  by_cases c10 : a0 = 405
                  · rw [if_pos c10] at H
                    have c10b0 : (a0 == 405) = true := beq_iff_eq.mpr c10
                    have c10b1 : (a0 != 405) = false := bne_eq_false_iff_eq.mpr c10
                    clear c10
                    obtain rfl := Option.some.inj H
                    go_enter Tryd.func30, Tryd.ntmps30
                    go_wp2
                    go_ret
                    exact ⟨by first | rfl | (simp; done) | (simp [*]; done), by repeat (first | exact Drawn0.refl _ | apply Drawn0.step)⟩
                  · rw [if_neg c10] at H
                    have c10b0 : (a0 == 405) = false := beq_eq_false_iff_ne.mpr c10
                    have c10b1 : (a0 != 405) = true := bne_iff_ne.mpr c10
                    by_cases c11 : a0 = 413
                    · rw [if_pos c11] at H
                      have c11b0 : (a0 == 413) = true := beq_iff_eq.mpr c11
                      have c11b1 : (a0 != 413) = false := bne_eq_false_iff_eq.mpr c11
                      clear c11
                      obtain rfl := Option.some.inj H
                      go_enter Tryd.func30, Tryd.ntmps30
                      go_wp2
                      go_ret
                      exact ⟨by first | rfl | (simp; done) | (simp [*]; done), by repeat (first | exact Drawn0.refl _ | apply Drawn0.step)⟩
                    · rw [if_neg c11] at H
                      have c11b0 : (a0 == 413) = false := beq_eq_false_iff_ne.mpr c11
                      have c11b1 : (a0 != 413) = true := bne_iff_ne.mpr c11
                      by_cases c12 : a0 = 500
                      · rw [if_pos c12] at H
                        have c12b0 : (a0 == 500) = true := beq_iff_eq.mpr c12
                        have c12b1 : (a0 != 500) = false := bne_eq_false_iff_eq.mpr c12
                        clear c12
                        obtain rfl := Option.some.inj H
                        go_enter Tryd.func30, Tryd.ntmps30
                        go_wp2
                        go_ret
                        exact ⟨by first | rfl | (simp; done) | (simp [*]; done), by repeat (first | exact Drawn0.refl _ | apply Drawn0.step)⟩
                      · rw [if_neg c12] at H
                        have c12b0 : (a0 == 500) = false := beq_eq_false_iff_ne.mpr c12
                        have c12b1 : (a0 != 500) = true := bne_iff_ne.mpr c12
                        by_cases c13 : a0 = 503
                        · rw [if_pos c13] at H
                          have c13b0 : (a0 == 503) = true := beq_iff_eq.mpr c13
                          have c13b1 : (a0 != 503) = false := bne_eq_false_iff_eq.mpr c13
                          clear c13
                          obtain rfl := Option.some.inj H
                          go_enter Tryd.func30, Tryd.ntmps30
                          go_wp2
                          go_ret
                          exact ⟨by first | rfl | (simp; done) | (simp [*]; done), by repeat (first | exact Drawn0.refl _ | apply Drawn0.step)⟩
                        · rw [if_neg c13] at H
                          have c13b0 : (a0 == 503) = false := beq_eq_false_iff_ne.mpr c13
                          have c13b1 : (a0 != 503) = true := bne_iff_ne.mpr c13
                          obtain rfl := Option.some.inj H
                          go_enter Tryd.func30, Tryd.ntmps30
                          go_wp2
                          go_ret
                          exact ⟨by first | rfl | (simp; done) | (simp [*]; done), by repeat (first | exact Drawn0.refl _ | apply Drawn0.step)⟩

end Go.Proofs.YtpkiahpdoejbcaaDoor.Pwords
