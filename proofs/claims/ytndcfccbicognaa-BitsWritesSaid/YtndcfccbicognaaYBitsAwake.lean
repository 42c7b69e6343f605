/- The law's first lines (awake): what they come to. It has no conditions. -/
import Derived.Test.YtndcfccbicognaaYBits
namespace Go.Proofs.Ytndcfccbicognaa.XBitsReads
set_option linter.unusedVariables false
set_option linter.unusedSimpArgs false
open Go.RowKit Go.Proofs.YtndcfccbicognaaW.PrintWords Go.Proofs.YtndcfccbicognaaW.PrintLast Go.Proofs.YtndcfccbicognaaW.PrintMore
attribute [local go_sem] max2_int min2_int max_two min_two max_three min_three max_four min_four
set_option maxHeartbeats 1600000 in
set_option maxRecDepth 100000 in
theorem awake_bits (w : World) : Calls Try.prog 13 #[] w fun e w' => e = .returned (.bool true) ∧ Below w.heap.size w w' := by
  go_enter Try.func13, Try.ntmps13
  go_wp2_with fail
  refine (new_walk w w (Below.refl _ _)).mono ?_
  rintro e w1 ⟨g1, rfl, hI, _, hb⟩
  have I1 := Aside0.mk hI
  have B1 := Aside0.mk hb
  clear hI hb
  go_wp2_with fail
  refine (put_walk g1 (.slice none 0 0) [] 0 0 5 3 3 5 w w1 I1.out B1.out (by omega) (by omega) (by decide) (by decide +kernel) (by omega) (by omega) (by omega) (by omega) (by decide)).mono ?_
  rintro e w2 ⟨rfl, v2, hI, hb, _, _⟩
  have I2 := Aside0.mk (show IsW w w2 g1 v2 [] 5 3 from hI)
  have B2 := Aside0.mk hb
  clear hI hb I1 B1
  go_wp2_with fail
  refine (put_walk g1 v2 [] 5 3 1 1 1 13 w w2 I2.out B2.out (by omega) (by omega) (by decide) (by decide +kernel) (by omega) (by omega) (by omega) (by omega) (by decide)).mono ?_
  rintro e w3 ⟨rfl, v3, hI, hb, _, _⟩
  have I3 := Aside0.mk (show IsW w w3 g1 v3 [] 13 4 from hI)
  have B3 := Aside0.mk hb
  clear hI hb I2 B2
  go_wp2_with fail
  refine (bits_NewReader.calls ⟨#[13]⟩ ⟨#[13]⟩ 0 false w w3 B3.out rfl).mono ?_
  rintro e w4 ⟨g2, rfl, hR, hb, hb2⟩
  have R4 := Aside0.mk hR
  have B4 := Aside0.mk hb
  have I4 := Aside0.mk (I3.out.below hb2)
  clear hR hb hb2 I3 B3
  go_wp2_with fail
  refine (show Calls Try.prog 17 #[.pointer (some ⟨g1, 0, none⟩)] w4 fun e w' => e = .returned (.string ⟨#[13]⟩) ∧ Below w4.heap.size w4 w' from text_walk g1 v3 [] 13 4 w w4 I4.out (by omega) (by omega) (by omega) (by omega) (by decide)).mono ?_
  rintro e w5 ⟨rfl, hb⟩
  have R5 := Aside0.mk (R4.out.below hb)
  have I5 := Aside0.mk (I4.out.below hb)
  have B5 := Aside0.mk (below_step B4.out hb)
  clear hb R4 I4 B4
  go_wp2_with fail
  refine (len_walk g1 v3 [] 13 4 w w5 I5.out (by omega) (by omega) (by decide)).mono ?_
  rintro e w6 ⟨rfl, m, rfl⟩
  have R6 := Aside0.mk (R5.out.drewN m)
  have B6 := Aside0.mk (pw_below_drewN B5.out m)
  clear R5 I5 B5
  go_wp2_with fail
  refine (bits_Reader_Bits.calls 12 g2 ⟨#[13]⟩ 0 false 3 5 ⟨#[13]⟩ 3 false w _ R6.out B6.out (by decide +kernel)).mono ?_
  rintro e w7 ⟨rfl, hR, hb, _⟩
  have R7 := Aside0.mk hR
  have B7 := Aside0.mk hb
  clear hR hb R6 B6
  go_wp2_with fail
  refine (bits_Reader_Bits.calls 12 g2 ⟨#[13]⟩ 3 false 1 1 ⟨#[13]⟩ 4 false w _ R7.out B7.out (by decide +kernel)).mono ?_
  rintro e w8 ⟨rfl, hR, hb, _⟩
  have R8 := Aside0.mk hR
  have B8 := Aside0.mk hb
  clear hR hb R7 B7
  go_wp2_with fail
  refine (bits_Reader_At.calls g2 ⟨#[13]⟩ 4 false 4 ⟨#[13]⟩ 4 false w _ R8.out B8.out (by decide +kernel)).mono ?_
  rintro e w9 ⟨rfl, hR, hb, _⟩
  have R9 := Aside0.mk hR
  have B9 := Aside0.mk hb
  clear hR hb R8 B8
  go_wp2_with fail
  refine (bits_Reader_Left.calls g2 ⟨#[13]⟩ 4 false 4 ⟨#[13]⟩ 4 false w _ R9.out B9.out (by decide +kernel)).mono ?_
  rintro e w10 ⟨rfl, hR, hb, _⟩
  have R10 := Aside0.mk hR
  have B10 := Aside0.mk hb
  clear hR hb R9 B9
  go_wp2_with fail
  refine (bits_Reader_Err.calls g2 ⟨#[13]⟩ 4 false 0 ⟨#[13]⟩ 4 false w _ R10.out B10.out (by decide +kernel)).mono ?_
  rintro e w11 ⟨rfl, hR, hb, _⟩
  have R11 := Aside0.mk hR
  have B11 := Aside0.mk hb
  clear hR hb R10 B10
  go_wp2_with fail
  refine (bits_Reader_Bits.calls 12 g2 ⟨#[13]⟩ 4 false 5 0 ⟨#[13]⟩ 4 true w _ R11.out B11.out (by decide +kernel)).mono ?_
  rintro e w12 ⟨rfl, hR, hb, _⟩
  have R12 := Aside0.mk hR
  have B12 := Aside0.mk hb
  clear hR hb R11 B11
  go_wp2_with fail
  refine (bits_Reader_Err.calls g2 ⟨#[13]⟩ 4 true 3 ⟨#[13]⟩ 4 true w _ R12.out B12.out (by decide +kernel)).mono ?_
  rintro e w13 ⟨rfl, hR, hb, _⟩
  have R13 := Aside0.mk hR
  have B13 := Aside0.mk hb
  clear hR hb R12 B12
  go_wp2
  go_ret
  exact ⟨rfl, B13.out⟩
end Go.Proofs.Ytndcfccbicognaa.XBitsReads
