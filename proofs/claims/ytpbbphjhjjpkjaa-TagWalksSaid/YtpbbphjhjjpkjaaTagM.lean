/- Chapter 5's rows: tags. -/
import Derived.Test.YtpbbphjhjjpkjaaTagL
set_option linter.unusedVariables false
namespace Go.Proofs.Ytpbbphjhjjpkjaa
open Go.RowKit
set_option maxRecDepth 100000
def abcS : ByteArray := ⟨#[97, 98, 99, 100, 101, 102, 103, 104, 105, 106, 107, 108, 109, 110, 111, 112]⟩
def textS : ByteArray := ⟨#[97, 110, 121, 32, 116, 101, 120, 116]⟩
theorem tags_one : tagB (manyB 0 16 ++ abcS) textS = abcS := by decide +kernel
theorem tags_two : stepR (rowN 0) (rowN 1) (bytesN ⟨#[97]⟩) = rowN 353 := by decide +kernel
def clamped : ByteArray := ⟨#[255, 255, 255, 15, 252, 255, 255, 15, 252, 255, 255, 15, 252, 255, 255, 15]⟩
theorem tags_three : clampB (manyB 255 16) = clamped := by decide +kernel
set_option maxHeartbeats 1000000 in
theorem tags_any (w : World) : Calls Try.prog 6 #[] w fun e w' => e = .returned (.bool true) ∧ Below w.heap.size w w' := by
  have hm0 := fun W : World => many_any 0 16 W (by omega)
  have hm1 := fun W : World => many_any 255 16 W (by omega)
  have ht := fun W : World => tag_any (manyB 0 16 ++ abcS) textS W (by decide +kernel) (by decide +kernel)
  rw [tags_one] at ht
  have hb := fun W : World => tag_bad ⟨#[]⟩ ⟨#[]⟩ W (by decide) (by decide)
  have hc := fun W : World => clamp_b (manyB 255 16) W (by decide +kernel)
  rw [tags_three] at hc
  have hr0 := fun W : World => row_any 0 W (by omega)
  have hr1 := fun W : World => row_any 1 W (by omega)
  have hr3 := fun W : World => row_any 353 W (by omega)
  have H := Lib.hid (And.intro hm0 (And.intro hm1 (And.intro ht (And.intro hb hc))))
  have HR := Lib.hid (And.intro hr0 (And.intro hr1 hr3))
  clear hm0 hm1 ht hb hc hr0 hr1 hr3
  have hz : (manyB 0 16).size ≤ 16 := by rw [manyB_size]; omega
  generalize manyB 0 16 = Z at H hz
  generalize manyB 255 16 = F at H
  unfold abcS textS clamped at H
  go_enter Try.func6, Try.ntmps6
  go_wp2_with fail
  refine (H.out.1 _).mono ?_
  rintro e w1 ⟨rfl, hb1⟩
  go_wp2_with fail
  refine (H.out.2.2.1 _).mono ?_
  rintro e w2 ⟨rfl, hb2⟩
  have hB2 := hb1.trans (hb2.mono hb1.size)
  have hs2 := hB2.size
  clear hb1 hb2
  go_wp2_with fail
  refine (HR.out.1 _).mono ?_
  rintro e w3 ⟨rfl, hR3, hb3, hz3⟩
  have hB3 := hB2.trans (hb3.mono hs2)
  have hs3 := hB3.size
  clear hb3
  go_wp2_with fail
  refine (HR.out.2.1 _).mono ?_
  rintro e w4 ⟨rfl, hR4, hb4, hz4⟩
  have hX4 := hR3.below hb4 (by omega)
  have hB4 := hB3.trans (hb4.mono hs3)
  have hs4 := hB4.size
  clear hb4 hR3
  go_wp2_with fail
  rw [hz3] at hR4
  refine (step_good (rowN 0) (rowN 1) (some ⟨w2.heap.size, 0, none⟩) (some ⟨w2.heap.size + 1, 0, none⟩) 17 17 ⟨#[97]⟩ _ (num_slr hX4 (by omega) rfl) (num_slr hR4 (by omega) rfl) (rowN_good 0 (by omega)) (rowN_good 1 (by omega)) (by omega) (by omega) (by omega) (by omega) (by decide) (by decide)).mono ?_
  rintro e w5 ⟨g, rfl, hR5, hg, hb5⟩
  clear hz3 hz4
  rw [tags_two] at hR5
  have hg5 := hR5.lt
  have hB5 := hB4.trans (hb5.mono hs4)
  have hs5 := hB5.size
  have hs45 := hb5.size
  clear hb5 hX4 hR4
  go_wp2_with fail
  refine (H.out.2.2.2.1 _).mono ?_
  rintro e w6 ⟨rfl, rfl⟩
  go_wp2_with fail
  refine (H.out.2.1 _).mono ?_
  rintro e w7 ⟨rfl, hb7⟩
  have hR7 := hR5.below hb7 hg5
  have hg7 := hR7.lt
  have hB7 := hB5.trans (hb7.mono hs5)
  have hs7 := hB7.size
  clear hb7 hR5
  go_wp2_with fail
  refine (H.out.2.2.2.2 _).mono ?_
  rintro e w8 ⟨rfl, hb8⟩
  have hR8 := hR7.below hb8 hg7
  have hg8 := hR8.lt
  have hB8 := hB7.trans (hb8.mono hs7)
  have hs8 := hB8.size
  clear hb8 hR7
  go_wp2_with fail
  refine (HR.out.2.2 _).mono ?_
  rintro e w9 ⟨rfl, hR9, hb9, hz9⟩
  have hX9 := hR8.below hb9 hg8
  have hB9 := hB8.trans (hb9.mono hs8)
  have hs9 := hB9.size
  clear hb9 hR8
  have hC1 := (num_slr (n := 17) hX9 hX9.lt rfl).2
  have hC2 := (num_slr (n := 17) hR9 hR9.lt rfl).2
  obtain ⟨b1, o1, e1, hl1, hD1⟩ := hC1.resolve_left (by omega)
  obtain ⟨b2, o2, e2, hl2, hD2⟩ := hC2.resolve_left (by omega)
  cases e1
  cases e2
  go_wp2_with fail
  refine (ints_same (rowN 353) _ _ _ _ 17 17 17 _ rfl hD1 hD2 hl1 hl2 (by omega)).mono ?_
  rintro e w10 ⟨rfl, hb10⟩
  go_wp2_with fail
  go_ret
  exact ⟨rfl, hB9.trans (hb10.mono hs9)⟩
end Go.Proofs.Ytpbbphjhjjpkjaa
