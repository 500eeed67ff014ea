/- chapter 13, PlatterLast: the walk. -/
import Derived.Test.YtefodifmfjpnlaaPlatP
set_option linter.unusedVariables false
namespace Go.Proofs.Ytefodifmfjpnlaa
open Go.RowKit
set_option maxHeartbeats 1000000 in
theorem last_walk (p : Plat) (i o : Int) (s : ByteArray) (A A' : Option Addr) (n m c d : Nat) (w : World) (HP : PlatPre w A n A' m p) :
    Calls Try.prog 4 #[.agg #[.slice A n c, .slice A' m d], .int .i64 i, .int .i64 o, .string s] w fun e w' => e = .returned (.bool true) ∧ Below w.heap.size w w' := by
  by_cases hf : farB p s 0 = true
  · go_enter Try.func4, Try.ntmps4
    go_wp2_with fail
    refine (far_any p s none 0 0 A A' n m c d _ (HP.step (by go_grown))).mono ?_
    rintro e w1 ⟨rfl, hb1⟩
    rw [hf]
    go_wp2_with fail
    go_ret
    exact ⟨rfl, Below.trans (by go_grown) (hb1.mono (by simp))⟩
  have hf' : farB p s 0 = false := by simpa using hf
  clear hf
  by_cases hio : i = o
  · subst hio
    go_enter Try.func4, Try.ntmps4
    go_wp2_with fail
    refine (far_any p s none 0 0 A A' n m c d _ (HP.step (by go_grown))).mono ?_
    rintro e w1 ⟨rfl, hb1⟩
    rw [hf']
    go_wp2_with fail
    go_ret
    exact ⟨rfl, Below.trans (by go_grown) (hb1.mono (by simp))⟩
  have HB := Lib.hid (fun h : (writeF p i s).2 ≠ 0 => write_bad h)
  have HL := Lib.hid (fun h : (writeF p i s).2 = 0 => last_plain hio h)
  generalize hW : writeF p i s = WR at HB HL
  have HW := Lib.hid hW
  clear hW
  obtain ⟨a, er⟩ := WR
  dsimp only at HB HL
  by_cases her : er = 0
  · subst her
    have HL' := Lib.hid (HL.out rfl)
    clear HB HL
    have hla : a.cache.length = a.cache.length := rfl
    generalize hsy : syncF a = SR at HL'
    have HS := Lib.hid hsy
    clear hsy hla
    obtain ⟨b, es⟩ := SR
    go_enter Try.func4, Try.ntmps4
    go_wp2_with fail
    refine (far_any p s none 0 0 A A' n m c d _ (HP.step (by go_grown))).mono ?_
    rintro e w1 ⟨rfl, hb1⟩
    rw [hf']
    have hX := (Blk.new w _ _).below hb1 (by simp)
    have hB1 : Below w.heap.size w w1 := Below.trans (by go_grown) (hb1.mono (by simp))
    have HP1 := HP.on hB1
    have hz1 := hb1.size
    simp only [World.size_alloc] at hz1
    have x0 := hX.cells 0 _ rfl
    have x1 := hX.cells 1 _ rfl
    have hxl := hX.lt
    simp only [List.getElem_toArray, List.getElem_cons_zero, List.getElem_cons_succ] at x0 x1
    clear hb1
    go_wp2_with fail
    refine (write_any p i s A A' n m c d _ (HP1.step (by go_grown))).mono ?_
    rintro e w2 ⟨v, rfl, hO2, hb2⟩
    rw [HW.out] at hO2 ⊢
    obtain ⟨A2, c2, A2', c2', rfl, HP2⟩ := hO2.at_
    have hX2 := hX.below hb2 hX.lt
    have hB2 : Below w.heap.size w w2 := hB1.trans (hb2.mono hB1.size)
    have HP12 := HP1.on hb2
    have hz2 := hb2.size
    clear hO2 hb2 hB1 HP1 hX x0 x1 hxl
    generalize hla : a.sectors.length = la at *
    generalize hka : a.cache.length = ka at *
    clear hla hka
    go_wp2_with fail
    refine (sync_any a A2 A2' la ka c2 c2' _ (HP2.step (by go_grown))).mono ?_
    rintro e w3 ⟨v, rfl, hO3, hb3⟩
    rw [HS.out] at hO3 ⊢
    obtain ⟨A3, c3, A3', c3', rfl, HP3⟩ := hO3.at_
    have hX3 := (hX2.alloc _).below hb3 (by have := hX2.lt; simp; omega)
    have hY3 := (Blk.new w2 _ _).below hb3 (by simp)
    have hB3 : Below w.heap.size w w3 := Below.trans (by go_grown; all_goals (have := hB2.size; omega)) (hb3.mono (by have := hB2.size; simp; omega))
    have HP13 := HP12.on (Below.trans (by go_grown) (hb3.mono (by simp)))
    have HP23 := HP2.on (Below.trans (by go_grown) (hb3.mono (by simp)))
    have hz3 := hb3.size
    simp only [World.size_alloc] at hz3
    have y0 := hY3.cells 0 _ rfl
    have y1 := hY3.cells 1 _ rfl
    have hyl := hY3.lt
    simp only [List.getElem_toArray, List.getElem_cons_zero, List.getElem_cons_succ] at y0 y1
    clear hO3 hb3 hB2 HP12 HP2 hX2
    generalize hlb : b.sectors.length = lb at *
    have hkb : b.cache.length = 0 := by rw [HL'.out.2.1]; rfl
    rw [hkb] at HP3
    simp only [hkb]
    clear hlb hkb
    go_wp2_with fail
    refine (read_any a i A2 A2' la ka c2 c2' _ (HP23.step (by go_grown))).mono ?_
    rintro e w4 ⟨rfl, hb4⟩
    have hX4 := (hX3.alloc _).below hb4 (by have := hX3.lt; simp; omega)
    have hZ4 := (Blk.new w3 _ _).below hb4 (by simp)
    have hB4 : Below w.heap.size w w4 := Below.trans (by go_grown; all_goals (have := hB3.size; omega)) (hb4.mono (by have := hB3.size; simp; omega))
    have HP14 := HP13.on (Below.trans (by go_grown) (hb4.mono (by simp)))
    have HP34 := HP3.on (Below.trans (by go_grown) (hb4.mono (by simp)))
    have hz4 := hb4.size
    simp only [World.size_alloc] at hz4
    have z0 := hZ4.cells 0 _ rfl
    have z1 := hZ4.cells 1 _ rfl
    have hzl := hZ4.lt
    simp only [List.getElem_toArray, List.getElem_cons_zero, List.getElem_cons_succ] at z0 z1
    clear hb4 hB3 HP13 HP3 hX3 HP23 hY3 y0 y1 hyl
    go_wp2_with fail
    refine (read_any b i A3 A3' lb 0 c3 c3' _ (HP34.step (by go_grown))).mono ?_
    rintro e w5 ⟨rfl, hb5⟩
    have hX5 := hX4.below hb5 hX4.lt
    have hZ5 := hZ4.below hb5 hZ4.lt
    have hB5 : Below w.heap.size w w5 := hB4.trans (hb5.mono hB4.size)
    have HP15 := HP14.on hb5
    have HP35 := HP34.on hb5
    have hz5 := hb5.size
    have x0 := hX5.cells 0 _ rfl
    have x1 := hX5.cells 1 _ rfl
    have hxl := hX5.lt
    simp only [List.getElem_toArray, List.getElem_cons_zero, List.getElem_cons_succ] at x0 x1
    clear hb5 hB4 HP14 HP34 hX4 hZ4 z0 z1 hzl
    go_wp2_with fail
    refine (read_any p o A A' n m c d _ (HP15.step (by go_grown))).mono ?_
    rintro e w6 ⟨rfl, hb6⟩
    have hZ6 := hZ5.below hb6 hZ5.lt
    have hB6 : Below w.heap.size w w6 := hB5.trans (hb6.mono hB5.size)
    have HP36 := HP35.on hb6
    have hz6 := hb6.size
    have z0 := hZ6.cells 0 _ rfl
    have z1 := hZ6.cells 1 _ rfl
    have hzl := hZ6.lt
    simp only [List.getElem_toArray, List.getElem_cons_zero, List.getElem_cons_succ] at z0 z1
    clear hb6 hB5 HP15 HP35 hX5 hZ5 x0 x1 hxl
    go_wp2_with fail
    refine (read_any b o A3 A3' lb 0 c3 c3' _ (HP36.step (by go_grown))).mono ?_
    rintro e w7 ⟨rfl, hb7⟩
    have hZ7 := hZ6.below hb7 hZ6.lt
    have hB7 : Below w.heap.size w w7 := hB6.trans (hb7.mono hB6.size)
    have hz7 := hb7.size
    clear hb7 hB6 HP36 hZ6 z0 z1 hzl
    obtain ⟨l1, l2, l3, l4, l5⟩ := HL'.out
    subst l1
    rw [l3, l4, l5]
    generalize readF b o = R
    obtain ⟨u, eu⟩ := R
    dsimp only
    clear l2 l3 l4 l5
    go_wp2_with fail
    refine (spins_any _).mono ?_
    rintro e w8 ⟨rfl, hb8⟩
    have hZ8 := hZ7.below hb8 hZ7.lt
    have hB8 : Below w.heap.size w w8 := hB7.trans (hb8.mono hB7.size)
    have z0 := hZ8.cells 0 _ rfl
    have z1 := hZ8.cells 1 _ rfl
    have hzl := hZ8.lt
    simp only [List.getElem_toArray, List.getElem_cons_zero, List.getElem_cons_succ] at z0 z1
    go_wp2_with fail
    go_ret
    exact ⟨rfl, hB8⟩
  · have ha := HB.out her
    subst ha
    clear HB HL
    go_enter Try.func4, Try.ntmps4
    go_wp2_with fail
    refine (far_any p s none 0 0 A A' n m c d _ (HP.step (by go_grown))).mono ?_
    rintro e w1 ⟨rfl, hb1⟩
    rw [hf']
    have hX := (Blk.new w _ _).below hb1 (by simp)
    have hB1 : Below w.heap.size w w1 := Below.trans (by go_grown) (hb1.mono (by simp))
    have HP1 := HP.on hB1
    have hz1 := hb1.size
    simp only [World.size_alloc] at hz1
    have x0 := hX.cells 0 _ rfl
    have x1 := hX.cells 1 _ rfl
    have hxl := hX.lt
    simp only [List.getElem_toArray, List.getElem_cons_zero, List.getElem_cons_succ] at x0 x1
    clear hb1
    go_wp2_with fail
    refine (write_any p i s A A' n m c d _ (HP1.step (by go_grown))).mono ?_
    rintro e w2 ⟨v, rfl, hO2, hb2⟩
    rw [HW.out] at hO2 ⊢
    obtain ⟨A2, c2, A2', c2', rfl, HP2⟩ := hO2.at_
    have hX2 := hX.below hb2 hX.lt
    have hB2 : Below w.heap.size w w2 := hB1.trans (hb2.mono hB1.size)
    have HP12 := HP1.on hb2
    have hz2 := hb2.size
    clear hO2 hb2 hB1 HP1 hX x0 x1 hxl
    simp only [noPlat, List.length_nil]
    go_wp2_with fail
    refine (spins_any _).mono ?_
    rintro e w3 ⟨rfl, hb3⟩
    have hY3 := (Blk.new w2 _ _).below hb3 (by simp)
    have hB3 : Below w.heap.size w w3 := Below.trans (by go_grown; all_goals (have := hB2.size; omega)) (hb3.mono (by have := hB2.size; simp; omega))
    have y0 := hY3.cells 0 _ rfl
    have y1 := hY3.cells 1 _ rfl
    have hyl := hY3.lt
    simp only [List.getElem_toArray, List.getElem_cons_zero, List.getElem_cons_succ] at y0 y1
    go_wp2_with fail
    go_ret
    exact ⟨rfl, hB3⟩

theorem last_law (p : Plat) (i o : Int) (s : ByteArray) (A A' : Option Addr) (c d : Nat) (w : World) {R : Prop} (h : PlatPre w A p.sectors.length A' p.cache.length p ∧ R) {R' : Prop} (_ : R') :
    Calls Try.prog 4 #[.agg #[.slice A p.sectors.length c, .slice A' p.cache.length d], .int .i64 i, .int .i64 o, .string s] w fun e w' => e = .returned (.bool true) ∧ Below w.heap.size w w' := last_walk p i o s A A' _ _ c d w h.1
end Go.Proofs.Ytefodifmfjpnlaa
