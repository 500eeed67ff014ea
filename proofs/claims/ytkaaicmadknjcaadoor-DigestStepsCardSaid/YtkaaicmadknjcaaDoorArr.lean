/- reading an argument of eight ints. -/
import Derived.Test.YtkaaicmadknjcaaDoorDoorOpen
import Derived.Test.YtkaaicmadknjcaaDoorDigT
set_option linter.unusedVariables false
namespace Go.Proofs.YtkaaicmadknjcaaDoor
open Go.RowKit Go.ChangeShapes Go.WideShapes Go.ChangeAt Go.Deep
section
variable {H : Type} {enc' : TypeId × Value → H} {w : World} {base b0 : Nat} {spare : Nat → Bool} {held : Bool} {r : Reach} {v : Value} {d : DataW H} {p : List MemPlace}
set_option maxRecDepth 100000 in
theorem open_w8 (hv : Value.okWide Tryd.prog w r b0 22 v) (h : DataW.Trod enc' Tryd.prog w base spare held 22 v d p) : ∃ L : List Int, v = stV L ∧ L.length = 8 := by
  have hc : Tryd.prog.cellsOf 22 = 8 := by kernel_rfl
  have h1 : Tryd.prog.cellsOf 3 = 1 := by kernel_rfl
  simp only [Value.okWide, Tryd.underlying22] at hv
  obtain ⟨cs, rfl, hsz, _⟩ := hv
  rw [hc] at hsz
  obtain ⟨fuel, hf⟩ := h
  obtain ⟨xs, m, rfl, _, _, hxl, hx⟩ := DataW.trod_array Tryd.underlying22 hf
  simp only [Value.cells, h1, Nat.mul_one] at hx
  obtain ⟨L, hL, hQ⟩ := exists_list (fun i y => cs.toList[i]? = some (vI y)) 8 (fun i hi => by
    have h2 := hx i hi
    rw [List.getElem?_eq_getElem (by omega)] at h2
    have h3 : (cs.toList.drop i).take 1 = [cs.toList[i]'(by simpa using (by omega : i < cs.size))] := by
      rw [List.drop_eq_getElem_cons (by simpa using (by omega : i < cs.size))]; rfl
    rw [h3] at h2
    obtain ⟨a, ea, _⟩ := DataW.trod_int Tryd.underlying3 h2
    refine ⟨a, ?_⟩
    rw [List.getElem?_eq_getElem (by simpa using (by omega : i < cs.size))]
    simpa [vI] using ea)
  refine ⟨L, ?_, hL⟩
  unfold stV
  congr 1
  apply Array.ext'
  rw [List.toList_toArray]
  apply List.ext_getElem?
  intro i
  by_cases hi : i < 8
  · obtain ⟨y, hy⟩ : ∃ y, L[i]? = some y := ⟨_, List.getElem?_eq_getElem (by omega)⟩
    rw [hQ i y hy, List.getElem?_map, hy]; rfl
  · rw [List.getElem?_eq_none (by simp; omega), List.getElem?_eq_none (by simp; omega)]
end
end Go.Proofs.YtkaaicmadknjcaaDoor
