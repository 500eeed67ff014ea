/- TagEmpty, TagZeros: plain, and the walks. -/
import Derived.Test.YtpbbphjhjjpkjaaTagM
import Derived.Test.YtpbbphjhjjpkjaaOpenS
set_option linter.unusedVariables false
namespace Go.Proofs.Ytpbbphjhjjpkjaa
open Go.RowKit
theorem zero_at (i : Nat) : zeroR.getD i 0 = 0 := by
  rw [List.getD_eq_getElem?_getD]
  unfold zeroR
  rw [List.getElem?_replicate]
  split <;> rfl
theorem over_zero (e : List Nat) (he : ∀ x ∈ e, x < 256) (i : Nat) : overS zeroR e i = 0 := by
  induction i with
  | zero => rfl
  | succ i ih =>
    have : e.getD i 0 < 256 := by
      rw [List.getD_eq_getElem?_getD]
      cases h : e[i]? with
      | none => simp
      | some x => exact he x (List.mem_of_getElem? h)
    rw [overS, ih, zero_at]; omega
theorem tag_zero (key : ByteArray) (h : key.size = 32) : tagL zeroR (endR key) 16 = key.data.toList.drop 16 := by
  have he : ∀ x ∈ endR key, x < 256 := fun x hx => bytesN_lt key x (List.mem_of_mem_drop hx)
  apply List.ext_getElem
  · rw [tagL_len, List.length_drop, Array.length_toList]
    show 16 = key.size - 16
    omega
  · intro i h1 h2
    rw [tagL_len] at h1
    have hg : (endR key).getD i 0 = key[16 + i].toNat := by
      unfold endR
      rw [List.getD_eq_getElem?_getD, List.getElem?_drop, bytesN_get key (16 + i) (by omega)]; rfl
    simp only [tagL, List.getElem_map, List.getElem_range, List.getElem_drop, over_zero _ he, zero_at, hg, Nat.zero_add]
    rw [Nat.mod_eq_of_lt key[16 + i].toNat_lt, UInt8.ofNat_toNat]
    rfl
theorem accR_empty (E : List Nat) (s : ByteArray) (h : s.size = 0) : accR E (partsP s) = zeroR := by
  have : partsP s = [] := by
    have := partsP_len s
    rw [h] at this
    exact List.eq_nil_of_length_eq_zero (by simpa using this)
  rw [this]; rfl
theorem tagB_size (key s : ByteArray) : (tagB key s).size = 16 := by show (tagL _ _ 16).toArray.size = 16; rw [List.size_toArray, tagL_len]
theorem rest16 (key : ByteArray) : (⟨(key.data.toList.drop 16).toArray⟩ : ByteArray) = key.extract 16 key.size := by
  apply ByteArray.ext
  apply Array.ext'
  simp
  rw [List.take_of_length_le (by rw [List.length_drop, Array.length_toList]; exact Nat.le_refl _)]
theorem tag_empty (key : ByteArray) (h : key.size = 32) : tagB key ⟨#[]⟩ = key.extract 16 key.size := by
  rw [tagB, accR_empty _ _ rfl, tag_zero key h, rest16]
set_option maxHeartbeats 400000 in
theorem tagEmpty_any (key s : ByteArray) (w : World) (hk : StrOk key) (hs : StrOk s) :
    Calls Try.prog 5 #[.string key, .string s] w fun e w' => e = .returned (.bool true) ∧ Below w.heap.size w w' := by
  unfold StrOk at hk hs
  by_cases h1 : 100 < key.size
  · have t1 : decide (100 < (key.size : Int)) = true := by simp; omega
    clear h1
    go_enter Try.func5, Try.ntmps5
    go_wp2_with fail
    go_ret
    exact ⟨rfl, Below.refl _ _⟩
  · have t1 : decide (100 < (key.size : Int)) = false := by simp; omega
    by_cases h2 : 1000 < s.size
    · have t2 : decide (1000 < (s.size : Int)) = true := by simp; omega
      clear h1 h2
      go_enter Try.func5, Try.ntmps5
      go_wp2_with fail
      go_ret
      exact ⟨rfl, Below.refl _ _⟩
    · have t2 : decide (1000 < (s.size : Int)) = false := by simp; omega
      by_cases h3 : key.size = 32
      · have t3 : ((key.size : Int) != 32) = false := by simp; omega
        have ha := fun W : World => tag_any key ⟨#[]⟩ W h3 (by decide)
        rw [tag_empty key h3] at ha
        have hb := fun W : World => tag_any key s W h3 (by omega)
        have hz := tagB_size key s
        have hk1 : (16 : Int) ≤ (key.size : Int) := by omega
        obtain ⟨q, hq⟩ : ∃ q, key.extract 16 key.size = q := ⟨_, rfl⟩
        rw [hq] at ha
        have HA := Lib.hid ha
        have HB := Lib.hid hb
        clear h1 h2 h3 ha hb
        generalize tagB key s = T at HB hz
        go_enter Try.func5, Try.ntmps5
        go_wp2_with fail
        refine (HA.out _).mono ?_
        rintro e w1 ⟨rfl, hb1⟩
        go_wp2_with fail
        refine (HB.out _).mono ?_
        rintro e w2 ⟨rfl, hb2⟩
        have hB2 := hb1.trans (hb2.mono hb1.size)
        have hs2 := hB2.size
        clear hb1 hb2
        go_wp2_with fail
        refine (tags_any _).mono ?_
        rintro e w3 ⟨rfl, hb3⟩
        go_wp2_with fail
        go_ret
        exact ⟨rfl, hB2.trans (hb3.mono hs2)⟩
      · have t3 : ((key.size : Int) != 32) = true := by simp; omega
        have ha := fun (x : ByteArray) (W : World) => tag_bad key x W h3 hk
        have HA := Lib.hid ha
        clear h1 h2 h3 ha
        go_enter Try.func5, Try.ntmps5
        go_wp2_with fail
        refine (HA.out _ _).mono ?_
        rintro e w1 ⟨rfl, rfl⟩
        go_wp2_with fail
        refine (HA.out _ _).mono ?_
        rintro e w2 ⟨rfl, rfl⟩
        go_wp2_with fail
        refine (tags_any _).mono ?_
        rintro e w3 ⟨rfl, hb3⟩
        go_wp2_with fail
        go_ret
        exact ⟨rfl, hb3⟩
end Go.Proofs.Ytpbbphjhjjpkjaa
