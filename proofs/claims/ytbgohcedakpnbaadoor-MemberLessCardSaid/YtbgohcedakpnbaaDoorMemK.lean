/- member: a text's lines, one by one (where each has its end). -/
import Derived.Test.YtbgohcedakpnbaaDoorMemH
import Derived.Test.YtbgohcedakpnbaaDoorTurnN
import Derived.Test.YtbgohcedakpnbaaDoorKeep
import Derived.LoopIn
set_option linter.unusedVariables false
set_option linter.unusedSimpArgs false
namespace Go.Proofs.YtbgohcedakpnbaaDoor
open Go.RowKit Go.Shelf
attribute [local go_sem] Oper.semAt_some
theorem index_front : ∀ (l r : List UInt8) (c : UInt8), c ∉ l → Lib.indexByte (l ++ c :: r) c = l.length := by
  intro l r c
  induction l with
  | nil => intro _; simp [Lib.indexByte]
  | cons b l ih =>
    intro h
    have h1 : (b == c) = false := by
      rw [beq_eq_false_iff_ne]
      rintro rfl
      exact h (List.mem_cons_self ..)
    have h2 := ih (fun hm => h (List.mem_cons_of_mem _ hm))
    rw [List.cons_append]
    unfold Lib.indexByte
    rw [h1, h2]
    have h3 : ((l.length : Int) == -1) = false := by
      rw [beq_eq_false_iff_ne]
      omega
    rw [h3]
    simp
theorem cut_front (x : ByteArray) (r : List UInt8) (c : UInt8) (h : c ∉ x.data.toList) : cutF ⟨(x.data.toList ++ c :: r).toArray⟩ c = (x, ⟨r.toArray⟩, true) := by
  have hi : Lib.indexByte (⟨(x.data.toList ++ c :: r).toArray⟩ : ByteArray).data.toList c = (x.size : Nat) := by
    show Lib.indexByte (x.data.toList ++ c :: r) c = _
    rw [index_front _ _ _ h]
    simp
  unfold cutF
  rw [hi, if_neg (by omega)]
  have hd : x.data.toList.length = x.size := by simp
  refine Prod.ext ?_ (Prod.ext ?_ rfl)
  · apply ByteArray.ext
    apply Array.ext'
    simp only [Int.toNat_natCast, ByteArray.data_extract, Array.toList_extract]
    simp [List.extract, hd]
  · apply ByteArray.ext
    apply Array.ext'
    simp only [Int.toNat_natCast, ByteArray.data_extract, Array.toList_extract]
    have hs : (⟨(x.data.toList ++ c :: r).toArray⟩ : ByteArray).size = x.size + 1 + r.length := by
      show (x.data.toList ++ c :: r).toArray.size = _
      simp
      omega
    rw [hs]
    simp only [List.extract]
    rw [show x.data.toList ++ c :: r = (x.data.toList ++ [c]) ++ r by simp, List.drop_append_of_le_length (by simp), List.drop_eq_nil_of_le (by simp)]
    rw [List.nil_append, List.take_of_length_le (by omega)]
/-- what the iterator may do: write its box -/
def TnL (g : Nat) (A B : World) : Prop := B.os = A.os ∧ B.tape = A.tape ∧ B.output = A.output ∧ A.heap.size ≤ B.heap.size ∧ ∀ i, i ≠ g → B.heap[i]? = A.heap[i]?
theorem TnL.still {g : Nat} {A B : World} (h : Still A B) : TnL g A B := ⟨h.1, h.2.1, h.2.2.1, by rw [h.2.2.2]; exact Nat.le_refl _, fun i _ => by rw [h.2.2.2]⟩
theorem TnL.trans {g : Nat} {A B C : World} (h : TnL g A B) (k : TnL g B C) : TnL g A C := ⟨k.1.trans h.1, k.2.1.trans h.2.1, k.2.2.1.trans h.2.2.1, Nat.le_trans h.2.2.2.1 k.2.2.2.1, fun i hi => (k.2.2.2.2 i hi).trans (h.2.2.2.2 i hi)⟩
theorem TnL.set (g : Nat) (A : World) (v : Value) : TnL g A (A.setCell ⟨g, 0, none⟩ v) := by
  have hb : Below 0 A (A.setCell ⟨g, 0, none⟩ v) := (Below.refl 0 A).setCell (p := ⟨g, 0, none⟩) (Nat.zero_le _) v
  exact ⟨hb.os, hb.tape, hb.output, hb.size, fun i hi => Below.heap_setCell A ⟨g, 0, none⟩ v i hi⟩
def strOf (w : World) (g : Nat) : Nat := match w.cell? ⟨g, 0, none⟩ with | some (.string s) => s.size | _ => 0
theorem catT_cons (x : ByteArray) (L : List ByteArray) : catT (x :: L) = x.data.toList ++ 10 :: catT L := by simp [catT]
theorem mlines_in (F : Fence) (n : Nat) (hf : F.fn 56) (hro : F.round = none) (s : ByteArray) (w : World) :
    CallsIn F n Tryd.prog 56 #[.string s] w fun e w' => e = .returned (.func (.func 73) #[] #[.pointer (some ⟨w.heap.size, 0, none⟩)]) ∧ w.alloc (.cells #[.string s] 9) = w' := by
  refine callsIn_of_wp Tryd.func56 rfl hf ?_ hro
  simp only [Tryd.ntmps56, List.size_toArray, List.length_cons, List.length_nil, Nat.reduceAdd, Nat.reduceSub, Array.replicate_succ, Array.replicate_zero, List.push_toArray, List.append_toArray, List.nil_append, List.cons_append]
  gi_wp2
  go_ret
  exact ⟨rfl, rfl⟩
set_option maxHeartbeats 2000000 in
set_option maxRecDepth 100000 in
theorem mlines1_in (nn : Nat) (hnn : 1 ≤ nn) (l g : Nat) (L : List ByteArray) (hL : ∀ s ∈ L, (10 : UInt8) ∉ s.data.toList) (hlen : (catT L).length ≤ 100000) (J : List ByteArray → World → Prop)
    (hJt : ∀ s A B, J s A → TnL g A B → J s B)
    (hY : ∀ pre (x : ByteArray) W1, J pre W1 → pre.length < L.length → L[pre.length]? = some x → YieldAt Fence.wide (nn - 1) Tryd.prog l #[.string x] W1 fun e W' => e = .returned (.bool true) ∧ J (pre ++ [x]) W' ∧ Kept g W1 W')
    (W : World) (hC : Blk W g 9 #[.string ⟨(catT L).toArray⟩]) (h0 : J [] W) :
    CallsIn Fence.wide nn Tryd.prog 73 #[.func (.yield l) #[] #[], .pointer (some ⟨g, 0, none⟩)] W fun e' W' => (∃ v, e' = .returned v) ∧ ∃ xs, xs = L ∧ J xs W' := by
  have HY := Lib.hid hY
  have HJ := Lib.hid hJt
  have HL := Lib.hid (And.intro hL hlen)
  have HC := Lib.hid hC
  have H0 := Lib.hid h0
  clear hY hJt hL hlen hC h0
  refine callsIn_of_wp Tryd.func73 rfl trivial ?_ rfl
  simp only [Tryd.ntmps73, List.size_toArray, List.length_cons, List.length_nil, Nat.reduceAdd, Nat.reduceSub, Array.replicate_succ, Array.replicate_zero, List.push_toArray, List.append_toArray, List.nil_append, List.cons_append]
  gi_wp2_with fail
  gi_loopw [] (fun wr => ∃ k : Nat, k ≤ L.length ∧ Hid (Blk wr g 9 #[.string ⟨(catT (L.drop k)).toArray⟩]) ∧ Hid (J (L.take k) wr)) (fun w => strOf w g)
  case atStart => exact ⟨0, by omega, HC, H0⟩
  case round =>
    clear HC H0
    obtain ⟨k, hk, HB, HJk⟩ := hrel
    have c0 := HB.out.cells 0 _ rfl
    have f0 := HB.out.frozen
    have hlg := HB.out.lt
    simp only [List.getElem_toArray, List.getElem_cons_zero] at c0
    by_cases hlt : k < L.length
    · obtain ⟨x, hx⟩ : ∃ x, L[k]? = some x := ⟨_, List.getElem?_eq_getElem hlt⟩
      have hdrop : L.drop k = x :: L.drop (k + 1) := by
        rw [List.drop_eq_getElem_cons hlt]
        rw [List.getElem?_eq_getElem hlt] at hx
        rw [Option.some.inj hx]
      have hcut := cut_front x (catT (L.drop (k + 1))) 10 (HL.out.1 x (List.mem_of_getElem? hx))
      have hcc : catT (L.drop k) = x.data.toList ++ 10 :: catT (L.drop (k + 1)) := by rw [hdrop, catT_cons]
      have hsz : (catT (L.drop k)).length ≤ 100000 := by
        have h1 : catT L = catT (L.take k) ++ catT (L.drop k) := by
          unfold catT
          rw [← List.flatMap_append, List.take_append_drop]
        have h2 := HL.out.2
        rw [h1, List.length_append] at h2
        omega
      obtain ⟨s, hs⟩ : ∃ s : ByteArray, (⟨(catT (L.drop k)).toArray⟩ : ByteArray) = s := ⟨_, rfl⟩
      obtain ⟨r, hr⟩ : ∃ r : ByteArray, (⟨(catT (L.drop (k + 1))).toArray⟩ : ByteArray) = r := ⟨_, rfl⟩
      rw [← hcc, hs, hr] at hcut
      have hss : s.size ≤ 100000 := by rw [← hs]; show (catT (L.drop k)).toArray.size ≤ _; simpa using hsz
      have hrs : r.size < s.size := by
        rw [← hs, ← hr]
        show (catT (L.drop (k + 1))).toArray.size < (catT (L.drop k)).toArray.size
        rw [List.size_toArray, List.size_toArray, hcc]
        simp
        omega
      have hne : s.toList ≠ [] := by
        rw [← hs, ByteArray.toList_eq]
        show (catT (L.drop k)).toArray.toList ≠ []
        rw [hcc]
        simp
      have hne2 : (s.toList == []) = false := by simpa using hne
      have HCU := Lib.hid (fun W => cut_any s 10 W (by omega))
      have HK := Lib.hid hcut
      have HR := Lib.hid hr
      have HX := Lib.hid hx
      have HTk : Hid (L.take k ++ [x] = L.take (k + 1)) := Lib.hid (by rw [List.take_add_one, hx]; rfl)
      have hms : strOf wr g = s.size := by unfold strOf; rw [c0, hs]
      have HM := Lib.hid (And.intro hms hrs)
      rw [hs] at c0
      clear hx hdrop hcut hcc hsz hs hr hss hrs hms
      gi_wp2_with fail
      refine ⟨trivial, ?_⟩
      gi_at_call 58
      refine (callsIn_wide.2 (HCU.out _)).mono ?_
      rintro e w1 ⟨rfl, hb1⟩
      rw [HK.out]
      dsimp only
      have HB1 := Lib.hid (HB.out.below (hb1.below (B0 := wr.heap.size)) hlg)
      have HJ1 := Lib.hid (HJ.out _ _ _ HJk.out (TnL.still hb1))
      clear hb1 c0 f0
      gi_wp2_with fail
      refine ⟨trivial, ?_⟩
      gi_at_call 38
      refine (callsIn_wide.2 (must_true _)).mono ?_
      rintro e w2 ⟨rfl, rfl⟩
      obtain ⟨fn, tmps, assign, body, hy, hYY⟩ := HY.out (L.take k) x w1 HJ1.out (by rw [List.length_take]; omega) (by rw [List.length_take, Nat.min_eq_left hk]; exact HX.out)
      have HRR := Lib.hid hYY
      clear hYY
      gi_wp2_with fail
      refine HRR.out.mono ?_
      rintro e W3 ⟨rfl, hJ3, hk3⟩
      have hb3 : Blk W3 g 9 #[.string ⟨(catT (L.drop k)).toArray⟩] := (show W3.heap[g]? = w1.heap[g]? from hk3).trans HB1.out
      have c3 := hb3.cells 0 _ rfl
      have f3 := hb3.frozen
      have hl3 := hb3.lt
      simp only [List.getElem_toArray, List.getElem_cons_zero] at c3
      have HB4 : Hid (Blk (W3.setCell ⟨g, 0, none⟩ (.string r)) g 9 #[.string ⟨(catT (L.drop (k + 1))).toArray⟩]) := Lib.hid (by
        rw [HR.out]
        exact hb3.set_ 0 (.string r))
      have HJ4 : Hid (J (L.take (k + 1)) (W3.setCell ⟨g, 0, none⟩ (.string r))) := Lib.hid (by
        rw [← HTk.out]
        exact HJ.out _ _ _ hJ3 (TnL.set g W3 _))
      have HM4 : Hid (strOf (W3.setCell ⟨g, 0, none⟩ (.string r)) g = r.size) := Lib.hid (by
        have h := HB4.out.cells 0 _ rfl
        simp only [List.getElem_toArray, List.getElem_cons_zero] at h
        unfold strOf
        rw [h, HR.out])
      clear hJ3 hk3 hb3
      gi_wp2_with fail
      go_roundw
      case rel => exact ⟨k + 1, by omega, HB4, HJ4⟩
      case measure =>
        have h1 := HM.out
        have h2 := HM4.out
        omega
    · obtain rfl : k = L.length := by omega
      have hd : L.drop L.length = [] := List.drop_length ..
      have ht : L.take L.length = L := List.take_length ..
      have HJe := HJk.out
      rw [ht] at HJe
      have HJf := Lib.hid HJe
      rw [hd] at c0
      have c1 : wr.cell? ⟨g, 0, none⟩ = some (.string ⟨#[]⟩) := c0
      clear c0 f0 hd ht HJe HJk
      gi_wp2_with fail
      go_end0
      exact ⟨⟨_, rfl⟩, _, rfl, HJf.out⟩
end Go.Proofs.YtbgohcedakpnbaaDoor
