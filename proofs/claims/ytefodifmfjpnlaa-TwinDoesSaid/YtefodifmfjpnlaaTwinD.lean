/- twin.Put's deeds: the closures that write, and do. -/
import Derived.Test.YtefodifmfjpnlaaTwinC
set_option linter.unusedVariables false
namespace Go.Proofs.Ytefodifmfjpnlaa
open Go.RowKit
theorem put1_any (i : Int) (s : ByteArray) (w : World) :
    Calls Try.prog 45 #[.int .i64 i, .string s] w fun e w' => e = .returned (.func (.func 46) #[] #[.pointer (some ⟨w.heap.size, 0, none⟩), .pointer (some ⟨w.heap.size + 1, 0, none⟩)]) ∧ (w.alloc (.cells #[.int .i64 i] 3)).alloc (.cells #[.string s] 9) = w' := by
  go_enter Try.func45, Try.ntmps45
  go_wp2
  go_ret
  exact ⟨rfl, rfl⟩
/-- what the closure does, its captured variables in blocks a, b -/
def WrOk (w : World) (a b : Nat) (i : Int) (s : ByteArray) : Prop := Hid (∀ W, Below w.heap.size w W → Blk W a 3 #[.int .i64 i] ∧ Blk W b 9 #[.string s])
theorem WrOk.on {w w1 : World} {a b : Nat} {i : Int} {s : ByteArray} (h : WrOk w a b i s) (hb : Below w.heap.size w w1) : WrOk w1 a b i s := fun W hW => h.out W (hb.trans (hW.mono hb.size))
theorem WrOk.mk_ {w : World} {a b : Nat} {i : Int} {s : ByteArray} (h1 : Blk w a 3 #[.int .i64 i]) (h2 : Blk w b 9 #[.string s]) : WrOk w a b i s := fun W hW => ⟨h1.below hW h1.lt, h2.below hW h2.lt⟩
set_option maxHeartbeats 400000 in
theorem put11_any (p : Plat) (i : Int) (s : ByteArray) (a b : Nat) (A A' : Option Addr) (n m c d : Nat) (w : World) (hP : PlatAt w w.heap.size A n A' m p) (hw : WrOk w a b i s) :
    Calls Try.prog 46 #[.agg #[.slice A n c, .slice A' m d], .pointer (some ⟨a, 0, none⟩), .pointer (some ⟨b, 0, none⟩)] w (Out2P w (writeF p i s)) := by
  have HP := hP.pre
  clear hP
  generalize hr : writeF p i s = r
  have HR := Lib.hid hr
  clear hr
  obtain ⟨q, er⟩ := r
  obtain ⟨ha, hb⟩ := hw.out w (Below.refl _ _)
  have a0 := ha.cells 0 _ rfl
  have b0 := hb.cells 0 _ rfl
  have hal := ha.lt
  have hbl := hb.lt
  simp only [List.getElem_toArray, List.getElem_cons_zero] at a0 b0
  clear ha hb hw
  go_enter Try.func46, Try.ntmps46
  go_wp2_with fail
  refine (write_any p i s A A' n m c d _ (HP.step (by go_grown))).mono ?_
  rintro e w1 ⟨v, rfl, ⟨A1, c1, A2, c2, rfl, hown1, hown2⟩, hb1⟩
  rw [HR.out] at hown1 hown2 ⊢
  have hB1 : Below w.heap.size w w1 := Below.trans (by go_grown) (hb1.mono (by simp; omega))
  have hr2 := (Blk.new_at (g := w.heap.size + 1) (by simp) _ _).below hb1 (by simp)
  have s0 := hr2.cells 0 _ rfl
  have s1 := hr2.cells 1 _ rfl
  have fs := hr2.frozen
  simp only [List.getElem_toArray, List.getElem_cons_zero, List.getElem_cons_succ, World.size_alloc] at s0 s1 hown1 hown2
  have HO := Lib.hid (And.intro hown1 hown2)
  clear hr2 hb1 hown1 hown2 a0 b0
  go_wp2_with (with_reducible refine end_at ?_)
  refine end_ret (v := .tuple #[.agg #[.slice A1 q.sectors.length c1, .slice A2 q.cache.length c2], .int .i64 er]) (by simp [results, Try.results46, go_sem, s0, s1]; try rfl) rfl ⟨_, rfl, ⟨A1, c1, A2, c2, rfl, own_base (base := w.heap.size + 1 + 1) ?_ (by omega), own_base (base := w.heap.size + 1 + 1) ?_ (by omega)⟩, by go_grown⟩
  · have h1 := HO.out.1
    repeat' (first | (with_reducible exact h1) | (with_reducible refine ownsRow_setCell_below ?_ (by first | (simp; done) | (simp; omega)) _))
  · have h1 := HO.out.2
    repeat' (first | (with_reducible exact h1) | (with_reducible refine ownsRow_setCell_below ?_ (by first | (simp; done) | (simp; omega)) _))
end Go.Proofs.Ytefodifmfjpnlaa
