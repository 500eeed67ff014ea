/- twin.Put. -/
import Derived.Test.YtefodifmfjpnlaaTwinE
import Derived.Test.YtefodifmfjpnlaaTwinEn
import Derived.Test.YtefodifmfjpnlaaTwinEb
set_option linter.unusedVariables false
namespace Go.Proofs.Ytefodifmfjpnlaa
open Go.RowKit
theorem do_any (p : Plat) (i1 : Int) (s1 : ByteArray) (i2 : Int) (s2 : ByteArray) (a1 b1 a2 b2 g B : Nat) (v : Value) (most : Int) (w : World) (hB : B ≤ w.heap.size) (hv : PlatOut w B v p)
    (HW1 : WrOk w a1 b1 i1 s1) (HW2 : WrOk w a2 b2 i2 s2) (HD : Hid (Blk w g 73 #[.func (.func 46) #[] #[.pointer (some ⟨a1, 0, none⟩), .pointer (some ⟨b1, 0, none⟩)], .func (.func 18) #[] #[], .func (.func 46) #[] #[.pointer (some ⟨a2, 0, none⟩), .pointer (some ⟨b2, 0, none⟩)], .func (.func 18) #[] #[]])) :
    Calls Try.prog 47 #[v, .int .i64 most, .slice (some ⟨g, 0, none⟩) 4 4] w (OutDo B w (doN p i1 s1 i2 s2 (mostN most))) := by
  obtain ⟨A, c, A', c', rfl, h1, h2⟩ := hv
  unfold mostN
  by_cases hm : 0 ≤ most ∧ most ≤ 4
  · rw [if_pos hm]
    obtain ⟨N, rfl⟩ := Int.eq_ofNat_of_zero_le hm.1
    rw [Int.toNat_natCast]
    exact do_in p i1 s1 i2 s2 a1 b1 a2 b2 g B A A' 0 0 c c' N (by omega) w hB ⟨h1, h2⟩ HW1 HW2 HD
  · rw [if_neg hm]
    by_cases h0 : most < 0
    · exact do_neg p i1 s1 i2 s2 a1 b1 a2 b2 g B A A' 0 0 c c' most h0 w hB ⟨h1, h2⟩ HW1 HW2 HD
    · exact do_big p i1 s1 i2 s2 a1 b1 a2 b2 g B A A' 0 0 c c' most (by omega) w hB ⟨h1, h2⟩ HW1 HW2 HD
/-- the other mark than what was read -/
def markF (old : ByteArray) : ByteArray := if old.toList = [48] then ⟨#[49]⟩ else ⟨#[48]⟩
def putF (p : Plat) (i : Int) (s : ByteArray) (most : Int) : Plat × Bool × Int :=
  if (getF p i).2.2 = 0 then doN p (i + (bodyF (markF (readF p i).1)).1) s i (markF (readF p i).1) (mostN most) else (noPlat, false, (getF p i).2.2)
theorem get_read {p : Plat} {i : Int} (h : (getF p i).2.2 = 0) : (readF p i).2 = 0 := by
  unfold getF at h
  by_cases hr : (readF p i).2 = 0
  · exact hr
  · rw [if_neg hr] at h; exact absurd h hr
theorem PlatOut.base {w : World} {B B' : Nat} {v : Value} {p : Plat} (h : PlatOut w B v p) (hb : B' ≤ B) : PlatOut w B' v p := by
  obtain ⟨A, c, A', c', e, h1, h2⟩ := h
  exact ⟨A, c, A', c', e, own_base h1 hb, own_base h2 hb⟩
theorem PlatOut.on {w w1 : World} {B : Nat} {v : Value} {p : Plat} (h : PlatOut w B v p) (hb : Below w.heap.size w w1) : PlatOut w1 B v p := by
  obtain ⟨A, c, A', c', e, h1, h2⟩ := h
  exact ⟨A, c, A', c', e, own_below h1 hb (Nat.le_refl _), own_below h2 hb (Nat.le_refl _)⟩
set_option maxHeartbeats 1000000 in
set_option maxRecDepth 100000 in
theorem put_bad (p : Plat) (i : Int) (s : ByteArray) (most : Int) (A A' : Option Addr) (n m c d : Nat) (w : World) (HP : PlatPre w A n A' m p) (hg : (getF p i).2.2 ≠ 0) :
    Calls Try.prog 26 #[.agg #[.slice A n c, .slice A' m d], .int .i64 i, .string s, .int .i64 most] w (OutDo w.heap.size w (putF p i s most)) := by
  have HF : Hid (putF p i s most = (noPlat, false, (getF p i).2.2)) := by unfold Hid putF; rw [if_neg hg]
  generalize hr : getF p i = r at *
  have HR := Lib.hid hr
  obtain ⟨t, ok, er⟩ := r
  dsimp only at hg HF
  have t1 : (er != 0) = true := by simpa using hg
  clear hr hg
  go_enter Try.func26, Try.ntmps26
  go_wp2_with fail
  refine (get_any p i A A' n m c d _ (HP.step (by go_grown))).mono ?_
  rintro e w1 ⟨rfl, hb1⟩
  rw [HR.out]
  have hY := (Blk.new_at (g := w.heap.size + 1) (by simp) _ _).below hb1 (by simp)
  have hB1 : Below w.heap.size w w1 := Below.trans (by go_grown) (hb1.mono (by simp; omega))
  have y0 := hY.cells 0 _ rfl
  have y1 := hY.cells 1 _ rfl
  have yf := hY.frozen
  have hyl := hY.lt
  simp only [List.getElem_toArray, List.getElem_cons_zero, List.getElem_cons_succ] at y0 y1
  clear hb1 hY
  go_wp2_with (with_reducible refine end_at ?_)
  refine end_ret (v := .tuple #[.agg #[.slice none 0 0, .slice none 0 0], .bool false, .int .i64 er]) (by simp [results, Try.results26, go_sem, y0, y1]; try rfl) rfl ?_
  refine ⟨_, by rw [HF.out], ?_, by go_grown⟩
  rw [HF.out]; exact ⟨none, 0, none, 0, rfl, World.ownsRow_nil _ _ _ _, World.ownsRow_nil _ _ _ _⟩
end Go.Proofs.Ytefodifmfjpnlaa
