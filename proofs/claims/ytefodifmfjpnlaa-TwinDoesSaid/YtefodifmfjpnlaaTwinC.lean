/- twin.Get. -/
import Derived.Test.YtefodifmfjpnlaaTwinB
set_option linter.unusedVariables false
namespace Go.Proofs.Ytefodifmfjpnlaa
open Go.RowKit
theorem bodyF_cases (m : ByteArray) : (m = ⟨#[48]⟩ ∧ bodyF m = (1, true)) ∨ (m = ⟨#[49]⟩ ∧ bodyF m = (2, true)) ∨ (m ≠ ⟨#[48]⟩ ∧ m ≠ ⟨#[49]⟩ ∧ bodyF m = (0, false)) := by
  unfold bodyF
  by_cases h0 : m = ⟨#[48]⟩
  · exact .inl ⟨h0, by rw [if_pos h0]⟩
  · by_cases h1 : m = ⟨#[49]⟩
    · exact .inr (.inl ⟨h1, by rw [if_neg h0, if_pos h1]⟩)
    · exact .inr (.inr ⟨h0, h1, by rw [if_neg h0, if_neg h1]⟩)
def getF (p : Plat) (i : Int) : ByteArray × Bool × Int :=
  if (readF p i).2 = 0 then
    if (readF p i).1.toList = [] then (⟨#[]⟩, false, 0)
    else if (bodyF (readF p i).1).2 = true then ((readF p (i + (bodyF (readF p i).1).1)).1, decide ((readF p (i + (bodyF (readF p i).1).1)).2 = 0), (readF p (i + (bodyF (readF p i).1).1)).2)
    else (⟨#[]⟩, false, 140)
  else (⟨#[]⟩, false, (readF p i).2)
theorem read_size (p : Plat) (i : Int) : (readF p i).1.size ≤ 128 := by
  unfold readF
  by_cases hc : checkP p = true
  · rw [if_pos hc]
    by_cases hh : hasB p.sectors.length i = true
    · rw [if_pos hh]
      obtain ⟨_, _, _, hs, hx⟩ := (checkP_iff p).1 hc
      have hh' := (hasB_iff _ _).1 hh
      show (readOf p i.toNat).size ≤ 128
      unfold readOf
      cases h : lastP p.cache i.toNat with
      | some x =>
        have : x ∈ p.cache := by
          unfold lastP at h
          exact List.mem_reverse.1 (List.mem_of_find?_eq_some h)
        have := hx x this
        simp [putB, longB] at this
        exact this.1
      | none =>
        refine hs _ ?_
        rw [List.getD_eq_getElem?_getD, List.getElem?_eq_getElem (show i.toNat < p.sectors.length by omega)]
        exact List.getElem_mem _
    · rw [if_neg hh]; simp
  · rw [if_neg hc]; simp
theorem read_pos {p : Plat} {i : Int} (h : (readF p i).2 = 0) : checkP p = true ∧ 0 ≤ i ∧ i < p.sectors.length ∧ p.sectors.length ≤ 200 := by
  unfold readF at h
  by_cases hc : checkP p = true
  · rw [if_pos hc] at h
    by_cases hh : hasB p.sectors.length i = true
    · have := (hasB_iff _ _).1 hh
      exact ⟨hc, this.1, this.2, ((checkP_iff p).1 hc).2.1⟩
    · rw [if_neg hh] at h; simp at h
  · rw [if_neg hc] at h; simp at h
def OutG (w : World) (r : ByteArray × Bool × Int) (e : Ending) (w' : World) : Prop := e = .returned (.tuple #[.string r.1, .bool r.2.1, .int .i64 r.2.2]) ∧ Below w.heap.size w w'
theorem outG {w w' : World} {r : ByteArray × Bool × Int} {a : ByteArray} {b : Bool} {c : Int} {e : Ending} (h : r = (a, b, c)) (he : e = .returned (.tuple #[.string a, .bool b, .int .i64 c])) (hb : Below w.heap.size w w') : OutG w r e w' := by
  subst h; exact ⟨he, hb⟩
set_option maxHeartbeats 1000000 in
theorem get_any (p : Plat) (i : Int) (A A' : Option Addr) (n m c d : Nat) (w : World) (hP : PlatAt w w.heap.size A n A' m p) :
    Calls Try.prog 24 #[.agg #[.slice A n c, .slice A' m d], .int .i64 i] w (OutG w (getF p i)) := by
  have HP := hP.pre
  clear hP
  have hsz := read_size p i
  by_cases hr : (readF p i).2 = 0
  · have hpos := read_pos hr
    by_cases ht : (readF p i).1.toList = []
    · have HG : Hid (getF p i = (⟨#[]⟩, false, 0)) := by unfold Hid getF; rw [if_pos hr, if_pos ht]
      generalize hR : readF p i = R at *
      have HR := Lib.hid hR
      obtain ⟨t, et⟩ := R
      dsimp only at hr ht hsz
      subst hr
      clear hR hpos hsz
      go_enter Try.func24, Try.ntmps24
      go_wp2_with fail
      refine (read_any p i A A' n m c d _ (HP.step (by go_grown))).mono ?_
      rintro e w1 ⟨rfl, hb1⟩
      rw [HR.out]
      have hB1 : Below w.heap.size w w1 := Below.trans (by go_grown) (hb1.mono (by simp))
      clear hb1
      go_wp2_with fail
      go_ret3
      exact outG HG.out rfl hB1
    · have HG : Hid (getF p i = if (bodyF (readF p i).1).2 = true then ((readF p (i + (bodyF (readF p i).1).1)).1, decide ((readF p (i + (bodyF (readF p i).1).1)).2 = 0), (readF p (i + (bodyF (readF p i).1).1)).2) else (⟨#[]⟩, false, 140)) := by
        unfold Hid getF; rw [if_pos hr, if_neg ht]
      generalize hR : readF p i = R at *
      have HR := Lib.hid hR
      obtain ⟨t, et⟩ := R
      dsimp only at hr ht hsz HG
      subst hr
      have ht' : t.toList.isEmpty = false := by cases h : t.toList with | nil => exact absurd h ht | cons a b => rfl
      clear hR ht
      obtain ⟨_, h0, hn, h2⟩ := hpos
      have hi : i < 200 := by omega
      have hbo := bodyF_cases t
      generalize hbt : bodyF t = B at *
      have HBT := Lib.hid hbt
      obtain ⟨far, ok⟩ := B
      dsimp only at HG
      have hfar : (ok = true ∧ 1 ≤ far ∧ far ≤ 2) ∨ (ok = false ∧ far = 0) := by
        rcases hbo with ⟨_, h⟩ | ⟨_, h⟩ | ⟨_, _, h⟩ <;> (injection h with h1 h2; subst h1; subst h2; simp)
      clear hbt hbo hn h2
      rcases hfar with ⟨rfl, hf1, hf2⟩ | ⟨rfl, rfl⟩
      · rw [if_pos rfl] at HG
        generalize hR2 : readF p (i + far) = R2 at HG
        have HR2 := Lib.hid hR2
        clear hR2
        obtain ⟨s, es⟩ := R2
        dsimp only at HG
        go_enter Try.func24, Try.ntmps24
        go_wp2_with fail
        refine (read_any p i A A' n m c d _ (HP.step (by go_grown))).mono ?_
        rintro e w1 ⟨rfl, hb1⟩
        rw [HR.out]
        have hX := (Blk.new w _ _).below hb1 (by simp)
        have hB1 : Below w.heap.size w w1 := Below.trans (by go_grown) (hb1.mono (by simp))
        clear hb1
        go_wp2_with fail
        refine (body_any t _ (by simp only [maxLen]; omega)).mono ?_
        rintro e w2 ⟨rfl, hb2⟩
        rw [HBT.out]
        have hX2 := hX.below hb2 hX.lt
        have hB2 := hB1.trans (hb2.mono hB1.size)
        have x0 := hX2.cells 0 _ rfl
        have x1 := hX2.cells 1 _ rfl
        simp only [List.getElem_toArray, List.getElem_cons_zero, List.getElem_cons_succ] at x0 x1
        clear hb2 hX hB1
        go_wp2_with fail
        refine (read_any p (i + far) A A' n m c d _ (HP.step hB2)).mono ?_
        rintro e w3 ⟨rfl, hb3⟩
        rw [HR2.out]
        have hB3 := hB2.trans (hb3.mono hB2.size)
        clear hb3 hB2 x0 x1 hX2
        by_cases hes : es = 0
        · subst hes
          go_wp2_with fail
          go_ret3
          exact outG HG.out rfl hB3
        · have t1 : (es == 0) = false := by simpa using hes
          have HE := Lib.hid (show decide (es = 0) = false by simpa using hes)
          clear hes
          rw [HE.out] at HG
          go_wp2_with fail
          go_ret3
          exact outG HG.out rfl hB3
      · rw [if_neg (by decide)] at HG
        go_enter Try.func24, Try.ntmps24
        go_wp2_with fail
        refine (read_any p i A A' n m c d _ (HP.step (by go_grown))).mono ?_
        rintro e w1 ⟨rfl, hb1⟩
        rw [HR.out]
        have hB1 : Below w.heap.size w w1 := Below.trans (by go_grown) (hb1.mono (by simp))
        clear hb1
        go_wp2_with fail
        refine (body_any t _ (by simp only [maxLen]; omega)).mono ?_
        rintro e w2 ⟨rfl, hb2⟩
        rw [HBT.out]
        have hB2 := hB1.trans (hb2.mono hB1.size)
        clear hb2 hB1
        go_wp2_with fail
        go_ret3
        exact outG HG.out rfl hB2
  · have HG : Hid (getF p i = (⟨#[]⟩, false, (readF p i).2)) := by unfold Hid getF; rw [if_neg hr]
    generalize hR : readF p i = R at *
    have HR := Lib.hid hR
    obtain ⟨t, et⟩ := R
    dsimp only at hr hsz HG
    have t1 : (et != 0) = true := by simpa using hr
    clear hR hsz hr
    go_enter Try.func24, Try.ntmps24
    go_wp2_with fail
    refine (read_any p i A A' n m c d _ (HP.step (by go_grown))).mono ?_
    rintro e w1 ⟨rfl, hb1⟩
    rw [HR.out]
    have hB1 : Below w.heap.size w w1 := Below.trans (by go_grown) (hb1.mono (by simp))
    clear hb1
    go_wp2_with fail
    go_ret3
    exact outG HG.out rfl hB1
end Go.Proofs.Ytefodifmfjpnlaa
