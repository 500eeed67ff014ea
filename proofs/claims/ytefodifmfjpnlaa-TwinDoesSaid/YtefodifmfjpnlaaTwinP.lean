/- chapter 14, plain: what a Put does, and a crash behind it. -/
import Derived.Test.YtefodifmfjpnlaaTwinH
set_option linter.unusedVariables false
namespace Go.Proofs.Ytefodifmfjpnlaa
open Go.RowKit
theorem sync_ok2 {p : Plat} (h : (syncF p).2 = 0) : checkP p = true := by
  unfold syncF settleF at h
  by_cases hc : checkP p = true
  · exact hc
  · rw [if_neg hc] at h; simp at h
theorem write_check {p : Plat} {i : Int} {s : ByteArray} (h : (writeF p i s).2 = 0) : checkP (writeF p i s).1 = true := by
  obtain ⟨hc, hi, hs, hl, e⟩ := write_ok h
  rw [e]; exact put_ok hc hi hs hl
theorem read_write {p : Plat} {i : Int} {s : ByteArray} (h : (writeF p i s).2 = 0) (o : Int) : readF (writeF p i s).1 o = if o = i then (s, 0) else readF p o := by
  have hc' := write_check h
  obtain ⟨hc, hi, hs, hl, e⟩ := write_ok h
  rw [e] at hc' ⊢
  have hn := (hasB_iff _ _).1 hi
  by_cases ho : o = i
  · subst ho
    rw [if_pos rfl, readF_ok hc', if_pos hi]
    simp only [readOf, lastP_snoc]
    rw [if_pos (by omega)]
  · rw [if_neg ho, readF_ok hc, readF_ok hc']
    by_cases hb : hasB p.sectors.length o = true
    · rw [if_pos hb, if_pos hb]
      have := (hasB_iff _ _).1 hb
      simp only [readOf, lastP_snoc]
      rw [if_neg (by omega)]
    · rw [if_neg hb, if_neg hb]
theorem write_len {p : Plat} {i : Int} {s : ByteArray} (h : (writeF p i s).2 = 0) : (writeF p i s).1.sectors.length = p.sectors.length := by
  obtain ⟨_, _, _, _, e⟩ := write_ok h
  rw [e]
theorem sync_len {p : Plat} (h : checkP p = true) : (syncF p).1.sectors.length = p.sectors.length := (sync_ok h).2.2.1
/-- the four deeds, all of them right -/
structure Four (p : Plat) (i1 : Int) (s1 : ByteArray) (i2 : Int) (s2 : ByteArray) (q : Plat) : Prop where
  w1 : (writeF p i1 s1).2 = 0
  w2 : (writeF (syncF (writeF p i1 s1).1).1 i2 s2).2 = 0
  eq : q = (syncF (writeF (syncF (writeF p i1 s1).1).1 i2 s2).1).1
section
variable {p q : Plat} {i1 : Int} {s1 : ByteArray} {i2 : Int} {s2 : ByteArray}
theorem doTo1 : doTo p i1 s1 i2 s2 1 = writeF p i1 s1 := rfl
theorem doTo2 : doTo p i1 s1 i2 s2 2 = if (writeF p i1 s1).2 = 0 then syncF (writeF p i1 s1).1 else writeF p i1 s1 := rfl
theorem doTo_ok1 (h : (writeF p i1 s1).2 = 0) : doTo p i1 s1 i2 s2 1 = ((writeF p i1 s1).1, 0) := by rw [doTo1, ← h]
theorem doTo_ok2 (h : (writeF p i1 s1).2 = 0) : doTo p i1 s1 i2 s2 2 = ((syncF (writeF p i1 s1).1).1, 0) := by
  rw [doTo_next (doTo_ok1 h)]
  show syncF _ = _
  rw [← (sync_ok (write_check h)).1]
theorem doTo_ok3 (h : (writeF p i1 s1).2 = 0) (h2 : (writeF (syncF (writeF p i1 s1).1).1 i2 s2).2 = 0) : doTo p i1 s1 i2 s2 3 = ((writeF (syncF (writeF p i1 s1).1).1 i2 s2).1, 0) := by
  rw [doTo_next (doTo_ok2 h)]
  show writeF _ _ _ = _
  rw [← h2]
theorem doTo_ok4 (h : (writeF p i1 s1).2 = 0) (h2 : (writeF (syncF (writeF p i1 s1).1).1 i2 s2).2 = 0) : doTo p i1 s1 i2 s2 4 = ((syncF (writeF (syncF (writeF p i1 s1).1).1 i2 s2).1).1, 0) := by
  rw [doTo_next (doTo_ok3 h h2)]
  show syncF _ = _
  rw [← (sync_ok (write_check h2)).1]
theorem doTo_w1 {N : Nat} (hN : 1 ≤ N) (h : (doTo p i1 s1 i2 s2 N).2 = 0) : (writeF p i1 s1).2 = 0 := by
  by_cases h1 : (writeF p i1 s1).2 = 0
  · exact h1
  · have := doTo_stays (q := (writeF p i1 s1).1) (er := (writeF p i1 s1).2) (k := 1) (i2 := i2) (s2 := s2) (by rw [doTo1]) h1 N hN
    rw [this] at h; exact absurd h h1
theorem doTo_w2 {N : Nat} (hN : 3 ≤ N) (h : (doTo p i1 s1 i2 s2 N).2 = 0) : (writeF (syncF (writeF p i1 s1).1).1 i2 s2).2 = 0 := by
  have h1 := doTo_w1 (by omega) h
  by_cases h2 : (writeF (syncF (writeF p i1 s1).1).1 i2 s2).2 = 0
  · exact h2
  · have h3 : doTo p i1 s1 i2 s2 3 = ((writeF (syncF (writeF p i1 s1).1).1 i2 s2).1, (writeF (syncF (writeF p i1 s1).1).1 i2 s2).2) := by
      rw [doTo_next (doTo_ok2 h1)]; rfl
    have := doTo_stays h3 h2 N hN
    rw [this] at h; exact absurd h h2
/-- what is read behind so many deeds -/
theorem read2 (h : (writeF p i1 s1).2 = 0) (o : Int) : readF (syncF (writeF p i1 s1).1).1 o = if o = i1 then (s1, 0) else readF p o := by
  rw [read_sync (write_check h), read_write h]
theorem read3 (h : (writeF p i1 s1).2 = 0) (h2 : (writeF (syncF (writeF p i1 s1).1).1 i2 s2).2 = 0) (o : Int) : readF (writeF (syncF (writeF p i1 s1).1).1 i2 s2).1 o = if o = i2 then (s2, 0) else if o = i1 then (s1, 0) else readF p o := by
  rw [read_write h2, read2 h]
theorem read4 (h : (writeF p i1 s1).2 = 0) (h2 : (writeF (syncF (writeF p i1 s1).1).1 i2 s2).2 = 0) (o : Int) : readF (syncF (writeF (syncF (writeF p i1 s1).1).1 i2 s2).1).1 o = if o = i2 then (s2, 0) else if o = i1 then (s1, 0) else readF p o := by
  rw [read_sync (write_check h2), read3 h h2]
end
theorem mark_cases (old : ByteArray) : (old.toList = [48] ∧ markF old = ⟨#[49]⟩) ∨ (old.toList ≠ [48] ∧ markF old = ⟨#[48]⟩) := by
  unfold markF
  by_cases h : old.toList = [48]
  · exact .inl ⟨h, by rw [if_pos h]⟩
  · exact .inr ⟨h, by rw [if_neg h]⟩
theorem list0 : (⟨#[48]⟩ : ByteArray).toList = [48] := by kernel_rfl
theorem list1 : (⟨#[49]⟩ : ByteArray).toList = [49] := by kernel_rfl
theorem body0 : bodyF ⟨#[48]⟩ = (1, true) := by kernel_rfl
theorem body1 : bodyF ⟨#[49]⟩ = (2, true) := by kernel_rfl
/-- what Get tells, by what is read -/
theorem getF_mark {p : Plat} {i : Int} {m s : ByteArray} {far : Int} {e : Int} (h : readF p i = (m, 0)) (hm : m.toList ≠ []) (hb : bodyF m = (far, true)) (hs : readF p (i + far) = (s, e)) : getF p i = (s, decide (e = 0), e) := by
  unfold getF
  rw [h]
  simp only [if_true, hm, if_false, hb, hs]
theorem getF_empty {p : Plat} {i : Int} {m : ByteArray} (h : readF p i = (m, 0)) (hm : m.toList = []) : getF p i = (⟨#[]⟩, false, 0) := by
  unfold getF
  rw [h]
  simp only [if_true, hm]
/-- the three cases of a twin that Get takes -/
theorem get_ok {p : Plat} {i : Int} (h : (getF p i).2.2 = 0) : (∃ m, readF p i = (m, 0)) ∧
    (((readF p i).1.toList = [] ∧ getF p i = (⟨#[]⟩, false, 0)) ∨ ∃ far, (((readF p i).1 = ⟨#[48]⟩ ∧ far = 1) ∨ ((readF p i).1 = ⟨#[49]⟩ ∧ far = 2)) ∧ (readF p (i + far)).2 = 0 ∧ getF p i = ((readF p (i + far)).1, true, 0)) := by
  have h0 := get_read h
  refine ⟨⟨(readF p i).1, by rw [← h0]⟩, ?_⟩
  have hR : readF p i = ((readF p i).1, 0) := by rw [← h0]
  generalize (readF p i).1 = m at hR ⊢
  by_cases hm : m.toList = []
  · exact .inl ⟨hm, getF_empty hR hm⟩
  · refine .inr ?_
    rcases bodyF_cases m with ⟨rfl, hb⟩ | ⟨rfl, hb⟩ | ⟨h1, h2, hb⟩
    · have := getF_mark hR hm hb rfl
      rw [this] at h ⊢
      dsimp only at h ⊢
      exact ⟨1, .inl ⟨rfl, rfl⟩, h, by rw [h]; rfl⟩
    · have := getF_mark hR hm hb rfl
      rw [this] at h ⊢
      dsimp only at h ⊢
      exact ⟨2, .inr ⟨rfl, rfl⟩, h, by rw [h]; rfl⟩
    · exfalso
      unfold getF at h
      rw [hR] at h
      simp only [if_true, hm, if_false, hb] at h
      simp at h
section
variable {p : Plat} {i : Int} {s : ByteArray}
/-- a Put that is right is so many deeds -/
theorem putF_do (hg : (getF p i).2.2 = 0) (most : Int) : putF p i s most = doN p (i + (bodyF (markF (readF p i).1)).1) s i (markF (readF p i).1) (mostN most) := by unfold putF; rw [if_pos hg]
theorem put_get {most : Int} (h : (putF p i s most).2.2 = 0) : (getF p i).2.2 = 0 := by
  by_cases hg : (getF p i).2.2 = 0
  · exact hg
  · unfold putF at h; rw [if_neg hg] at h; exact h
theorem put_err {most : Int} (h : (putF p i s most).2.2 ≠ 0) : (putF p i s most).1 = noPlat ∧ (putF p i s most).2.1 = false := by
  by_cases hg : (getF p i).2.2 = 0
  · rw [putF_do hg] at h ⊢
    unfold doN at h ⊢
    split at h
    · exact absurd rfl h
    · rename_i hn
      rw [if_neg hn]; exact ⟨rfl, rfl⟩
  · unfold putF; rw [if_neg hg]; exact ⟨rfl, rfl⟩
/-- TwinBack's plain law -/
theorem put_back (h : (putF p i s 4).2.2 = 0) : (putF p i s 4).2.1 = true ∧ getF (putF p i s 4).1 i = (s, true, 0) ∧ (∀ o, o ≠ i → o ≠ i + 1 → o ≠ i + 2 → readF (putF p i s 4).1 o = readF p o) := by
  have hg := put_get h
  rw [putF_do hg] at h ⊢
  obtain ⟨⟨m, hm⟩, _⟩ := get_ok hg
  rw [hm] at h ⊢
  have e4 : mostN 4 = 4 := rfl
  rw [e4] at h ⊢
  have hd : (doTo p (i + (bodyF (markF m)).1) s i (markF m) 4).2 = 0 := by
    unfold doN at h
    split at h
    · assumption
    · exact h
  have h1 := doTo_w1 (by omega) hd
  have h2 := doTo_w2 (by omega) hd
  have hok := doN_ok (doTo_ok4 h1 h2)
  dsimp only at hd h1 h2 hok ⊢
  rw [hok]
  refine ⟨rfl, ?_, fun o a b c => ?_⟩
  · rcases mark_cases m with ⟨_, e⟩ | ⟨_, e⟩
    · rw [e] at h1 h2 ⊢
      rw [body1] at h1 h2 ⊢
      have := getF_mark (p := (syncF (writeF (syncF (writeF p (i + 2) s).1).1 i ⟨#[49]⟩).1).1) (i := i) (m := ⟨#[49]⟩) (far := 2) (s := s) (e := 0) (by rw [read4 h1 h2, if_pos rfl]) (by rw [list1]; simp) body1 (by rw [read4 h1 h2, if_neg (by omega), if_pos rfl])
      simpa using this
    · rw [e] at h1 h2 ⊢
      rw [body0] at h1 h2 ⊢
      have := getF_mark (p := (syncF (writeF (syncF (writeF p (i + 1) s).1).1 i ⟨#[48]⟩).1).1) (i := i) (m := ⟨#[48]⟩) (far := 1) (s := s) (e := 0) (by rw [read4 h1 h2, if_pos rfl]) (by rw [list0]; simp) body0 (by rw [read4 h1 h2, if_neg (by omega), if_pos rfl])
      simpa using this
  · dsimp only
    rw [read4 h1 h2, if_neg a, if_neg]
    rcases mark_cases m with ⟨_, e⟩ | ⟨_, e⟩
    · rw [e, body1]; exact c
    · rw [e, body0]; exact b
/-- TwinNone's plain law -/
theorem put_none (hg : (getF p i).2.2 = 0) : putF p i s 0 = (p, false, 0) := by
  rw [putF_do hg]
  rfl
theorem put_none_bad (hg : (getF p i).2.2 ≠ 0) (most : Int) : putF p i s most = (noPlat, false, (getF p i).2.2) := by unfold putF; rw [if_neg hg]
end
end Go.Proofs.Ytefodifmfjpnlaa
