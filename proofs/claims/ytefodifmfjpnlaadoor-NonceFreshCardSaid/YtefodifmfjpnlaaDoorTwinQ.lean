/- chapter 14, plain: a Put that is stopped, and a crash behind it (for TwinCrash and TwinRow). -/
import Derived.Test.YtefodifmfjpnlaaDoorTwinF
set_option linter.unusedVariables false
namespace Go.Proofs.YtefodifmfjpnlaaDoor
open Go.RowKit
/-- what is read behind a crash of a platter that one text waits on -/
theorem crash_one {p : Plat} {i : Int} {s : ByteArray} (hp : p.cache = []) (h : (writeF p i s).2 = 0) (F : List Int) :
    ∃ x : ByteArray, (∀ o, readF (crashF (writeF p i s).1 F).1 o = if o = i then (x, 0) else readF p o) ∧
      (x = (readF p i).1 ∨ x = s ∨ ∃ n, x = mixB (readF p i).1 s n) := by
  obtain ⟨hc, hi, hs, hl, e⟩ := write_ok h
  have hc' := write_check h
  rw [e] at hc' ⊢
  obtain ⟨S, C⟩ := p
  dsimp only at hp
  subst hp
  dsimp only [List.nil_append] at hc' e ⊢
  have hn := (hasB_iff _ _).1 hi
  dsimp only at hn
  obtain ⟨j, rfl⟩ := Int.eq_ofNat_of_zero_le hn.1
  have hj : j < S.length := by omega
  have er : readF ⟨S, []⟩ (j : Int) = (S.getD j ByteArray.empty, 0) := by
    rw [readF_ok hc, if_pos hi]
    simp [readOf_bare]
  have ec : crashF ⟨S, [⟨(j : Int), s⟩]⟩ F = (⟨(fallF ⟨S, [⟨(j : Int), s⟩]⟩ ⟨(j : Int), s⟩ (F.getD 0 0)).sectors, []⟩, 0) := by
    unfold crashF settleF
    rw [if_pos hc']
    rfl
  obtain ⟨_, c2, _, c4, _⟩ := crash_ok hc' F
  rw [ec] at c2 c4 ⊢
  dsimp only at c2 c4 ⊢
  generalize hS : (fallF ⟨S, [⟨(j : Int), s⟩]⟩ ⟨(j : Int), s⟩ (F.getD 0 0)).sectors = S' at c2 c4 ⊢
  have hfar : ∀ k : Nat, k ≠ j → S'[k]? = S[k]? := by
    intro k hk
    rw [← hS]
    exact fallF_far ⟨S, _⟩ ⟨(j : Int), s⟩ _ k (by simp) (by simp; omega)
  refine ⟨S'.getD j ByteArray.empty, fun o => ?_, ?_⟩
  · by_cases ho : o = (j : Int)
    · subst ho
      rw [if_pos rfl, readF_ok c4, c2, if_pos hi]
      simp [readOf_bare]
    · rw [if_neg ho, readF_ok c4, readF_ok hc, c2]
      dsimp only
      by_cases hb : hasB S.length o = true
      · have hb' := (hasB_iff _ _).1 hb
        rw [if_pos hb, if_pos hb, readOf_bare, readOf_bare]
        simp only [List.getD, hfar o.toNat (by omega)]
      · rw [if_neg hb, if_neg hb]
  · rw [er, ← hS]
    unfold fallF
    dsimp only
    split
    · exact .inl rfl
    · split
      · refine .inr (.inl ?_)
        simp [List.getD, hj]
      · refine .inr (.inr ⟨(F.getD 0 0 - 2).toNat, ?_⟩)
        simp [List.getD, hj]
/-- a crash of a platter whose cache is empty is nothing -/
theorem crash_bare {p : Plat} (hc : checkP p = true) (h : p.cache = []) (F : List Int) : crashF p F = (p, 0) := settle_bare hc h _
/-- a mark that falls on another one -/
theorem mix_mark {old mark : ByteArray} {n : Nat} (ho : old.size ≤ 1) (hm : mark.size = 1) : mixB old mark n = old ∨ mixB old mark n = mark := by
  unfold mixB
  rcases Nat.eq_zero_or_pos n with rfl | hn
  · left
    by_cases h : 0 < old.size
    · rw [if_pos h]
      apply ByteArray.ext
      simp
    · rw [if_neg h]
      have : old = ByteArray.empty := by
        apply ByteArray.ext
        apply Array.eq_empty_of_size_eq_zero
        show old.size = 0
        omega
      subst this
      apply ByteArray.ext
      simp
  · right
    rw [if_neg (by omega)]
    have : min n mark.size = mark.size := by omega
    rw [this]
    simp
end Go.Proofs.YtefodifmfjpnlaaDoor
/- chapter 14, plain: what Get tells behind a Put that is stopped, and a crash. -/
namespace Go.Proofs.YtefodifmfjpnlaaDoor
open Go.RowKit
/-- Get looks at the mark and the body that it tells -/
theorem getF_same {p q : Plat} {i : Int} (h0 : readF q i = readF p i) (h1 : ∀ far, (bodyF (readF p i).1) = (far, true) → readF q (i + far) = readF p (i + far)) : getF q i = getF p i := by
  unfold getF
  rw [h0]
  by_cases h : (bodyF (readF p i).1).2 = true
  · have := h1 (bodyF (readF p i).1).1 (by rw [← h])
    rw [this]
  · simp only [h, Bool.false_eq_true, if_false]
theorem empty_of {m : ByteArray} (h : m.toList = []) : m = ⟨#[]⟩ := by
  apply bytes_ext
  rw [h]; kernel_rfl
/-- the old mark, the new one, and how far its body is -/
theorem marks {p : Plat} {i : Int} (hg : (getF p i).2.2 = 0) : ∃ (m M : ByteArray) (far : Int), readF p i = (m, 0) ∧ markF m = M ∧ bodyF M = (far, true) ∧ M.size = 1 ∧ m.size ≤ 1 ∧ 1 ≤ far ∧ far ≤ 2 ∧ M.toList ≠ [] ∧ (∀ far', bodyF m = (far', true) → far' ≠ far) := by
  obtain ⟨⟨m, hm⟩, h⟩ := get_ok hg
  rw [hm] at h
  dsimp only at h
  rcases h with ⟨h, _⟩ | ⟨f, h, _⟩
  · obtain rfl := empty_of h
    refine ⟨_, ⟨#[48]⟩, 1, hm, by kernel_rfl, body0, rfl, by decide, by omega, by omega, by rw [list0]; simp, ?_⟩
    intro far' hf
    have : bodyF ⟨#[]⟩ = (0, false) := by kernel_rfl
    rw [this] at hf; injection hf with _ hf; cases hf
  · rcases h with ⟨rfl, rfl⟩ | ⟨rfl, rfl⟩
    · refine ⟨_, ⟨#[49]⟩, 2, hm, by kernel_rfl, body1, rfl, by decide, by omega, by omega, by rw [list1]; simp, ?_⟩
      intro far' hf
      rw [body0] at hf; injection hf with hf _; omega
    · refine ⟨_, ⟨#[48]⟩, 1, hm, by kernel_rfl, body0, rfl, by decide, by omega, by omega, by rw [list0]; simp, ?_⟩
      intro far' hf
      rw [body1] at hf; injection hf with hf _; omega
theorem tcrash_plain {p : Plat} {i : Int} {s : ByteArray} {most : Int} (hp : p.cache = []) (hg : (getF p i).2.2 = 0) (h : (putF p i s most).2.2 = 0) (F : List Int) :
    ∃ (b : Plat) (x : ByteArray) (ok : Bool), crashF (putF p i s most).1 F = (b, 0) ∧ getF b i = (x, ok, 0) ∧ ((x = s ∧ ok = true) ∨ ((putF p i s most).2.1 = false ∧ x = (getF p i).1 ∧ ok = (getF p i).2.1)) ∧
      b.cache = [] ∧ b.sectors.length = p.sectors.length := by
  obtain ⟨m, M, far, hm, hM, hB, hM1, hm1, hf1, hf2, hMe, hff⟩ := marks hg
  obtain ⟨hc, hi0, hin, hi2⟩ := read_pos (get_read hg)
  have hG : getF p i = ((getF p i).1, (getF p i).2.1, 0) := by rw [← hg]
  rw [putF_do hg, hm] at h ⊢
  dsimp only at h ⊢
  rw [hM, hB] at h ⊢
  dsimp only at h ⊢
  have hN : mostN most ≤ 4 := by unfold mostN; split <;> omega
  generalize mostN most = N at hN h ⊢
  have hd : (doTo p (i + far) s i M N).2 = 0 := by
    unfold doN at h
    split at h
    · assumption
    · exact h
  have keep : ∀ b : Plat, (∀ o, o ≠ i + far → readF b o = readF p o) → getF b i = getF p i := by
    intro b hb
    refine getF_same (hb i (by omega)) fun far' hf => hb _ ?_
    rw [hm] at hf
    have := hff far' hf
    omega
  have hNc : N = 0 ∨ N = 1 ∨ N = 2 ∨ N = 3 ∨ N = 4 := by omega
  rcases hNc with rfl | rfl | rfl | rfl | rfl
  · rw [doN_ok (show doTo p (i + far) s i M 0 = (p, 0) from rfl)]
    exact ⟨p, _, _, crash_bare hc hp F, hG, .inr ⟨rfl, rfl, rfl⟩, hp, rfl⟩
  · have h1 := doTo_w1 (by omega) hd
    rw [doN_ok (doTo_ok1 h1)]
    obtain ⟨x, hx, _⟩ := crash_one hp h1 F
    obtain ⟨c1, c2, c3, _⟩ := crash_ok (write_check h1) F
    refine ⟨_, _, _, by dsimp only; rw [← c1], (keep _ fun o ho => by rw [hx, if_neg ho]).trans hG, .inr ⟨rfl, rfl, rfl⟩, c3, by rw [c2, write_len h1]⟩
  · have h1 := doTo_w1 (by omega) hd
    rw [doN_ok (doTo_ok2 h1)]
    obtain ⟨s1, s2, s3, s4, _⟩ := sync_ok (write_check h1)
    exact ⟨_, _, _, crash_bare s4 s2 F, (keep _ fun o ho => by rw [read2 h1, if_neg ho]).trans hG, .inr ⟨rfl, rfl, rfl⟩, s2, by rw [s3, write_len h1]⟩
  · have h1 := doTo_w1 (by omega) hd
    have h2 := doTo_w2 (by omega) hd
    rw [doN_ok (doTo_ok3 h1 h2)]
    obtain ⟨s1, s2, s3, s4, _⟩ := sync_ok (write_check h1)
    obtain ⟨x, hx, hxx⟩ := crash_one s2 h2 F
    obtain ⟨c1, c2, c3, _⟩ := crash_ok (write_check h2) F
    have hlen : (crashF (writeF (syncF (writeF p (i + far) s).1).1 i M).1 F).1.sectors.length = p.sectors.length := by rw [c2, write_len h2, s3, write_len h1]
    have hro : readF (syncF (writeF p (i + far) s).1).1 i = (m, 0) := by rw [read2 h1, if_neg (by omega), hm]
    rw [hro] at hxx
    dsimp only at hxx
    have hx2 : x = m ∨ x = M := by
      rcases hxx with h | h | ⟨n, h⟩
      · exact .inl h
      · exact .inr h
      · rw [h]; exact mix_mark hm1 hM1
    rcases hx2 with rfl | rfl
    · refine ⟨_, _, _, by dsimp only; rw [← c1], (keep _ fun o ho => ?_).trans hG, .inr ⟨rfl, rfl, rfl⟩, c3, hlen⟩
      rw [hx]
      by_cases e : o = i
      · subst e; rw [if_pos rfl, hm]
      · rw [if_neg e, read2 h1, if_neg ho]
    · refine ⟨_, s, true, by dsimp only; rw [← c1], ?_, .inl ⟨rfl, rfl⟩, c3, hlen⟩
      have := getF_mark (p := (crashF (writeF (syncF (writeF p (i + far) s).1).1 i x).1 F).1) (i := i) (m := x) (far := far) (s := s) (e := 0) (by rw [hx, if_pos rfl]) hMe hB (by rw [hx, if_neg (by omega), read2 h1, if_pos rfl])
      simpa using this
  · have h1 := doTo_w1 (by omega) hd
    have h2 := doTo_w2 (by omega) hd
    rw [doN_ok (doTo_ok4 h1 h2)]
    obtain ⟨s1, s2, s3, s4, _⟩ := sync_ok (write_check h2)
    obtain ⟨_, _, s5, _, _⟩ := sync_ok (write_check h1)
    refine ⟨_, s, true, crash_bare s4 s2 F, ?_, .inl ⟨rfl, rfl⟩, s2, by rw [s3, write_len h2, s5, write_len h1]⟩
    have := getF_mark (p := (syncF (writeF (syncF (writeF p (i + far) s).1).1 i M).1).1) (i := i) (m := M) (far := far) (s := s) (e := 0) (by rw [read4 h1 h2, if_pos rfl]) hMe hB (by rw [read4 h1 h2, if_neg (by omega), if_pos rfl])
    simpa using this
/-- a Put of a text that fits, where the twin is right and its body has a place, is right (for TwinRow) -/
theorem put_fits {p : Plat} {i : Int} {s : ByteArray} (hp : p.cache = []) (hg : (getF p i).2.2 = 0) (hl : i + 2 < p.sectors.length) (hs : s.size ≤ 128) (most : Int) : (putF p i s most).2.2 = 0 := by
  obtain ⟨m, M, far, hm, hM, hB, hM1, hm1, hf1, hf2, hMe, hff⟩ := marks hg
  obtain ⟨hc, hi0, hin, hi2⟩ := read_pos (get_read hg)
  have w_ok : ∀ (q : Plat) (o : Int) (t : ByteArray), checkP q = true → q.cache = [] → 0 ≤ o → o < q.sectors.length → t.size ≤ 128 → (writeF q o t).2 = 0 := by
    intro q o t h1 h2 h3 h4 h5
    unfold writeF oneF
    rw [if_pos h1, if_pos ((hasB_iff _ _).2 ⟨h3, h4⟩), h2]
    simp [h5]
  have h1 : (writeF p (i + far) s).2 = 0 := w_ok p _ s hc hp (by omega) (by omega) hs
  obtain ⟨s1, s2, s3, s4, _⟩ := sync_ok (write_check h1)
  have h2 : (writeF (syncF (writeF p (i + far) s).1).1 i M).2 = 0 := w_ok _ _ M s4 s2 hi0 (by rw [s3, write_len h1]; exact hin) (by omega)
  rw [putF_do hg, hm]
  dsimp only
  rw [hM, hB]
  dsimp only
  have hN : mostN most ≤ 4 := by unfold mostN; split <;> omega
  generalize mostN most = N at hN ⊢
  have hNc : N = 0 ∨ N = 1 ∨ N = 2 ∨ N = 3 ∨ N = 4 := by omega
  rcases hNc with rfl | rfl | rfl | rfl | rfl
  · rfl
  · rw [doN_ok (doTo_ok1 h1)]
  · rw [doN_ok (doTo_ok2 h1)]
  · rw [doN_ok (doTo_ok3 h1 h2)]
  · rw [doN_ok (doTo_ok4 h1 h2)]
end Go.Proofs.YtefodifmfjpnlaaDoor
