/- SealTurned, for every input: the walk. -/
import Derived.Test.YtpbbphjhjjpkjaaDoorSealD
set_option linter.unusedVariables false
namespace Go.Proofs.YtpbbphjhjjpkjaaDoor
open Go.RowKit
set_option maxRecDepth 100000 in
set_option maxHeartbeats 2000000 in
theorem sturned_far (key nonce beside s : ByteArray) (c : UInt8) (w : World) (h1 : key.size ≤ 140737488351232) (h2 : nonce.size ≤ 140737488351232) (h3 : beside.size ≤ 140737488351232) (h4 : s.size ≤ 140737488351232)
    (h : 100 < key.size ∨ 100 < nonce.size ∨ 5000 < beside.size + s.size) :
    Calls Tryd.prog 4 #[.string key, .string nonce, .string beside, .string s, .int .u8 c.toNat] w fun e w' => e = .returned (.bool true) ∧ Below w.heap.size w w' := by
  by_cases c1 : 100 < key.size
  · have t1 : decide (100 < (key.size : Int)) = true := by simp; omega
    clear h
    go_enter Tryd.func4, Tryd.ntmps4
    go_wp2_with fail
    go_ret
    exact ⟨rfl, Below.refl _ _⟩
  · have t1 : decide (100 < (key.size : Int)) = false := by simp; omega
    by_cases c2 : 100 < nonce.size
    · have t2 : decide (100 < (nonce.size : Int)) = true := by simp; omega
      clear h
      go_enter Tryd.func4, Tryd.ntmps4
      go_wp2_with fail
      go_ret
      exact ⟨rfl, Below.refl _ _⟩
    · have t2 : decide (100 < (nonce.size : Int)) = false := by simp; omega
      have t3 : decide (5000 < (beside.size : Int) + (s.size : Int)) = true := by simp; omega
      clear h
      go_enter Tryd.func4, Tryd.ntmps4
      go_wp2_with fail
      go_ret
      exact ⟨rfl, Below.refl _ _⟩

theorem one_byte (w : World) (c : UInt8) : (convert 27 9 (.slice (some ⟨w.heap.size, 0, none⟩) 1 1)).run Tryd.prog (w.alloc (.cells #[.int .u8 c.toNat] 5)).drew = .ok (.string ⟨#[c]⟩) (w.alloc (.cells #[.int .u8 c.toNat] 5)).drew := by
  have h : Blk (w.alloc (.cells #[.int .u8 c.toNat] 5)).drew w.heap.size 5 ([c].map vB).toArray := Blk.drew (Blk.new w 5 #[vB c])
  exact run_blk 27 9 5 Tryd.underlying27 Tryd.underlying5 Tryd.underlying9 (rfl : [c].length = 1) h
theorem turned_ne {a : ByteArray} {c : UInt8} (h : a.size - 1 < a.size) (hc : a[a.size - 1] ≠ c) : a.extract 0 (a.size - 1) ++ ⟨#[c]⟩ ≠ a := by
  intro he
  have h1 : a.data.extract 0 (a.size - 1) ++ #[c] = a.data := by
    have := congrArg ByteArray.data he
    rw [ByteArray.data_append, ByteArray.data_extract] at this
    exact this
  have h2 : (a.data.extract 0 (a.size - 1) ++ #[c])[a.size - 1]? = a.data[a.size - 1]? := by rw [h1]
  have hs : (a.data.extract 0 (a.size - 1)).size = a.size - 1 := by
    rw [Array.size_extract]
    show min (a.size - 1) a.size - 0 = _
    omega
  rw [Array.getElem?_append_right (by omega), hs, Nat.sub_self] at h2
  have h3 : a.data[a.size - 1]? = some a[a.size - 1] := Array.getElem?_eq_getElem h
  rw [h3] at h2
  exact hc (by simpa using h2.symm)
theorem turned_size {a : ByteArray} {c : UInt8} (h : 1 ≤ a.size) : (a.extract 0 (a.size - 1) ++ ⟨#[c]⟩).size = a.size := by
  rw [ByteArray.size_append, ByteArray.size_extract]
  show min (a.size - 1) a.size - 0 + 1 = a.size
  omega
theorem turned_head {a : ByteArray} {c : UInt8} (h : 16 ≤ a.size) : headB (a.extract 0 (a.size - 1) ++ ⟨#[c]⟩) = headB a := by
  unfold headB
  rw [turned_size (by omega)]
  refine ba_eq ?_
  rw [ByteArray.data_extract, ByteArray.data_append, ByteArray.data_extract, ByteArray.data_extract]
  have hs : (a.data.extract 0 (a.size - 1)).size = a.size - 1 := by
    rw [Array.size_extract]
    show min (a.size - 1) a.size - 0 = _
    omega
  rw [Array.extract_append, hs, show a.size - 16 - (a.size - 1) = 0 by omega, Array.extract_extract, Nat.zero_add, Nat.zero_add, Nat.min_eq_left (by omega), Nat.zero_sub]
  simp
/-- with another last byte it is not opened -/
theorem turned_open {key nonce beside s a : ByteArray} {c : UInt8} (hA : sealF key nonce beside s = (a, 0)) (h : a.size - 1 < a.size) (hc : a[a.size - 1] ≠ c) :
    openF key nonce beside (a.extract 0 (a.size - 1) ++ ⟨#[c]⟩) = (⟨#[]⟩, 60) := by
  have has := seal_size hA
  obtain ⟨hk, hn, hb, hs, ha⟩ := seal_ok hA
  have hz := turned_size (a := a) (c := c) (by omega)
  have hne := turned_ne h hc
  have hh := turned_head (a := a) (c := c) (by omega)
  obtain ⟨p1, p2, p3⟩ := sealed_parts (hideB key nonce 1 s) (tagB (onceB key nonce) (toldB beside (hideB key nonce 1 s))) (tagB_size _ _)
  rw [← ha] at p1 p2 p3
  unfold openF
  rw [if_neg (by omega), if_neg (by omega), if_pos]
  refine .inr ?_
  unfold fitsB
  rw [hh, p1]
  refine beq_eq_false_iff_ne.2 fun hq => hne ?_
  have hq2 := bytes_ext hq
  rw [← p2] at hq2
  have e1 := two_parts (a.extract 0 (a.size - 1) ++ ⟨#[c]⟩) (a.size - 16) (by omega)
  have e2 := two_parts a (a.size - 16) (by omega)
  have e3 : (a.extract 0 (a.size - 1) ++ ⟨#[c]⟩).extract 0 (a.size - 16) = a.extract 0 (a.size - 16) := by
    have := hh
    unfold headB at this
    rw [hz] at this
    exact this
  have e4 : (a.extract 0 (a.size - 1) ++ ⟨#[c]⟩).extract (a.size - 16) (a.extract 0 (a.size - 1) ++ ⟨#[c]⟩).size = a.extract (a.size - 16) a.size := by
    have := hq2.symm
    unfold tailB at this
    rw [hz] at this
    rw [hz]
    exact this
  rw [← e1, e3, e4, e2]
set_option maxRecDepth 100000 in
set_option maxHeartbeats 2000000 in
theorem sturned_main (key nonce beside s : ByteArray) (c : UInt8) (w : World) (hG : Turns w) (h1 : key.size ≤ 100) (h2 : nonce.size ≤ 100) (h3 : beside.size + s.size ≤ 5000) :
    Calls Tryd.prog 4 #[.string key, .string nonce, .string beside, .string s, .int .u8 c.toNat] w fun e w' => e = .returned (.bool true) ∧ Below w.heap.size w w' := by
  obtain ⟨a, e, hA⟩ : ∃ a e, sealF key nonce beside s = (a, e) := ⟨_, _, rfl⟩
  have t1 : decide (100 < (key.size : Int)) = false := by simp; omega
  have t2 : decide (100 < (nonce.size : Int)) = false := by simp; omega
  have t3 : decide (5000 < (beside.size : Int) + (s.size : Int)) = false := by simp; omega
  have HA := Lib.hid hA
  have HG := Lib.hid hG
  have hl3 : beside.size ≤ 5000 := by omega
  have hl4 : s.size ≤ 5000 := by omega
  clear hA hG
  go_enter Tryd.func4, Tryd.ntmps4
  go_wp2_with fail
  refine (seal_any key nonce beside s w HG.out (by omega) (by omega)).mono ?_
  rintro r w1 ⟨rfl, hb1⟩
  rw [HA.out]
  dsimp only
  by_cases he : e = 0
  · subst he
    have has := seal_size HA.out
    obtain ⟨hk, hn, hb, hs, ha⟩ := seal_ok HA.out
    have HQ := Lib.hid (And.intro hk (And.intro hn hb))
    clear ha hk hn
    have hal : a.size ≤ 4016 := by omega
    have t4 : decide ((a.size : Int) < 16) = false := by simp; omega
    obtain ⟨m, hm⟩ : ∃ m, a.size - 1 = m := ⟨_, rfl⟩
    have hmi : (a.size : Int) - 1 = (m : Int) := by omega
    have hml : m < a.size := by omega
    have m0 : (0 : Int) ≤ m := by omega
    have m1 : (m : Int) ≤ a.size := by omega
    have h16 : 16 ≤ a.size := by omega
    clear has
    have hlb := (a[m]'hml).toNat_lt
    have hcl := c.toNat_lt
    by_cases hc : a[m]'hml = c
    · have t5 : (((a[m]'hml).toNat : Int) == (c.toNat : Int)) = true := by rw [hc]; simp
      go_wp2_with fail
      refine (seals_any w1 (HG.out.below hb1 HG.out.pos)).mono ?_
      rintro r w5 ⟨rfl, hb5⟩
      have hB5 := hb1.trans (hb5.mono hb1.size)
      go_wp2_with fail
      go_ret
      exact ⟨rfl, hB5⟩
    · have t5 : (((a[m]'hml).toNat : Int) == (c.toNat : Int)) = false := by
        simp
        intro h
        exact hc (UInt8.toNat_inj.1 (by omega))
      have hto : openF key nonce beside (a.extract 0 m ++ ⟨#[c]⟩) = (⟨#[]⟩, 60) := by
        subst hm
        exact turned_open HA.out hml hc
      have hzs : (a.extract 0 m ++ ⟨#[c]⟩).size ≤ 5000 := by
        rw [← hm, turned_size (by omega)]; omega
      have hes : openF key nonce beside ⟨#[]⟩ = (⟨#[]⟩, 60) := open_short HQ.out.1 HQ.out.2.1 HQ.out.2.2 (by decide)
      have hcs : (a.extract 0 m).size ≤ 5000 := by simp; omega
      obtain ⟨x, hx⟩ : ∃ x, a.extract 0 m ++ ⟨#[c]⟩ = x := ⟨_, rfl⟩
      have HX := Lib.hid hx
      rw [hx] at hto hzs
      clear hx
      have HT := Lib.hid (And.intro hto (And.intro hes hzs))
      clear hto hes hzs hc
      have HTu : Hid (∀ W, Below w1.heap.size w1 W → Turns W) := Lib.hid (fun W hb => HG.out.below (hb1.trans (hb.mono hb1.size)) HG.out.pos)
      have hwr : IntKind.i64.wrap ((a.size : Int) - 1) = (m : Int) := by rw [IntWalk.i64_in _ (by omega)]; exact hmi
      have m2 : ¬ ((m : Int) < 0) := by omega
      have m3 : ¬ ((a.size : Int) < (m : Int)) := by omega
      have hm2 : m ≤ a.size := by omega
      have hwm : IntKind.i64.wrap (m : Int) = (m : Int) := by rw [IntWalk.i64_in _ (by omega)]
      have hcv := one_byte w1 c
      clear hm
      have HO : Hid (Turns (w1.alloc (.cells #[.int .u8 c.toNat] 5)).drew ∧ beside.size ≤ 140737488351232 ∧ x.size ≤ 140737488351232) := Lib.hid ⟨HTu.out _ (by go_grown), by omega, by have := HT.out.2.2; omega⟩
      go_upto_region 6 with (fail)
      go_region_with (go_at_call 7; rw [HX.out]; refine (open_any key nonce beside x _ HO.out.1 HO.out.2.1 HO.out.2.2).mono ?_; rintro r w2 ⟨rfl, hb2⟩; rw [HT.out.1]; dsimp only)
      all_goals
        have hbw : Below w1.heap.size w1 w2 := Below.trans (by go_grown) (hb2.mono (by simp))
        have hB2 := hb1.trans (hbw.mono hb1.size)
        clear hb2 hbw hb1
        go_wp2_with fail
        refine (open_any key nonce beside ⟨#[]⟩ w2 (HG.out.below hB2 HG.out.pos) (by omega) (by decide)).mono ?_
        rintro r w3 ⟨rfl, hb3⟩
        rw [HT.out.2.1]
        dsimp only
        have hB3 := hB2.trans (hb3.mono hB2.size)
        go_wp2_with fail
        refine (seals_any w3 (HG.out.below hB3 HG.out.pos)).mono ?_
        rintro r w5 ⟨rfl, hb5⟩
        have hB5 := hB3.trans (hb5.mono hB3.size)
        go_wp2_with fail
        go_ret
        exact ⟨rfl, hB5⟩
  · have te : (e != 0) = true := by simp [he]
    go_wp2_with fail
    refine (seals_any w1 (HG.out.below hb1 HG.out.pos)).mono ?_
    rintro r w5 ⟨rfl, hb5⟩
    have hB5 := hb1.trans (hb5.mono hb1.size)
    go_wp2_with fail
    go_ret
    exact ⟨rfl, hB5⟩
theorem sturned_any (key nonce beside s : ByteArray) (c : UInt8) (w : World) (hG : Turns w) (h1 : key.size ≤ 140737488351232) (h2 : nonce.size ≤ 140737488351232) (h3 : beside.size ≤ 140737488351232) (h4 : s.size ≤ 140737488351232) :
    Calls Tryd.prog 4 #[.string key, .string nonce, .string beside, .string s, .int .u8 c.toNat] w fun e w' => e = .returned (.bool true) ∧ Below w.heap.size w w' := by
  by_cases h : 100 < key.size ∨ 100 < nonce.size ∨ 5000 < beside.size + s.size
  · exact sturned_far key nonce beside s c w h1 h2 h3 h4 h
  · exact sturned_main key nonce beside s c w hG (by omega) (by omega) (by omega)
end Go.Proofs.YtpbbphjhjjpkjaaDoor
