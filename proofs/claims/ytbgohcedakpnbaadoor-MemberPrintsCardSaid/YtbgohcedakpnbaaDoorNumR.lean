/- the reference's numbers: Digits, Number. -/
import Derived.Test.YtbgohcedakpnbaaDoorNonP
import Derived.Test.YtbgohcedakpnbaaDoorItoa
import Derived.Test.YtbgohcedakpnbaaDoorRow
set_option linter.unusedVariables false
namespace Go.Proofs.YtbgohcedakpnbaaDoor
open Go.RowKit
theorem nrun_blk {P : Program} {w : World} {g : Nat} {t : TypeId} {L : List UInt8} (src dst e : TypeId) (hs : P.underlying src = some (.slice e)) (he : P.underlying e = some (.int .u8)) (hd : P.underlying dst = some .string) {c n : Nat} (hn : L.length = n) (h : Blk w g t (L.map vB).toArray) :
    (convert src dst (.slice (some ⟨g, 0, none⟩) n c)).run P w = .ok (.string ⟨L.toArray⟩) w := by
  subst hn
  refine run_convert_bytes_back w src dst e ⟨g, 0, none⟩ c L hs he hd fun j hj => ?_
  rw [Addr.add_lit, Nat.zero_add, h.cell j, List.getElem?_toArray, List.getElem?_map, List.getElem?_eq_getElem hj]
  rfl
theorem n_one_byte (w : World) (c : UInt8) : (convert 54 9 (.slice (some ⟨w.heap.size, 0, none⟩) 1 1)).run Tryd.prog (w.alloc (.cells #[.int .u8 c.toNat] 5)) = .ok (.string ⟨#[c]⟩) (w.alloc (.cells #[.int .u8 c.toNat] 5)) := by
  have h : Blk (w.alloc (.cells #[.int .u8 c.toNat] 5)) w.heap.size 5 ([c].map vB).toArray := Blk.new w 5 #[vB c]
  exact nrun_blk 54 9 5 Tryd.underlying54 Tryd.underlying5 Tryd.underlying9 (rfl : [c].length = 1) h
theorem digB_len (n : Nat) (k : Nat) (h : n < 10 ^ (k + 1)) : (Lib.decDigits n).length ≤ k + 1 := by
  induction k generalizing n with
  | zero => rw [dec_rec, if_pos (by omega)]; simp
  | succ k ih =>
    rw [dec_rec]
    split
    · simp
    · rw [List.length_append, List.length_singleton]
      have := ih (n / 10) (by rw [Nat.pow_succ] at h; omega)
      omega
theorem digB_one {n : Nat} (h : n < 10) : digB n = ⟨#[UInt8.ofNat (48 + n)]⟩ := by unfold digB; rw [dec_rec, if_pos h]
theorem digB_more {n : Nat} (h : ¬ n < 10) : digB n = digB (n / 10) ++ digB (n % 10) := by
  have h1 : digB (n % 10) = ⟨#[UInt8.ofNat (48 + n % 10)]⟩ := digB_one (Nat.mod_lt _ (by decide))
  rw [h1]
  unfold digB
  rw [dec_rec, if_neg h]
  apply ByteArray.ext
  rw [ByteArray.data_append]
  simp
set_option maxRecDepth 100000 in
set_option maxHeartbeats 800000 in
theorem rdigits_one (n : Nat) (w : World) (h : n < 10) :
    Calls Tryd.prog 34 #[.int .i64 n] w fun e w' => e = .returned (.string (digB n)) ∧ Below w.heap.size w w' := by
  rw [digB_one h]
  obtain ⟨c, hc⟩ : ∃ c, UInt8.ofNat (48 + n) = c := ⟨_, rfl⟩
  have hcn : c.toNat = 48 + n := by rw [← hc]; simp; omega
  rw [hc]
  have h1 : (48 : Int) + (n : Int) = (c.toNat : Int) := by omega
  have h2 : (c.toNat : Int) % 256 = (c.toNat : Int) := by omega
  have hcv := n_one_byte w c
  have h0 : (n : Int) < 10 := by omega
  have hcl := c.toNat_lt
  clear hc hcn
  go_enter Tryd.func34, Tryd.ntmps34
  go_wp2_with fail
  go_ret
  exact ⟨rfl, by go_grown⟩
set_option maxRecDepth 100000 in
set_option maxHeartbeats 800000 in
theorem rdigits_any (k : Nat) : ∀ (n : Nat) (w : World), n < 10 ^ (k + 1) → k ≤ 10 →
    Calls Tryd.prog 34 #[.int .i64 n] w fun e w' => e = .returned (.string (digB n)) ∧ Below w.heap.size w w' := by
  induction k with
  | zero => intro n w h _; exact rdigits_one n w (by simpa using h)
  | succ k ih =>
    intro n w h hk
    by_cases h10 : n < 10
    · exact rdigits_one n w h10
    · have hp : 10 ^ (k + 1 + 1) ≤ 10 ^ 11 := Nat.pow_le_pow_right (by decide) (by omega)
      have hn11 : n ≤ 100000000000 := by omega
      have hd : (n : Int) / 10 = ((n / 10 : Nat) : Int) := by simp
      have hm : (n : Int) % 10 = ((n % 10 : Nat) : Int) := by simp
      have hq : n / 10 < 10 ^ (k + 1) := by rw [Nat.pow_succ] at h; omega
      have HQ := Lib.hid hq
      have HM := Lib.hid (Nat.mod_lt n (show 10 > 0 by decide))
      have hl1 : (digB (n / 10)).size ≤ 20 := by
        have := digB_len (n / 10) k hq
        show (Lib.decDigits (n / 10)).toArray.size ≤ 20
        simp; omega
      have hl2 : (digB (n % 10)).size ≤ 1 := by rw [digB_one (Nat.mod_lt _ (by decide))]; exact Nat.le_refl _
      rw [digB_more h10]
      have hqb : n / 10 ≤ 100000000000 := by omega
      have hrb : n % 10 ≤ 9 := by omega
      obtain ⟨q, hqe⟩ : ∃ q, n / 10 = q := ⟨_, rfl⟩
      obtain ⟨r, hre⟩ : ∃ r, n % 10 = r := ⟨_, rfl⟩
      rw [hqe] at hd HQ hl1 hqb ⊢
      rw [hre] at hm HM hl2 hrb ⊢
      obtain ⟨a, ha⟩ : ∃ a, digB q = a := ⟨_, rfl⟩
      obtain ⟨b, hb⟩ : ∃ b, digB r = b := ⟨_, rfl⟩
      rw [ha] at hl1
      rw [hb] at hl2
      rw [ha, hb]
      have HA := Lib.hid (And.intro ha hb)
      have h0 : ¬ ((n : Int) < 10) := by omega
      clear hqe hre ha hb hp h hq
      go_enter Tryd.func34, Tryd.ntmps34
      go_wp2_with fail
      refine (ih q w HQ.out (by omega)).mono ?_
      rintro e w1 ⟨rfl, hb1⟩
      rw [HA.out.1]
      go_wp2_with fail
      refine (rdigits_one r w1 HM.out).mono ?_
      rintro e w2 ⟨rfl, hb2⟩
      rw [HA.out.2]
      have hB2 := hb1.trans (hb2.mono hb1.size)
      go_wp2_with fail
      go_ret
      exact ⟨rfl, hB2⟩
end Go.Proofs.YtbgohcedakpnbaaDoor
/- nonce: the number that digits tell: the program's read. -/
namespace Go.Proofs.YtbgohcedakpnbaaDoor
open Go.RowKit
theorem nget_list (s : ByteArray) (k : Nat) (h : k < s.size) : s.data.toList.getD k 0 = s[k] := by
  rw [List.getD_eq_getElem?_getD, List.getElem?_eq_getElem (by simpa using h)]
  rfl
def numF (s : ByteArray) : Option Nat := if numOk s.data.toList = true ∧ valTo s.data.toList s.data.toList.length ≤ 1000000000 then some (valTo s.data.toList s.data.toList.length) else none
theorem numOk_iff (l : List UInt8) : numOk l = true ↔ 1 ≤ l.length ∧ l.length ≤ 10 ∧ ¬ (1 < l.length ∧ l.getD 0 0 = 48) ∧ digsB l = true := by
  unfold numOk
  generalize l.getD 0 0 = c
  generalize l.length = n
  generalize digsB l = d
  cases d <;> by_cases hc : c = 48 <;> simp [hc] <;> omega
theorem digs_all {l : List UInt8} (h : ∀ i, i < l.length → isDig (l.getD i 0) = true) : digsB l = true := by
  unfold digsB
  rw [List.all_eq_true]
  intro x hx
  obtain ⟨i, hi, rfl⟩ := List.mem_iff_getElem.1 hx
  have := h i hi
  rwa [List.getD_eq_getElem?_getD, List.getElem?_eq_getElem hi] at this
theorem digs_no {l : List UInt8} {i : Nat} (hi : i < l.length) (h : isDig (l.getD i 0) = false) : digsB l = false := by
  cases e : digsB l with
  | false => rfl
  | true => rw [digs_get e i hi] at h; exact absurd h (by decide)
theorem numF_no {s : ByteArray} (h : numOk s.data.toList = false) : numF s = none := by
  unfold numF
  rw [if_neg]
  rintro ⟨h1, _⟩
  rw [h] at h1
  exact absurd h1 (by decide)
theorem numOk_false {l : List UInt8} (h : ¬ (1 ≤ l.length ∧ l.length ≤ 10 ∧ ¬ (1 < l.length ∧ l.getD 0 0 = 48) ∧ digsB l = true)) : numOk l = false := by
  cases e : numOk l with
  | false => rfl
  | true => exact absurd ((numOk_iff l).1 e) h
def rnumF (s : ByteArray) : Int := if numOk s.data.toList = true then (valTo s.data.toList s.data.toList.length : Nat) else -1
theorem rnumF_no {s : ByteArray} (h : ¬ (1 ≤ s.data.toList.length ∧ s.data.toList.length ≤ 10 ∧ ¬ (1 < s.data.toList.length ∧ s.data.toList.getD 0 0 = 48) ∧ digsB s.data.toList = true)) : rnumF s = -1 := by
  unfold rnumF
  rw [if_neg]
  rw [numOk_iff]
  exact h
theorem digB_iff (s : ByteArray) (n : Nat) : ((digB n).toList == s.toList) = true ↔ Lib.decDigits n = s.data.toList := by
  rw [beq_iff_eq, bytes_eq_iff]
  constructor
  · intro h
    rw [← h]; rfl
  · intro h
    unfold digB
    rw [h]
theorem empty_toList {s : ByteArray} (h : s.size = 0) : s = ⟨#[]⟩ := by
  cases s with
  | mk d =>
    have : d.size = 0 := h
    rw [Array.size_eq_zero_iff.1 this]
theorem some_toList {s : ByteArray} (h : 0 < s.size) : s.toList.isEmpty = false := by
  rw [List.isEmpty_eq_false_iff]
  intro he
  have : s = ⟨#[]⟩ := bytes_ext (by rw [he]; kernel_rfl)
  rw [this] at h
  exact absurd h (by decide)
set_option maxRecDepth 100000 in
set_option maxHeartbeats 2000000 in
theorem rnum_any (s : ByteArray) (w : World) (hs : s.size ≤ 140737488351232) :
    Calls Tryd.prog 40 #[.string s] w fun e w' => e = .returned (.int .i64 (rnumF s)) ∧ Below w.heap.size w w' := by
  obtain ⟨l, hl⟩ : ∃ l, s.data.toList = l := ⟨_, rfl⟩
  have hll : l.length = s.size := by rw [← hl]; simp
  by_cases h1 : s.size < 1
  · have hno : rnumF s = -1 := rnumF_no (by rw [hl]; omega)
    rw [hno]
    obtain rfl := empty_toList (s := s) (by omega)
    clear hl hll hno
    go_enter Tryd.func40, Tryd.ntmps40
    go_wp2_with fail
    go_ret
    exact ⟨rfl, Below.refl _ _⟩
  · have tE := some_toList (s := s) (by omega)
    by_cases h2 : 10 < s.size
    · have hno : rnumF s = -1 := rnumF_no (by rw [hl]; omega)
      rw [hno]
      have t2 : decide (10 < (s.size : Int)) = true := by simp; omega
      clear hl hll hno
      go_enter Tryd.func40, Tryd.ntmps40
      go_wp2_with fail
      go_ret
      exact ⟨rfl, Below.refl _ _⟩
    · have t2 : decide (10 < (s.size : Int)) = false := by simp; omega
      have HL := Lib.hid (And.intro hl hll)
      have HGet : Hid (∀ k (h : k < s.size), l.getD k 0 = s[k]) := Lib.hid (fun k h => by rw [← hl]; exact nget_list s k h)
      have h10 : s.size ≤ 10 := by omega
      obtain ⟨R, hR⟩ : ∃ R, rnumF s = R := ⟨_, rfl⟩
      rw [hR]
      have HR := Lib.hid hR
      clear hl hll h2 hR
      go_enter Tryd.func40, Tryd.ntmps40
      go_wp2_with fail
      go_loopw [3, 4] (fun nv iv wr => ∃ k : Nat, k ≤ s.size ∧ iv = .int .i64 k ∧ nv = .int .i64 (valTo l k) ∧ Hid (∀ i, i < k → isDig (l.getD i 0) = true) ∧ w = wr) (fun _ iv _ => s.size - (intOf iv).toNat)
      case atStart => exact ⟨0, by omega, rfl, rfl, Lib.hid (fun i hi => absurd hi (by omega)), rfl⟩
      case round =>
        obtain ⟨k, hk, rfl, rfl, HD, rfl⟩ := hrel
        have hvl := valTo_lt l k HD.out
        have hpw : 10 ^ k ≤ 10 ^ 10 := Nat.pow_le_pow_right (by decide) (by omega)
        have hv10 : valTo l k ≤ 10000000000 := by omega
        obtain ⟨x, hx⟩ : ∃ x, valTo l k = x := ⟨_, rfl⟩
        rw [hx] at hv10 ⊢
        have HX := Lib.hid (And.intro hx HD.out)
        clear hvl hpw hx HD
        by_cases hlt : k < s.size
        · have hgk := HGet.out k hlt
          have hbk := (s[k]'hlt).toNat_lt
          by_cases hd : isDig (s[k]'hlt) = true
          · have hd2 := (dig_iff _).1 hd
            have u1 : decide (((s[k]'hlt).toNat : Int) < 48) = false := by simp; omega
            have u2 : decide (57 < ((s[k]'hlt).toNat : Int)) = false := by simp; omega
            obtain ⟨y, hy⟩ : ∃ y, (s[k]'hlt).toNat - 48 = y := ⟨_, rfl⟩
            have hyi : ((s[k]'hlt).toNat : Int) = (y : Int) + 48 := by omega
            have HYI := Lib.hid hyi
            have hy9 : y ≤ 9 := by omega
            have HV : Hid (valTo l (k + 1) = 10 * x + y) := Lib.hid (by rw [valTo, HX.out.1, hgk, hy])
            have HD2 : Hid (∀ i, i < k + 1 → isDig (l.getD i 0) = true) := Lib.hid (fun i hi => by
              by_cases e : i = k
              · rw [e, hgk]; exact hd
              · exact HX.out.2 i (by omega))
            clear hgk hd hy hyi
            go_wp2_with fail
            go_roundw
            case rel => exact ⟨k + 1, by omega, by go_num, by rw [HV.out]; refine congrArg _ ?_; have := HYI.out; omega, HD2, by first | trivial | rfl⟩
            case measure => simp [intOf]; omega
          · have hd3 : isDig (l.getD k 0) = false := by rw [hgk]; simpa using hd
            have hno : rnumF s = -1 := rnumF_no (by
              rw [HL.out.1]
              intro h
              rw [digs_no (by rw [HL.out.2]; exact hlt) hd3] at h
              exact absurd h.2.2.2 (by decide))
            have HN : Hid (R = -1) := Lib.hid (HR.out.symm.trans hno)
            have hd4 : (s[k]'hlt).toNat < 48 ∨ 57 < (s[k]'hlt).toNat := by
              rcases Nat.lt_or_ge (s[k]'hlt).toNat 48 with h | h
              · exact .inl h
              · rcases Nat.lt_or_ge 57 (s[k]'hlt).toNat with h' | h'
                · exact .inr h'
                · exact absurd ((dig_iff _).2 ⟨h, h'⟩) hd
            clear hgk hd hd3 hno
            have hc2 : decide (((s[k]'hlt).toNat : Int) < 48) = true ∨ (decide (((s[k]'hlt).toNat : Int) < 48) = false ∧ decide (57 < ((s[k]'hlt).toNat : Int)) = true) := by
              rcases Nat.lt_or_ge (s[k]'hlt).toNat 48 with h | h
              · exact .inl (by simp; omega)
              · exact .inr ⟨by simp; omega, by simp; omega⟩
            clear hd4
            rcases hc2 with u1 | ⟨u1, u2⟩
            all_goals
              go_wp2_with fail
              go_ret
              exact ⟨by rw [HN.out]; rfl, Below.refl _ _⟩
        · obtain rfl : k = s.size := by omega
          have hdg : digsB l = true := digs_all (fun i hi => HX.out.2 i (by rw [HL.out.2] at hi; exact hi))
          have hcan := canon l (by rw [HL.out.2]; omega) hdg
          rw [HL.out.2, HX.out.1] at hcan
          have hbe := digB_iff s x
          rw [HL.out.1, hcan] at hbe
          obtain ⟨d, hdx⟩ : ∃ d, digB x = d := ⟨_, rfl⟩
          rw [hdx] at hbe
          have HDX := Lib.hid hdx
          clear hcan hdx
          by_cases hc : 1 < s.size ∧ l.getD 0 0 = 48
          · have hno : rnumF s = -1 := rnumF_no (by rw [HL.out.1, HL.out.2]; intro h; exact h.2.2.1 hc)
            have HN : Hid (R = -1) := Lib.hid (HR.out.symm.trans hno)
            have hne : (d.toList == s.toList) = false := by
              cases e : (d.toList == s.toList) with
              | false => rfl
              | true => exact absurd hc (hbe.1 e)
            clear hbe hc hno hdg
            go_wp2_with fail
            refine (rdigits_any 10 x w (by omega) (by omega)).mono ?_
            rintro e w1 ⟨rfl, hb1⟩
            rw [HDX.out]
            go_wp2_with fail
            go_ret
            exact ⟨by rw [HN.out]; rfl, hb1⟩
          · have hyes : rnumF s = (x : Nat) := by
              unfold rnumF
              rw [if_pos, HL.out.1, HL.out.2, HX.out.1]
              rw [HL.out.1]
              exact (numOk_iff l).2 ⟨by rw [HL.out.2]; omega, by rw [HL.out.2]; exact h10, by rw [HL.out.2]; exact hc, hdg⟩
            have HN : Hid (R = (x : Nat)) := Lib.hid (HR.out.symm.trans hyes)
            have hne : (d.toList == s.toList) = true := hbe.2 hc
            clear hbe hc hyes hdg
            go_wp2_with fail
            refine (rdigits_any 10 x w (by omega) (by omega)).mono ?_
            rintro e w1 ⟨rfl, hb1⟩
            rw [HDX.out]
            go_wp2_with fail
            go_ret
            exact ⟨by rw [HN.out]; rfl, hb1⟩
end Go.Proofs.YtbgohcedakpnbaaDoor
