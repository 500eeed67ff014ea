/- the laws' helpers of chapter 19: Big. -/
import Derived.Test.YtojabnaabgbclaaNetLaw
set_option linter.unusedVariables false
namespace Go.Proofs.Ytojabnaabgbclaa
open Go.RowKit
def bigL (l : Letter) : Bool := decide (200 < l.fr.size + l.to.size) || decide (4100 < l.text.size)
def bigB (N : Net) : Bool := decide (80 < N.way.length) || N.way.any bigL
theorem bigB_letter (N : Net) (k : Nat) (l : Letter) (h : N.way[k]? = some l) (hl : bigL l = true) : bigB N = true := by
  have : N.way.any bigL = true := by rw [List.any_eq_true]; exact ⟨l, List.mem_of_getElem? h, hl⟩
  simp [bigB, this]
theorem upBig_succ {L : List Letter} {k : Nat} {l : Letter} (h : L[k]? = some l) (hu : (L.take k).any bigL = false) (hl : bigL l = false) : (L.take (k + 1)).any bigL = false := by
  obtain ⟨hk, he⟩ := List.getElem?_eq_some_iff.1 h
  rw [List.take_succ_eq_append_getElem hk, List.any_append, hu, he]; simp [hl]

set_option maxHeartbeats 1000000 in
theorem big_any (N : Net) (A : Option Addr) (c : Nat) (w : World) (hS : SlR encL 3 w w.heap.size A N.way.length N.way) (hok : ∀ l ∈ N.way, LetterOk l) :
    Calls Try.prog 12 #[.agg #[.slice A N.way.length c, .int .i64 N.sent, .int .i64 N.delivered, .int .i64 N.lost, .int .i64 N.doubled]] w fun e w' => e = .returned (.bool (bigB N)) ∧ Below w.heap.size w w' := by
  obtain ⟨_, hA⟩ := hS
  by_cases hn : N.way.length ≤ 80
  · have HNo := Lib.hid (bigB_letter N)
    have HEnd : Hid ((N.way.take N.way.length).any bigL = false → bigB N = false) := by
      intro h
      rw [List.take_length] at h
      simp [bigB, h, hn]
    obtain ⟨L, s, d, l, e⟩ := N
    simp only at hn hA HNo HEnd hok ⊢
    generalize hv : bigB ⟨L, s, d, l, e⟩ = v at HEnd HNo ⊢
    clear hv
    rcases hA with h0 | ⟨b, off, rfl, hb, hC⟩
    · obtain rfl : L = [] := List.eq_nil_of_length_eq_zero h0
      go_enter Try.func12, Try.ntmps12
      go_wp2
      go_rounds 1
      go_ret
      exact ⟨ret_bool (HEnd.out rfl).symm, by go_grown⟩
    · have HC := Lib.hid hC
      have HOk := Lib.hid hok
      clear hC hok
      go_enter Try.func12, Try.ntmps12
      go_wp2
      go_loopw [3] (fun i wr => ∃ k : Nat, k ≤ L.length ∧ i = .int .i64 k ∧ Hid ((L.take k).any bigL = false) ∧ Below w.heap.size w wr ∧ Blk wr w.heap.size 25 #[.slice (some ⟨b, off, none⟩) L.length c, .int .i64 s, .int .i64 d, .int .i64 l, .int .i64 e]) (fun i _ => L.length - (intOf i).toNat)
      case atStart => exact ⟨0, Nat.zero_le _, rfl, rfl, by go_grown, Blk.new _ _ _⟩
      case round =>
        obtain ⟨k, hk, rfl, HK, hB, hbox⟩ := hrel
        have hsz := hbox.lt
        have q0 := hbox.cells 0 _ rfl
        simp only [List.getElem_toArray, List.getElem_cons_zero] at q0
        by_cases hlt : k < L.length
        · obtain ⟨x, hx⟩ : ∃ x, L[k]? = some x := ⟨L[k], List.getElem?_eq_getElem hlt⟩
          obtain ⟨c0, c1, c2⟩ := (HC.out.below hB hb).letter hx
          obtain ⟨o1, o2, _⟩ := HOk.out x (List.mem_of_getElem? hx)
          simp only [StrOk] at o1 o2
          have HX := Lib.hid hx
          clear hx
          go_wp2
          all_goals first
            | (go_round
               case rel => exact ⟨k + 1, by omega, by go_num, upBig_succ HX.out HK.out (by simp [bigL]; omega), by go_grown, hbox.alloc _⟩
               case measure => simp [intOf]; omega)
            | (go_ret
               exact ⟨ret_bool (HNo.out k x HX.out (by simp [bigL]; omega)).symm, by go_grown⟩)
        · obtain rfl : k = L.length := by omega
          go_wp2
          go_ret
          exact ⟨ret_bool (by rw [HEnd.out HK.out]; simp; omega), hB⟩
  · have : bigB N = true := by simp [bigB]; left; omega
    rw [this]
    by_cases h0 : 0 < N.way.length
    · go_enter Try.func12, Try.ntmps12
      go_wp2
      go_rounds 1
      go_ret
      exact ⟨rfl, by go_grown⟩
    · omega
end Go.Proofs.Ytojabnaabgbclaa
