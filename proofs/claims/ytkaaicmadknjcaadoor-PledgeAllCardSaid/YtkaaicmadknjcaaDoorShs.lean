/- rows of shares: keyholeref09.Big, Own, Same. -/
import Derived.Test.YtkaaicmadknjcaaDoorPldK
set_option linter.unusedVariables false
set_option linter.unusedSimpArgs false
namespace Go.Proofs.YtkaaicmadknjcaaDoor
open Go.RowKit
theorem share_info : (Tryd.prog.info? 51).map (fun i => (i.zero, i.size, i.bytes)) = some (some (.agg #[.int .i64 0, .string ByteArray.empty]), 2, 24) := by kernel_rfl
def ShRow (w : World) (base : Nat) (v : Value) (L : List Sh) : Prop := ORow 51 encSh 2 w base v L
section
variable {w w' : World} {base : Nat} {v : Value} {L : List Sh}
theorem shrow_nil (w : World) (base : Nat) : ShRow w base (.slice none 0 0) [] := orow_nil w base
theorem shrow_slr {A : Option Addr} {n c : Nat} (h : ShRow w base (.slice A n c) L) (hn : L.length = n) : SlR encSh 2 w w.heap.size A n L := orow_slr encSh_len h hn
theorem wpList_append_shs {ops : Array Oper} {rest : List Oper} {o : Oper} {a : Act} {Q : Exit → Act → World → Prop} (hgd : o.guard = none) (s x : Operand)
    (ho : o.op = .call { callee := .builtin .append, args := #[s, x], argTypes := #[55, 55] })
    (hs : a.eval s = v) (hown : ShRow w base v L) (B : Nat) (A : Option Addr) (m c : Nat) (M : List Sh) (hx : a.eval x = .slice A m c) (hr : SlR encSh 2 w B A m M) (n : Nat) (hl : (L ++ M).length = n) (hn : n ≤ 1000000000) (hbase : base ≤ w.heap.size)
    (h : ∀ A c w', Hid (ShRow w' base (.slice A n c) (L ++ M)) → w.grownBy w' v.ownBlock → Below base w w' → n ≤ c → c ≤ maxLen → wpList Tryd.prog ops Q rest (a.put o.dst (.slice A n c)) w') : wpList Tryd.prog ops Q (o :: rest) a w :=
  wpList_append_row encSh_len encSh_one hgd s x _ ho _ 24 Tryd.underlying55 share_info rfl (by omega) hs hown B A m c M hx hr n hl (by simp only [maxLen]; omega) (by omega) hbase h
end
def bigS (L : List Sh) : Bool := (decide (8 < L.length) && decide (L.length ≤ 255)) || decide (300 < L.length) || L.any (fun x => decide (100 < x.b.size))
theorem bigS_no {L : List Sh} (h : bigS L = false) : L.length ≤ 300 ∧ ∀ x ∈ L, x.b.size ≤ 100 := by
  simp only [bigS, Bool.or_eq_false_iff] at h
  obtain ⟨⟨_, h1⟩, h2⟩ := h
  refine ⟨by simpa using h1, fun x hx => ?_⟩
  have := List.any_eq_false.1 h2 x hx
  simpa using this
set_option maxHeartbeats 400000 in
theorem bigs_any (L : List Sh) (A : Option Addr) (n c : Nat) (w : World) (hL : SlR encSh 2 w w.heap.size A n L) (hn : n ≤ 140737488351232) :
    Calls Tryd.prog 50 #[.slice A n c] w fun e w' => e = .returned (.bool (bigS L)) ∧ w = w' := by
  obtain ⟨rfl, hA⟩ := hL
  by_cases hBig : (8 < L.length ∧ L.length ≤ 255) ∨ 300 < L.length
  · have hv : bigS L = true := by
      unfold bigS
      rcases hBig with ⟨h1, h2⟩ | h1
      · simp [h1, h2]
      · simp [h1]
    rw [hv]
    clear hv hA
    by_cases h8 : 8 < L.length
    · by_cases h255 : L.length ≤ 255
      · clear hBig
        go_enter Tryd.func50, Tryd.ntmps50
        go_wp2
        go_ret
        exact ⟨rfl, rfl⟩
      · have h300 : 300 < L.length := by omega
        clear hBig
        go_enter Tryd.func50, Tryd.ntmps50
        go_wp2
        go_ret
        exact ⟨rfl, rfl⟩
    · omega
  · have hN : L.length ≤ 8 ∨ (255 < L.length ∧ L.length ≤ 300) := by omega
    have h300 : L.length ≤ 300 := by omega
    have HEnd : Hid ((∀ (i : Nat) s, L[i]? = some s → i < L.length → s.b.size ≤ 100) → bigS L = false) := Lib.hid (fun h => by
      have h1 : L.any (fun s => decide (100 < s.b.size)) = false := by
        rw [List.any_eq_false]
        intro s hs
        obtain ⟨i, hi⟩ := List.getElem?_of_mem hs
        have := h i s hi (List.getElem?_eq_some_iff.1 hi).1
        simp; omega
      unfold bigS
      rw [h1]
      simp
      omega)
    have HNo : Hid (∀ (k : Nat) (x : Sh), L[k]? = some x → 100 < x.b.size → bigS L = true) := Lib.hid (fun k x hx h => by
      have : L.any (fun s => decide (100 < s.b.size)) = true := List.any_eq_true.2 ⟨x, List.mem_of_getElem? hx, by simpa using h⟩
      simp [bigS, this])
    generalize hv : bigS L = v at HEnd HNo ⊢
    clear hv hBig
    by_cases h0 : L.length = 0
    · have hd : v = false := HEnd.out (fun i s _ h => by omega)
      subst hd
      rw [h0]
      clear h0 HEnd HNo hA hn hN h300
      go_enter Tryd.func50, Tryd.ntmps50
      go_wp2
      go_loop [3] (fun i => i = .int .i64 0) (fun _ => 0)
      case atStart => rfl
      case round =>
        subst hrel
        go_wp2
        go_ret
        exact ⟨rfl, rfl⟩
    · obtain ⟨b, off, rfl, hb, hC⟩ := hA.resolve_left h0
      have HC := Lib.hid hC
      clear hC hA h0 hn
      rcases hN with hN | ⟨hN, hN2⟩
      all_goals
        go_enter Tryd.func50, Tryd.ntmps50
        go_wp2
        go_loop [3] (fun i => ∃ k : Nat, k ≤ L.length ∧ i = .int .i64 k ∧ Hid (∀ (i : Nat) s, L[i]? = some s → i < k → s.b.size ≤ 100)) (fun i => L.length - (intOf i).toNat)
        case atStart => exact ⟨0, Nat.zero_le _, rfl, Lib.hid (fun i s _ h => by omega)⟩
        case round =>
          obtain ⟨k, hk, rfl, HU⟩ := hrel
          by_cases hlt : k < L.length
          · obtain ⟨x, hx⟩ : ∃ x, L[k]? = some x := ⟨L[k], List.getElem?_eq_getElem hlt⟩
            have c0 := (HC.out.share hx).2
            by_cases hx1 : 100 < x.b.size
            · have hv := HNo.out k x hx hx1
              subst hv
              clear hx
              go_wp2
              go_ret
              exact ⟨rfl, rfl⟩
            · have hx2 : x.b.size ≤ 100 := by omega
              have HX : Hid (∀ (i : Nat) s, L[i]? = some s → i < k + 1 → s.b.size ≤ 100) := Lib.hid (fun i s hi h => by
                by_cases e : i = k
                · subst e
                  rw [hx] at hi
                  injection hi with hi
                  subst hi; exact hx2
                · exact HU.out i s hi (by omega))
              clear hx hx1
              go_wp2
              go_round
              case rel => exact ⟨k + 1, by omega, by go_num, HX⟩
              case measure => simp [intOf]; omega
          · obtain rfl : k = L.length := by omega
            have hv := HEnd.out HU.out
            subst hv
            go_wp2
            go_ret
            exact ⟨rfl, rfl⟩
theorem ownsh_any (S : List Sh) (A : Option Addr) (n c : Nat) (w : World) (hS : SlR encSh 2 w w.heap.size A n S) (hn : n ≤ 1000000) :
    Calls Tryd.prog 51 #[.slice A n c] w fun e w' => Below w.heap.size w w' ∧ ∃ A' c', e = .returned (.slice A' n c') ∧ Hid (ShRow w' w.heap.size (.slice A' n c') S) := by
  have HS := Lib.hid hS
  have HL : Hid (([] ++ S).length = n) := Lib.hid (by simpa using hS.1)
  clear hS
  go_enter Tryd.func51, Tryd.ntmps51
  go_wp2_with (at_builtin; refine wpList_append_shs rfl (.tmp 4) (.tmp 5) rfl rfl (shrow_nil w w.heap.size) w.heap.size A n c S rfl HS.out n HL.out (by omega) (Nat.le_refl _) ?_; intro A2 c2 w2 HR2 hg2 hb2 hc21 hc22)
  go_ret
  exact ⟨hb2, A2, c2, rfl, HR2⟩
/-- two rows of the same shares are the same -/
theorem sames_any (S : List Sh) (A A' : Option Addr) (n c c' : Nat) (w : World) (hS : SlR encSh 2 w w.heap.size A n S) (hT : SlR encSh 2 w w.heap.size A' n S) (hn : n ≤ 1000000) :
    Calls Tryd.prog 55 #[.slice A n c, .slice A' n c'] w fun e w' => e = .returned (.bool true) ∧ Below w.heap.size w w' := by
  obtain ⟨rfl, hSA⟩ := hS
  obtain ⟨_, hTA⟩ := hT
  by_cases h0 : S.length = 0
  · rw [h0]
    clear hSA hTA hn h0
    go_enter Tryd.func55, Tryd.ntmps55
    go_wp2
    go_loop [5] (fun i => i = .int .i64 0) (fun _ => 0)
    case atStart => rfl
    case round =>
      subst hrel
      go_wp2
      go_ret
      exact ⟨rfl, Below.refl _ _⟩
  · obtain ⟨b, off, rfl, hb, hC⟩ := hSA.resolve_left h0
    obtain ⟨b', off', rfl, hb', hC'⟩ := hTA.resolve_left h0
    have HC := Lib.hid hC
    have HC' := Lib.hid hC'
    clear hC hC' hSA hTA h0
    generalize hln : S.length = n at hn ⊢
    have HLn := Lib.hid hln
    clear hln
    go_enter Tryd.func55, Tryd.ntmps55
    go_wp2
    go_loopw [5] (fun i wr => ∃ k : Nat, k ≤ n ∧ i = .int .i64 k ∧ Below w.heap.size w wr) (fun i _ => n - (intOf i).toNat)
    case atStart => exact ⟨0, Nat.zero_le _, rfl, Below.refl _ _⟩
    case round =>
      obtain ⟨k, hk, rfl, hB⟩ := hrel
      by_cases hlt : k < n
      · obtain ⟨x, hxk⟩ : ∃ x, S[k]? = some x := ⟨S[k]'(by rw [HLn.out]; exact hlt), List.getElem?_eq_getElem _⟩
        obtain ⟨c0, c1⟩ := (HC.out.below hB hb).share hxk
        obtain ⟨c2, c3⟩ := (HC'.out.below hB hb').share hxk
        have i0 : (0 : Int) ≤ (k : Int) := by omega
        have i1 : (k : Int) < (n : Int) := by omega
        have t1 : (x.b.toList == x.b.toList) = true := by simp
        have t2 : (x.x == x.x) = true := by simp
        clear hxk
        go_wp2
        go_quiet (fail)
        go_wp2
        go_roundw
        case rel => exact ⟨k + 1, by omega, by go_num, below_drewN hB _⟩
        case measure => simp [intOf]; omega
      · obtain rfl : k = n := by omega
        go_wp2
        go_ret
        exact ⟨rfl, hB⟩
end Go.Proofs.YtkaaicmadknjcaaDoor
