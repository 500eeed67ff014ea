/- tag: Step. -/
import Derived.Test.YtpkomloblhbkiaaGreatDoorTagA
import Derived.Laws.IdiomStrings
import Derived.Test.YtpkomloblhbkiaaGreatDoorWordA
import Derived.Deep.RegionHeld
import Derived.Laws.Rows
import Derived.RangeFuncNested
import Derived.RangeFuncBound
import Derived.RangeFuncCalls
import Derived.RangeFuncLeaves
import Derived.Shelf.Abstract
import Derived.Shelf.RegionOpen
import Derived.OwnWalkIn
import Derived.TacticsInMore
import Derived.LoopNIn
import Derived.LoopIn
set_option linter.unusedVariables false
set_option linter.unusedSimpArgs false
/- tag: digitsOf. -/
namespace Go.Proofs.YtpkomloblhbkiaaGreatDoor
open Go.RowKit
/-- v is a row of one's own, from block base on, that holds the numbers L -/
def NRow (w : World) (base : Nat) (v : Value) (L : List Nat) : Prop := w.ownsRow base 3 1 v L.length (L.map vN)
section
variable {w w' : World} {base : Nat} {v : Value} {L : List Nat}
theorem nrow_alloc (h : NRow w base v L) (o : Obj) : NRow (w.alloc o) base v L := World.ownsRow.alloc h o
theorem nrow_form (h : NRow w base v L) : ∃ A c, v = .slice A L.length c ∧ L.length ≤ c ∧ c ≤ maxLen := by
  obtain ⟨A, c, hv, h1, h2, _⟩ := own_form h
  exact ⟨A, c, hv, h1, h2⟩
theorem nrow_join {m : Nat} {xs : List Value} (h : w.ownsRow base 3 1 v m xs) (M : List Nat) (hm : m = M.length) (hx : xs = M.map vN) : NRow w base v M := by subst hm hx; exact h
theorem flat_ints (L : List Nat) : flat encI (ints L) = L.map vN := by
  unfold flat ints
  induction L with
  | nil => rfl
  | cons x M ih => rw [List.map_cons, List.flatMap_cons, ih]; rfl
theorem nrow_slr {A : Option Addr} {n c : Nat} (h : NRow w base (.slice A n c) L) (hn : L.length = n) : SlR encI 1 w w.heap.size A n (ints L) := by
  subst hn
  exact SlR.of_own (base := base) (e := 3) (c := c) encI_len (by rw [flat_ints]; exact h) (by simp [ints])
theorem wpList_append_nums {ops : Array Oper} {rest : List Oper} {o : Oper} {a : Act} {Q : Exit → Act → World → Prop} (hgd : o.guard = none) (s x : Operand)
    (ho : o.op = .call { callee := .builtin .append, args := #[s, x], argTypes := #[29, 29] })
    (hs : a.eval s = v) (hown : NRow w base v L) (B : Nat) (A : Option Addr) (m c : Nat) (M : List Nat) (hx : a.eval x = .slice A m c) (hr : Reads w B 1 A m (M.map vN)) (n : Nat) (hl : (L ++ M).length = n) (hn : n ≤ 1000000) (hbase : base ≤ w.heap.size)
    (h : ∀ A c w', Hid (NRow w' base (.slice A n c) (L ++ M)) → w.grownBy w' v.ownBlock → Below base w w' → n ≤ c → c ≤ maxLen → wpList Tryz.prog ops Q rest (a.put o.dst (.slice A n c)) w') : wpList Tryz.prog ops Q (o :: rest) a w := by
  have hmm : M.length = m := by have := hr.1; simpa using this
  have hlm : L.length + m = n := by rw [← hl, List.length_append, hmm]
  obtain ⟨i0, hi0, hz0, hz1, hz2⟩ := info_parts int_info3
  refine wpList_append_any _ hgd s x _ ho base _ i0 _ 1 8 Tryz.underlying29 hi0 hz0 hz1 hz2 rfl (by omega) v L.length (L.map vN) hs hown B A m c (M.map vN) hx hr ?_ (by simp only [maxLen]; omega) (by omega) hbase ?_
  · intro u hu
    obtain ⟨y, _, rfl⟩ := List.mem_map.1 hu
    rfl
  · intro v' w' h1 h2 _
    have h1' : NRow w' base v' (L ++ M) := nrow_join h1 _ (by simp [hmm]) (by simp)
    obtain ⟨A, c, rfl, hc1, hc2⟩ := nrow_form h1'
    rw [hl] at h1' hc1 ⊢
    exact h A c w' (Lib.hid h1') h2 ((Below.refl base w).grown h2 hbase (fun k e => (World.ownsRow.lt hown k e).1)) hc1 hc2
end
theorem make0 (w : World) : (Instr.makeSlice 29 (.int .i64 0) (.int .i64 17)).run Tryz.prog w = .ok (.slice (some ⟨w.heap.size, 0, none⟩) 0 17) (w.alloc (.cells (List.replicate 17 (Value.int .i64 0)).toArray 3)) := by
  obtain ⟨i0, hi0, hz0, hz1, hz2⟩ := info_parts int_info3
  have hr := run_make (P := Tryz.prog) w 29 3 i0 _ Tryz.underlying29 hi0 hz0 .i64 .i64 0 17 (by omega) (by omega) (by rw [hz2]; omega) (by omega)
  rw [hz1] at hr
  rw [hr, show (Value.int .i64 0).cells = #[.int .i64 0] from rfl, show Int.toNat 17 * 1 = 17 from rfl, made_one]
  rfl
def bytesN (s : ByteArray) : List Nat := s.data.toList.map UInt8.toNat
theorem bytesN_len (s : ByteArray) : (bytesN s).length = s.size := by simp [bytesN]
theorem bytesN_lt (s : ByteArray) : ∀ x ∈ bytesN s, x < 256 := by
  intro x hx
  obtain ⟨b, _, rfl⟩ := List.mem_map.1 hx
  exact b.toNat_lt
theorem bytesN_get (s : ByteArray) (k : Nat) (h : k < s.size) : (bytesN s)[k]? = some (s[k].toNat) := by
  unfold bytesN
  rw [List.getElem?_map, List.getElem?_eq_getElem (by simpa using h)]
  rfl
theorem bytesN_take (s : ByteArray) (k : Nat) (h : k < s.size) : (bytesN s).take k ++ [s[k].toNat] = (bytesN s).take (k + 1) := by
  rw [List.take_add_one, bytesN_get s k h]; rfl
theorem reads_slr {w : World} {B n : Nat} {A : Option Addr} {L : List Nat} (h : SlR encI 1 w B A n (ints L)) : Reads w B 1 A n (L.map vN) := by
  obtain ⟨hl, hA⟩ := h
  have hl2 : L.length = n := by simpa [ints] using hl
  refine ⟨by simp [hl2], fun hn => ?_⟩
  obtain ⟨b, off, rfl, hb, hC⟩ := hA.resolve_left (by omega)
  refine ⟨_, rfl, hb, fun j u hu => ?_⟩
  rw [List.getElem?_map] at hu
  obtain ⟨x, hx, rfl⟩ := Option.map_eq_some_iff.1 hu
  have := hC.int (ints_get hx)
  rw [Addr.add_lit]
  exact this
set_option maxRecDepth 100000 in
set_option maxHeartbeats 400000 in
theorem digits_of (s : ByteArray) (A : Option Addr) (c m : Nat) (w : World) (hm : SlR encI 1 w w.heap.size A 1 (ints [m])) (hs : s.size ≤ 16) :
    Calls Tryz.prog 127 #[.string s, .slice A 1 c] w fun e w' => ∃ A' c', e = .returned (.slice A' (s.size + 1) c') ∧ NRow w' w.heap.size (.slice A' (s.size + 1) c') (bytesN s ++ [m]) ∧ s.size + 1 ≤ c' ∧ c' ≤ maxLen ∧ Below w.heap.size w w' := by
  have HM := Lib.hid hm
  have hmk := make0
  clear hm
  go_enter Tryz.func127, Tryz.ntmps127
  go_wp2_with fail
  clear hmk
  have h0 : Hid (NRow (w.alloc (.cells (List.replicate 17 (Value.int .i64 0)).toArray 3)) w.heap.size (.slice (some ⟨w.heap.size, 0, none⟩) 0 17) ((bytesN s).take 0)) := Lib.hid (World.ownsRow_made w _ 17 (Nat.le_refl _) (by simp [maxLen]) (by simp))
  go_loopw [5, 10] (fun v iv wr => ∃ (k : Nat) (A1 : Option Addr) (c1 : Nat), k ≤ s.size ∧ iv = .int .i64 k ∧ v = .slice A1 k c1 ∧ Hid (NRow wr w.heap.size (.slice A1 k c1) ((bytesN s).take k)) ∧ Below w.heap.size w wr) (fun _ iv _ => s.size - (intOf iv).toNat)
  case atStart => exact ⟨0, _, _, by omega, rfl, rfl, h0, by go_grown⟩
  case round =>
    clear h0
    obtain ⟨k, A1, c1, hk, rfl, rfl, HR, hB⟩ := hrel
    have hBs := hB.size
    by_cases hlt : k < s.size
    · have HE := Lib.hid (bytesN_take s k hlt)
      have HL : Hid (((bytesN s).take k ++ [s[k].toNat]).length = k + 1) := Lib.hid (by rw [bytesN_take s k hlt, List.length_take, bytesN_len]; omega)
      have hb : s[k].toNat < 256 := s[k].toNat_lt
      go_wp2_with (at_builtin; refine wpList_append_nums rfl (.tmp 13) (.tmp 18) rfl rfl (nrow_alloc HR.out _) (wr.heap.size + 1) (some ⟨wr.heap.size, 0, none⟩) 1 1 [s[k].toNat] rfl (Reads.new wr _ _ rfl) (k + 1) HL.out (by omega) (by simp; omega) ?_; intro A2 c2 w2 HR2 hg2 hb2 hc21 hc22)
      clear hg2
      go_roundw
      case rel => exact ⟨k + 1, A2, c2, by omega, by go_num, rfl, by rw [← HE.out]; exact HR2, Below.trans (by go_grown) hb2⟩
      case measure => simp [intOf]; omega
    · obtain rfl : k = s.size := by omega
      have hT : (bytesN s).take s.size = bytesN s := List.take_of_length_le (by rw [bytesN_len]; exact Nat.le_refl _)
      have hR := HR.out
      rw [hT] at hR
      have HR' := Lib.hid hR
      have HRd := Lib.hid (reads_slr (HM.out.below hB))
      have HL : Hid ((bytesN s ++ [m]).length = s.size + 1) := Lib.hid (by simp [bytesN_len])
      clear hT hR HR
      go_wp2_with (at_builtin; refine wpList_append_nums rfl (.tmp 21) (.tmp 22) rfl rfl HR'.out w.heap.size A 1 c [m] rfl HRd.out (s.size + 1) HL.out (by omega) hBs ?_; intro A2 c2 w2 HR2 hg2 hb2 hc21 hc22)
      go_ret
      exact ⟨A2, c2, rfl, HR2.out, hc21, hc22, hB.trans hb2⟩
end Go.Proofs.YtpkomloblhbkiaaGreatDoor
/- A region that draws its order and whose last operation (number z) stores into what others of it read: a condition S on the world that holds ahead of z. -/
namespace Go.Proofs.YtpkomloblhbkiaaGreatDoor
theorem lst {α : Type} : (∀ (l : List α) (i : Nat) (h : i < l.toArray.size), l.toArray[i] = l[i]'(by simpa using h)) ∧ (∀ (a : α) (l : List α) (i : Nat) (h : i + 1 < (a :: l).length), (a :: l)[i + 1] = l[i]'(Nat.lt_of_succ_lt_succ h)) ∧ (∀ (a : α) (l : List α) (h : 0 < (a :: l).length), (a :: l)[0] = a) ∧ (∀ (l : List α) (i : Nat) (a : α), l.toArray.setIfInBounds i a = (l.set i a).toArray) ∧ (∀ (a b : α) (l : List α), (a :: l).set 0 b = b :: l) ∧ (∀ (a b : α) (l : List α) (i : Nat), (a :: l).set (i + 1) b = a :: l.set i b) :=
  ⟨fun _ _ _ => rfl, fun _ _ _ _ => rfl, fun _ _ _ => rfl, fun _ _ _ => by simp, fun _ _ _ => rfl, fun _ _ _ _ => rfl⟩
section
variable {P : Program} {ops : Array Oper} {Q : Exit → Act → World → Prop} {md : Region.Mode} {S : World → Prop} {z : Nat}
/-- in whatever order the rest comes up, S holds behind each operation but number z -/
def wpAnyZ (P : Program) (md : Region.Mode) (ops : Array Oper) (Q : Exit → Act → World → Prop) (S : World → Prop) (z : Nat) : Nat → Array Bool → Act → World → Prop
  | 0, l, a, w => Region.ready md ops l = [] ∧ Q .normal a w
  | k + 1, l, a, w => (Region.ready md ops l = [] → Q .normal a w) ∧
      ∀ i ∈ Region.ready md ops l, wpOp P ops Q i (fun a' w' => (i ≠ z → S w') ∧ wpAnyZ P md ops Q S z k (l.setIfInBounds i true) a' w') a w
/-- number z waits for number i -/
def waitsFor (md : Region.Mode) (ops : Array Oper) (z i : Nat) : Bool := ((ops[z]?).map fun o => o.after.any fun e => Region.binds md e && e.on == i).getD false
theorem not_ready_of_waits {i : Nat} {l : Array Bool} (h : waitsFor md ops z i = true) (hi : i ∈ Region.ready md ops l) : z ∉ Region.ready md ops l := by
  intro hz
  have h0 := (mem_ready.1 hi).1
  obtain ⟨_, o, ho, hall⟩ := mem_ready.1 hz
  simp only [waitsFor, ho, Option.map_some, Option.getD_some, ← Array.any_toList, List.any_eq_true, Bool.and_eq_true, beq_iff_eq] at h
  obtain ⟨e, he, hb, rfl⟩ := h
  replace he : e ∈ o.after := by simpa using he
  have h1 := hall e he hb
  rcases Nat.lt_or_ge e.on l.size with h' | h'
  · simp [h'] at h0 h1; rw [h0] at h1; cases h1
  · simp [Array.getElem?_eq_none h'] at h1
/-- the operations rs come up next -/
def AllReadyZ (P : Program) (md : Region.Mode) (ops : Array Oper) (Q : Exit → Act → World → Prop) (S : World → Prop) (z k : Nat) (l : Array Bool) (a : Act) (w : World) (rs : List Nat) : Prop :=
  ∀ i ∈ rs, wpOp P ops Q i (fun a' w' => (i ≠ z → S w') ∧ wpAnyZ P md ops Q S z k (l.setIfInBounds i true) a' w') a w
theorem AllReadyZ.nil {k : Nat} {l : Array Bool} {a : Act} {w : World} : AllReadyZ P md ops Q S z k l a w [] := fun _ h => by cases h
theorem AllReadyZ.cons {k : Nat} {l : Array Bool} {a : Act} {w : World} {i : Nat} {o : Oper} {rs : List Nat} (ho : ops[i]? = some o) (hiz : i ≠ z)
    (h : ∀ K' : Act → World → Prop, Shut (∀ a w, S w → (S w → wpAnyZ P md ops Q S z k (l.setIfInBounds i true) a w) → K' a w) → if Region.wanted o (yielded ops a.tmps) = true then Oper.wp P o a w K' Q else K' (a.put o.dst undef) w)
    (hs : AllReadyZ P md ops Q S z k l a w rs) : AllReadyZ P md ops Q S z k l a w (i :: rs) := fun j hj => by
  rcases List.mem_cons.1 hj with rfl | hj
  · exact wpOp_step ho (fun K' hK => h K' (fun a w hS hW => hK a w ⟨fun _ => hS, hW hS⟩))
  · exact hs j hj
/-- a whole row loaded, in every world that has it -/
theorem yields_row {o : Oper} {a : Act} (ty : TypeId) (x : Operand) (ho : o.op = .load ty x) (hgd : o.guard = none) (g : Nat) (hx : a.eval x = .pointer (some ⟨g, 0, none⟩)) (t : TypeId) (cs : Array Value) (d : TypeDesc)
    (hu : P.underlying ty = some d) (hd : (match d with | .struct _ | .array _ _ => true | _ => false) = true) (hi : (P.info? ty).map (·.size) = some cs.size) (hS : ∀ w, S w → w.heap[g]? = some (.cells cs t (0, 0))) :
    YieldsIf P ops S o (.agg cs) a := by
  refine Or.inl ⟨by simp [Region.wanted, hgd], fun w hw => ?_⟩
  unfold execOp
  simp only [ho, hx, Instr.loadAt, Instr.sureAddr, Sem.run_bind, Sem.run_pure, Result.andThen_ok, run_loadVar_row w g t ty cs (0, 0) d (hS w hw) hu hd hi]
end
end Go.Proofs.YtpkomloblhbkiaaGreatDoor
namespace Go.Proofs.YtpkomloblhbkiaaGreatDoor
open Go.RowKit
theorem parts_under (V : Nat) : under 67108864 (partsOf V) := by
  intro x hx
  obtain ⟨i, _, rfl⟩ := List.mem_map.1 hx
  exact Nat.mod_lt _ (by omega)
theorem part_lt (s : ByteArray) (h : s.size ≤ 16) : valD (bytesN s ++ [1]) < 1361129467683753853853498429727072845824 := by
  rw [valD_snoc, bytesN_len, Nat.one_mul]
  have h1 := valD_lt (bytesN s) (bytesN_lt s)
  rw [bytesN_len] at h1
  have h2 : 256 ^ s.size ≤ 256 ^ 16 := Nat.pow_le_pow_right (by omega) h
  have h3 : (256 : Nat) ^ 16 = 340282366920938463463374607431768211456 := by decide
  omega
theorem digits_lt {D : List Nat} (h : Digits D) : valD D < 1361129467683753853853498429727072845824 := by
  have := h.2.2
  unfold primeP at this
  omega
/-- what Step computes, as the program goes -/
theorem step_math {D E : List Nat} (hD : Digits D) (hE : Digits E) (s : ByteArray) (hs : s.size ≤ 16) :
    partsOf (valN (timesTo (plusTo (partsOf (valD D)) (partsOf (valD (bytesN s ++ [1]))) 5) (partsOf (valD E)) 5) % primeP) = partsOf ((valD D + valD (bytesN s ++ [1])) * valD E % primeP) := by
  have hl : (plusTo (partsOf (valD D)) (partsOf (valD (bytesN s ++ [1]))) 5).length = 5 := by rw [plusTo_len, parts_len]
  rw [times_mul hl (parts_len _)]
  obtain ⟨a, b, c, d, e, h1⟩ := list5 hl
  obtain ⟨f, g, h, i, j, h2⟩ := list5 (parts_len (valD E))
  have hv := plus_val (parts_len (valD D)) (parts_len (valD (bytesN s ++ [1])))
  rw [parts_val _ (digits_lt hD), parts_val _ (part_lt s hs)] at hv
  have hw := parts_val _ (digits_lt hE)
  rw [h1] at hv ⊢
  rw [h2] at hw ⊢
  rw [mulTo_val, hv, hw]
theorem step_lt {D E : List Nat} (s : ByteArray) : (valD D + valD (bytesN s ++ [1])) * valD E % primeP < 1361129467683753853853498429727072845824 := by
  have := Nat.mod_lt ((valD D + valD (bytesN s ++ [1])) * valD E) (show 0 < primeP by unfold primeP; omega)
  unfold primeP at this ⊢
  omega
theorem NumRow.keep {w w' : World} {g : Nat} {t : TypeId} {L : List Nat} (h : Row vN w g t L) (hb : Below w.heap.size w w') : Row vN w' g t L := Row.below h hb h.lt
theorem num_slr {w : World} {g B : Nat} {t : TypeId} {L : List Nat} {n : Nat} (h : Row vN w g t L) (hB : g < B) (hn : L.length = n) : SlR encI 1 w B (some ⟨g, 0, none⟩) n (ints L) := by
  subst hn
  refine SlR.ofC (by simp [ints]) hB ?_
  intro k x hx j v hv
  have hj : j = 0 := by
    have := (List.getElem?_eq_some_iff.1 hv).1
    simp [encI] at this; omega
  subst hj
  simp [encI] at hv
  subst hv
  unfold ints at hx
  rw [List.getElem?_map] at hx
  obtain ⟨y, hy, rfl⟩ := Option.map_eq_some_iff.1 hx
  have := h.get hy
  simpa [vN] using this
set_option maxRecDepth 100000 in
set_option maxHeartbeats 1000000 in
theorem tstep_good (D E : List Nat) (A A' : Option Addr) (c c' : Nat) (s : ByteArray) (w : World) (hS : SlR encI 1 w w.heap.size A 17 (ints D)) (hS' : SlR encI 1 w w.heap.size A' 17 (ints E)) (hD : Digits D) (hE : Digits E)
    (hc : 17 ≤ c) (hc2 : c ≤ 9223372036854775807) (hc' : 17 ≤ c') (hc2' : c' ≤ 9223372036854775807) (hs : s.size ≤ 16) (hs0 : 1 ≤ s.size) :
    Calls Tryz.prog 129 #[.slice A 17 c, .slice A' 17 c', .string s] w fun e w' => ∃ g, e = .returned (.tuple #[.slice (some ⟨g, 0, none⟩) 17 17, .bool true]) ∧ Row vN w' g 3 (stepR D E (bytesN s)) ∧ w.heap.size ≤ g ∧ Below w.heap.size w w' := by
  have HS := Lib.hid hS
  have HS' := Lib.hid hS'
  have HD := Lib.hid hD
  have HE := Lib.hid hE
  have hm := step_math hD hE s hs
  have hl := step_lt (D := D) (E := E) s
  have HSt : Hid (stepR D E (bytesN s) = rowOf ((valD D + valD (bytesN s ++ [1])) * valD E % primeP)) := Lib.hid rfl
  obtain ⟨RR, hRR⟩ : ∃ RR, stepR D E (bytesN s) = RR := ⟨_, rfl⟩
  rw [hRR] at HSt ⊢
  obtain ⟨X, hX⟩ : ∃ X, (valD D + valD (bytesN s ++ [1])) * valD E % primeP = X := ⟨_, rfl⟩
  rw [hX] at hm hl HSt
  obtain ⟨V1, hV1⟩ : ∃ V, partsOf (valD D) = V := ⟨_, rfl⟩
  obtain ⟨V2, hV2⟩ : ∃ V, partsOf (valD (bytesN s ++ [1])) = V := ⟨_, rfl⟩
  obtain ⟨V3, hV3⟩ : ∃ V, partsOf (valD E) = V := ⟨_, rfl⟩
  have u1 := parts_under (valD D)
  have u2 := parts_under (valD (bytesN s ++ [1]))
  have u3 := parts_under (valD E)
  have l1 := parts_len (valD D)
  have l2 := parts_len (valD (bytesN s ++ [1]))
  have l3 := parts_len (valD E)
  rw [hV1] at hm u1 l1
  rw [hV2] at hm u2 l2
  rw [hV3] at hm u3 l3
  have pu := plus_under l1 l2 u1 u2
  have pl : (plusTo V1 V2 5).length = 5 := by rw [plusTo_len, l1]
  obtain ⟨N, hN⟩ : ∃ N, plusTo V1 V2 5 = N := ⟨_, rfl⟩
  rw [hN] at hm pu pl
  have tl := timesTo_len N V3 5
  obtain ⟨T, hT⟩ : ∃ T, timesTo N V3 5 = T := ⟨_, rfl⟩
  rw [hT] at hm tl
  have HM := Lib.hid hm
  have HLt := Lib.hid hl
  have H1 := Lib.hid (And.intro hV1 (And.intro u1 l1))
  have H2 := Lib.hid (And.intro hV2 (And.intro u2 l2))
  have H3 := Lib.hid (And.intro hV3 (And.intro u3 l3))
  have HN := Lib.hid (And.intro hN (And.intro pu pl))
  have HT := Lib.hid (And.intro hT tl)
  clear hS hS' hD hE hm hl hRR hX hV1 hV2 hV3 u1 u2 u3 l1 l2 l3 pu pl hN tl hT
  go_enter Tryz.func129, Tryz.ntmps129
  go_wp2_with fail
  refine (isrow_good D A c w HS.out HD.out hc hc2).mono ?_
  rintro e w1 ⟨rfl, rfl⟩
  go_wp2_with fail
  refine (isrow_good E A' c' w HS'.out HE.out hc' hc2').mono ?_
  rintro e w1 ⟨rfl, rfl⟩
  go_wp2_with fail
  refine (tread_any D A 17 c w HS.out (by omega) HD.out.2.1 (digits_lt HD.out) (by omega)).mono ?_
  rintro e w1 ⟨rfl, hb1⟩
  rw [H1.out.1]
  have hs1 := hb1.size
  go_wp2_with fail
  refine (digits_of s (some ⟨w1.heap.size, 0, none⟩) 1 1 _ (num_slr (t := 3) (L := [1]) (Blk.new w1 _ _) (by simp) rfl) hs).mono ?_
  rintro e w2 ⟨A2, c2, rfl, hR2, hc21, hc22, hb2⟩
  have hB2 : Below w.heap.size w w2 := Below.trans (by go_grown) (hb2.mono (by simp; omega))
  have hs2 := hB2.size
  have HR2 := Lib.hid hR2
  clear hR2 hb2
  go_wp2_with fail
  refine (tread_any (bytesN s ++ [1]) A2 (s.size + 1) c2 w2 (nrow_slr HR2.out (by simp [bytesN_len])) (by omega) (by intro x hx; rcases List.mem_append.1 hx with h | h; exact bytesN_lt s x h; rw [List.mem_singleton.1 h]; omega) (part_lt s hs) (by omega)).mono ?_
  rintro e w3 ⟨rfl, hb3⟩
  rw [H2.out.1]
  have hB3 := hB2.trans (hb3.mono hs2)
  have hs3 := hB3.size
  clear hb3
  go_wp2_with fail
  refine (plus_any V1 V2 w3 H1.out.2.2 H2.out.2.2 H1.out.2.1 H2.out.2.1).mono ?_
  rintro e w4 ⟨rfl, hb4⟩
  rw [HN.out.1]
  have hB4 := hB3.trans (hb4.mono hs3)
  have hs4 := hB4.size
  clear hb4
  unfold tnumV
  go_wp2_with (refine wpList_store_row rfl 194 (.tmp 8) (.tmp 33) rfl w4.heap.size (N.map vN).toArray rfl rfl 194 #[.int .i64 0, .int .i64 0, .int .i64 0, .int .i64 0, .int .i64 0] (Blk.new _ _ _) (num_info HN.out.2.2) (by rw [num_size HN.out.2.2]; rfl) (num_one _) ?_; rw [World.setRow_alloc_new])
  have hR5 : Row vN (w4.alloc (.cells (N.map vN).toArray 194)) w4.heap.size 194 N := Blk.new _ _ _
  have hB5 : Below w.heap.size w (w4.alloc (.cells (N.map vN).toArray 194)) := by go_grown
  generalize hW5 : w4.alloc (.cells (N.map vN).toArray 194) = w5 at hR5 hB5 ⊢
  have HR5 := Lib.hid hR5
  have hs5 := hB5.size
  clear hW5 hR5
  -- region 4
  refine wp_region_held_drew (S := fun w' => Row vN w' w4.heap.size 194 N) (by kernel_rfl) (HR5.out) (fun hHeld => ?_)
  refine wpAnyH_take (i := 0) (v := .agg (N.map vN).toArray) rfl (by kernel_rfl) (by kernel_rfl) (by kernel_rfl) (fun _ _ _ h => h) (yields_row 194 (.tmp 8) rfl rfl w4.heap.size rfl 194 _ (.array 5 3) (by kernel_rfl) rfl (num_info HN.out.2.2) (fun _ h => h)) hHeld ?rest1
  try simp only [Act.put, lst]
  refine wpAnyH_take (i := 1) (v := ?v2) rfl (by kernel_rfl) (by kernel_rfl) (by kernel_rfl) (fun _ _ _ h => h) (Or.inl ⟨by rfl, ?hy2⟩) hHeld ?rest2
  case hy2 => (intro w hSw; (try dsimp only at hSw); go_simp; try with_reducible rfl)
  try simp only [Act.put, lst]
  refine wpAnyH_ready (rs := [2]) (by kernel_rfl) (by simp) ?_
  refine AllReadyH.cons rfl (fun K hK => ?_) AllReadyH.nil
  clear hHeld
  go_simp
  have HSE := Lib.hid (HS'.out.below hB5)
  refine (tread_any E A' 17 c' _ (SlR.more (B := w.heap.size) (w := w5.drew) HSE.out (by simpa using hs5)) (by omega) HE.out.2.1 (digits_lt HE.out) (by omega)).mono ?_
  rintro e w6 ⟨rfl, hb6⟩
  rw [H3.out.1]
  have hB6 : Below w5.heap.size w5 w6 := Below.trans (by go_grown) (hb6.mono (by simp))
  clear hb6
  go_simp
  refine hK.out _ _ (NumRow.keep HR5.out hB6) (fun hHeld => ?_)
  clear hK K
  try simp only [Act.put, lst]
  refine wpAnyH_ready (rs := [3]) (by kernel_rfl) (by simp) ?_
  refine AllReadyH.cons rfl (fun K hK => ?_) AllReadyH.nil
  clear hHeld
  go_simp
  refine (times_any N V3 _ HN.out.2.2 H3.out.2.2 HN.out.2.1 H3.out.2.1).mono ?_
  rintro e w7 ⟨rfl, hu7, hb7⟩
  rw [HT.out.1] at hu7 ⊢
  have HU7 := Lib.hid hu7
  clear hu7
  have hB7 : Below w5.heap.size w5 w7 := hB6.trans (hb7.mono hB6.size)
  clear hb7
  go_simp
  refine hK.out _ _ (NumRow.keep HR5.out hB7) (fun hHeld => ?_)
  clear hK K
  try simp only [Act.put, lst]
  refine wpAnyH_ready (rs := [4]) (by kernel_rfl) (by simp) ?_
  refine AllReadyH.cons rfl (fun K hK => ?_) AllReadyH.nil
  clear hHeld
  go_simp
  refine (left_any T _ HT.out.2 HU7.out).mono ?_
  rintro e w8 ⟨rfl, hb8⟩
  rw [HM.out]
  have hB8 : Below w5.heap.size w5 w8 := hB7.trans (hb8.mono hB7.size)
  clear hb8
  go_simp
  refine hK.out _ _ (NumRow.keep HR5.out hB8) (fun hHeld => ?_)
  clear hK K
  try simp only [Act.put, lst]
  refine wpAnyH_ready (rs := [5]) (by kernel_rfl) (by simp) ?_
  refine AllReadyH.cons rfl (fun K hK => ?_) AllReadyH.nil
  clear hHeld
  go_simp
  refine (digits_any X _ HLt.out).mono ?_
  rintro e w9 ⟨g9, rfl, hR9, hg9, hb9⟩
  rw [← HSt.out] at hR9
  have HR9 := Lib.hid hR9
  have hB9 : Below w5.heap.size w5 w9 := hB8.trans (hb9.mono hB8.size)
  have hs8 := hB8.size
  clear hb9 hR9
  go_simp
  refine hK.out _ _ (NumRow.keep HR5.out hB9) (fun hHeld => ?_)
  clear hK K
  try simp only [Act.put, lst]
  refine wpAnyH_take (i := 6) (v := ?v7) rfl (by kernel_rfl) (by kernel_rfl) (by kernel_rfl) (fun _ _ _ h => h) (Or.inl ⟨by rfl, ?hy7⟩) hHeld ?rest7
  case hy7 => (intro w hSw; (try dsimp only at hSw); go_simp; try with_reducible rfl)
  try simp only [Act.put, lst]
  refine wpAnyH_take (i := 7) (v := ?v8) rfl (by kernel_rfl) (by kernel_rfl) (by kernel_rfl) (fun _ _ _ h => h) (Or.inl ⟨by rfl, ?hy8⟩) hHeld ?rest8
  case hy8 => (intro w hSw; (try dsimp only at hSw); go_simp; try with_reducible rfl)
  try simp only [Act.put, lst]
  refine wpAnyH_done (by kernel_rfl) ?_ _
  -- region 4 ends
  go_wp2_with fail
  go_ret2
  exact ⟨g9, rfl, HR9.out, by omega, hB5.trans (hB9.mono hs5)⟩
end Go.Proofs.YtpkomloblhbkiaaGreatDoor
/- tag: Clamp. -/
namespace Go.Proofs.YtpkomloblhbkiaaGreatDoor
open Go.RowKit
def m1 (l : List UInt8) (i : Nat) : List UInt8 := l.set i (l.getD i 0 % 16)
def m2 (l : List UInt8) (i : Nat) : List UInt8 := l.set i (l.getD i 0 - l.getD i 0 % 4)
def clamp1 (l : List UInt8) : Nat → List UInt8
  | 0 => l
  | k + 1 => m1 (clamp1 l k) (4 * k + 3)
def clamp2 (l : List UInt8) : Nat → List UInt8
  | 0 => l
  | k + 1 => m2 (clamp2 l k) (4 * k + 4)
def clampL (l : List UInt8) : List UInt8 := clamp2 (clamp1 l 4) 3
theorem clamp1_len (l : List UInt8) (k : Nat) : (clamp1 l k).length = l.length := by
  induction k with
  | zero => rfl
  | succ k ih => rw [clamp1, m1, List.length_set, ih]
theorem clamp2_len (l : List UInt8) (k : Nat) : (clamp2 l k).length = l.length := by
  induction k with
  | zero => rfl
  | succ k ih => rw [clamp2, m2, List.length_set, ih]
theorem u8_mod16 (b : UInt8) : Value.int .u8 ((b.toNat : Int) % 16) = vB (b % 16) := by
  unfold vB
  congr 1
theorem u8_sub4 (b : UInt8) : Value.int .u8 ((b.toNat : Int) - (b.toNat : Int) % 4) = vB (b - b % 4) := by
  unfold vB
  congr 1
  have h : (b % 4).toNat = b.toNat % 4 := rfl
  have hle : b % 4 ≤ b := by rw [UInt8.le_iff_toNat_le, h]; omega
  rw [UInt8.toNat_sub_of_le _ _ hle, h]
  omega
/-- block g begins with the bytes L, none of them frozen (what []byte(s) lays) -/
def CRow (w : World) (g : Nat) (L : List UInt8) : Prop := ∃ cs lo hi, w.heap[g]? = some (.cells cs 5 (lo, hi)) ∧ cs.size ≤ lo ∧ L.length ≤ cs.size ∧ ∀ (i : Nat) (b : UInt8), L[i]? = some b → cs[i]? = some (vB b)
section
variable {w w' : World} {g : Nat} {L : List UInt8}
theorem CRow.lt (h : CRow w g L) : g < w.heap.size := by
  obtain ⟨cs, lo, hi, hg, _⟩ := h
  exact (Array.getElem?_eq_some_iff.1 hg).1
theorem CRow.get (h : CRow w g L) {i : Nat} {b : UInt8} (hb : L[i]? = some b) : w.cell? ⟨g, i, none⟩ = some (vB b) := by
  obtain ⟨cs, lo, hi, hg, _, _, hc⟩ := h
  rw [cell_of_row w g i cs _ _ hg]
  exact hc i b hb
theorem CRow.free (h : CRow w g L) {i : Nat} (hi : i < L.length) : w.frozen? ⟨g, i, none⟩ = false := by
  obtain ⟨cs, lo, hi', hg, h1, h2, _⟩ := h
  simp only [World.frozen?, hg]
  simp
  omega
theorem CRow.below {B : Nat} (h : CRow w g L) (hb : Below B w w') (hg : g < B) : CRow w' g L := by
  obtain ⟨cs, lo, hi, h0, h⟩ := h
  exact ⟨cs, lo, hi, (hb.block g hg).trans h0, h⟩
theorem CRow.alloc (h : CRow w g L) (o : Obj) : CRow (w.alloc o) g L := by
  have hl := h.lt
  obtain ⟨cs, lo, hi, h0, h⟩ := h
  exact ⟨cs, lo, hi, (Below.heap_alloc w o g hl).trans h0, h⟩
theorem CRow.drew (h : CRow w g L) : CRow w.drew g L := h
theorem CRow.set_ (h : CRow w g L) (i : Nat) (b : UInt8) : CRow (w.setCell ⟨g, i, none⟩ (vB b)) g (L.set i b) := by
  obtain ⟨cs, lo, hi, h0, h1, h2, h3⟩ := h
  refine ⟨cs.setIfInBounds i (vB b), lo, hi, by simp [World.setCell, Array.getElem?_modify, h0], by simpa using h1, by simpa using h2, fun j c hj => ?_⟩
  by_cases e : i = j
  · subst e
    have hl : i < L.length := by
      have := (List.getElem?_eq_some_iff.1 hj).1
      simpa using this
    rw [List.getElem?_set_self hl] at hj
    injection hj with hj
    subst hj
    rw [Array.getElem?_setIfInBounds_self]
    simp only [show i < cs.size by omega, if_true]
  · rw [List.getElem?_set_ne e] at hj
    rw [Array.getElem?_setIfInBounds_ne e]
    exact h3 j c hj
theorem crow_new (w : World) (s : ByteArray) (cp : Nat) {B : Array Value} (hB : bytesRow s cp = B) : CRow (w.alloc (.cells B 5 (B.size, B.size + 1))) w.heap.size s.data.toList := by
  refine ⟨B, B.size, B.size + 1, heap_alloc_new w _, Nat.le_refl _, ?_, fun i b hb => ?_⟩
  · rw [← hB]; simp [bytesRow]
  · have hi : i < s.data.size := by
      have := (List.getElem?_eq_some_iff.1 hb).1
      simpa using this
    rw [← hB, bytesRow_at s cp i hi]
    rw [List.getElem?_eq_getElem (by simpa using hi)] at hb
    injection hb with hb
    rw [← hb]
    rfl
theorem run_crow {P : Program} (src dst e : TypeId) (hs : P.underlying src = some (.slice e)) (he : P.underlying e = some (.int .u8)) (hd : P.underlying dst = some .string) {c : Nat} {n : Nat} (hn : L.length = n) (h : CRow w g L) :
    (convert src dst (.slice (some ⟨g, 0, none⟩) n c)).run P w = .ok (.string ⟨L.toArray⟩) w := by
  subst hn
  refine run_convert_bytes_back w src dst e ⟨g, 0, none⟩ c L hs he hd fun j hj => ?_
  rw [Addr.add_lit, Nat.zero_add]
  exact h.get (List.getElem?_eq_getElem hj)
end
set_option maxRecDepth 100000 in
set_option maxHeartbeats 400000 in
theorem clamp_any (s : ByteArray) (w : World) (hs : s.size = 16) :
    Calls Tryz.prog 126 #[.string s] w fun e w' => e = .returned (.tuple #[.string ⟨(clampL s.data.toList).toArray⟩, .bool true]) ∧ Below w.heap.size w w' := by
  have t1 : ((s.size : Int) != 16) = false := by simp; omega
  have HS := Lib.hid hs
  have hcv := run_bytes_of_string (P := Tryz.prog) w 9 113 5 s Tryz.underlying9 Tryz.underlying113 Tryz.underlying5
  obtain ⟨cp, hcp⟩ : ∃ cp, grownCap w s.size 0 5 = cp := ⟨_, rfl⟩
  rw [hcp] at hcv
  obtain ⟨B, hB⟩ : ∃ B, bytesRow s cp = B := ⟨_, rfl⟩
  rw [hB] at hcv
  have HB := Lib.hid hB
  have hll : s.data.toList.length = 16 := by rw [← HS.out]; simp
  obtain ⟨l, hl⟩ : ∃ l, s.data.toList = l := ⟨_, rfl⟩
  have hC0 := crow_new w.drew s cp hB
  rw [hl] at hll hC0 ⊢
  have HL := Lib.hid hll
  have HC0 := Lib.hid hC0
  clear hs hcp hB hl hll hC0
  go_enter Tryz.func126, Tryz.ntmps126
  go_wp2_with fail
  have HR0 : Hid (CRow ((w.drew.alloc (.cells B 5 (B.size, B.size + 1))).alloc (.cells #[.int .i64 3, .int .i64 7, .int .i64 11, .int .i64 15] 3)) w.heap.size (clamp1 l 0)) := Lib.hid (HC0.out.alloc _)
  have HI0 : Hid (Blk ((w.drew.alloc (.cells B 5 (B.size, B.size + 1))).alloc (.cells #[.int .i64 3, .int .i64 7, .int .i64 11, .int .i64 15] 3)) (w.heap.size + 1) 3 #[.int .i64 3, .int .i64 7, .int .i64 11, .int .i64 15]) := Lib.hid (Blk.new_at (by simp) _ _)
  have hsz : (s.size : Int) = 16 := by have := HS.out; omega
  have hsn : s.size ≤ 16 := by omega
  go_loopw [16] (fun iv wr => ∃ k : Nat, k ≤ 4 ∧ iv = .int .i64 k ∧ Hid (CRow wr w.heap.size (clamp1 l k)) ∧ Hid (Blk wr (w.heap.size + 1) 3 #[.int .i64 3, .int .i64 7, .int .i64 11, .int .i64 15]) ∧ Below w.heap.size w wr) (fun iv _ => 4 - (intOf iv).toNat)
  case atStart => exact ⟨0, by omega, rfl, HR0, HI0, by go_grown⟩
  case round =>
    clear HR0 HI0
    obtain ⟨k, hk, rfl, HR, HI, hB⟩ := hrel
    by_cases hlt : k < 4
    · obtain ⟨j, hj⟩ : ∃ j, 4 * k + 3 = j := ⟨_, rfl⟩
      have hlen := clamp1_len l k
      have hb := List.getElem?_eq_getElem (l := clamp1 l k) (i := j) (by rw [hlen, HL.out]; omega)
      have hS : clamp1 l (k + 1) = (clamp1 l k).set j ((clamp1 l k)[j]'(by rw [hlen, HL.out]; omega) % 16) := by
        rw [clamp1, m1, hj, List.getD_eq_getElem?_getD, hb]; rfl
      generalize (clamp1 l k)[j]'(by rw [hlen, HL.out]; omega) = b at hb hS
      have ci := HI.out.cells k (.int .i64 j) (by
        have h4 : k = 0 ∨ k = 1 ∨ k = 2 ∨ k = 3 := by omega
        rcases h4 with rfl | rfl | rfl | rfl <;> (subst hj; rfl))
      have cb := HR.out.get hb
      have fb := HR.out.free (i := j) (by rw [hlen, HL.out]; omega)
      simp only [vB] at cb
      have j0 : (0 : Int) ≤ j := by omega
      have j1 : (j : Int) < 16 := by omega
      have jn : j < s.size := by have := HS.out; omega
      have hlb := b.toNat_lt
      have hgl := HR.out.lt
      have HSS := Lib.hid hS
      clear hb hS hj hlen
      go_wp2_with fail
      go_roundw
      case rel =>
        refine ⟨k + 1, by omega, by go_num, Lib.hid ?_, Lib.hid (HI.out.far (show w.heap.size + 1 ≠ w.heap.size by omega) _), by go_grown⟩
        rw [HSS.out, u8_mod16]
        exact HR.out.set_ j _
      case measure => simp [intOf]; omega
    · obtain rfl : k = 4 := by omega
      obtain ⟨wo, rfl⟩ : ∃ wo : World, wo = wr := ⟨_, rfl⟩
      have HR1 : Hid (CRow (wo.alloc (.cells #[.int .i64 4, .int .i64 8, .int .i64 12] 3)) w.heap.size (clamp2 (clamp1 l 4) 0)) := Lib.hid (HR.out.alloc _)
      have HI1 : Hid (Blk (wo.alloc (.cells #[.int .i64 4, .int .i64 8, .int .i64 12] 3)) wo.heap.size 3 #[.int .i64 4, .int .i64 8, .int .i64 12]) := Lib.hid (Blk.new _ _ _)
      have hso := HR.out.lt
      have hBs := hB.size
      clear HR HI
      go_wp2_with fail
      go_loopw [29] (fun iv wr => ∃ k : Nat, k ≤ 3 ∧ iv = .int .i64 k ∧ Hid (CRow wr w.heap.size (clamp2 (clamp1 l 4) k)) ∧ Hid (Blk wr wo.heap.size 3 #[.int .i64 4, .int .i64 8, .int .i64 12]) ∧ Below w.heap.size w wr) (fun iv _ => 3 - (intOf iv).toNat)
      case atStart => exact ⟨0, by omega, rfl, HR1, HI1, by go_grown⟩
      case round =>
        clear HR1 HI1 hB
        obtain ⟨k, hk, rfl, HR, HI, hB⟩ := hrel
        by_cases hlt : k < 3
        · obtain ⟨j, hj⟩ : ∃ j, 4 * k + 4 = j := ⟨_, rfl⟩
          have hlen := clamp2_len (clamp1 l 4) k
          rw [clamp1_len] at hlen
          have hb := List.getElem?_eq_getElem (l := clamp2 (clamp1 l 4) k) (i := j) (by rw [hlen, HL.out]; omega)
          have hS : clamp2 (clamp1 l 4) (k + 1) = (clamp2 (clamp1 l 4) k).set j ((clamp2 (clamp1 l 4) k)[j]'(by rw [hlen, HL.out]; omega) - (clamp2 (clamp1 l 4) k)[j]'(by rw [hlen, HL.out]; omega) % 4) := by
            rw [clamp2, m2, hj, List.getD_eq_getElem?_getD, hb]; rfl
          generalize (clamp2 (clamp1 l 4) k)[j]'(by rw [hlen, HL.out]; omega) = b at hb hS
          have ci := HI.out.cells k (.int .i64 j) (by
            have h4 : k = 0 ∨ k = 1 ∨ k = 2 := by omega
            rcases h4 with rfl | rfl | rfl <;> (subst hj; rfl))
          have cb := HR.out.get hb
          have fb := HR.out.free (i := j) (by rw [hlen, HL.out]; omega)
          simp only [vB] at cb
          have j0 : (0 : Int) ≤ j := by omega
          have j1 : (j : Int) < 16 := by omega
          have jn : j < s.size := by have := HS.out; omega
          have jn' : (j : Int) < (s.size : Int) := by omega
          have hlb := b.toNat_lt
          have hgl := HR.out.lt
          have HSS := Lib.hid hS
          have tm : ((b.toNat : Int)).tmod 4 = ((b.toNat % 4 : Nat) : Int) := by rw [Int.tmod_eq_emod_of_nonneg (by omega)]; simp
          clear hb hS hj hlen
          go_wp2_with fail
          go_region
          all_goals
            go_wp2_with fail
            go_roundw
            case rel =>
              refine ⟨k + 1, by omega, by go_num, Lib.hid ?_, Lib.hid (HI.out.far (show wo.heap.size ≠ w.heap.size by omega) _), by go_grown⟩
              rw [HSS.out, u8_sub4]
              exact HR.out.set_ j _
            case measure => simp [intOf]; omega
        · obtain rfl : k = 3 := by omega
          have hcv := run_crow (P := Tryz.prog) (c := cp) (n := s.size) 113 9 5 Tryz.underlying113 Tryz.underlying5 Tryz.underlying9 (by rw [clamp2_len, clamp1_len, HL.out, HS.out]) HR.out
          go_wp2_with fail
          go_ret2
          exact ⟨rfl, hB⟩
end Go.Proofs.YtpkomloblhbkiaaGreatDoor
/- tag.parts: the parts of a text, for whatever loop body. -/
namespace Go.Proofs.YtpkomloblhbkiaaGreatDoor
open Go.RowKit Go.Shelf
attribute [local go_sem] Oper.semAt_some
theorem textract_clip (s : ByteArray) (i j : Nat) : s.extract i (min j s.size) = s.extract i j := by
  rcases Nat.le_total j s.size with h | h
  · rw [Nat.min_eq_left h]
  · rw [Nat.min_eq_right h]
    apply ByteArray.ext
    rw [ByteArray.data_extract, ByteArray.data_extract]
    apply Array.ext'
    rw [Array.toList_extract, Array.toList_extract]
    have hs : s.data.toList.length = s.size := by simp
    rw [List.extract_eq_take_drop, List.extract_eq_take_drop, List.take_of_length_le (by first | (simp; done) | (simp; omega)), List.take_of_length_le (by first | (simp; done) | (simp; omega))]
/-- the parts of 16 bytes, the last one maybe of fewer -/
def part16 (s : ByteArray) (k : Nat) : ByteArray := s.extract (16 * k) (16 * k + 16)
theorem part16_size (s : ByteArray) (k : Nat) : (part16 s k).size = min (16 * k + 16) s.size - 16 * k := by simp [part16]
/-- a text that may be a part -/
structure P16 where
  (x : ByteArray) (ok : 1 ≤ x.size ∧ x.size ≤ 16)
theorem part16_ok (s : ByteArray) (k : Nat) (h : 16 * k < s.size) : 1 ≤ (part16 s k).size ∧ (part16 s k).size ≤ 16 := by rw [part16_size]; omega
def partsP (s : ByteArray) : List P16 := (List.range ((s.size + 15) / 16)).pmap (fun k (h : 16 * k < s.size) => P16.mk (part16 s k) (part16_ok s k h)) (fun k hk => by have := List.mem_range.1 hk; omega)
theorem partsP_len (s : ByteArray) : (partsP s).length = (s.size + 15) / 16 := by simp [partsP]
theorem partsP_succ (s : ByteArray) {k : Nat} (h : 16 * k < s.size) : (partsP s).take k ++ [⟨part16 s k, part16_ok s k h⟩] = (partsP s).take (k + 1) := by
  have hl : k < (partsP s).length := by rw [partsP_len]; omega
  rw [List.take_succ_eq_append_getElem hl]
  simp [partsP]
theorem parts_in (F : Fence) (n : Nat) (hf : F.fn 128) (hro : F.round = none) (s : ByteArray) (w : World) :
    CallsIn F n Tryz.prog 128 #[.string s] w fun e w' => e = .returned (.func (.func 134) #[] #[.pointer (some ⟨w.heap.size, 0, none⟩)]) ∧ w.alloc (.cells #[.string s] 9) = w' := by
  refine callsIn_of_wp Tryz.func128 rfl hf ?_ hro
  simp only [Tryz.ntmps128, List.size_toArray, List.length_cons, List.length_nil, Nat.reduceAdd, Nat.reduceSub, Array.replicate_succ, Array.replicate_zero, List.push_toArray, List.append_toArray, List.nil_append, List.cons_append]
  gi_wp2
  go_ret
  exact ⟨rfl, rfl⟩
set_option maxHeartbeats 400000 in
theorem parts1_in (F : Fence) (n : Nat) (hf : F.fn 134) (hro : F.round = none) (hn : 1 ≤ n) (l B1 : Nat) (s : ByteArray) (J Jx : List P16 → World → Prop) (Kp : World → World → Prop) (hKr : ∀ A, Kp A A) (hKt : ∀ A B C, Kp A B → Kp B C → Kp A C) (hKc : ∀ A B, Kp A B → B.cell? ⟨B1, 0, none⟩ = A.cell? ⟨B1, 0, none⟩)
    (hY : ∀ pre (x : P16) W, J pre W → pre.length < (partsP s).length → YieldAt F (n - 1) Tryz.prog l #[.string x.1] W fun e W' =>
      (e = .returned (.bool true) ∧ J (pre ++ [x]) W' ∧ Kp W W') ∨ (e = .returned (.bool false) ∧ Jx (pre ++ [x]) W'))
    (W : World) (h1 : W.cell? ⟨B1, 0, none⟩ = some (.string s)) (hs : s.size ≤ 1000000000) (h0 : J [] W) :
    CallsIn F n Tryz.prog 134 #[.func (.yield l) #[] #[], .pointer (some ⟨B1, 0, none⟩)] W fun e W' => (∃ v, e = .returned v) ∧
      ((∃ ys, ys = partsP s ∧ J ys W') ∨ (∃ pre, pre <+: partsP s ∧ Jx pre W')) := by
  have HY := Lib.hid hY
  have HK := Lib.hid hKt
  have HKc := Lib.hid hKc
  have H1 := Lib.hid h1
  clear hY h1 hKt hKc
  refine callsIn_of_wp Tryz.func134 rfl hf ?_ hro
  simp only [Tryz.ntmps134, List.size_toArray, List.length_cons, List.length_nil, Nat.reduceAdd, Nat.reduceSub, Array.replicate_succ, Array.replicate_zero, List.push_toArray, List.append_toArray, List.nil_append, List.cons_append]
  gi_wp2
  gi_loopw [3] (fun v wr => ∃ (k i : Nat), v = .int .i64 i ∧ Hid (i = 16 * k) ∧ i ≤ s.size + 15 ∧ Hid (J ((partsP s).take k) wr) ∧ Hid (Kp W wr)) (fun v _ => s.size + 16 - (intOf v).toNat)
  case atStart => exact ⟨0, 0, rfl, rfl, by omega, by simpa [Hid] using h0, hKr _⟩
  case round =>
    obtain ⟨k, i, rfl, HI, hi, HJ, hB⟩ := hrel
    have c1 := (HKc.out _ _ hB.out).trans H1.out
    by_cases hlt : i < s.size
    · obtain ⟨e, he⟩ : ∃ e, min (i + 16) s.size = e := ⟨_, rfl⟩
      have hc : part16 s k = s.extract i e := by rw [← he, textract_clip, HI.out]; rfl
      have hk16 : 16 * k < s.size := by have := HI.out; omega
      have HSC := Lib.hid (partsP_succ s hk16)
      obtain ⟨x, hx⟩ : ∃ x : P16, (⟨part16 s k, part16_ok s k hk16⟩ : P16) = x := ⟨_, rfl⟩
      have hx1 : x.1 = s.extract i e := by rw [← hx]; exact hc
      rw [hx] at HSC
      clear hx hc
      obtain ⟨fn, tmps, assign, body, hy, hR⟩ := HY.out _ x wr HJ.out (by rw [List.length_take, partsP_len]; have := HI.out; omega)
      rw [hx1] at hy
      have HRR := Lib.hid hR
      clear hR hx1
      by_cases h16 : i + 16 ≤ s.size
      · obtain rfl : e = i + 16 := by omega
        clear he
        gi_wp2
        refine HRR.out.mono ?_
        rintro r W3 (⟨rfl, hJ3, hk3⟩ | ⟨rfl, hJx3⟩)
        · rw [HSC.out] at hJ3
          have HJ3 := Lib.hid hJ3
          clear hJ3
          gi_wp2
          go_roundw
          case rel => exact ⟨k + 1, i + 16, by go_num, Lib.hid (by rw [HI.out]; omega), by omega, HJ3, HK.out _ _ _ hB.out hk3⟩
          case measure => simp [intOf]; omega
        · rw [HSC.out] at hJx3
          have HJ3 := Lib.hid hJx3
          clear hJx3
          gi_wp2
          refine bodyPost_ret (results_none rfl _ _ _) rfl ?_
          exact ⟨⟨_, rfl⟩, .inr ⟨_, List.take_prefix _ _, HJ3⟩⟩
      · obtain rfl : e = s.size := by omega
        clear he
        gi_wp2
        refine HRR.out.mono ?_
        rintro r W3 (⟨rfl, hJ3, hk3⟩ | ⟨rfl, hJx3⟩)
        · rw [HSC.out] at hJ3
          have HJ3 := Lib.hid hJ3
          clear hJ3
          gi_wp2
          go_roundw
          case rel => exact ⟨k + 1, i + 16, by go_num, Lib.hid (by rw [HI.out]; omega), by omega, HJ3, HK.out _ _ _ hB.out hk3⟩
          case measure => simp [intOf]; omega
        · rw [HSC.out] at hJx3
          have HJ3 := Lib.hid hJx3
          clear hJx3
          gi_wp2
          refine bodyPost_ret (results_none rfl _ _ _) rfl ?_
          exact ⟨⟨_, rfl⟩, .inr ⟨_, List.take_prefix _ _, HJ3⟩⟩
    · have HE : Hid ((partsP s).take k = partsP s) := Lib.hid (List.take_of_length_le (by rw [partsP_len]; have := HI.out; omega))
      gi_wp2
      go_end0
      exact ⟨⟨_, rfl⟩, .inl ⟨_, rfl, by have := HJ.out; rwa [HE.out] at this⟩⟩
end Go.Proofs.YtpkomloblhbkiaaGreatDoor
