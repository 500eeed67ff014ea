/- the reference's Parse. -/
import Derived.Test.YtbgohcedakpnbaaDoorRMemC
import Derived.Test.YtbgohcedakpnbaaDoorMemU
import Derived.Deep.DeepCutAuto
set_option linter.unusedVariables false
set_option linter.unusedSimpArgs false
namespace Go.Proofs.YtbgohcedakpnbaaDoor
open Go.RowKit
def joinL (c : UInt8) (x : ByteArray) : List ByteArray → List UInt8
  | [] => x.data.toList
  | y :: L => x.data.toList ++ c :: joinL c y L
theorem rp_join (s : ByteArray) (c : UInt8) : ∀ (L : List ByteArray) (x : ByteArray) (pre : List UInt8) (o : List ByteArray), (∀ y ∈ x :: L, c ∉ y.data.toList) → s.data.toList = pre ++ joinL c x L → rpTo s c pre.length = (o, pre.length) → rpTo s c (s.size + 1) = (o ++ x :: L, s.size + 1) := by
  intro L
  induction L with
  | nil =>
    intro x pre o hno hs h
    have hsz : s.size = pre.length + x.size := by
      have h1 := congrArg List.length hs
      simpa [joinL] using h1
    have h1 := rpTo_piece (q := s.size) h (by omega) (Nat.le_refl _) (fun i hi hi2 he => by
      rw [hs, List.getElem?_append_right hi] at he
      exact hno x (by simp) (List.mem_of_getElem? he)) (.inl rfl)
    have hx : s.extract pre.length s.size = x := by
      apply ByteArray.ext
      apply Array.ext'
      have hl : x.data.toList.length = x.size := by simp
      rw [ByteArray.data_extract, Array.toList_extract, hs, List.extract, List.drop_append_of_le_length (Nat.le_refl _), List.drop_length, List.nil_append]
      exact List.take_of_length_le (by show (joinL c x []).length ≤ _; simp only [joinL]; omega)
    rw [hx] at h1
    exact h1
  | cons y L ih =>
    intro x pre o hno hs h
    have hl : x.data.toList.length = x.size := by simp
    have hlen : s.size = pre.length + (x.size + ((joinL c y L).length + 1)) := by
      have h1 := congrArg List.length hs
      simp only [joinL, List.length_append, List.length_cons] at h1
      have h2 : s.data.toList.length = s.size := by simp
      omega
    have hat : s.data.toList[pre.length + x.size]? = some c := by
      rw [hs, List.getElem?_append_right (by omega)]
      simp only [joinL]
      rw [List.getElem?_append_right (by omega)]
      rw [show pre.length + x.size - pre.length - x.data.toList.length = 0 by omega]
      rfl
    have h1 := rpTo_piece (q := pre.length + x.size) h (by omega) (by omega) (fun i hi hi2 he => by
      rw [hs, List.getElem?_append_right hi] at he
      simp only [joinL] at he
      rw [List.getElem?_append_left (by omega)] at he
      exact hno x (by simp) (List.mem_of_getElem? he)) (.inr hat)
    have hx : s.extract pre.length (pre.length + x.size) = x := by
      apply ByteArray.ext
      apply Array.ext'
      rw [ByteArray.data_extract, Array.toList_extract, hs, List.extract, List.drop_append_of_le_length (Nat.le_refl _), List.drop_length, List.nil_append]
      simp only [joinL]
      rw [show pre.length + x.size - pre.length = x.data.toList.length by omega, List.take_append_of_le_length (Nat.le_refl _), List.take_length]
    rw [hx] at h1
    have h2 := ih y (pre ++ x.data.toList ++ [c]) (o ++ [x]) (fun z hz => hno z (List.mem_cons_of_mem _ hz)) (by rw [hs]; simp [joinL]) (by
      rw [show (pre ++ x.data.toList ++ [c]).length = pre.length + x.size + 1 by simp; omega]
      exact h1)
    rw [h2]
    simp
theorem rpF_join {s : ByteArray} {c : UInt8} {x : ByteArray} {L : List ByteArray} (hno : ∀ y ∈ x :: L, c ∉ y.data.toList) (hs : s.data.toList = joinL c x L) : rpF s c = x :: L := by
  unfold rpF
  rw [rp_join s c L x [] [] hno hs rfl]
  rfl
theorem join_catT (L : List ByteArray) : ∀ x : ByteArray, joinL 10 x (L ++ [⟨#[]⟩]) = x.data.toList ++ 10 :: catT L := by
  induction L with
  | nil => intro x; rfl
  | cons y L ih => intro x; simp only [List.cons_append, joinL]; rw [ih, catT_cons]
def lastP (L : List ByteArray) : ByteArray := L.getD (L.length - 1) ⟨#[]⟩
def headP (L : List ByteArray) : ByteArray := L.getD 0 ⟨#[]⟩
/-- the names and pledges of the first rows -/
def rowsTo (L : List ByteArray) : Nat → Option (List ByteArray × List ByteArray)
  | 0 => some ([], [])
  | k + 1 => match rowsTo L k with
    | none => none
    | some q => match unhexF (lastP (rpF (L.getD (k + 1) ⟨#[]⟩) 32)) with
      | none => none
      | some p => some (q.1 ++ [headP (rpF (L.getD (k + 1) ⟨#[]⟩) 32)], q.2 ++ [p])
theorem rowsTo_none {L : List ByteArray} {k : Nat} (h : rowsTo L k = none) : ∀ m, k ≤ m → rowsTo L m = none := by
  intro m hm
  induction m with
  | zero =>
    obtain rfl : k = 0 := by omega
    exact h
  | succ m ih =>
    by_cases e : k = m + 1
    · subst e; exact h
    · rw [rowsTo, ih (by omega)]
/-- two digits tell the byte -/
theorem digitV_hex (d : Nat) (h : d < 16) : digitV (mhexD d) = d := by
  have hall : ∀ x : Fin 16, digitV (mhexD x.val) = (x.val : Nat) := by decide +kernel
  exact hall ⟨d, h⟩
theorem pairs_hex (l : List UInt8) : ∀ k, k ≤ l.length → pairsTo (l.flatMap hexP) k = some (l.take k) := by
  intro k
  induction k with
  | zero => intro _; simp [pairsTo]
  | succ k ih =>
    intro hk
    have hg1 := hexFlat_get l (2 * k) (by omega)
    have hg2 := hexFlat_get l (2 * k + 1) (by omega)
    rw [if_pos (by omega), show 2 * k / 2 = k by omega] at hg1
    rw [if_neg (by omega), show (2 * k + 1) / 2 = k by omega] at hg2
    obtain ⟨c, hc⟩ : ∃ c, l[k]? = some c := ⟨_, List.getElem?_eq_getElem (by omega)⟩
    have hcd : l.getD k 0 = c := by rw [List.getD_eq_getElem?_getD, hc]; rfl
    rw [hcd] at hg1 hg2
    have hcl := c.toNat_lt
    rw [pairsTo, ih (by omega)]
    simp only [List.getD_eq_getElem?_getD, hg1, hg2, Option.getD_some]
    rw [digitV_hex _ (by omega), digitV_hex _ (by omega), if_neg (by omega), List.take_add_one, hc]
    congr 2
    simp only [Option.toList_some, List.cons.injEq, and_true]
    rw [show (16 * ((c.toNat / 16 : Nat) : Int) + ((c.toNat % 16 : Nat) : Int)).toNat = c.toNat by omega]
    simp
theorem unhex_hex (y : ByteArray) : unhexF (hexM y) = some y := by
  unfold unhexF
  rw [hexM_size, if_neg (by omega), show 2 * y.size / 2 = y.data.toList.length by simp]
  rw [show (hexM y).data.toList = y.data.toList.flatMap hexP by simp [hexM], pairs_hex _ _ (Nat.le_refl _), List.take_length]
  rfl
theorem rnum_dig (n : Nat) (h : n ≤ 1000000) : rnumF (digB n) = n := by
  have hk := digB_len n 6 (by omega)
  obtain ⟨hne, hhead⟩ := dec_head n
  have h1 : 1 ≤ (Lib.decDigits n).length := by
    rcases hl : Lib.decDigits n with _ | ⟨a, l⟩
    · exact absurd hl hne
    · simp
  have hd : digsB (Lib.decDigits n) = true := by
    unfold digsB
    rw [List.all_eq_true]
    intro c hc
    exact (dig_iff c).2 (dec_bytes n c hc)
  have hz : ¬ (1 < (Lib.decDigits n).length ∧ (Lib.decDigits n).getD 0 0 = 48) := fun h => by
    have := hhead h.2
    omega
  have hv : valTo (Lib.decDigits n) (Lib.decDigits n).length = n := by
    have h2 := congrArg (Lib.decFrom 0) ((canon _ h1 hd).2 hz)
    rw [decFrom_dec, decFrom_dec] at h2
    exact Option.some.inj h2
  unfold rnumF
  rw [show (digB n).data.toList = Lib.decDigits n from rfl, if_pos ((numOk_iff _).2 ⟨h1, by omega, hz, hd⟩), hv]
theorem epoch_no : (32 : UInt8) ∉ (⟨#[101, 112, 111, 99, 104]⟩ : ByteArray).data.toList := by decide
theorem rowsTo_good {b : Rec} (hck : checkB b = true) {L : List ByteArray} (hL : L = linesL b ++ [⟨#[]⟩]) : ∀ k, k ≤ b.names.length → rowsTo L k = some (b.names.take k, b.pledges.take k) := by
  obtain ⟨⟨_, _, _, _, h5, _, _⟩, _⟩ := (checkB_iff b).1 hck
  intro k
  induction k with
  | zero => intro _; simp [rowsTo]
  | succ k ih =>
    intro hk
    obtain ⟨x, hx⟩ : ∃ x, b.names[k]? = some x := ⟨_, List.getElem?_eq_getElem (by omega)⟩
    obtain ⟨y, hy⟩ : ∃ y, b.pledges[k]? = some y := ⟨_, List.getElem?_eq_getElem (by omega)⟩
    have hget : L.getD (k + 1) ⟨#[]⟩ = lineAt x y := by
      rw [hL, List.getD_eq_getElem?_getD, List.getElem?_append_left (by show k + 1 < (line0 b :: List.zipWith lineAt b.names b.pledges).length; rw [List.length_cons, List.length_zipWith]; omega)]
      show ((line0 b :: List.zipWith lineAt b.names b.pledges)[k + 1]?).getD _ = _
      rw [List.getElem?_cons_succ, List.getElem?_zipWith, hx, hy]
      rfl
    have hnb := (check_place hck hx).1
    have hcut : rpF (lineAt x y) 32 = [x, hexM y] := rpF_join (by
      intro z hz
      rcases List.mem_cons.1 hz with rfl | hz
      · exact not_small (by decide) (name_bytes hnb)
      · rw [List.mem_singleton.1 hz]
        exact not_small (by decide) (hex_bytes y)) (by rw [lineAt_data]; rfl)
    rw [rowsTo, ih (by omega)]
    simp only [hget, hcut]
    rw [show lastP [x, hexM y] = hexM y from rfl, unhex_hex]
    simp only [show headP [x, hexM y] = x from rfl]
    rw [List.take_add_one, List.take_add_one, hx, hy]
    rfl
theorem line0_parts (b : Rec) : rpF (line0 b) 32 = [⟨#[101, 112, 111, 99, 104]⟩, digB b.epoch.toNat, digB b.k.toNat] := rpF_join (by
    intro z hz
    rcases List.mem_cons.1 hz with rfl | hz
    · exact epoch_no
    · rcases List.mem_cons.1 hz with rfl | hz
      · exact not_small (by decide) (fun c hc => (dec_bytes _ c (by rw [dig_data] at hc; exact hc)).1)
      · rw [List.mem_singleton.1 hz]
        exact not_small (by decide) (fun c hc => (dec_bytes _ c (by rw [dig_data] at hc; exact hc)).1)) (by rw [line0_data]; simp [joinL, dig_data])
/-- what the reference's Parse takes of a text -/
theorem rparse_facts {s : ByteArray} {b : Rec} {f : Int} (h : ParseOf s b f) {L F : List ByteArray} (hL : rpF s 10 = L) (hF : rpF (L.getD 0 ⟨#[]⟩) 32 = F) :
    (F.length ≠ 3 → f = 180 ∧ b = noRec) ∧ (∀ k, k ≤ L.length - 2 → rowsTo L k = none → f = 180 ∧ b = noRec) ∧
    ∀ N P, rowsTo L (L.length - 2) = some (N, P) → (printF ⟨rnumF (F.getD 1 ⟨#[]⟩), rnumF (F.getD 2 ⟨#[]⟩), N, P⟩ = (s, 0) → f = 0 ∧ b = ⟨rnumF (F.getD 1 ⟨#[]⟩), rnumF (F.getD 2 ⟨#[]⟩), N, P⟩) ∧ (¬ printF ⟨rnumF (F.getD 1 ⟨#[]⟩), rnumF (F.getD 2 ⟨#[]⟩), N, P⟩ = (s, 0) → f = 180 ∧ b = noRec) := by
  rcases h with ⟨rfl, hck, hp⟩ | ⟨rfl, rfl, hno⟩
  · obtain ⟨⟨h1, h2, h3, h4, h5, h6, h7⟩, _⟩ := (checkB_iff b).1 hck
    have hLe : L = linesL b ++ [⟨#[]⟩] := by
      rw [← hL, ← hp]
      exact rpF_join (s := printB b) (c := 10) (x := line0 b) (L := List.zipWith lineAt b.names b.pledges ++ [⟨#[]⟩]) (by
        intro z hz
        rw [← List.cons_append] at hz
        rcases List.mem_append.1 hz with hz | hz
        · exact (lines_ok hck z hz).1
        · rw [List.mem_singleton.1 hz]
          exact List.not_mem_nil) (by
        rw [join_catT, ← catT_cons]
        rfl)
    have hFe : F = [⟨#[101, 112, 111, 99, 104]⟩, digB b.epoch.toNat, digB b.k.toNat] := by
      rw [← hF, hLe]
      exact line0_parts b
    have hlen : L.length - 2 = b.names.length := by
      rw [hLe, List.length_append]
      show (line0 b :: List.zipWith lineAt b.names b.pledges).length + 1 - 2 = _
      rw [List.length_cons, List.length_zipWith]
      omega
    have hrow := rowsTo_good hck hLe
    refine ⟨fun h => absurd (by rw [hFe]; rfl) h, fun k hk hn => ?_, fun N P hNP => ?_⟩
    · rw [hrow k (by omega)] at hn
      cases hn
    · rw [hlen, hrow _ (Nat.le_refl _), List.take_length] at hNP
      rw [show b.pledges.take b.names.length = b.pledges by rw [← h5]; exact List.take_length ..] at hNP
      injection hNP with hNP
      obtain ⟨rfl, rfl⟩ := Prod.mk.inj hNP
      have e1 : rnumF (F.getD 1 ⟨#[]⟩) = b.epoch := by
        rw [hFe]
        show rnumF (digB b.epoch.toNat) = _
        rw [rnum_dig _ (by omega)]
        omega
      have e2 : rnumF (F.getD 2 ⟨#[]⟩) = b.k := by
        rw [hFe]
        show rnumF (digB b.k.toNat) = _
        rw [rnum_dig _ (by omega)]
        omega
      rw [e1, e2]
      have hb : printF b = (s, 0) := by rw [printF, if_pos hck, hp]
      exact ⟨fun _ => ⟨rfl, rfl⟩, fun h => absurd hb h⟩
  · refine ⟨fun _ => ⟨rfl, rfl⟩, fun _ _ _ => ⟨rfl, rfl⟩, fun N P _ => ⟨fun h => ?_, fun _ => ⟨rfl, rfl⟩⟩⟩
    unfold printF at h
    split at h
    · rename_i hc
      exact absurd (Prod.mk.inj h).1 (hno _ hc)
    · exact absurd (Prod.mk.inj h).2 (by decide)
/-- the record that is built, and its rows -/
def LS5 (w5 : World) (g B : Nat) (ep kk : Int) (L L' : List ByteArray) (j j2 : Nat) (A1 A2 : Option Addr) (c1 c2 : Nat) (W : World) : Prop :=
  Below w5.heap.size w5 W ∧ w5.heap.size ≤ g ∧ g < B ∧ B ≤ W.heap.size ∧ Blk W g 24 #[.int .i64 ep, .int .i64 kk, .slice A1 j c1, .slice A2 j2 c2] ∧ L.length = j ∧ L'.length = j2 ∧
  SRow W B (.slice A1 j c1) L ∧ SRow W B (.slice A2 j2 c2) L' ∧ (∀ x, (Value.slice A1 j c1).ownBlock = some x → (Value.slice A2 j2 c2).ownBlock ≠ some x)
section
variable {w5 W W' w7 : World} {g B : Nat} {ep kk : Int} {L L' : List ByteArray} {j j2 : Nat} {A1 A2 A7 : Option Addr} {c1 c2 c7 : Nat}
theorem LS5.on (h : LS5 w5 g B ep kk L L' j j2 A1 A2 c1 c2 W) (hb : Below W.heap.size W W') : LS5 w5 g B ep kk L L' j j2 A1 A2 c1 c2 W' := by
  obtain ⟨h1, h2, h3, h4, hK, hl, hl2, hr, hr2, hd⟩ := h
  exact ⟨h1.trans (hb.mono h1.size), h2, h3, Nat.le_trans h4 hb.size, hK.below hb (by omega), hl, hl2, orow_below hr hb (Nat.le_refl _), orow_below hr2 hb (Nat.le_refl _), hd⟩
theorem LS5.held (h : LS5 w5 g B ep kk L L' j j2 A1 A2 c1 c2 W) (hb : Below W.heap.size W W') (hsz : W'.heap.size = W.heap.size + 1) {row : Option Nat} (hg7 : W'.grownBy w7 row) (hrow : row = (Value.slice A1 j c1).ownBlock ∨ row = (Value.slice A2 j2 c2).ownBlock) :
    Blk w7 g 24 #[.int .i64 ep, .int .i64 kk, .slice A1 j c1, .slice A2 j2 c2] ∧ Below w5.heap.size w5 w7 := by
  obtain ⟨h1, h2, h3, h4, hK, hl, hl2, hr, hr2, hd⟩ := h
  have hn : ∀ k, row = some k → B ≤ k := fun k e => by
    rcases hrow with q | q
    · exact (orow_lt hr (q.symm.trans e)).1
    · exact (orow_lt hr2 (q.symm.trans e)).1
  exact ⟨(hK.below hb (by omega)).grown hg7 (fun e => by have := hn _ e.symm; omega), (h1.trans (hb.mono h1.size)).grown hg7 (by have := h1.size; have := hb.size; omega) (fun k e => by have := hn k e; omega)⟩
theorem LS5.names (h : LS5 w5 g B ep kk L L' j j2 A1 A2 c1 c2 W) (hb : Below W.heap.size W W') (hsz : W'.heap.size = W.heap.size + 1) (x : ByteArray) (HR7 : SRow w7 B (.slice A7 (j + 1) c7) (L ++ [x])) (hg7 : W'.grownBy w7 (Value.slice A1 j c1).ownBlock)
    (hne7 : (Value.slice A7 (j + 1) c7).ownBlock = (Value.slice A1 j c1).ownBlock ∨ (Value.slice A7 (j + 1) c7).ownBlock = some W'.heap.size) :
    LS5 w5 g B ep kk (L ++ [x]) L' (j + 1) j2 A7 A2 c7 c2 (w7.setCell ⟨g, 2, none⟩ (.slice A7 (j + 1) c7)) := by
  obtain ⟨p1, p2⟩ := h.held hb hsz hg7 (.inl rfl)
  obtain ⟨h1, h2, h3, h4, hK, hl, hl2, hr, hr2, hd⟩ := h
  have hs7 := hg7.size
  refine ⟨p2.setCell h2 _, h2, h3, by simp; omega, by have := p1.set_ 2 (.slice A7 (j + 1) c7); simpa using this, by simp [hl], hl2, orow_far HR7 p1 (by decide) 2 _, orow_far (srow_kept (orow_below hr2 hb (Nat.le_refl _)) hg7 ?_) p1 (by decide) 2 _, ?_⟩
  · cases hv : Value.ownBlock (.slice A2 j2 c2) with
    | none => exact .inl rfl
    | some x => exact .inr (fun e => hd x e.symm hv)
  · intro y hy hy'
    rcases hne7 with e | e
    · exact hd y (e.symm.trans hy) hy'
    · rw [hy] at e
      injection e with e
      have := (orow_lt hr2 hy').2
      omega
theorem LS5.pledges (h : LS5 w5 g B ep kk L L' j j2 A1 A2 c1 c2 W) (hb : Below W.heap.size W W') (hsz : W'.heap.size = W.heap.size + 1) (x : ByteArray) (HR7 : SRow w7 B (.slice A7 (j2 + 1) c7) (L' ++ [x])) (hg7 : W'.grownBy w7 (Value.slice A2 j2 c2).ownBlock)
    (hne7 : (Value.slice A7 (j2 + 1) c7).ownBlock = (Value.slice A2 j2 c2).ownBlock ∨ (Value.slice A7 (j2 + 1) c7).ownBlock = some W'.heap.size) :
    LS5 w5 g B ep kk L (L' ++ [x]) j (j2 + 1) A1 A7 c1 c7 (w7.setCell ⟨g, 3, none⟩ (.slice A7 (j2 + 1) c7)) := by
  obtain ⟨p1, p2⟩ := h.held hb hsz hg7 (.inr rfl)
  obtain ⟨h1, h2, h3, h4, hK, hl, hl2, hr, hr2, hd⟩ := h
  have hs7 := hg7.size
  refine ⟨p2.setCell h2 _, h2, h3, by simp; omega, by have := p1.set_ 3 (.slice A7 (j2 + 1) c7); simpa using this, hl, by simp [hl2], orow_far (srow_kept (orow_below hr hb (Nat.le_refl _)) hg7 ?_) p1 (by decide) 3 _, orow_far HR7 p1 (by decide) 3 _, ?_⟩
  · cases hv : Value.ownBlock (.slice A1 j c1) with
    | none => exact .inl rfl
    | some x => exact .inr (fun e => hd x hv e.symm)
  · intro y hy hy'
    rcases hne7 with e | e
    · exact hd y hy (e.symm.trans hy')
    · rw [hy'] at e
      injection e with e
      have := (orow_lt hr hy).2
      omega
end
/-- append of one text, as one operation; who owned the row before -/
theorem wpList_append_sv {ops : Array Oper} {rest : List Oper} {o : Oper} {a : Act} {w : World} {Q : Exit → Act → World → Prop} {base : Nat} {A : Option Addr} {j c : Nat} {L : List ByteArray} (hgd : o.guard = none) (s x : Operand)
    (ho : o.op = .call { callee := .builtin .append, args := #[s, x], argTypes := #[22, 22] })
    (hs : a.eval s = .slice A j c) (hown : SRow w base (.slice A j c) L) (hj : L.length = j) (g : Nat) (T : ByteArray) (hx : a.eval x = .slice (some ⟨g, 0, none⟩) 1 1) (hg : w.cell? ⟨g, 0, none⟩ = some (.string T)) (hz : j ≤ 1000000) (hbase : base ≤ w.heap.size)
    (h : ∀ A' c' w', Hid (SRow w' base (.slice A' (j + 1) c') (L ++ [T])) → w.grownBy w' (Value.slice A j c).ownBlock → ((Value.slice A' (j + 1) c').ownBlock = (Value.slice A j c).ownBlock ∨ (Value.slice A' (j + 1) c').ownBlock = some w.heap.size) → wpList Tryd.prog ops Q rest (a.put o.dst (.slice A' (j + 1) c')) w') : wpList Tryd.prog ops Q (o :: rest) a w := by
  obtain ⟨i0, hi0, hz0, hz1, hz2⟩ := info_parts str_info3
  subst hj
  refine wpList_append_any w hgd s x _ ho base _ i0 _ 1 16 Tryd.underlying22 hi0 hz0 hz1 hz2 rfl (by omega) _ L.length (flat encS L) hs hown (g + 1) (some ⟨g, 0, none⟩) 1 1 [.string T] hx ?_ (by intro u hu; simp at hu; subst hu; rfl) (by simp only [maxLen]; omega) (by omega) hbase ?_
  · refine ⟨rfl, fun _ => ⟨_, rfl, by simp, fun j u hu => ?_⟩⟩
    have hadd : (⟨g, 0, none⟩ : Addr).add j = ⟨g, j, none⟩ := by unfold Addr.add; split <;> simp_all
    rw [hadd]
    obtain rfl : j = 0 := by
      have := (List.getElem?_eq_some_iff.1 hu).1
      simpa using this
    simp at hu
    subst hu
    exact hg
  · intro v' w' h1 h2 h5
    have h1' : SRow w' base v' (L ++ [T]) := orow_join h1 _ (by simp) (by simp [flat, encS])
    obtain ⟨A', c', hv, _⟩ := orow_form h1'
    have e : (L ++ [T]).length = L.length + 1 := by simp
    rw [e] at hv
    subst hv
    exact h A' c' w' (Lib.hid h1') h2 h5
theorem wp_append_sv2 {o : Oper} {a : Act} {w : World} {K : Act → World → Prop} {Q : Exit → Act → World → Prop} {base : Nat} {A : Option Addr} {j c : Nat} {L : List ByteArray} (s x : Operand)
    (ho : o.op = .call { callee := .builtin .append, args := #[s, x], argTypes := #[22, 22] })
    (hs : a.eval s = .slice A j c) (hown : SRow w base (.slice A j c) L) (hj : L.length = j) (g : Nat) (T : ByteArray) (hx : a.eval x = .slice (some ⟨g, 0, none⟩) 1 1) (hg : w.cell? ⟨g, 0, none⟩ = some (.string T)) (hz : j ≤ 1000000) (hbase : base ≤ w.heap.size)
    (h : ∀ A' c' w', Hid (SRow w' base (.slice A' (j + 1) c') (L ++ [T])) → w.grownBy w' (Value.slice A j c).ownBlock → ((Value.slice A' (j + 1) c').ownBlock = (Value.slice A j c).ownBlock ∨ (Value.slice A' (j + 1) c').ownBlock = some w.heap.size) → K (a.put o.dst (.slice A' (j + 1) c')) w') : o.wp Tryd.prog a w K Q := by
  obtain ⟨i0, hi0, hz0, hz1, hz2⟩ := info_parts str_info3
  subst hj
  refine wp_append_any w s x _ ho base _ i0 _ 1 16 Tryd.underlying22 hi0 hz0 hz1 hz2 rfl (by omega) _ L.length (flat encS L) hs hown (g + 1) (some ⟨g, 0, none⟩) 1 1 [.string T] hx ?_ (by intro u hu; simp at hu; subst hu; rfl) (by simp only [maxLen]; omega) (by omega) hbase ?_
  · refine ⟨rfl, fun _ => ⟨_, rfl, by simp, fun j u hu => ?_⟩⟩
    have hadd : (⟨g, 0, none⟩ : Addr).add j = ⟨g, j, none⟩ := by unfold Addr.add; split <;> simp_all
    rw [hadd]
    obtain rfl : j = 0 := by
      have := (List.getElem?_eq_some_iff.1 hu).1
      simpa using this
    simp at hu
    subst hu
    exact hg
  · intro v' w' h1 h2 h5
    have h1' : SRow w' base v' (L ++ [T]) := orow_join h1 _ (by simp) (by simp [flat, encS])
    obtain ⟨A', c', hv, _⟩ := orow_form h1'
    have e : (L ++ [T]).length = L.length + 1 := by simp
    rw [e] at hv
    subst hv
    exact h A' c' w' (Lib.hid h1') h2 h5
set_option maxRecDepth 100000 in
set_option maxHeartbeats 16000000 in
theorem rparse_any (b : Rec) (f : Int) (s : ByteArray) (w : World) (h : ParseOf s b f) (hs : s.size ≤ 3000) :
    Calls Tryd.prog 15 #[.string s] w fun e' w' => ∃ (A A' : Option Addr) (n c d : Nat), e' = .returned (.tuple #[recV b A n c A' n d, .int .i64 f]) ∧ Hid (SRow w' w.heap.size (.slice A n c) b.names) ∧ Hid (SRow w' w.heap.size (.slice A' n d) b.pledges) ∧ b.names.length = n ∧ b.pledges.length = n ∧ Below w.heap.size w w' := by
  obtain ⟨L, hL⟩ : ∃ L, rpF s 10 = L := ⟨_, rfl⟩
  have hLl := rp_len s 10
  have hLs := rp_size s 10
  have HC10 : Hid (∀ W, Calls Tryd.prog 39 #[.string s, .int .u8 10] W fun e w' => ∃ (A : Option Addr) (n d : Nat), e = .returned (.slice A n d) ∧ Hid (SRow w' W.heap.size (.slice A n d) L) ∧ L.length = n ∧ Below W.heap.size W w') := Lib.hid (fun W => by
    have h := rcut_any s 10 W (by omega)
    rw [hL] at h
    exact h)
  rw [hL] at hLl hLs
  obtain ⟨l0, hl0⟩ : ∃ l0, L[0]? = some l0 := ⟨_, List.getElem?_eq_getElem (by omega)⟩
  have hg0 : L.getD 0 ⟨#[]⟩ = l0 := by rw [List.getD_eq_getElem?_getD, hl0]; rfl
  have hl0s := hLs l0 (List.mem_of_getElem? hl0)
  obtain ⟨F, hF⟩ : ∃ F, rpF l0 32 = F := ⟨_, rfl⟩
  have HCu : Hid (∀ (t : ByteArray) W, t.size ≤ 3000 → Calls Tryd.prog 39 #[.string t, .int .u8 32] W fun e w' => ∃ (A : Option Addr) (n d : Nat), e = .returned (.slice A n d) ∧ Hid (SRow w' W.heap.size (.slice A n d) (rpF t 32)) ∧ (rpF t 32).length = n ∧ Below W.heap.size W w') := Lib.hid (fun t W ht => rcut_any t 32 W (by omega))
  have HC32 := Lib.hid (fun W => HCu.out l0 W (by omega))
  rw [hF] at HC32
  have hFs := rp_size l0 32
  rw [hF] at hFs
  obtain ⟨hfa, hfb, hfc⟩ := rparse_facts (F := F) h hL (by rw [hg0]; exact hF)
  have HFA := Lib.hid hfa
  have HFB := Lib.hid hfb
  have HFC := Lib.hid hfc
  have HLS := Lib.hid hLs
  have HFS := Lib.hid hFs
  have HL0 := Lib.hid hl0
  have hlen2 : L.length ≤ 3001 := by omega
  have hlen1 : 1 ≤ L.length := hLl.1
  clear h hL hF hLl hLs hg0 hfa hfb hfc hFs hl0
  go_enter Tryd.func15, Tryd.ntmps15
  go_wp2_with fail
  refine (HC10.out _).mono ?_
  rintro e' w1 ⟨A0, n0, d0, rfl, hR0, hn0, hb1⟩
  have hx1 : Blk w1 w.heap.size 24 #[.int .i64 0, .int .i64 0, .slice none 0 0, .slice none 0 0] := (Blk.new w 24 #[.int .i64 0, .int .i64 0, .slice none 0 0, .slice none 0 0]).below hb1 (by simp)
  have hB1 : Below w.heap.size w w1 := Below.trans (by go_grown) (hb1.mono (by simp))
  obtain ⟨b0, of0, x0, rfl, hx0, hc0⟩ := mrow_at (srow_slr hR0.out hn0) (show 0 < n0 by omega)
  have HC0 := Lib.hid hc0
  have HX1 := Lib.hid hx1
  have HB1 := Lib.hid hB1
  have c0 : w1.cell? ⟨b0, of0, none⟩ = some (.string l0) := by simpa using HC0.out w1 (Below.refl _ _) 0 l0 HL0.out
  have n00 : (0 : Int) < (n0 : Int) := by omega
  have hl1 := HX1.out.lt
  clear hR0 hb1 hx1 hB1 hc0 hx0 HC10
  subst hn0
  obtain ⟨n0, hn0⟩ : ∃ n0, L.length = n0 := ⟨_, rfl⟩
  rw [hn0] at n00 HFB HFC hlen1 hlen2 ⊢
  have HN0 := Lib.hid hn0
  clear hn0
  go_wp2_with fail
  refine (HC32.out _).mono ?_
  rintro e' w2 ⟨A5, n5, d5, rfl, hR5, hn5, hb2⟩
  have HB2 := Lib.hid (HB1.out.trans (hb2.mono HB1.out.size))
  have HX2 := Lib.hid (HX1.out.below hb2 hl1)
  have H12 := Lib.hid hb2
  clear hb2 c0 HC32 HX1
  by_cases hF3 : n5 = 3
  · subst hF3
    obtain ⟨f1, hf1⟩ : ∃ f1, F[1]? = some f1 := ⟨_, List.getElem?_eq_getElem (by omega)⟩
    obtain ⟨f2, hf2⟩ : ∃ f2, F[2]? = some f2 := ⟨_, List.getElem?_eq_getElem (by omega)⟩
    obtain ⟨bf, ofs, x0, rfl, hx0, hcf⟩ := mrow_at (srow_slr hR5.out hn5) (show 0 < 3 by omega)
    have c1 := hcf w2 (Below.refl _ _) 1 f1 hf1
    have c2 := hcf w2 (Below.refl _ _) 2 f2 hf2
    have hs1 := HFS.out f1 (List.mem_of_getElem? hf1)
    have hs2 := HFS.out f2 (List.mem_of_getElem? hf2)
    have e1 : F.getD 1 ⟨#[]⟩ = f1 := by rw [List.getD_eq_getElem?_getD, hf1]; rfl
    have e2 : F.getD 2 ⟨#[]⟩ = f2 := by rw [List.getD_eq_getElem?_getD, hf2]; rfl
    rw [e1, e2] at HFC
    have HNU1 := Lib.hid (fun W => rnum_any f1 W (by omega))
    have HNU2 := Lib.hid (fun W => rnum_any f2 W (by omega))
    clear hR5 hn5 hf1 hf2 hx0 hcf e1 e2 HFA HFS
    go_upto_region 5 with fail
    go_cut [6] from 7 to 84 (fun s6 wx => ∃ g : Nat, s6 = .pointer (some ⟨g, 0, none⟩) ∧ Hid (Below w2.heap.size w2 wx ∧ Blk wx g 24 #[.int .i64 (rnumF f1), .int .i64 (rnumF f2), .slice none 0 0, .slice none 0 0] ∧ w2.heap.size ≤ g))
    case first =>
      refine wp_region_Z 10 (fun W => Below w2.heap.size w2 W ∧ W.cell? ⟨bf, ofs + 1, none⟩ = some (.string f1) ∧ W.cell? ⟨bf, ofs + 2, none⟩ = some (.string f2)) (by kernel_rfl) ?_
      have hHeld : (fun W => Below w2.heap.size w2 W ∧ W.cell? ⟨bf, ofs + 1, none⟩ = some (.string f1) ∧ W.cell? ⟨bf, ofs + 2, none⟩ = some (.string f2)) _ := ⟨Still.below (Still.drew _), c1, c2⟩
      refine wpAnyZ_take (i := 0) (v := ?zv1) _ rfl (by kernel_rfl) (by kernel_rfl) (fun _ _ _ h => h) _ _ _ (by kernel_rfl) (by kernel_rfl) (Or.inl ⟨by rfl, ?zh1⟩) (by assumption) ?zr1
      case zh1 => (intro w hSw; (try dsimp only at hSw); go_simp; try with_reducible rfl)
      try simp only [Act.put, List.setIfInBounds_toArray, List.set_cons_zero, List.set_cons_succ]
      refine wpAnyZ_take (i := 1) (v := ?zv2) _ rfl (by kernel_rfl) (by kernel_rfl) (fun _ _ _ h => h) _ _ _ (by kernel_rfl) (by kernel_rfl) (Or.inl ⟨by rfl, ?zh2⟩) (by assumption) ?zr2
      case zh2 => (intro w hSw; (try dsimp only at hSw); go_simp; try with_reducible rfl)
      try simp only [Act.put, List.setIfInBounds_toArray, List.set_cons_zero, List.set_cons_succ]
      refine wpAnyZ_take (i := 2) (v := ?zv3) _ rfl (by kernel_rfl) (by kernel_rfl) (fun _ _ _ h => h) _ _ _ (by kernel_rfl) (by kernel_rfl) (Or.inl ⟨by rfl, ?zh3⟩) (by assumption) ?zr3
      case zh3 => (intro w hSw; (try dsimp only at hSw); go_simp; try with_reducible rfl)
      try simp only [Act.put, List.setIfInBounds_toArray, List.set_cons_zero, List.set_cons_succ]
      refine wpAnyZ_take (i := 4) (v := ?zv4) _ rfl (by kernel_rfl) (by kernel_rfl) (fun _ _ _ h => h) _ _ _ (by kernel_rfl) (by kernel_rfl) (Or.inl ⟨by rfl, ?zh4⟩) (by assumption) ?zr4
      case zh4 => (intro w hSw; (try dsimp only at hSw); go_simp; try with_reducible rfl)
      try simp only [Act.put, List.setIfInBounds_toArray, List.set_cons_zero, List.set_cons_succ]
      refine wpAnyZ_take (i := 5) (v := ?zv5) _ rfl (by kernel_rfl) (by kernel_rfl) (fun _ _ _ h => h) _ _ _ (by kernel_rfl) (by kernel_rfl) (Or.inl ⟨by rfl, ?zh5⟩) (by assumption) ?zr5
      case zh5 => (intro w hSw; (try dsimp only at hSw); go_simp; try with_reducible rfl)
      try simp only [Act.put, List.setIfInBounds_toArray, List.set_cons_zero, List.set_cons_succ]
      refine wpAnyZ_take (i := 6) (v := ?zv6) _ rfl (by kernel_rfl) (by kernel_rfl) (fun _ _ _ h => h) _ _ _ (by kernel_rfl) (by kernel_rfl) (Or.inl ⟨by rfl, ?zh6⟩) (by assumption) ?zr6
      case zh6 => (intro w hSw; (try dsimp only at hSw); go_simp; try with_reducible rfl)
      try simp only [Act.put, List.setIfInBounds_toArray, List.set_cons_zero, List.set_cons_succ]
      refine wpAnyZ_ready (rs := [3, 9]) (by kernel_rfl) (by simp) ?_
      refine AllReadyZ.cons rfl (by decide) (fun K hK => ?_) (AllReadyZ.cons rfl (by decide) (fun K hK => ?_) AllReadyZ.nil)
      · rw [if_pos (by rfl)]
        simp only [List.getElem_toArray, List.getElem_cons_zero, List.getElem_cons_succ]
        have hPrev := Lib.hid hHeld
        clear hHeld
        go_simp
        refine (HNU1.out _).mono ?_
        rintro e' wa ⟨rfl, hbwa⟩
        go_simp
        refine hK.out _ _ (⟨hPrev.out.1.trans (hbwa.mono hPrev.out.1.size), (hbwa.cell (World.block_lt_of_cell? _ _ hPrev.out.2.1)).trans hPrev.out.2.1, (hbwa.cell (World.block_lt_of_cell? _ _ hPrev.out.2.2)).trans hPrev.out.2.2⟩) (fun hHeld => ?_)
        clear hK K hPrev
        try simp only [Act.put, List.setIfInBounds_toArray, List.set_cons_zero, List.set_cons_succ]
        refine wpAnyZ_ready (rs := [7, 9]) (by kernel_rfl) (by simp) ?_
        refine AllReadyZ.cons rfl (by decide) (fun K hK => ?_) (AllReadyZ.cons rfl (by decide) (fun K hK => ?_) AllReadyZ.nil)
        · rw [if_pos (by rfl)]
          simp only [List.getElem_toArray, List.getElem_cons_zero, List.getElem_cons_succ]
          have hPrev := Lib.hid hHeld
          clear hHeld
          go_simp
          refine (HNU2.out _).mono ?_
          rintro e' wb ⟨rfl, hbwb⟩
          go_simp
          refine hK.out _ _ (⟨hPrev.out.1.trans (hbwb.mono hPrev.out.1.size), (hbwb.cell (World.block_lt_of_cell? _ _ hPrev.out.2.1)).trans hPrev.out.2.1, (hbwb.cell (World.block_lt_of_cell? _ _ hPrev.out.2.2)).trans hPrev.out.2.2⟩) (fun hHeld => ?_)
          clear hK K hPrev
          try simp only [Act.put, List.setIfInBounds_toArray, List.set_cons_zero, List.set_cons_succ]
          refine wpAnyZ_take (i := 8) (v := ?zv7) _ rfl (by kernel_rfl) (by kernel_rfl) (fun _ _ _ h => h) _ _ _ (by kernel_rfl) (by kernel_rfl) (Or.inl ⟨by rfl, ?zh7⟩) (by assumption) ?zr7
          case zh7 => (intro w hSw; (try dsimp only at hSw); go_simp; try with_reducible rfl)
          try simp only [Act.put, List.setIfInBounds_toArray, List.set_cons_zero, List.set_cons_succ]
          refine wpAnyZ_ready (rs := [9]) (by kernel_rfl) (by simp) ?_
          refine AllReadyZ.cons rfl (by decide) (fun K hK => ?_) AllReadyZ.nil
          rw [if_pos (by rfl)]
          simp only [List.getElem_toArray, List.getElem_cons_zero, List.getElem_cons_succ]
          have hPrev := Lib.hid hHeld
          clear hHeld
          go_simp
          have hba : Below wb.heap.size wb (wb.alloc (.cells #[.int .i64 0, .int .i64 0, .slice none 0 0, .slice none 0 0] 24)) := (Below.refl _ _).alloc (Nat.le_refl _) _
          refine hK.out _ _ (⟨hPrev.out.1.trans (hba.mono hPrev.out.1.size), (hba.cell (World.block_lt_of_cell? _ _ hPrev.out.2.1)).trans hPrev.out.2.1, (hba.cell (World.block_lt_of_cell? _ _ hPrev.out.2.2)).trans hPrev.out.2.2⟩) (fun hHeld => ?_)
          clear hK K
          have hXA : Blk (wb.alloc (.cells #[.int .i64 0, .int .i64 0, .slice none 0 0, .slice none 0 0] 24)) wb.heap.size 24 #[.int .i64 0, .int .i64 0, .slice none 0 0, .slice none 0 0] := Blk.new _ _ _
          have hGA : w2.heap.size ≤ wb.heap.size := by have := hPrev.out.1.size; simpa using this
          have HPV := hPrev
          clear hPrev
          try simp only [Act.put, List.setIfInBounds_toArray, List.set_cons_zero, List.set_cons_succ]
          have y0 := hXA.cells 0 _ rfl
          have y1 := hXA.cells 1 _ rfl
          have y2 := hXA.cells 2 _ rfl
          have y3 := hXA.cells 3 _ rfl
          simp only [List.getElem_toArray, List.getElem_cons_zero, List.getElem_cons_succ] at y0 y1 y2 y3
          have yf := hXA.frozen
          have yl := hXA.lt
          have b9 : Below w2.heap.size w2 (wb.alloc (.cells #[.int .i64 (rnumF f1), .int .i64 (rnumF f2), .slice none 0 0, .slice none 0 0] 24)) := HPV.out.1.alloc HPV.out.1.size _
          have s9 : Blk (wb.alloc (.cells #[.int .i64 (rnumF f1), .int .i64 (rnumF f2), .slice none 0 0, .slice none 0 0] 24)) wb.heap.size 24 #[.int .i64 (rnumF f1), .int .i64 (rnumF f2), .slice none 0 0, .slice none 0 0] := Blk.new _ _ _
          have HS9 := Lib.hid (And.intro b9 (And.intro s9 hGA))
          refine wpAnyZ_last (by kernel_rfl) rfl (by kernel_rfl) ?_
          rw [if_pos (by rfl)]
          simp only [List.getElem_toArray, List.getElem_cons_zero, List.getElem_cons_succ]
          clear hHeld s9 b9
          go_simp
          go_wp2_with fail
          go_meet
          exact ⟨_, rfl, HS9⟩
        · rw [if_pos (by rfl)]
          simp only [List.getElem_toArray, List.getElem_cons_zero, List.getElem_cons_succ]
          have hPrev := Lib.hid hHeld
          clear hHeld
          go_simp
          have hba : Below wa.heap.size wa (wa.alloc (.cells #[.int .i64 0, .int .i64 0, .slice none 0 0, .slice none 0 0] 24)) := (Below.refl _ _).alloc (Nat.le_refl _) _
          refine hK.out _ _ (⟨hPrev.out.1.trans (hba.mono hPrev.out.1.size), (hba.cell (World.block_lt_of_cell? _ _ hPrev.out.2.1)).trans hPrev.out.2.1, (hba.cell (World.block_lt_of_cell? _ _ hPrev.out.2.2)).trans hPrev.out.2.2⟩) (fun hHeld => ?_)
          clear hK K
          have hXA : Blk (wa.alloc (.cells #[.int .i64 0, .int .i64 0, .slice none 0 0, .slice none 0 0] 24)) wa.heap.size 24 #[.int .i64 0, .int .i64 0, .slice none 0 0, .slice none 0 0] := Blk.new _ _ _
          have hGA : w2.heap.size ≤ wa.heap.size := by have := hPrev.out.1.size; simpa using this
          have HPV := hPrev
          clear hPrev
          try simp only [Act.put, List.setIfInBounds_toArray, List.set_cons_zero, List.set_cons_succ]
          refine wpAnyZ_ready (rs := [7]) (by kernel_rfl) (by simp) ?_
          refine AllReadyZ.cons rfl (by decide) (fun K hK => ?_) AllReadyZ.nil
          rw [if_pos (by rfl)]
          simp only [List.getElem_toArray, List.getElem_cons_zero, List.getElem_cons_succ]
          have hPrev := Lib.hid hHeld
          clear hHeld
          go_simp
          refine (HNU2.out _).mono ?_
          rintro e' wb ⟨rfl, hbwb⟩
          go_simp
          refine hK.out _ _ (⟨hPrev.out.1.trans (hbwb.mono hPrev.out.1.size), (hbwb.cell (World.block_lt_of_cell? _ _ hPrev.out.2.1)).trans hPrev.out.2.1, (hbwb.cell (World.block_lt_of_cell? _ _ hPrev.out.2.2)).trans hPrev.out.2.2⟩) (fun hHeld => ?_)
          clear hK K hPrev
          try simp only [Act.put, List.setIfInBounds_toArray, List.set_cons_zero, List.set_cons_succ]
          refine wpAnyZ_take (i := 8) (v := ?zv9) _ rfl (by kernel_rfl) (by kernel_rfl) (fun _ _ _ h => h) _ _ _ (by kernel_rfl) (by kernel_rfl) (Or.inl ⟨by rfl, ?zh9⟩) (by assumption) ?zr9
          case zh9 => (intro w hSw; (try dsimp only at hSw); go_simp; try with_reducible rfl)
          try simp only [Act.put, List.setIfInBounds_toArray, List.set_cons_zero, List.set_cons_succ]
          have hXA := hXA.below hbwb hXA.lt
          have y0 := hXA.cells 0 _ rfl
          have y1 := hXA.cells 1 _ rfl
          have y2 := hXA.cells 2 _ rfl
          have y3 := hXA.cells 3 _ rfl
          simp only [List.getElem_toArray, List.getElem_cons_zero, List.getElem_cons_succ] at y0 y1 y2 y3
          have yf := hXA.frozen
          have yl := hXA.lt
          have s9 := (((hXA.set_ 0 (.int .i64 (rnumF f1))).set_ 1 (.int .i64 (rnumF f2))).set_ 2 (.slice none 0 0)).set_ 3 (.slice none 0 0)
          simp only [List.setIfInBounds_toArray, List.set_cons_zero, List.set_cons_succ] at s9
          have b9 := (((hHeld.1.setCell (p := ⟨wa.heap.size, 0, none⟩) hGA (.int .i64 (rnumF f1))).setCell (p := ⟨wa.heap.size, 1, none⟩) hGA (.int .i64 (rnumF f2))).setCell (p := ⟨wa.heap.size, 2, none⟩) hGA (.slice none 0 0)).setCell (p := ⟨wa.heap.size, 3, none⟩) hGA (.slice none 0 0)
          have HS9 := Lib.hid (And.intro b9 (And.intro s9 hGA))
          refine wpAnyZ_last (by kernel_rfl) rfl (by kernel_rfl) ?_
          rw [if_pos (by rfl)]
          simp only [List.getElem_toArray, List.getElem_cons_zero, List.getElem_cons_succ]
          clear hHeld s9 b9
          go_simp
          go_wp2_with fail
          go_meet
          exact ⟨_, rfl, HS9⟩
      · rw [if_pos (by rfl)]
        simp only [List.getElem_toArray, List.getElem_cons_zero, List.getElem_cons_succ]
        have hPrev := Lib.hid hHeld
        clear hHeld
        go_simp
        have hba : Below w2.drew.heap.size w2.drew (w2.drew.alloc (.cells #[.int .i64 0, .int .i64 0, .slice none 0 0, .slice none 0 0] 24)) := (Below.refl _ _).alloc (Nat.le_refl _) _
        refine hK.out _ _ (⟨hPrev.out.1.trans (hba.mono hPrev.out.1.size), (hba.cell (World.block_lt_of_cell? _ _ hPrev.out.2.1)).trans hPrev.out.2.1, (hba.cell (World.block_lt_of_cell? _ _ hPrev.out.2.2)).trans hPrev.out.2.2⟩) (fun hHeld => ?_)
        clear hK K
        have hXA : Blk (w2.drew.alloc (.cells #[.int .i64 0, .int .i64 0, .slice none 0 0, .slice none 0 0] 24)) w2.heap.size 24 #[.int .i64 0, .int .i64 0, .slice none 0 0, .slice none 0 0] := Blk.new _ _ _
        have hGA : w2.heap.size ≤ w2.heap.size := Nat.le_refl _
        have HPV := hPrev
        clear hPrev
        try simp only [Act.put, List.setIfInBounds_toArray, List.set_cons_zero, List.set_cons_succ]
        refine wpAnyZ_ready (rs := [3]) (by kernel_rfl) (by simp) ?_
        refine AllReadyZ.cons rfl (by decide) (fun K hK => ?_) AllReadyZ.nil
        rw [if_pos (by rfl)]
        simp only [List.getElem_toArray, List.getElem_cons_zero, List.getElem_cons_succ]
        have hPrev := Lib.hid hHeld
        clear hHeld
        go_simp
        refine (HNU1.out _).mono ?_
        rintro e' wa ⟨rfl, hbwa⟩
        go_simp
        refine hK.out _ _ (⟨hPrev.out.1.trans (hbwa.mono hPrev.out.1.size), (hbwa.cell (World.block_lt_of_cell? _ _ hPrev.out.2.1)).trans hPrev.out.2.1, (hbwa.cell (World.block_lt_of_cell? _ _ hPrev.out.2.2)).trans hPrev.out.2.2⟩) (fun hHeld => ?_)
        clear hK K hPrev
        try simp only [Act.put, List.setIfInBounds_toArray, List.set_cons_zero, List.set_cons_succ]
        refine wpAnyZ_ready (rs := [7]) (by kernel_rfl) (by simp) ?_
        refine AllReadyZ.cons rfl (by decide) (fun K hK => ?_) AllReadyZ.nil
        rw [if_pos (by rfl)]
        simp only [List.getElem_toArray, List.getElem_cons_zero, List.getElem_cons_succ]
        have hPrev := Lib.hid hHeld
        clear hHeld
        go_simp
        refine (HNU2.out _).mono ?_
        rintro e' wb ⟨rfl, hbwb⟩
        go_simp
        refine hK.out _ _ (⟨hPrev.out.1.trans (hbwb.mono hPrev.out.1.size), (hbwb.cell (World.block_lt_of_cell? _ _ hPrev.out.2.1)).trans hPrev.out.2.1, (hbwb.cell (World.block_lt_of_cell? _ _ hPrev.out.2.2)).trans hPrev.out.2.2⟩) (fun hHeld => ?_)
        clear hK K hPrev
        try simp only [Act.put, List.setIfInBounds_toArray, List.set_cons_zero, List.set_cons_succ]
        refine wpAnyZ_take (i := 8) (v := ?zv10) _ rfl (by kernel_rfl) (by kernel_rfl) (fun _ _ _ h => h) _ _ _ (by kernel_rfl) (by kernel_rfl) (Or.inl ⟨by rfl, ?zh10⟩) (by assumption) ?zr10
        case zh10 => (intro w hSw; (try dsimp only at hSw); go_simp; try with_reducible rfl)
        try simp only [Act.put, List.setIfInBounds_toArray, List.set_cons_zero, List.set_cons_succ]
        have hXA := (hXA.below hbwa hXA.lt).below hbwb (Nat.lt_of_lt_of_le hXA.lt hbwa.size)
        have y0 := hXA.cells 0 _ rfl
        have y1 := hXA.cells 1 _ rfl
        have y2 := hXA.cells 2 _ rfl
        have y3 := hXA.cells 3 _ rfl
        simp only [List.getElem_toArray, List.getElem_cons_zero, List.getElem_cons_succ] at y0 y1 y2 y3
        have yf := hXA.frozen
        have yl := hXA.lt
        have s9 := (((hXA.set_ 0 (.int .i64 (rnumF f1))).set_ 1 (.int .i64 (rnumF f2))).set_ 2 (.slice none 0 0)).set_ 3 (.slice none 0 0)
        simp only [List.setIfInBounds_toArray, List.set_cons_zero, List.set_cons_succ] at s9
        have b9 := (((hHeld.1.setCell (p := ⟨w2.heap.size, 0, none⟩) hGA (.int .i64 (rnumF f1))).setCell (p := ⟨w2.heap.size, 1, none⟩) hGA (.int .i64 (rnumF f2))).setCell (p := ⟨w2.heap.size, 2, none⟩) hGA (.slice none 0 0)).setCell (p := ⟨w2.heap.size, 3, none⟩) hGA (.slice none 0 0)
        have HS9 := Lib.hid (And.intro b9 (And.intro s9 hGA))
        refine wpAnyZ_last (by kernel_rfl) rfl (by kernel_rfl) ?_
        rw [if_pos (by rfl)]
        simp only [List.getElem_toArray, List.getElem_cons_zero, List.getElem_cons_succ]
        clear hHeld s9 b9
        go_simp
        go_wp2_with fail
        go_meet
        exact ⟨_, rfl, HS9⟩
    case rest =>
      obtain ⟨g, rfl, HS⟩ := hcut
      obtain ⟨w3, rfl⟩ : ∃ W : World, W = wc := ⟨wc, rfl⟩
      have hl5 : LS5 w2 g w3.heap.size (rnumF f1) (rnumF f2) [] [] 0 0 none none 0 0 w3 :=
        ⟨HS.out.1, HS.out.2.2, HS.out.2.1.lt, Nat.le_refl _, HS.out.2.1, rfl, rfl, srow_nil _ _, srow_nil _ _, fun x hx => by cases hx⟩
      have HL5 := Lib.hid hl5
      obtain ⟨E1, hE1⟩ : ∃ x, rnumF f1 = x := ⟨_, rfl⟩
      obtain ⟨E2, hE2⟩ : ∃ x, rnumF f2 = x := ⟨_, rfl⟩
      rw [hE1, hE2] at HL5 HFC
      have q1 : IntKind.i64.wrap ((n0 : Int) - 1) = (n0 : Int) - 1 := IntWalk.i64_in _ (by omega)
      clear hl5 HS hE1 hE2 c1 c2 HNU1 HNU2
      go_wp2_with fail
      go_loopw [7] (fun iv wr => ∃ (k c1 c2 : Nat) (A1 A2 : Option Addr) (N P : List ByteArray), k ≤ n0 - 2 ∧ iv = .int .i64 (k + 1 : Nat) ∧ Hid (rowsTo L k = some (N, P)) ∧ Hid ((∀ s ∈ N, s.size ≤ 100000) ∧ ∀ s ∈ P, s.size ≤ 100000) ∧ Hid (LS5 w2 g w3.heap.size E1 E2 N P k k A1 A2 c1 c2 wr)) (fun iv _ => n0 - (intOf iv).toNat)
      case atStart => exact ⟨0, 0, 0, none, none, [], [], by omega, rfl, Lib.hid rfl, Lib.hid ⟨by simp, by simp⟩, HL5⟩
      case round =>
        clear HL5
        obtain ⟨k, c1, c2, A1, A2, N, P, hk, rfl, HRW, HZ, HS⟩ := hrel
        by_cases hlt : k + 2 < n0
        · obtain ⟨x, hx⟩ : ∃ x, L[k + 1]? = some x := ⟨_, List.getElem?_eq_getElem (by have := HN0.out; omega)⟩
          have hxs := HLS.out x (List.mem_of_getElem? hx)
          have cx := HC0.out wr (H12.out.trans (HS.out.1.mono H12.out.size)) (k + 1) x hx
          have hgx : L.getD (k + 1) ⟨#[]⟩ = x := by rw [List.getD_eq_getElem?_getD, hx]; rfl
          have HGX := Lib.hid hgx
          have HCX := Lib.hid (fun W => HCu.out x W (by omega))
          have hwl := rp_len x 32
          have hws := rp_size x 32
          obtain ⟨ws, hwe⟩ : ∃ ws, rpF x 32 = ws := ⟨_, rfl⟩
          rw [hwe] at HCX hwl hws
          have HWE := Lib.hid hwe
          have i0 : (0 : Int) ≤ ((k + 1 : Nat) : Int) := by omega
          have i1 : ((k + 1 : Nat) : Int) < (n0 : Int) := by omega
          have i2 : decide (((k + 1 : Nat) : Int) < (n0 : Int) - 1) = true := by simp; omega
          obtain ⟨i, hi⟩ : ∃ i, k + 1 = i := ⟨_, rfl⟩
          rw [hi] at cx i0 i1 i2 HGX ⊢
          have HI := Lib.hid hi
          clear hx hgx hwe hi
          go_wp2_with fail
          refine (HCX.out _).mono ?_
          rintro e' w4 ⟨A4, m, d4, rfl, hR4, hm4, hb4⟩
          have hm1 : 1 ≤ m := by omega
          have hm3 : m ≤ 3001 := by omega
          obtain ⟨b4, o4, x4, rfl, hx4, hc4⟩ := mrow_at (srow_slr hR4.out hm4) (show 0 < m by omega)
          have Hb4 : Hid (wr.heap.size ≤ b4) := Lib.hid ((orow_lt hR4.out (g := b4) rfl).1)
          obtain ⟨p, hp⟩ : ∃ p, p + 1 = m := ⟨m - 1, by omega⟩
          obtain ⟨y, hy⟩ : ∃ y, ws[p]? = some y := ⟨_, List.getElem?_eq_getElem (by omega)⟩
          have cy := hc4 w4 (Below.refl _ _) p y hy
          have hlast : lastP ws = y := by
            unfold lastP
            rw [List.getD_eq_getElem?_getD, hm4, show m - 1 = p by omega, hy]
            rfl
          have hhead : headP ws = x4 := by
            unfold headP
            rw [List.getD_eq_getElem?_getD, hx4]
            rfl
          have hys := hws y (List.mem_of_getElem? hy)
          have hzs := hws x4 (List.mem_of_getElem? hx4)
          have HS4 := Lib.hid (HS.out.on hb4)
          have HRa := Lib.hid HS.out.2.2.2.2.2.2.2.1
          have HCZ : Hid (∀ W, Below w4.heap.size w4 W → W.cell? ⟨b4, o4, none⟩ = some (.string x4)) := Lib.hid (fun W hW => by simpa using hc4 W hW 0 x4 hx4)
          have HUH := Lib.hid (fun W => runhex_any y W (by omega))
          have HNX : Hid (rowsTo L i = match unhexF y with | none => none | some p => some (N ++ [x4], P ++ [p])) := Lib.hid (by
            rw [← HI.out, rowsTo, HRW.out]
            simp only
            rw [HI.out, HGX.out, HWE.out, hlast, hhead])
          have j0 : (m : Int) - 1 = (p : Int) := by omega
          have j1 : IntKind.i64.wrap (p : Int) = (p : Int) := IntWalk.i64_in _ (by omega)
          have j2 : (0 : Int) ≤ (p : Int) := by omega
          have j3 : (p : Int) < (m : Int) := by omega
          have j4 : (0 : Int) < (m : Int) := by omega
          have j5 : 0 < m := by omega
          clear hR4 hc4 hb4 hy hx4 hlast hhead cx HCX HGX HWE hwl hws hp HS hm4
          go_wp2_with fail
          refine (HUH.out _).mono ?_
          rintro e' w6 ⟨pp, q, rfl, hps, huq, hb6⟩
          have HS6 := Lib.hid (HS4.out.on hb6)
          have qz := HCZ.out w6 hb6
          have HQ := Lib.hid huq
          have HB6 : Hid (Below w.heap.size w w6) := Lib.hid (HB2.out.trans (HS6.out.1.mono HB2.out.size))
          clear hb6 huq cy HS4 HUH
          cases q
          · have HN6 : Hid (rowsTo L i = none) := Lib.hid (by rw [HNX.out, HQ.out]; rfl)
            clear qz
            obtain ⟨hf, hb⟩ := HFB.out i (by have := HI.out; omega) HN6.out
            subst hf hb
            have z9 := (HX2.out.below (B := w2.heap.size) HS6.out.1 HX2.out.lt)
            have d0 := z9.cells 0 _ rfl
            have d1 := z9.cells 1 _ rfl
            have d2 := z9.cells 2 _ rfl
            have d3 := z9.cells 3 _ rfl
            simp only [List.getElem_toArray, List.getElem_cons_zero, List.getElem_cons_succ] at d0 d1 d2 d3
            have df := z9.frozen
            have dl := z9.lt
            have s9 := (((z9.set_ 0 (.int .i64 0)).set_ 1 (.int .i64 0)).set_ 2 (.slice none 0 0)).set_ 3 (.slice none 0 0)
            simp only [List.setIfInBounds_toArray, List.set_cons_zero, List.set_cons_succ] at s9
            have b9 : Below w.heap.size w ((((w6.setCell ⟨w.heap.size, 0, none⟩ (.int .i64 0)).setCell ⟨w.heap.size, 1, none⟩ (.int .i64 0)).setCell ⟨w.heap.size, 2, none⟩ (.slice none 0 0)).setCell ⟨w.heap.size, 3, none⟩ (.slice none 0 0)) := (((HB6.out.setCell (Nat.le_refl _) _).setCell (Nat.le_refl _) _).setCell (Nat.le_refl _) _).setCell (Nat.le_refl _) _
            have H9 := Lib.hid (And.intro s9 b9)
            clear z9 s9 b9
            go_wp2_with (with_reducible refine end_at ?_)
            obtain ⟨s9, b9⟩ := H9.out
            have hld := rec_load s9
            generalize ((((w6.setCell ⟨w.heap.size, 0, none⟩ (.int .i64 0)).setCell ⟨w.heap.size, 1, none⟩ (.int .i64 0)).setCell ⟨w.heap.size, 2, none⟩ (.slice none 0 0)).setCell ⟨w.heap.size, 3, none⟩ (.slice none 0 0)) = W9 at *
            refine end_ret (v := .tuple #[.agg #[.int .i64 0, .int .i64 0, .slice none 0 0, .slice none 0 0], .int .i64 180]) (by simp [results, Tryd.results15, asAddr, hld]) rfl ⟨none, none, 0, 0, 0, rfl, Lib.hid (srow_nil _ _), Lib.hid (srow_nil _ _), rfl, rfl, b9⟩
          · have HN6 : Hid (rowsTo L i = some (N ++ [x4], P ++ [pp])) := Lib.hid (by rw [HNX.out, HQ.out]; rfl)
            have qa := HS6.out.2.2.2.2.1.cells 2 _ rfl
            simp only [List.getElem_toArray, List.getElem_cons_zero, List.getElem_cons_succ] at qa
            clear HNX HQ
            go_wp2_with fail
            refine wp_region_Z 8 (fun (W : World) => W.cell? ⟨g, 2, none⟩ = some (.slice A1 k c1) ∧ W.cell? ⟨b4, o4, none⟩ = some (.string x4)) (by kernel_rfl) ?_
            have hHeld : (fun (W : World) => W.cell? ⟨g, 2, none⟩ = some (.slice A1 k c1) ∧ W.cell? ⟨b4, o4, none⟩ = some (.string x4)) _ := ⟨qa, qz⟩
            refine wpAnyZ_take (i := 0) (v := ?zv11) _ rfl (by kernel_rfl) (by kernel_rfl) (fun _ _ _ h => h) _ _ _ (by kernel_rfl) (by kernel_rfl) (Or.inl ⟨by rfl, ?zh11⟩) (by assumption) ?zr11
            case zh11 => (intro w hSw; (try dsimp only at hSw); go_simp; try with_reducible rfl)
            try simp only [Act.put, List.setIfInBounds_toArray, List.set_cons_zero, List.set_cons_succ]
            refine wpAnyZ_take (i := 1) (v := ?zv12) _ rfl (by kernel_rfl) (by kernel_rfl) (fun _ _ _ h => h) _ _ _ (by kernel_rfl) (by kernel_rfl) (Or.inl ⟨by rfl, ?zh12⟩) (by assumption) ?zr12
            case zh12 => (intro w hSw; (try dsimp only at hSw); go_simp; try with_reducible rfl)
            try simp only [Act.put, List.setIfInBounds_toArray, List.set_cons_zero, List.set_cons_succ]
            refine wpAnyZ_take (i := 2) (v := ?zv13) _ rfl (by kernel_rfl) (by kernel_rfl) (fun _ _ _ h => h) _ _ _ (by kernel_rfl) (by kernel_rfl) (Or.inl ⟨by rfl, ?zh13⟩) (by assumption) ?zr13
            case zh13 => (intro w hSw; (try dsimp only at hSw); go_simp; try with_reducible rfl)
            try simp only [Act.put, List.setIfInBounds_toArray, List.set_cons_zero, List.set_cons_succ]
            refine wpAnyZ_take (i := 3) (v := ?zv14) _ rfl (by kernel_rfl) (by kernel_rfl) (fun _ _ _ h => h) _ _ _ (by kernel_rfl) (by kernel_rfl) (Or.inl ⟨by rfl, ?zh14⟩) (by assumption) ?zr14
            case zh14 => (intro w hSw; (try dsimp only at hSw); go_simp; try with_reducible rfl)
            try simp only [Act.put, List.setIfInBounds_toArray, List.set_cons_zero, List.set_cons_succ]
            refine wpAnyZ_take (i := 4) (v := ?zv15) _ rfl (by kernel_rfl) (by kernel_rfl) (fun _ _ _ h => h) _ _ _ (by kernel_rfl) (by kernel_rfl) (Or.inl ⟨by rfl, ?zh15⟩) (by assumption) ?zr15
            case zh15 => (intro w hSw; (try dsimp only at hSw); go_simp; try with_reducible rfl)
            try simp only [Act.put, List.setIfInBounds_toArray, List.set_cons_zero, List.set_cons_succ]
            refine wpAnyZ_ready (rs := [5]) (by kernel_rfl) (by simp) ?_
            refine AllReadyZ.cons rfl (by decide) (fun K hK => ?_) AllReadyZ.nil
            rw [if_pos (by rfl)]
            simp only [List.getElem_toArray, List.getElem_cons_zero, List.getElem_cons_succ]
            go_simp
            have hba : Below w6.heap.size w6 (w6.drew.alloc (.cells #[.string x4] 9)) := Below.alloc (Below.drew (Below.refl _ _)) (Nat.le_refl _) _
            have hcp : (w6.drew.alloc (.cells #[.string x4] 9)).cell? ⟨w6.heap.size, 0, none⟩ = some (.string x4) := by
              have := (Blk.new w6.drew 9 #[.string x4]).cells 0 _ rfl
              simpa using this
            refine hK.out _ _ ⟨(hba.cell (World.block_lt_of_cell? _ _ qa)).trans qa, (hba.cell (World.block_lt_of_cell? _ _ qz)).trans qz⟩ (fun hHeld => ?_)
            clear hK K
            try simp only [Act.put, List.setIfInBounds_toArray, List.set_cons_zero, List.set_cons_succ]
            refine wpAnyZ_ready (rs := [6]) (by kernel_rfl) (by simp) ?_
            refine AllReadyZ.cons rfl (by decide) (fun K hK => ?_) AllReadyZ.nil
            rw [if_pos (by rfl)]
            simp only [List.getElem_toArray, List.getElem_cons_zero, List.getElem_cons_succ]
            refine wp_append_sv2 (.tmp 58) (.tmp 62) rfl rfl (orow_below HS6.out.2.2.2.2.2.2.2.1 hba (Nat.le_refl _)) HS6.out.2.2.2.2.2.1 w6.heap.size x4 rfl hcp (by omega) (by have := HS6.out.2.2.2.1; simp; omega) ?_
            intro A7 c7 w7 HR7 hg7 hne7
            have hl7 := HS6.out.names hba (by simp) x4 HR7.out hg7 hne7
            have hpk := HS6.out.held hba (by simp) hg7 (.inl rfl)
            refine hK.out _ _ ⟨?_, ?_⟩ (fun hHeld => ?_)
            · have := hpk.1.cells 2 _ rfl; simpa using this
            · exact hg7.cell ((hba.cell (World.block_lt_of_cell? _ _ qz)).trans qz) (fun e => by have h1 : b4 < wr.heap.size := (orow_lt HRa.out e.symm).2; have := Hb4.out; omega)
            clear hK K
            try simp only [Act.put, List.setIfInBounds_toArray, List.set_cons_zero, List.set_cons_succ]
            refine wpAnyZ_take (i := 7) (v := ?zv16) _ rfl (by kernel_rfl) (by kernel_rfl) (fun _ _ _ h => h) _ _ _ (by kernel_rfl) (by kernel_rfl) (Or.inl ⟨by rfl, ?zh16⟩) (by assumption) ?zr16
            case zh16 => (intro w hSw; (try dsimp only at hSw); go_simp; try with_reducible rfl)
            try simp only [Act.put, List.setIfInBounds_toArray, List.set_cons_zero, List.set_cons_succ]
            have qs := hpk.1.cells 2 _ rfl
            have fs := hpk.1.frozen
            have ls := hpk.1.lt
            simp only [List.getElem_toArray, List.getElem_cons_zero, List.getElem_cons_succ] at qs
            have HL7 := Lib.hid hl7
            refine wpAnyZ_last (by kernel_rfl) rfl (by kernel_rfl) ?_
            rw [if_pos (by rfl)]
            simp only [List.getElem_toArray, List.getElem_cons_zero, List.getElem_cons_succ]
            clear hHeld hpk hl7 HR7 hg7 hne7 hcp hba
            go_simp
            generalize w7.setCell ⟨g, 2, none⟩ (.slice A7 (k + 1) c7) = w8 at *
            have qb := HL7.out.2.2.2.2.1.cells 3 _ rfl
            have qf := HL7.out.2.2.2.2.1.frozen
            have ql := HL7.out.2.2.2.2.1.lt
            simp only [List.getElem_toArray, List.getElem_cons_zero, List.getElem_cons_succ] at qb
            clear qa qz qs fs ls
            have hbb : Below w8.heap.size w8 (w8.alloc (.cells #[.string pp] 9)) := (Below.refl _ _).alloc (Nat.le_refl _) _
            have hcp : (w8.alloc (.cells #[.string pp] 9)).cell? ⟨w8.heap.size, 0, none⟩ = some (.string pp) := by
              have := (Blk.new w8 9 #[.string pp]).cells 0 _ rfl
              simp at this
              simp [this]
            have HBB := Lib.hid hbb
            have HCPP := Lib.hid hcp
            clear hbb hcp
            go_wp2_with (at_builtin; refine wpList_append_sv rfl (.tmp 66) (.tmp 68) rfl rfl (orow_below HL7.out.2.2.2.2.2.2.2.2.1 HBB.out (Nat.le_refl _)) HL7.out.2.2.2.2.2.2.1 w8.heap.size pp rfl HCPP.out (by omega) (by have := HL7.out.2.2.2.1; simp; omega) ?_; intro A9 c9 w9 HR9 hg9 hne9; have HL9 := Lib.hid (HL7.out.pledges HBB.out (by simp) pp HR9.out hg9 hne9); have hpk := HL7.out.held HBB.out (by simp) hg9 (.inr rfl); have r0 := hpk.1.cells 3 _ rfl; have rf := hpk.1.frozen; have rl := hpk.1.lt; simp only [List.getElem_toArray, List.getElem_cons_zero, List.getElem_cons_succ] at r0; clear hpk HR9 hg9 hne9)
            generalize w9.setCell ⟨g, 3, none⟩ (.slice A9 (k + 1) c9) = w10 at *
            have HZ2 : Hid ((∀ s ∈ N ++ [x4], s.size ≤ 100000) ∧ ∀ s ∈ P ++ [pp], s.size ≤ 100000) := Lib.hid ⟨fun s hs => by
              rcases List.mem_append.1 hs with h | h
              · exact HZ.out.1 s h
              · rw [List.mem_singleton.1 h]; omega, fun s hs => by
              rcases List.mem_append.1 hs with h | h
              · exact HZ.out.2 s h
              · rw [List.mem_singleton.1 h]; omega⟩
            have hik : i = k + 1 := HI.out.symm
            rw [hik] at HN6
            subst hik
            clear qb qf ql r0 rf rl HL7
            go_wp2_with fail
            go_roundw
            case rel => exact ⟨k + 1, c7, c9, A7, A9, _, _, by omega, by go_num, HN6, HZ2, HL9⟩
            case measure => simp [intOf]; omega
        · have i2 : decide (((k + 1 : Nat) : Int) < (n0 : Int) - 1) = false := by simp; omega
          have hkn : k = n0 - 2 := by omega
          have HFK : Hid ((printF ⟨E1, E2, N, P⟩ = (s, 0) → f = 0 ∧ b = ⟨E1, E2, N, P⟩) ∧ (¬ printF ⟨E1, E2, N, P⟩ = (s, 0) → f = 180 ∧ b = noRec)) := Lib.hid (HFC.out N P (by rw [← hkn]; exact HRW.out))
          have hl5 := HS.out
          have HPR := Lib.hid (fun W (hW : Below wr.heap.size wr W) => rprint_any ⟨E1, E2, N, P⟩ A1 A2 k c1 k c2 W ((((srow_slr hl5.2.2.2.2.2.2.2.1 hl5.2.2.2.2.2.1)).below hW).more hW.size) ((((srow_slr hl5.2.2.2.2.2.2.2.2.1 hl5.2.2.2.2.2.2.1)).below hW).more hW.size) (fun s hs => by have := HZ.out.1 s hs; omega) (fun s hs => by have := HZ.out.2 s hs; omega))
          unfold recV at HPR
          dsimp only at HPR
          have HBr : Hid (Below w.heap.size w wr) := Lib.hid (HB2.out.trans (hl5.1.mono HB2.out.size))
          have q0 := hl5.2.2.2.2.1.cells 0 _ rfl
          have q2 := hl5.2.2.2.2.1.cells 1 _ rfl
          have q3 := hl5.2.2.2.2.1.cells 2 _ rfl
          have q4 := hl5.2.2.2.2.1.cells 3 _ rfl
          simp only [List.getElem_toArray, List.getElem_cons_zero, List.getElem_cons_succ] at q0 q2 q3 q4
          obtain ⟨⟨t, e⟩, hte⟩ : ∃ V, printF ⟨E1, E2, N, P⟩ = V := ⟨_, rfl⟩
          rw [hte] at HPR HFK
          have ki : ((k + 1 : Nat) : Int) = ((k + 1 : Nat) : Int) := rfl
          clear hl5 hte hkn ki
          obtain ⟨i, hi⟩ : ∃ i, k + 1 = i := ⟨_, rfl⟩
          rw [hi] at i2 ⊢
          clear hi
          go_wp2_with fail
          refine (HPR.out _ (Below.refl _ _)).mono ?_
          rintro e' w6 ⟨rfl, hb6⟩
          have HS6 := Lib.hid (HS.out.on hb6)
          have HB6 := Lib.hid (HBr.out.trans (hb6.mono HBr.out.size))
          clear hb6 q0 q2 q3 q4 HPR
          by_cases hok : e = 0 ∧ (t.toList == s.toList) = true
          · obtain ⟨rfl, hts⟩ := hok
            have hts2 : t = s := bytes_ext (eq_of_beq hts)
            obtain ⟨hf, hb⟩ := HFK.out.1 (by rw [hts2])
            subst hf hb hts2
            have x6 := HS6.out.2.2.2.2.1
            have p0 := x6.cells 0 _ rfl
            have p1 := x6.cells 1 _ rfl
            have p2 := x6.cells 2 _ rfl
            have p3 := x6.cells 3 _ rfl
            have z9 := HX2.out.below (B := w2.heap.size) HS6.out.1 HX2.out.lt
            have d0 := z9.cells 0 _ rfl
            have d1 := z9.cells 1 _ rfl
            have d2 := z9.cells 2 _ rfl
            have d3 := z9.cells 3 _ rfl
            simp only [List.getElem_toArray, List.getElem_cons_zero, List.getElem_cons_succ] at p0 p1 p2 p3 d0 d1 d2 d3
            have df := z9.frozen
            have dl := z9.lt
            have s9 := (((z9.set_ 0 (.int .i64 E1)).set_ 1 (.int .i64 E2)).set_ 2 (.slice A1 k c1)).set_ 3 (.slice A2 k c2)
            simp only [List.setIfInBounds_toArray, List.set_cons_zero, List.set_cons_succ] at s9
            have b9 : Below w.heap.size w ((((w6.setCell ⟨w.heap.size, 0, none⟩ (.int .i64 E1)).setCell ⟨w.heap.size, 1, none⟩ (.int .i64 E2)).setCell ⟨w.heap.size, 2, none⟩ (.slice A1 k c1)).setCell ⟨w.heap.size, 3, none⟩ (.slice A2 k c2)) := (((HB6.out.setCell (Nat.le_refl _) _).setCell (Nat.le_refl _) _).setCell (Nat.le_refl _) _).setCell (Nat.le_refl _) _
            have n6 := HS6.out.2.2.2.2.2.2.2.1
            have m6 := HS6.out.2.2.2.2.2.2.2.2.1
            have n9 := orow_far (orow_far (orow_far (orow_far n6 z9 (by decide) 0 (.int .i64 E1)) (z9.set_ 0 _) (by decide) 1 (.int .i64 E2)) ((z9.set_ 0 _).set_ 1 _) (by decide) 2 (.slice A1 k c1)) (((z9.set_ 0 _).set_ 1 _).set_ 2 _) (by decide) 3 (.slice A2 k c2)
            have m9 := orow_far (orow_far (orow_far (orow_far m6 z9 (by decide) 0 (.int .i64 E1)) (z9.set_ 0 _) (by decide) 1 (.int .i64 E2)) ((z9.set_ 0 _).set_ 1 _) (by decide) 2 (.slice A1 k c1)) (((z9.set_ 0 _).set_ 1 _).set_ 2 _) (by decide) 3 (.slice A2 k c2)
            have HBZ : Hid (w.heap.size ≤ w3.heap.size) := Lib.hid (by have h1 := HB2.out.size; have h2 := HS6.out.2.1; have h3 := HS6.out.2.2.1; omega)
            have H9 := Lib.hid (And.intro s9 (And.intro n9 (And.intro m9 b9)))
            have HNL := Lib.hid (And.intro HS6.out.2.2.2.2.2.1 HS6.out.2.2.2.2.2.2.1)
            clear z9 s9 b9 n9 m9 n6 m6 x6
            go_wp2_with (with_reducible refine end_at ?_)
            obtain ⟨s9, n9, m9, b9⟩ := H9.out
            have hld := rec_load s9
            generalize ((((w6.setCell ⟨w.heap.size, 0, none⟩ (.int .i64 E1)).setCell ⟨w.heap.size, 1, none⟩ (.int .i64 E2)).setCell ⟨w.heap.size, 2, none⟩ (.slice A1 k c1)).setCell ⟨w.heap.size, 3, none⟩ (.slice A2 k c2)) = W9 at *
            refine end_ret (v := .tuple #[.agg #[.int .i64 E1, .int .i64 E2, .slice A1 k c1, .slice A2 k c2], .int .i64 0]) (by simp [results, Tryd.results15, asAddr, hld]) rfl ⟨A1, A2, k, c1, c2, rfl, Lib.hid (orow_base n9 HBZ.out), Lib.hid (orow_base m9 HBZ.out), HNL.out.1, HNL.out.2, b9⟩
          · have hway : e ≠ 0 ∨ (e = 0 ∧ (t.toList == s.toList) = false) := by
              by_cases he : e = 0
              · refine .inr ⟨he, ?_⟩
                cases hh : (t.toList == s.toList) with
                | false => rfl
                | true => exact absurd ⟨he, hh⟩ hok
              · exact .inl he
            have HFK2 : Hid (f = 180 ∧ b = noRec) := Lib.hid (HFK.out.2 (fun h => hok (by
              obtain ⟨h1, h2⟩ := Prod.mk.inj h
              exact ⟨h2, by rw [h1]; simp⟩)))
            clear hok HFK
            rcases hway with he | ⟨rfl, hts⟩
            · obtain ⟨hf, hb⟩ := HFK2.out
              subst hf hb
              have z9 := (HX2.out.below (B := w2.heap.size) HS6.out.1 HX2.out.lt)
              have d0 := z9.cells 0 _ rfl
              have d1 := z9.cells 1 _ rfl
              have d2 := z9.cells 2 _ rfl
              have d3 := z9.cells 3 _ rfl
              simp only [List.getElem_toArray, List.getElem_cons_zero, List.getElem_cons_succ] at d0 d1 d2 d3
              have df := z9.frozen
              have dl := z9.lt
              have s9 := (((z9.set_ 0 (.int .i64 0)).set_ 1 (.int .i64 0)).set_ 2 (.slice none 0 0)).set_ 3 (.slice none 0 0)
              simp only [List.setIfInBounds_toArray, List.set_cons_zero, List.set_cons_succ] at s9
              have b9 : Below w.heap.size w ((((w6.setCell ⟨w.heap.size, 0, none⟩ (.int .i64 0)).setCell ⟨w.heap.size, 1, none⟩ (.int .i64 0)).setCell ⟨w.heap.size, 2, none⟩ (.slice none 0 0)).setCell ⟨w.heap.size, 3, none⟩ (.slice none 0 0)) := (((HB6.out.setCell (Nat.le_refl _) _).setCell (Nat.le_refl _) _).setCell (Nat.le_refl _) _).setCell (Nat.le_refl _) _
              have H9 := Lib.hid (And.intro s9 b9)
              clear z9 s9 b9
              go_wp2_with (with_reducible refine end_at ?_)
              obtain ⟨s9, b9⟩ := H9.out
              have hld := rec_load s9
              generalize ((((w6.setCell ⟨w.heap.size, 0, none⟩ (.int .i64 0)).setCell ⟨w.heap.size, 1, none⟩ (.int .i64 0)).setCell ⟨w.heap.size, 2, none⟩ (.slice none 0 0)).setCell ⟨w.heap.size, 3, none⟩ (.slice none 0 0)) = W9 at *
              refine end_ret (v := .tuple #[.agg #[.int .i64 0, .int .i64 0, .slice none 0 0, .slice none 0 0], .int .i64 180]) (by simp [results, Tryd.results15, asAddr, hld]) rfl ⟨none, none, 0, 0, 0, rfl, Lib.hid (srow_nil _ _), Lib.hid (srow_nil _ _), rfl, rfl, b9⟩
            · obtain ⟨hf, hb⟩ := HFK2.out
              subst hf hb
              have z9 := (HX2.out.below (B := w2.heap.size) HS6.out.1 HX2.out.lt)
              have d0 := z9.cells 0 _ rfl
              have d1 := z9.cells 1 _ rfl
              have d2 := z9.cells 2 _ rfl
              have d3 := z9.cells 3 _ rfl
              simp only [List.getElem_toArray, List.getElem_cons_zero, List.getElem_cons_succ] at d0 d1 d2 d3
              have df := z9.frozen
              have dl := z9.lt
              have s9 := (((z9.set_ 0 (.int .i64 0)).set_ 1 (.int .i64 0)).set_ 2 (.slice none 0 0)).set_ 3 (.slice none 0 0)
              simp only [List.setIfInBounds_toArray, List.set_cons_zero, List.set_cons_succ] at s9
              have b9 : Below w.heap.size w ((((w6.setCell ⟨w.heap.size, 0, none⟩ (.int .i64 0)).setCell ⟨w.heap.size, 1, none⟩ (.int .i64 0)).setCell ⟨w.heap.size, 2, none⟩ (.slice none 0 0)).setCell ⟨w.heap.size, 3, none⟩ (.slice none 0 0)) := (((HB6.out.setCell (Nat.le_refl _) _).setCell (Nat.le_refl _) _).setCell (Nat.le_refl _) _).setCell (Nat.le_refl _) _
              have H9 := Lib.hid (And.intro s9 b9)
              clear z9 s9 b9
              go_wp2_with (with_reducible refine end_at ?_)
              obtain ⟨s9, b9⟩ := H9.out
              have hld := rec_load s9
              generalize ((((w6.setCell ⟨w.heap.size, 0, none⟩ (.int .i64 0)).setCell ⟨w.heap.size, 1, none⟩ (.int .i64 0)).setCell ⟨w.heap.size, 2, none⟩ (.slice none 0 0)).setCell ⟨w.heap.size, 3, none⟩ (.slice none 0 0)) = W9 at *
              refine end_ret (v := .tuple #[.agg #[.int .i64 0, .int .i64 0, .slice none 0 0, .slice none 0 0], .int .i64 180]) (by simp [results, Tryd.results15, asAddr, hld]) rfl ⟨none, none, 0, 0, 0, rfl, Lib.hid (srow_nil _ _), Lib.hid (srow_nil _ _), rfl, rfl, b9⟩
  · have HFA2 := Lib.hid (HFA.out (by omega))
    have u1 : ((n5 : Int) != 3) = true := by simp; omega
    clear HFA hR5 hn5
    obtain ⟨hf, hb⟩ := HFA2.out
    subst hf hb
    have z9 := HX2.out
    have d0 := z9.cells 0 _ rfl
    have d1 := z9.cells 1 _ rfl
    have d2 := z9.cells 2 _ rfl
    have d3 := z9.cells 3 _ rfl
    simp only [List.getElem_toArray, List.getElem_cons_zero, List.getElem_cons_succ] at d0 d1 d2 d3
    have df := z9.frozen
    have dl := z9.lt
    have s9 := (((z9.set_ 0 (.int .i64 0)).set_ 1 (.int .i64 0)).set_ 2 (.slice none 0 0)).set_ 3 (.slice none 0 0)
    simp only [List.setIfInBounds_toArray, List.set_cons_zero, List.set_cons_succ] at s9
    have b9 : Below w.heap.size w ((((w2.setCell ⟨w.heap.size, 0, none⟩ (.int .i64 0)).setCell ⟨w.heap.size, 1, none⟩ (.int .i64 0)).setCell ⟨w.heap.size, 2, none⟩ (.slice none 0 0)).setCell ⟨w.heap.size, 3, none⟩ (.slice none 0 0)) := (((HB2.out.setCell (Nat.le_refl _) _).setCell (Nat.le_refl _) _).setCell (Nat.le_refl _) _).setCell (Nat.le_refl _) _
    have H9 := Lib.hid (And.intro s9 b9)
    clear z9 s9 b9
    go_wp2_with (with_reducible refine end_at ?_)
    obtain ⟨s9, b9⟩ := H9.out
    have hld := rec_load s9
    generalize ((((w2.setCell ⟨w.heap.size, 0, none⟩ (.int .i64 0)).setCell ⟨w.heap.size, 1, none⟩ (.int .i64 0)).setCell ⟨w.heap.size, 2, none⟩ (.slice none 0 0)).setCell ⟨w.heap.size, 3, none⟩ (.slice none 0 0)) = W9 at *
    refine end_ret (v := .tuple #[.agg #[.int .i64 0, .int .i64 0, .slice none 0 0, .slice none 0 0], .int .i64 180]) (by simp [results, Tryd.results15, asAddr, hld]) rfl ⟨none, none, 0, 0, 0, rfl, Lib.hid (srow_nil _ _), Lib.hid (srow_nil _ _), rfl, rfl, b9⟩
end Go.Proofs.YtbgohcedakpnbaaDoor
