/- session: what is sent and received, frame by frame. -/
import Derived.Test.YtbgohcedakpnbaaDoorSesG
set_option linter.unusedVariables false
namespace Go.Proofs.YtbgohcedakpnbaaDoor
open Go.RowKit
/-- the frame of a side, a number and a text -/
def frm (K : ByteArray) (side n : Nat) (t : ByteArray) : ByteArray := be8 n ++ (sealF K (sesN side n) frameB t).1
theorem frm_ok {K : ByteArray} {side n : Nat} {t : ByteArray} (hK : K.size = 32) (h1 : 1 ≤ n) (h2 : n ≤ 1000000000) (ht : t.size ≤ 4000) :
    ∃ X, sealF K (sesN side n) frameB t = (X, 0) ∧ frm K side n t = be8 n ++ X ∧ FrameIs (frm K side n t) X n ∧ (frm K side n t).size = 24 + t.size ∧ X.size ≤ 4016 := by
  obtain ⟨X, e1, e2⟩ := seal_is K (sesN side n) t hK (sesN_size _ _) ht
  have e3 : frm K side n t = be8 n ++ X := by unfold frm; rw [e1]
  refine ⟨X, e1, e3, ?_, ?_, by omega⟩
  · rw [e3]; exact frame_is n X h1 h2 (by omega)
  · rw [e3, be8_app]; omega
theorem send_frm (K t : ByteArray) (side sent seen n : Nat) (w : World) (hG : Turns w) (hK : K.size = 32) (hs : side ≤ 1) (h1 : sent < 1000000000) (h2 : seen ≤ 1000000000) (ht : t.size ≤ 4000) (hn : sent + 1 = n) :
    Calls Tryd.prog 26 #[.agg #[.string K, .int .i64 side, .int .i64 sent, .int .i64 seen], .string t] w fun e w' => e = .returned (.tuple #[.string (frm K side n t), .agg #[.string K, .int .i64 side, .int .i64 n, .int .i64 seen], .int .i64 0]) ∧ Below w.heap.size w w' := by
  subst hn
  obtain ⟨X, e1, e3, _, _, hX⟩ := frm_ok (K := K) (side := side) (n := sent + 1) (t := t) hK (by omega) (by omega) ht
  rw [e3]
  exact send_any K t X side sent seen w hG hK hs h1 h2 ht e1 hX
theorem recv_frm (K t : ByteArray) (side oth sent seen n : Nat) (w : World) (hG : Turns w) (hK : K.size = 32) (hs : side + oth = 1) (h1 : sent ≤ 1000000000) (h2 : seen ≤ 1000000000) (ht : t.size ≤ 4000) (hn2 : n ≤ 1000000000) (hgt : seen < n) :
    Calls Tryd.prog 27 #[.agg #[.string K, .int .i64 side, .int .i64 sent, .int .i64 seen], .string (frm K oth n t)] w fun e w' => e = .returned (.tuple #[.string t, .agg #[.string K, .int .i64 side, .int .i64 sent, .int .i64 n], .int .i64 0]) ∧ Below w.heap.size w w' := by
  obtain ⟨X, e1, e3, hF, _, hX⟩ := frm_ok (K := K) (side := oth) (n := n) (t := t) hK (by omega) (by omega) ht
  exact recv_any K (frm K oth n t) X t 0 side oth sent seen n w hG hK hs h1 h2 hF hgt (seal_open e1)
theorem recv_old (K t : ByteArray) (side oth sent seen n : Nat) (w : World) (hK : K.size = 32) (hs : side ≤ 1) (h1 : sent ≤ 1000000000) (h2 : seen ≤ 1000000000) (ht : t.size ≤ 4000) (hn1 : 1 ≤ n) (hle : n ≤ seen) :
    Calls Tryd.prog 27 #[.agg #[.string K, .int .i64 side, .int .i64 sent, .int .i64 seen], .string (frm K oth n t)] w fun e w' => e = .returned (.tuple #[.string ⟨#[]⟩, .agg #[.string ⟨#[]⟩, .int .i64 0, .int .i64 0, .int .i64 0], .int .i64 200]) ∧ Below w.heap.size w w' := by
  obtain ⟨X, e1, e3, hF, _, hX⟩ := frm_ok (K := K) (side := oth) (n := n) (t := t) hK hn1 (by omega) ht
  exact recv_replay K (frm K oth n t) X side sent seen n w hK hs h1 h2 hF hle
theorem num_frm (K t : ByteArray) (side n : Nat) (w : World) (hK : K.size = 32) (ht : t.size ≤ 4000) (h1 : 1 ≤ n) (h2 : n ≤ 1000000000) :
    Calls Tryd.prog 28 #[.string (frm K side n t)] w fun e w' => e = .returned (.tuple #[.int .i64 n, .bool true]) ∧ w = w' := by
  obtain ⟨X, e1, e3, hF, _, hX⟩ := frm_ok (K := K) (side := side) (n := n) (t := t) hK h1 h2 ht
  have h := number_any (frm K side n t) w (by have := hF.2.2.2.1; omega)
  rw [hF.1] at h
  exact h
theorem frm_size {K t : ByteArray} {side n : Nat} (hK : K.size = 32) (h1 : 1 ≤ n) (h2 : n ≤ 1000000000) (ht : t.size ≤ 4000) : (frm K side n t).size = 24 + t.size := by
  obtain ⟨X, e1, e3, hF, h, hX⟩ := frm_ok (K := K) (side := side) (n := n) (t := t) hK h1 h2 ht
  exact h
/-- a session's box -/
def SB (W : World) (g : Nat) (K : ByteArray) (side sent seen : Nat) : Prop := Blk W g 41 #[.string K, .int .i64 side, .int .i64 sent, .int .i64 seen]
theorem SB.cells {W : World} {g : Nat} {K : ByteArray} {side sent seen : Nat} (h : SB W g K side sent seen) : W.cell? ⟨g, 0, none⟩ = some (.string K) ∧ W.cell? ⟨g, 1, none⟩ = some (.int .i64 side) ∧ W.cell? ⟨g, 2, none⟩ = some (.int .i64 sent) ∧ W.cell? ⟨g, 3, none⟩ = some (.int .i64 seen) :=
  ⟨Blk.cells h 0 _ rfl, Blk.cells h 1 _ rfl, Blk.cells h 2 _ rfl, Blk.cells h 3 _ rfl⟩
theorem SB.below {B : Nat} {W W' : World} {g : Nat} {K : ByteArray} {side sent seen : Nat} (h : SB W g K side sent seen) (hb : Below B W W') (hg : g < B) : SB W' g K side sent seen := Blk.below h hb hg
theorem SB.on {W W' : World} {g : Nat} {K : ByteArray} {side sent seen : Nat} (h : SB W g K side sent seen) (hb : Below W.heap.size W W') : SB W' g K side sent seen := Blk.below h hb (Blk.lt h)
theorem SB.new {W : World} {g : Nat} (hg : W.heap.size = g) (K : ByteArray) (side sent seen : Nat) : SB (W.alloc (.cells #[.string K, .int .i64 side, .int .i64 sent, .int .i64 seen] 41)) g K side sent seen := Blk.new_at hg _ _
/-- what a row tells at a place, now and later -/
theorem row_at {L : List ByteArray} {A : Option Addr} {n i : Nat} {w : World} (h : SlR encS 1 w w.heap.size A n L) (hi : i < n) : ∃ b off x, A = some ⟨b, off, none⟩ ∧ L[i]? = some x ∧ ∀ W, Below w.heap.size w W → W.cell? ⟨b, off + i, none⟩ = some (.string x) := by
  obtain ⟨hl, h⟩ := h
  obtain ⟨b, off, hA, hb, hC⟩ := h.resolve_left (by omega)
  refine ⟨b, off, _, hA, List.getElem?_eq_getElem (by omega), fun W hW => ?_⟩
  rw [hW.cell hb]
  exact hC.str (List.getElem?_eq_getElem (by omega))
/-- what was made of a session: a new box -/
def SDone (w wx : World) (g : Nat) (K : ByteArray) (side sent seen : Nat) : Prop := SB wx g K side sent seen ∧ w.heap.size ≤ g ∧ Below w.heap.size w wx
theorem sdone_after {w w5 : World} (K : ByteArray) (side sent seen : Nat) (hb : Below w.drew.heap.size w.drew w5) : SDone w (w5.alloc (.cells #[.string K, .int .i64 side, .int .i64 sent, .int .i64 seen] 41)) w5.heap.size K side sent seen := by
  have h : Below w.heap.size w w5 := ⟨hb.os, hb.tape, hb.output, hb.size, hb.block⟩
  exact ⟨SB.new rfl K side sent seen, h.size, h.alloc h.size _⟩
theorem sdone_before {w w5 : World} (K : ByteArray) (side sent seen : Nat) (hb : Below (w.heap.size + 1) (w.alloc (.cells #[.string ⟨#[]⟩, .int .i64 0, .int .i64 0, .int .i64 0] 41)) w5) :
    SDone w ((((w5.setCell ⟨w.heap.size, 0, none⟩ (.string K)).setCell ⟨w.heap.size, 1, none⟩ (.int .i64 side)).setCell ⟨w.heap.size, 2, none⟩ (.int .i64 sent)).setCell ⟨w.heap.size, 3, none⟩ (.int .i64 seen)) w.heap.size K side sent seen :=
  ⟨ses_set ((Blk.new w _ _).below hb (by omega)) _ _ _ _, Nat.le_refl _, ses_below (Below.trans (by go_grown) (hb.mono (by omega))) (Nat.le_refl _) _ _ _ _⟩
theorem below_alloc_drew {wr w5 : World} {o : Obj} (h : Below (wr.alloc o).drew.heap.size (wr.alloc o).drew w5) : Below (wr.heap.size + 1) (wr.alloc o) w5 := by
  have e : (wr.alloc o).drew.heap.size = wr.heap.size + 1 := World.size_alloc wr o
  rw [e] at h
  exact ⟨h.os, h.tape, h.output, h.size, h.block⟩
theorem HTab.low {B : Nat} {w W : World} (h : HTab w) (hb : Below B w W) (h1 : 5 < B) (h2 : 0 < B) : HTab W := Lib.hid ⟨h.out.1.below hb h1, h.out.2.below hb h2⟩
def encBo (b : Bool) : List Value := [.bool b]
theorem bool_at {L : List Bool} {A : Option Addr} {n i : Nat} {w : World} (h : SlR encBo 1 w w.heap.size A n L) (hi : i < n) : ∃ b off x, A = some ⟨b, off, none⟩ ∧ L[i]? = some x ∧ ∀ W, Below w.heap.size w W → W.cell? ⟨b, off + i, none⟩ = some (.bool x) := by
  obtain ⟨hl, h⟩ := h
  obtain ⟨b, off, hA, hb, hC⟩ := h.resolve_left (by omega)
  refine ⟨b, off, _, hA, List.getElem?_eq_getElem (by omega), fun W hW => ?_⟩
  rw [hW.cell hb]
  have := hC i _ (List.getElem?_eq_getElem (by omega)) 0 _ rfl
  simpa using this
theorem int_at {L : List Int} {A : Option Addr} {n i : Nat} {w : World} (h : SlR encI 1 w w.heap.size A n L) (hi : i < n) : ∃ b off x, A = some ⟨b, off, none⟩ ∧ L[i]? = some x ∧ ∀ W, Below w.heap.size w W → W.cell? ⟨b, off + i, none⟩ = some (.int .i64 x) := by
  obtain ⟨hl, h⟩ := h
  obtain ⟨b, off, hA, hb, hC⟩ := h.resolve_left (by omega)
  refine ⟨b, off, _, hA, List.getElem?_eq_getElem (by omega), fun W hW => ?_⟩
  rw [hW.cell hb]
  exact hC.int (List.getElem?_eq_getElem (by omega))
/-- the frames of the first texts -/
def frmL (K : ByteArray) (L : List ByteArray) (i : Nat) : List ByteArray := (L.take i).mapIdx fun j t => frm K 0 (j + 1) t
theorem frmL_len (K : ByteArray) {L : List ByteArray} {i : Nat} (h : i ≤ L.length) : (frmL K L i).length = i := by simp [frmL]; omega
theorem frmL_zero (K : ByteArray) (L : List ByteArray) : frmL K L 0 = [] := by simp [frmL]
theorem frmL_snoc (K : ByteArray) {L : List ByteArray} {i : Nat} {x : ByteArray} (h : L[i]? = some x) : frmL K L i ++ [frm K 0 (i + 1) x] = frmL K L (i + 1) := by
  have hi := (List.getElem?_eq_some_iff.1 h).1
  have e : (L.take i).length = i := by rw [List.length_take]; omega
  unfold frmL
  rw [List.take_add_one, h, Option.toList_some, List.mapIdx_append]
  simp [e]
theorem frmL_get (K : ByteArray) {L : List ByteArray} {i k : Nat} {x : ByteArray} (hk : k < i) (h : L[k]? = some x) : (frmL K L i)[k]? = some (frm K 0 (k + 1) x) := by
  unfold frmL
  rw [List.getElem?_mapIdx, List.getElem?_take, if_pos hk, h]
  rfl
end Go.Proofs.YtbgohcedakpnbaaDoor
