/- Channels in one goroutine, inside the kit's walks: a send with room, a select of one receive with a default. -/
import Derived.Conc.LoneSelect
set_option linter.unusedVariables false
namespace Go.Proofs.Ytojabnaabgbclaa
open Go.RowKit Go.Conc
section
variable {P : Program} {ops : Array Oper} {Q : Exit → Act → World → Prop} {a : Act} {w w' : World} {i : Nat} {rest l : List Nat} {o : Oper} {v : Value} {cases : Array CommCase} {blocking : Bool} {shape : CommShape}
/-- from the operations l of a region on a run comes to Q -/
def OpsTo (P : Program) (ops : Array Oper) (Q : Exit → Act → World → Prop) (l : List Nat) (a : Act) (w : World) : Prop :=
  ∀ (b : Frame) (k : List Item) (cs : List Frame), ∃ e a' w', Q e a' w' ∧ Arrives P (lone (b.at a (.inRegion ops l :: k)) cs w) b k cs e a' w'
theorem OpsTo.of_wp (h : wpOps P ops Q l a w) : OpsTo P ops Q l a w := wp_ops l a w h
theorem OpsTo.region {id : Nat} (h : OpsTo P ops Q (List.range ops.size) a w) : (Code.region id ops false).wp P Q a w :=
  fun b k cs => let ⟨e, a', w', q, r⟩ := h b k cs; ⟨e, a', w', q, .of_steps (.one step_region) r⟩
theorem OpsTo.done (h : Q .normal a w) : OpsTo P ops Q [] a w := fun b k cs => ⟨.normal, a, w, h, .one step_region_end⟩
theorem finish_at_op {b : Frame} {k : List Item} (ho : ops[i]? = some o) : (b.at a (.inRegion ops (i :: rest) :: k)).finish v = b.at (a.put o.dst v) (.inRegion ops rest :: k) := by
  rw [Frame.finish_at, ho]; rfl
theorem OpsTo.value (d : Option Tmp) (ho : ops[i]? = some o) (hd : o.dst = d) (hw : Region.wanted o (yielded ops a.tmps) = true) (hr : (execOp a.eval o).run P w = .ok (.value v) w') (h : OpsTo P ops Q rest (a.put d v) w') : OpsTo P ops Q (i :: rest) a w := by
  subst hd
  intro b k cs
  obtain ⟨e, a', w'', q, r⟩ := h b k cs
  refine ⟨e, a', w'', q, .of_steps (.one (step_lone_go ?_)) r⟩
  rw [stepG_op ho hw, ← finish_at_op ho]; simp [stepG.apply, hr]
theorem stepG_comm_any {b : Frame} {k : List Item} {cs : List Frame} (ho : ops[i]? = some o) (hw : Region.wanted o (yielded ops a.tmps) = true) (hr : (execOp a.eval o).run P w = .ok (.comm cases blocking shape) w') :
    ∃ es, stepG P true (G (b.at a (.inRegion ops (i :: rest) :: k)) cs) w = .comm (G (b.at a (.inRegion ops (i :: rest) :: k)) cs) cases blocking shape w' es := by
  unfold G
  rw [stepG_op ho hw]
  simp only [stepG.apply, Sem.runT_eq, hr, GStep.after]
  exact ⟨_, rfl⟩
theorem OpsTo.comm {v : Value} {w₁ : World} (d : Option Tmp) (ho : ops[i]? = some o) (hd : o.dst = d) (hw : Region.wanted o (yielded ops a.tmps) = true) (hr : (execOp a.eval o).run P w = .ok (.comm cases blocking shape) w')
    (hs : ∀ (fr : Frame) (cs : List Frame) (es : Array Event), stepG P true (G fr cs) w = .comm (G fr cs) cases blocking shape w' es → step P (solo (G fr cs) w) = .next (solo (G (fr.finish v) cs) w₁))
    (h : OpsTo P ops Q rest (a.put d v) w₁) : OpsTo P ops Q (i :: rest) a w := by
  subst hd
  intro b k cs
  obtain ⟨e, a', w'', q, r⟩ := h b k cs
  obtain ⟨es, hes⟩ := stepG_comm_any (b := b) (k := k) (cs := cs) (rest := rest) ho hw hr
  have := hs _ _ _ hes
  rw [finish_at_op ho] at this
  exact ⟨e, a', w'', q, .of_steps (.one this) r⟩
theorem OpsTo.send {c cap s r : Nat} {buf : Array Value} {tm : Bool} {ch x : Operand} (d : Option Tmp) (ho : ops[i]? = some o) (hd : o.dst = d) (hw : Region.wanted o (yielded ops a.tmps) = true) (hop : o.op = .send ch x)
    (hch : a.eval ch = .chan (some c)) (hx : a.eval x = v) (hc : w.heap[c]? = some (.chan cap buf false s r tm)) (hroom : buf.size < cap)
    (h : OpsTo P ops Q rest (a.put d undef) (w.setChan c cap (buf.push v) false (s + 1) r tm)) : OpsTo P ops Q (i :: rest) a w :=
  OpsTo.comm d (cases := #[scase c v (.tuple #[])]) (blocking := true) (shape := .send) (w' := w) ho hd hw (by simp [execOp, hop, hch, hx, scase]) (fun fr cs es hs => step_lone_send_room hs hc hroom) h
theorem OpsTo.take {c cap s r : Nat} {buf : Array Value} {tm closed : Bool} {z : Value} (d : Option Tmp) (ho : ops[i]? = some o) (hd : o.dst = d) (hw : Region.wanted o (yielded ops a.tmps) = true) (hr : (execOp a.eval o).run P w = .ok (.comm #[rcase c z] false .select) w)
    (hc : w.heap[c]? = some (.chan cap buf closed s r tm)) (hsome : 0 < buf.size)
    (h : OpsTo P ops Q rest (a.put d (.tuple #[goInt 0, .bool true, buf.getD 0 undef])) (w.setChan c cap (buf.extract 1 buf.size) closed s (r + 1) tm)) : OpsTo P ops Q (i :: rest) a w :=
  OpsTo.comm d ho hd hw hr (fun fr cs es hs => step_lone_select_recv_buf hs hc hsome) h
theorem OpsTo.none {c cap s r : Nat} {tm : Bool} {z : Value} (d : Option Tmp) (ho : ops[i]? = some o) (hd : o.dst = d) (hw : Region.wanted o (yielded ops a.tmps) = true) (hr : (execOp a.eval o).run P w = .ok (.comm #[rcase c z] false .select) w)
    (hc : w.heap[c]? = some (.chan cap #[] false s r tm))
    (h : OpsTo P ops Q rest (a.put d (.tuple #[goInt (-1), .bool false, z])) w) : OpsTo P ops Q (i :: rest) a w :=
  OpsTo.comm d ho hd hw hr (fun fr cs es hs => step_lone_select_default hs hc) h
end
end Go.Proofs.Ytojabnaabgbclaa
