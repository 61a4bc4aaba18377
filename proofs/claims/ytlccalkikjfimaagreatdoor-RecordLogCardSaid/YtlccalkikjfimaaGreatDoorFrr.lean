/- Frames of rows: there is an input that fits, at a world whose shape is shown; a variable that only has a shape. -/
import Derived.Test.YtlccalkikjfimaaGreatDoorRdB
import Derived.Test.YtlccalkikjfimaaGreatDoorRcL
import Derived.Deep.DeepHandedRow
import Derived.Lay
import Derived.Shelf.Vars
namespace Go.Proofs.YtlccalkikjfimaaGreatDoor
open Go.RowKit
theorem witness_row_shaped {H : Type} {enc : TypeId × Value → H} {C : Checked} {os : Os} {f : FuncId} {fn : Func} {s : OpenSpec} {conds : List PathCond} {apart : Bool} {laid : List (String × DataW Unit)} (modest : Bool) (w0 : World) (args : Array Value) (hos : w0.os = os)
    (hsh : (w0.forCall (fun _ _ => 0) ⟨#[], args, []⟩).Shaped C.prog)
    (hok : Input.okWideB C.prog (w0.forCall (fun _ _ => 0) ⟨#[], args, []⟩) f ⟨#[], args, []⟩ = true)
    (hrow : s.preRow enc C.prog fn conds apart laid (w0.forCall (fun _ _ => 0) ⟨#[], args, []⟩).memory args) :
    ∃ (w : World) (tape : Tape) (i : Input), w.os = os ∧ (w.forCall tape i).Shaped C.prog ∧ i.vars = [] ∧ Input.okWide C.prog (w.forCall tape i) .any w.heap.size f i ∧
      s.preRow enc C.prog fn conds apart laid (w.forCall tape i).memory i.args ∧ ({ modest := modest } : Assume).holds C.prog (lone (Frame.enter C.prog f i.args .normal) [] (w.forCall tape i)) :=
  ⟨w0, fun _ _ => 0, ⟨#[], args, []⟩, hos, hsh, (Input.okWide_of_okWideB (base := 0) hok).1, (Input.okWide_of_okWideB hok).2, hrow, by
    simp only [Assume.holds]
    exact ⟨by simp, by simp, fun _ => Modest.zero, by simp, by simp⟩⟩
theorem reads_of {α : Type} {o : Option α} (h : o.isSome = true) : o = some (o.get h) := by simp
theorem maxV_of_shaped {W : World} (h : W.ShapedOpen Tryz.prog) : MaxV W :=
  cell_of_shapedOpen_int (t := 3) (zero := #[.int .i64 0]) h (of_decide_eq_true (by kernel_rfl)) (by kernel_rfl) rfl (by kernel_rfl) (by kernel_rfl) Tryz.underlying3
set_option maxRecDepth 100000 in
theorem errW_of_reads {W : World} {d : DataW Unit} (h : Lib.VarReads Tryz.prog W "strconv.ErrRange" d) : ErrW W := by
  obtain ⟨g, t, cs, fuel, p, hg, hty, hvar, hd⟩ := h
  obtain rfl := Option.some.inj (hg.symm.trans (show Tryz.prog.globalNamed "strconv.ErrRange" = some 4 by kernel_rfl))
  obtain rfl := Option.some.inj (hty.symm.trans (show (Tryz.prog.globals[4]?).map (·.type) = some 55 by kernel_rfl))
  have hc := World.var?_cell (P := Tryz.prog) (by kernel_rfl : Tryz.prog.globalNamed "strconv.ErrRange" = some 4) hvar 0
  cases fuel with
  | zero => cases hd
  | succ fuel =>
    unfold DataW.trod at hd
    rw [Tryz.underlying55] at hd
    rcases hcs : cs.toList with _ | ⟨v, _ | ⟨v2, r⟩⟩
    · rw [hcs] at hd; simp at hd
    · have h0 : cs[0]? = some v := by rw [← Array.getElem?_toList, hcs]; rfl
      rw [h0] at hc
      rw [hcs] at hd
      refine ⟨v, hc, ?_⟩
      cases v <;> first | exact .inl rfl | exact .inr ⟨_, _, rfl⟩ | (simp at hd)
    · rw [hcs] at hd; simp at hd
end Go.Proofs.YtlccalkikjfimaaGreatDoor
