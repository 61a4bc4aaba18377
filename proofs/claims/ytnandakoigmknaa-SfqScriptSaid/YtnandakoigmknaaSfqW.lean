/- What the walks of chapter 13 share: the sum of what was subtracted. -/
import Derived.Test.YtnandakoigmknaaSfqG
import Derived.Deep.DeepCutAuto
import Derived.Deep.CutBlock
namespace Go.Proofs.Ytnandakoigmknaa
open Go.RowKit
open SP
section
variable {W w w' : World} {R : List SP} {b : Nat} {reb : Int} {S : St}

theorem joinR_aw (S : St) (f w : Int) : (joinR S f w).2.aw = S.aw := by unfold joinR; split <;> rfl
theorem leaveR_aw (S : St) (f : Int) : (leaveR S f).2.aw = S.aw := by
  unfold leaveR leaveS; split
  · rfl
  · dsimp only; split <;> rfl
theorem chargeR_aw (r : Int) {S : St} (hok : StOk S) (f len : Int) : S.aw ≤ (chargeR r S f len).2.aw ∧ (chargeR r S f len).2.aw ≤ S.aw + 1099511627776 := by
  unfold chargeR
  split
  · simp only; omega
  · rename_i t ht
    split
    · simp only; omega
    · rename_i he
      have h1 := finF_ok (show (finF t.s len t.w).2 = 0 by omega)
      obtain ⟨hm, _⟩ := fget_some ht
      have hne : S.L ≠ [] := List.ne_nil_of_mem hm
      have hcr : 0 ≤ cst len t.w := by
        obtain ⟨_, h2, _, _⟩ := h1
        unfold badLW at h2
        have := cst_range (len := len) (wt := t.w) (by omega) (by omega) (by omega) (by omega)
        omega
      have h3 := hok.ch hm (nx := (finF t.s len t.w).1) (by omega)
      simp only
      unfold rebS
      split
      · show S.aw ≤ S.aw ∧ S.aw ≤ _; omega
      · have h4 := byS_rng h3 (setT_ne hne)
        have h5 := h3.tm
        show S.aw ≤ S.aw + _ ∧ S.aw + _ ≤ _
        omega

end
end Go.Proofs.Ytnandakoigmknaa
