/- Records: what the card lists of the program's variables, as the walk reads it. -/
import Derived.Test.YtlccalkikjfimaaGreatDoorRcA
import Derived.Lib.LaidTab
import Derived.Lib.LaidU8
namespace Go.Proofs.YtlccalkikjfimaaGreatDoor
open Go.RowKit
/-- An array of strings that reads as a list of strings holds them, cell for cell. -/
theorem cells_of_strs {H : Type} {enc : TypeId × Value → H} {P : Program} {w : World} {base : Nat} {sp : Nat → Bool} {held : Bool} {fuel : Nat} {t e : TypeId} {n : Nat} {cs : List Value} {ss : List (List UInt8)} {p : List MemPlace}
    (ht : P.underlying t = some (.array n e)) (he : P.underlying e = some .string) (hce : P.cellsOf e = 1) (hct : P.cellsOf t = n)
    (h : DataW.trod enc P w base sp held fuel t cs = some (.agg (ss.map fun s => .lit (.string s)), p)) : cs = ss.map fun s => Value.string (mkB s) := by
  cases fuel with
  | zero => simp [DataW.trod] at h
  | succ fuel =>
    simp only [DataW.trod, ht, hce, hct, Nat.mul_one] at h
    split at h
    · rename_i hl
      obtain ⟨xs, hm, hx⟩ := Option.map_eq_some_iff.1 h
      have hxs : xs.map (·.1) = ss.map fun s => (DataW.lit (.string s) : DataW H) := by
        have := congrArg Prod.fst hx
        simpa using this
      have hxl : xs.length = n := by simpa using Lib.mapM_length hm
      have hzl : ss.length = n := by
        have := congrArg List.length hxs
        simp at this
        omega
      apply List.ext_getElem?
      intro i
      by_cases hi : i < n
      · obtain ⟨b, hb, hf⟩ := Lib.mapM_at hm i i (by simp [hi])
        obtain ⟨s, hc, rfl, _⟩ := DataW.trod_string he hf
        have h1 : cs[i]? = some (.string s) := by
          have := congrArg (·[0]?) hc
          simpa [List.getElem?_take, List.getElem?_drop] using this
        have h2 : (xs.map (·.1))[i]? = some (DataW.lit (.string s.data.toList) : DataW H) := by simp [hb]
        rw [hxs] at h2
        simp only [List.getElem?_map, Option.map_eq_some_iff, DataW.lit.injEq, Lit.string.injEq] at h2
        obtain ⟨z', hz', hze⟩ := h2
        subst hze
        rw [h1, List.getElem?_map, hz']
        rfl
      · rw [List.getElem?_eq_none (by omega), List.getElem?_eq_none (by simp; omega)]
    · cases h
def wordsL : List (List UInt8) := [] :: wordList
theorem tabsR_of_reads {w : World} (hp : Lib.VarReads Tryz.prog w "internal/strconv.uint64pow10" (Lib.tabData .u64 Lib.pow10Tab)) (hw : Lib.VarReads Tryz.prog w "airshare/record.words" (.agg (wordsL.map fun s => .lit (.string s)))) : TabsR w := by
  constructor
  · obtain ⟨g, t, cs, fuel, p, hg, hty, hvar, hd⟩ := hp
    obtain rfl := Option.some.inj (hg.symm.trans (show Tryz.prog.globalNamed "internal/strconv.uint64pow10" = some 1 by kernel_rfl))
    obtain rfl := Option.some.inj (hty.symm.trans (show (Tryz.prog.globals[1]?).map (·.type) = some 111 by kernel_rfl))
    have := Lib.cells_of_tab (P := Tryz.prog) (n := 20) (by kernel_rfl) Tryz.underlying85 (by kernel_rfl) (by kernel_rfl) hd
    unfold Lib.TabIs
    rw [hvar, ← this]
  · obtain ⟨g, t, cs, fuel, p, hg, hty, hvar, hd⟩ := hw
    obtain rfl := Option.some.inj (hg.symm.trans (show Tryz.prog.globalNamed "airshare/record.words" = some 0 by kernel_rfl))
    obtain rfl := Option.some.inj (hty.symm.trans (show (Tryz.prog.globals[0]?).map (·.type) = some 65 by kernel_rfl))
    have := cells_of_strs (P := Tryz.prog) (n := 11) (by kernel_rfl) Tryz.underlying9 (by kernel_rfl) (by kernel_rfl) hd
    rw [hvar, show cs = cs.toList.toArray from rfl, this]
    rfl
end Go.Proofs.YtlccalkikjfimaaGreatDoor
