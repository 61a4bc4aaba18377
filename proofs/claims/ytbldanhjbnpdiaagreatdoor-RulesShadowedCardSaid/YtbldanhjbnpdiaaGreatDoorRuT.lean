/- Rules: which cover and which match, in plain Lean. -/
import Derived.Test.YtbldanhjbnpdiaaGreatDoorRuS
import Derived.Test.YtbldanhjbnpdiaaGreatDoorLbB0
namespace Go.Proofs.YtbldanhjbnpdiaaGreatDoor
open Go.RowKit
open Go.Shelf
open SP
section
variable {W w w' : World} {R : List SP}
def covOK (a b : Ru) : Bool := ruOK a && ruOK b && (decide (a.st = []) || decide (cmpS (mkB a.st) (mkB b.st) = 0)) && (decide (a.cls = -1) || decide (a.cls = b.cls)) && decide (a.first ≤ b.first) && decide (b.last ≤ a.last)
def matOK (a : Ru) (h : Hd) : Bool := ruOK a && hdOK h && (decide (a.st = []) || decide (cmpS (mkB a.st) (mkB h.st) = 0)) && (decide (a.cls = -1) || decide (a.cls = h.cls)) && decide (a.first ≤ h.port) && decide (h.port ≤ a.last)
theorem ruOK_cls {r : Ru} (h : ruOK r = true) : -1 ≤ r.cls := by
  unfold ruOK at h
  simp only [Bool.and_eq_true, decide_eq_true_eq] at h
  exact h.2.1
theorem ruOK_name {r : Ru} (h : ruOK r = true) (h0 : r.st ≠ []) : nameB r.st = true := by
  unfold ruOK at h
  simp only [Bool.and_eq_true, Bool.or_eq_true, decide_eq_true_eq] at h
  rcases h.1 with h1 | h1
  · exact absurd h1 h0
  · exact h1
theorem cmp_empty {s t : List UInt8} (h : nameB s = true) (h0 : t = []) : cmpS (mkB s) (mkB t) = 1 := by
  subst h0
  unfold cmpS
  rw [if_pos (show nameB (mkB s).data.toList = true from h), if_neg (by decide)]
theorem label_cmp (a b : ByteArray) (ha : a.size ≤ 2000000) (hb : b.size ≤ 2000000) (hT : TabsW W) (o : Own w (old W :: R)) :
    Calls Tryz.prog 24 #[.string a, .string b] w (Ret (.int .i64 (cmpS a b)) (old W :: R) w) := labCompare_spec a b ha hb hT o
theorem ref_cmp (a b : ByteArray) (ha : a.size ≤ 2000000) (hb : b.size ≤ 2000000) (_ : TabsW W) (o : Own w (old W :: R)) :
    Calls Tryz.prog 26 #[.string a, .string b] w (Ret (.int .i64 (cmpS a b)) (old W :: R) w) := compareR_spec a b ha hb o
end
end Go.Proofs.YtbldanhjbnpdiaaGreatDoor
