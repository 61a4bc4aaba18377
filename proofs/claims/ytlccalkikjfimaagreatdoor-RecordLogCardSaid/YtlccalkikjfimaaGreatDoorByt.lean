/- A slice of bytes made of a string: its block, its cells, a store, and back to a string. -/
import Derived.Test.YtlccalkikjfimaaGreatDoorCom
import Derived.Lib.ConvBytes
import Derived.Laws.BytesArg
namespace Go.Proofs.YtlccalkikjfimaaGreatDoor
open Go.RowKit
open SP
section
variable {w w' : World} {R : List SP} {g m m' : Nat} {T : TypeId} {bs : List UInt8} {sp : List Value}
def byV (bs : List UInt8) : List Value := bs.map fun b => Value.int .u8 (b.toNat : Int)
theorem byV_length (bs : List UInt8) : (byV bs).length = bs.length := List.length_map _
theorem bytes_cells (w : World) (T : TypeId) (s : ByteArray) : Lib.bytesCells w T s = (byV s.data.toList ++ List.replicate (grownCap w s.size 0 T - s.size) (Value.int .u8 0)).toArray := by
  unfold Lib.bytesCells byV
  apply Array.toList_inj.1
  simp
theorem own_bytes (o : Own w R) (s : ByteArray) : ∃ (sp : List Value) (m m' : Nat), s.data.toList.length ≤ m ∧ Own (Lib.bytesWorld w T s) (SP.blk w.heap.size (.cells (byV s.data.toList ++ sp).toArray T (m, m')) :: R) := by
  refine ⟨_, _, _, ?_, Own.put (o.drew.alloc (.cells (Lib.bytesCells w T s) T)) (by rw [← bytes_cells]; exact Lib.bytesWorld_at_new w T s) fun k hk hlt => ?_⟩
  · rw [bytes_cells, List.size_toArray, List.length_append, byV_length]; omega
  · have hlt2 : k < w.heap.size + 1 := by simpa using hlt
    have hk2 : k < w.heap.size := by
      have : k ≠ w.heap.size := hk
      omega
    rw [Lib.bytesWorld_at_old w T s k hk2]
    show _ = (w.heap.push _)[k]?
    rw [Array.getElem?_push, if_neg (by omega)]
theorem byt_cell (o : Own w (SP.blk g (.cells (byV bs ++ sp).toArray T (m, m')) :: R)) {i : Nat} {b : UInt8} (h : bs[i]? = some b) : w.cell? ⟨g, i, none⟩ = some (.int .u8 (b.toNat : Int)) := by
  have hb := Own.blk o
  have hi := (List.getElem?_eq_some_iff.1 h).1
  simp only [World.cell?, hb]
  have : (byV bs ++ sp)[i]? = some (.int .u8 (b.toNat : Int)) := by
    rw [List.getElem?_append_left (by rw [byV_length]; exact hi)]
    unfold byV
    rw [List.getElem?_map, h]; rfl
  simpa using this
theorem byt_frozen (o : Own w (SP.blk g (.cells (byV bs ++ sp).toArray T (m, m')) :: R)) {i : Nat} (h : i < m) : w.frozen? ⟨g, i, none⟩ = false := by
  have hb := Own.blk o
  simp only [World.frozen?, hb]
  simp
  omega
theorem byt_set (o : Own w (SP.blk g (.cells (byV bs ++ sp).toArray T (m, m')) :: R)) (i : Nat) (hi : i < bs.length) (b : UInt8) : Own (w.setCell ⟨g, i, none⟩ (.int .u8 (b.toNat : Int))) (SP.blk g (.cells (byV (bs.set i b) ++ sp).toArray T (m, m')) :: R) := by
  have hb := Own.blk o
  have e : (byV bs ++ sp).set i (.int .u8 (b.toNat : Int)) = byV (bs.set i b) ++ sp := by
    rw [List.set_append_left _ _ (by rw [byV_length]; exact hi)]
    unfold byV
    rw [List.map_set]
  rw [← e]
  refine Own.put o ?_ (fun k hk _ => ?_)
  · simp [World.setCell, Array.getElem?_modify, hb]
  · simp only [World.setCell, Array.getElem?_modify]
    rw [if_neg (by omega)]
theorem byt_string (o : Own w (SP.blk g (.cells (byV bs ++ sp).toArray T (m, m')) :: R)) {n : Nat} (hn : bs.length = n) (i : Nat) (hi : i < n) : w.cell? ⟨g, 0 + i, none⟩ = some (.int .u8 ((bs.map fun b => (b.toNat : Int)).getD i 0)) := by
  rw [Nat.zero_add]
  have h : bs[i]? = some (bs[i]'(by omega)) := List.getElem?_eq_getElem (by omega)
  rw [byt_cell o h, List.getD_eq_getElem?_getD, List.getElem?_map, h]
  rfl
theorem strOf_size (xs : List Int) : (strOfNums xs).size = xs.length := by
  unfold strOfNums
  simp [ByteArray.size]
end
end Go.Proofs.YtlccalkikjfimaaGreatDoor
