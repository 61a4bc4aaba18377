/- Records: the program's Parse. -/
import Derived.Test.YtlccalkikjfimaaGreatDoorRdB
import Derived.Test.YtlccalkikjfimaaGreatDoorRcD
import Derived.Laws.ResultCell
import Derived.Laws.Rows
namespace Go.Proofs.YtlccalkikjfimaaGreatDoor
open Go.RowKit
open Go.Shelf
open SP
def prL (p : Rec × Int) : Value := .tuple #[recV p.1, .int .i64 p.2]
theorem rcalm_set {w w' : World} {x : Addr} {v : Value} (h : Calm w w') : Calm w (w'.setCell x v) := ⟨h.os, h.tape, h.output⟩
theorem rcalm_alloc {w w' : World} {x : Obj} (h : Calm w w') : Calm w (w'.alloc x) := ⟨h.os, h.tape, h.output⟩
theorem idx_kind : ∀ (ws : List (List UInt8)) (x : List UInt8) (i : Nat), Lib.idxFromS (ws.map mkB) (mkB x) i = if kindIn ws x = 0 then -1 else (i : Int) + kindIn ws x - 1
  | [], x, i => rfl
  | v :: ws, x, i => by
    rw [List.map_cons]
    unfold Lib.idxFromS kindIn
    by_cases h : x = v
    · rw [if_pos (by rw [h]), if_pos h, if_neg (by omega)]; omega
    · rw [if_neg (fun e => h (mkB_inj.1 e).symm), if_neg h, idx_kind ws x (i + 1)]
      by_cases h0 : kindIn ws x = 0
      · rw [if_pos h0, if_pos h0, if_pos rfl]
      · rw [if_neg h0, if_neg h0, if_neg (by omega)]; push_cast; omega
section
variable {W w w' : World} {R : List SP}
theorem index_spec (x : List UInt8) (hT : TabsR W) (o : Own w (old W :: R)) :
    Calls Tryz.prog 35 #[.slice (some ⟨0, 1, none⟩) 10 10, .string (mkB x)] w (IsRet (.int .i64 ((kindOf x : Int) - 1)) w) := by
  have hc : ∀ j, j < (wordList.map mkB).length → w.cell? ⟨0, 1 + j, none⟩ = some (.string ((wordList.map mkB).getD j ByteArray.empty)) := by
    intro j hj
    have hj : j < 10 := hj
    rw [words_at hT o (k := 1 + j) (by omega) (by omega)]
    have key : ∀ i : Fin 10, mkB (wordOf ((1 + i.val : Nat) : Int)) = (wordList.map mkB).getD i.val ByteArray.empty := by
      intro i
      match i with
      | ⟨0, _⟩ => rfl
      | ⟨1, _⟩ => rfl
      | ⟨2, _⟩ => rfl
      | ⟨3, _⟩ => rfl
      | ⟨4, _⟩ => rfl
      | ⟨5, _⟩ => rfl
      | ⟨6, _⟩ => rfl
      | ⟨7, _⟩ => rfl
      | ⟨8, _⟩ => rfl
      | ⟨9, _⟩ => rfl
    rw [key ⟨j, hj⟩]
  refine Calls.mono (show Calls Tryz.prog 35 #[.slice (some ⟨0, 1, none⟩) 10 10, .string (mkB x)] w _ from Any.slices_Index_string Tryz.laysIx 0 1 10 10 (wordList.map mkB) (mkB x) w (Nat.le_refl _) (by decide) hc) ?_
  rintro e w' ⟨rfl, rfl⟩
  refine ⟨?_, rfl⟩
  have : Lib.idxOfS ((wordList.map mkB).take 10) (mkB x) = (kindOf x : Int) - 1 := by
    rw [show (wordList.map mkB).take 10 = wordList.map mkB from rfl]
    unfold Lib.idxOfS kindOf
    rw [idx_kind]
    by_cases h : kindIn wordList x = 0
    · rw [if_pos h, h]; rfl
    · rw [if_neg h]; omega
  rw [this]
theorem delete_spec {a k b c d e : List UInt8} {g cp : Nat} (o : Own w (slc 9 1 (some ⟨g, 0, none⟩) 6 cp (strs [a, k, b, c, d, e]) :: R)) :
    Calls Tryz.prog 36 #[.slice (some ⟨g, 0, none⟩) 6 cp, .int .i64 1, .int .i64 2] w (Ret (.slice (some ⟨g, 0, none⟩) 5 cp) (slc 9 1 (some ⟨g, 0, none⟩) 5 cp (strs [a, b, c, d, e]) :: R) w) := by
  obtain ⟨_, hcap, hmax⟩ := o.slc_len
  obtain ⟨g', hg, hc, hf, _⟩ := o.slc_cell (by decide)
  cases hg
  have hS : ∀ i, i < 6 → w.cell? ⟨g, 0 + i, none⟩ = some (.string (([a, k, b, c, d, e].map mkB).getD i ByteArray.empty)) := by
    intro i hi
    rw [Nat.zero_add]
    match i, hi with
    | 0, _ => exact hc 0 _ rfl
    | 1, _ => exact hc 1 _ rfl
    | 2, _ => exact hc 2 _ rfl
    | 3, _ => exact hc 3 _ rfl
    | 4, _ => exact hc 4 _ rfl
    | 5, _ => exact hc 5 _ rfl
  have hC := Any.slices_Delete_string_cells Tryz.laysDl g 0 6 cp 1 2 (fun i => ([a, k, b, c, d, e].map mkB).getD i ByteArray.empty) w hcap (by unfold maxLen at hmax; omega) (by decide) (by decide) hS (fun j _ => hf _)
  refine Calls.mono (show Calls Tryz.prog 36 #[.slice (some ⟨g, 0, none⟩) 6 cp, .int .i64 1, .int .i64 2] w _ from hC) ?_
  rintro e' w' ⟨rfl, q, rfl⟩
  have hl : (Lib.strsOf (fun i => ([a, k, b, c, d, e].map mkB).getD i ByteArray.empty) 6) = [a, k, b, c, d, e] := rfl
  rw [hl]
  rcases Own.slc.1 o with ⟨h, _⟩ | ⟨b', sp, h1, h2, h3, h4, h5, o⟩
  · cases h
  · cases h1
    refine ⟨rfl, ?_, (Calm.refl w).dn q |>.trans (Calm.setCells _ _ _ _)⟩
    refine Own.slc.2 (.inr ⟨g, .string (mkB []) :: sp, rfl, by omega, h3, rfl, by rw [List.length_cons, h5]; omega, ?_⟩)
    have o2 := Own.setCells_pre (vs := strs [a, b, c, d, e, []]) (old := strs [a, k, b, c, d, e]) (post := sp) (o.drewN q) rfl
    exact o2
end
end Go.Proofs.YtlccalkikjfimaaGreatDoor
