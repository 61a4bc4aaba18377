/- Lists of records in memory; a parameter that is a slice of records. -/
import Derived.Test.YtlccalkikjfimaaGreatDoorRcI
import Derived.Test.YtlccalkikjfimaaGreatDoorApp
import Derived.Deep.SlicePairs
namespace Go.Proofs.YtlccalkikjfimaaGreatDoor
open Go.RowKit Go.ChangeShapes Go.WideShapes
open SP
instance : Inhabited Rec := ⟨⟨0, 0, 0, 0, 0, 0⟩⟩
theorem Tryz.recT : ElemT Tryz.prog 23 39 6 48 := ElemT.mk' (z := .agg #[.int .i64 0, .int .i64 0, .int .i64 0, .int .i64 0, .int .i64 0, .int .i64 0]) Tryz.underlying23 (by kernel_rfl) rfl (by decide)
/-- The list of records that a slice at a holds, read behind S. -/
def RecsAt (S : SP) (a : Option Addr) (l : List Rec) : Prop := ∀ (w : World) (R : List SP), Own w (S :: R) → ∀ (i : Nat) (r : Rec), l[i]? = some r →
  ∃ g so, a = some ⟨g, so, none⟩ ∧ ∀ (j : Nat) (v : Value), (recC r)[j]? = some v → w.cell? ⟨g, so + i * 6 + j, none⟩ = some v
theorem recsAt_slc {T : TypeId} (a : Option Addr) (n c : Nat) (l : List Rec) (hn : n = l.length) : RecsAt (slc T 6 a n c (flat recC l)) a l := by
  intro w R o i r hr
  have := (List.getElem?_eq_some_iff.1 hr).1
  obtain ⟨g, h, hc, _, _⟩ := o.slc_cell (by omega)
  refine ⟨g, 0, h, fun j v hv => ?_⟩
  have hj : j < 6 := (List.getElem?_eq_some_iff.1 hv).1
  rw [Nat.zero_add]
  refine hc (i * 6 + j) v ?_
  rw [flat_get recC_len l i j r hr hj]; exact hv
theorem RecsAt.six {S : SP} {w : World} {R : List SP} {a : Option Addr} {l : List Rec} (h : RecsAt S a l) (o : Own w (S :: R)) {i : Nat} {r : Rec} (hr : l[i]? = some r) :
    ∃ g so, a = some ⟨g, so, none⟩ ∧ w.cell? ⟨g, so + i * 6, none⟩ = some (.int .i64 r.slot) ∧ w.cell? ⟨g, so + i * 6 + 1, none⟩ = some (.int .i64 r.kind) ∧ w.cell? ⟨g, so + i * 6 + 2, none⟩ = some (.int .i64 r.flow) ∧
      w.cell? ⟨g, so + i * 6 + 3, none⟩ = some (.int .i64 r.packet) ∧ w.cell? ⟨g, so + i * 6 + 4, none⟩ = some (.int .i64 r.why) ∧ w.cell? ⟨g, so + i * 6 + 5, none⟩ = some (.int .i64 r.value) := by
  obtain ⟨g, so, ha, hc⟩ := h w R o i r hr
  exact ⟨g, so, ha, hc 0 _ rfl, hc 1 _ rfl, hc 2 _ rfl, hc 3 _ rfl, hc 4 _ rfl, hc 5 _ rfl⟩
theorem recs_src {S : SP} {w : World} {R : List SP} {a : Option Addr} {n c : Nat} {l : List Rec} (hS : RecsAt S a l) (hn : n = l.length) (o : Own w (S :: R)) : IsSrc w (.slice a n c) 6 n (flat recC l) := by
  refine ⟨a, c, rfl, by rw [flat_length recC_len, hn], fun u hu => ?_, ?_⟩
  · obtain ⟨p, _, hp⟩ := List.mem_flatMap.1 hu
    unfold recC at hp
    simp at hp
    rcases hp with rfl | rfl | rfl | rfl | rfl | rfl <;> rfl
  · cases l with
    | nil => exact .inl hn
    | cons p l' =>
      obtain ⟨g, so, rfl, _⟩ := hS _ _ o 0 p rfl
      refine .inr ⟨_, rfl, fun j u hu => ?_⟩
      have hadd : (⟨g, so, none⟩ : Addr).add j = ⟨g, so + j, none⟩ := by unfold Addr.add; split <;> simp_all
      rw [hadd]
      have hj : j < (p :: l').length * 6 := by have := (List.getElem?_eq_some_iff.1 hu).1; rwa [flat_length recC_len] at this
      have hjk : j / 6 < (p :: l').length := by omega
      obtain ⟨t, ht⟩ : ∃ t, (p :: l')[j / 6]? = some t := ⟨_, List.getElem?_eq_getElem hjk⟩
      obtain ⟨g', so', h1, h2⟩ := hS _ _ o (j / 6) t ht
      cases h1
      have h5 := flat_get recC_len (p :: l') (j / 6) (j % 6) t ht (Nat.mod_lt _ (by omega))
      rw [show j / 6 * 6 + j % 6 = j from by omega, hu] at h5
      have := h2 (j % 6) u h5.symm
      rw [← this]; congr 2; omega
theorem recs_of_trod {H : Type} {enc : TypeId × Value → H} {W : World} {base : Nat} {spare : Nat → Bool} {held : Bool} {a : Option Addr} {n c : Nat} {d : DataW H} {p : List MemPlace}
    (h : DataW.Trod enc Tryz.prog W base spare held 23 (.slice a n c) d p) : ∃ l : List Rec, RecsAt (old W) a l ∧ n = l.length ∧ n ≤ 9223372036854775807 := by
  obtain ⟨fuel, hf⟩ := h
  rcases Go.Deep.open_slice Tryz.underlying23 hf with ⟨hcs, _⟩ | ⟨x, l, cap, m, k, D, Pl, hcs, _, hl, hm, hmm, _, hi⟩
  · simp [Value.cells] at hcs
    obtain ⟨rfl, rfl, rfl⟩ := hcs
    exact ⟨[], fun w R o i y hy => by simp at hy, rfl, by omega⟩
  · simp [Value.cells] at hcs
    obtain ⟨rfl, rfl, rfl⟩ := hcs
    have hlm : n ≤ m := by rw [hmm]; split <;> omega
    have hce : Tryz.prog.cellsOf 39 = 6 := by kernel_rfl
    have each : ∀ i, i < n → ∃ r : Rec, ∀ j, j < 6 → W.cell? ((x.add (i * 6)).add j) = (recC r)[j]? := by
      intro i hin
      obtain ⟨cs', h1, h2⟩ := hi i (by omega)
      rw [hce] at h1
      obtain ⟨r, rfl⟩ := rec_cells h2
      obtain ⟨_, _, hcell⟩ := World.cells?_some h1
      exact ⟨r, fun j hj => hcell j hj⟩
    obtain ⟨f, hfn⟩ : ∃ f : Nat → Rec, ∀ i, i < n → ∀ j, j < 6 → W.cell? ((x.add (i * 6)).add j) = (recC (f i))[j]? :=
      Go.Deep.choose_lt (p := fun i (r : Rec) => ∀ j, j < 6 → W.cell? ((x.add (i * 6)).add j) = (recC r)[j]?) each
    refine ⟨(List.range n).map f, ?_, by simp, by have h2 : maxLen = 9223372036854775807 := rfl; omega⟩
    intro w R o i y hy
    have hin : i < n := by have := (List.getElem?_eq_some_iff.1 hy).1; simpa using this
    have hy2 : f i = y := by simpa [List.getElem?_map, List.getElem?_range hin] using hy
    have h0 := hfn 0 (by omega) 0 (by omega)
    obtain ⟨g, so, sp⟩ := x
    cases sp with
    | some s =>
      have e : ((⟨g, so, some s⟩ : Addr).add (0 * 6)).add 0 = ⟨g, so, some s⟩ := rfl
      rw [e] at h0
      unfold World.cell? at h0
      split at h0 <;> simp [recC] at h0
    | none =>
      refine ⟨g, so, rfl, fun j v hv => ?_⟩
      have hj : j < 6 := (List.getElem?_eq_some_iff.1 hv).1
      have h1 := hfn i hin j hj
      rw [hy2, hv] at h1
      have e : ((⟨g, so, none⟩ : Addr).add (i * 6)).add j = ⟨g, so + i * 6 + j, none⟩ := by
        have ha : ∀ (q k : Nat), (⟨g, q, none⟩ : Addr).add k = ⟨g, q + k, none⟩ := fun q k => by unfold Addr.add; split <;> simp_all
        rw [ha, ha]
      rw [e] at h1
      exact o.old_cell h1
end Go.Proofs.YtlccalkikjfimaaGreatDoor
