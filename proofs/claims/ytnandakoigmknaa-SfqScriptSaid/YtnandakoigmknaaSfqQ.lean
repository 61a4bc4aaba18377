/- The error-free reference, plain: its operations and what they keep. -/
import Derived.Test.YtnandakoigmknaaSfqP
import Derived.Test.YtnandakoigmknaaTags
namespace Go.Proofs.Ytnandakoigmknaa
open Go.RowKit
open SP

structure StOk (S : St) : Prop where
  ok : LOk S.L
  old : ∀ f, 0 ≤ S.old f ∧ S.old f ≤ 1099511627776
  tm : 0 ≤ S.tm ∧ S.tm ≤ 1099511627776

def joinE (S : St) (f w : Int) : Int := if f < 0 ∨ 32 ≤ f ∨ w < 1 ∨ 16 < w then 1 else if (fget S.L f).isSome then 7 else 0
def joinS (S : St) (f w : Int) : St := { S with L := insT ⟨f, w, max S.tm (S.old f)⟩ S.L, old := fun g => if g = f then 0 else S.old g }
def leaveS (S : St) (f s : Int) : St := if delT f S.L = [] then ⟨[], fun _ => 0, 0, S.aw⟩ else { S with L := delT f S.L, old := fun g => if g = f then s else S.old g }
def subS (S : St) (by_ : Int) : St := ⟨S.L.map (fun t => ⟨t.f, t.w, t.s - by_⟩), fun g => max (S.old g - by_) 0, S.tm - by_, S.aw + by_⟩
def chS (S : St) (t : Tg) (nx : Int) : St := { S with L := setT ⟨t.f, t.w, nx⟩ S.L, tm := max S.tm t.s }
def byS (S : St) : Int := min S.tm (lst S.L).s
def rebS (reb : Int) (S : St) : St := if byS S < reb then S else subS S (byS S)
/-- What Charge gives: the code and the state. -/
def chargeR (reb : Int) (S : St) (f len : Int) : Int × St :=
  match fget S.L f with
  | none => (6, S)
  | some t => if (finF t.s len t.w).2 ≠ 0 then ((finF t.s len t.w).2, S) else (0, rebS reb (chS S t (finF t.s len t.w).1))
def leaveR (S : St) (f : Int) : Int × St :=
  match fget S.L f with
  | none => (6, S)
  | some t => (0, leaveS S f t.s)
def joinR (S : St) (f w : Int) : Int × St := (joinE S f w, if joinE S f w = 0 then joinS S f w else S)
/-- What Select gives. -/
def selT (L : List Tg) : Int × Int := if L = [] then (0, 5) else ((lst L).f, 0)

section
variable {S : St}
theorem StOk.start : StOk ⟨[], fun _ => 0, 0, 0⟩ := ⟨⟨.nil, by simp⟩, fun f => by simp, by simp⟩
theorem StOk.join (h : StOk S) {f w : Int} (he : joinE S f w = 0) : StOk (joinS S f w) ∧ fget S.L f = none ∧ 0 ≤ f ∧ f < 32 ∧ 1 ≤ w ∧ w ≤ 16 := by
  have hb : ¬ (f < 0 ∨ 32 ≤ f ∨ w < 1 ∨ 16 < w) := fun hb => by unfold joinE at he; rw [if_pos hb] at he; cases he
  have hn : fget S.L f = none := by
    unfold joinE at he
    rw [if_neg hb] at he
    cases hf : fget S.L f with
    | none => rfl
    | some t => rw [hf] at he; simp at he
  have h1 := h.tm
  have h2 := h.old f
  refine ⟨⟨h.ok.ins (x := ⟨f, w, max S.tm (S.old f)⟩) ⟨by simp only; omega, by simp only; omega, by simp only; omega, by simp only; omega, by simp only; omega, by simp only; omega⟩ hn, fun g => ?_, h.tm⟩, hn, by omega⟩
  show 0 ≤ (if g = f then 0 else S.old g) ∧ (if g = f then 0 else S.old g) ≤ _
  split
  · simp
  · exact h.old g
theorem StOk.leave (h : StOk S) {f : Int} {t : Tg} (ht : fget S.L f = some t) : StOk (leaveS S f t.s) := by
  obtain ⟨h1, h2⟩ := fget_some ht
  have hr := h.ok.rng t h1
  unfold leaveS
  split
  · exact ⟨⟨.nil, by simp⟩, fun f => by simp, by simp⟩
  · refine ⟨h.ok.del f, fun g => ?_, h.tm⟩
    show 0 ≤ (if g = f then t.s else S.old g) ∧ (if g = f then t.s else S.old g) ≤ _
    split
    · omega
    · exact h.old g
theorem StOk.ch (h : StOk S) {t : Tg} (ht : t ∈ S.L) {nx : Int} (hn : 0 ≤ nx ∧ nx ≤ 1099511627776) : StOk (chS S t nx) := by
  have hr := h.ok.rng t ht
  have h1 := h.tm
  refine ⟨h.ok.set (x := ⟨t.f, t.w, nx⟩) ⟨hr.1, hr.2.1, hr.2.2.1, hr.2.2.2.1, hn.1, hn.2⟩, h.old, ?_⟩
  show 0 ≤ max S.tm t.s ∧ max S.tm t.s ≤ _
  omega
theorem byS_rng (h : StOk S) (hne : S.L ≠ []) : 0 ≤ byS S ∧ byS S ≤ S.tm ∧ ∀ t ∈ S.L, byS S ≤ t.s := by
  have h1 := h.tm
  have h2 := h.ok.rng _ (lst_mem hne)
  unfold byS
  refine ⟨by omega, by omega, fun t ht => ?_⟩
  have := lst_min ht
  omega
theorem StOk.sub (h : StOk S) {by_ : Int} (h0 : 0 ≤ by_) (h1 : by_ ≤ S.tm) (h2 : ∀ t ∈ S.L, by_ ≤ t.s) : StOk (subS S by_) := by
  have h3 := h.tm
  refine ⟨⟨?_, fun t ht => ?_⟩, fun f => ?_, ?_⟩
  · show (S.L.map _).Pairwise _
    rw [List.pairwise_map]; exact h.ok.asc
  · obtain ⟨u, hu, rfl⟩ := List.mem_map.1 ht
    have := h.ok.rng u hu
    have := h2 u hu
    simp only
    omega
  · have := h.old f
    show 0 ≤ max (S.old f - by_) 0 ∧ max (S.old f - by_) 0 ≤ _
    omega
  · show 0 ≤ S.tm - by_ ∧ S.tm - by_ ≤ _
    omega
theorem setT_ne {x : Tg} {L : List Tg} (h : L ≠ []) : setT x L ≠ [] := by
  unfold setT
  simpa using h
theorem StOk.reb (h : StOk S) (hne : S.L ≠ []) (r : Int) : StOk (rebS r S) := by
  unfold rebS
  split
  · exact h
  · obtain ⟨h1, h2, h3⟩ := byS_rng h hne
    exact h.sub h1 h2 h3
theorem finF_ok {s len w : Int} (h : (finF s len w).2 = 0) : (finF s len w).1 = s + cst len w ∧ ¬ badLW len w ∧ 0 ≤ s ∧ s + cst len w ≤ 1099511627776 := by
  unfold finF at *
  split at h
  · cases h
  · rename_i h1
    split at h
    · cases h
    · rename_i h2
      rw [if_neg h1, if_neg h2]
      exact ⟨rfl, fun hb => h1 (.inl hb), by omega, by omega⟩

/-! ### The laws -/
/-- After i rounds: no tag is less than the time, nor greater by more than the cost of one packet. -/
structure TInv (i : Nat) (S : St) : Prop where
  ok : StOk S
  tm : S.tm ≤ i * 2952069120
  act : ∀ t ∈ S.L, S.tm ≤ t.s ∧ t.s ≤ S.tm + 2952069120
  old : ∀ f, S.old f ≤ S.tm + 2952069120

theorem TInv.start : TInv 0 ⟨[], fun _ => 0, 0, 0⟩ := ⟨StOk.start, by simp, by simp, fun f => by simp⟩
theorem TInv.next {i : Nat} (h : TInv i S) : TInv (i + 1) S := ⟨h.ok, by have := h.tm; push_cast; omega, h.act, h.old⟩
theorem TInv.joinS {i : Nat} (h : TInv i S) {f w : Int} (he : joinE S f w = 0) : TInv i (joinS S f w) := by
  have h1 := h.old f
  have h2 := h.ok.tm
  refine ⟨(h.ok.join he).1, h.tm, fun t ht => ?_, fun g => ?_⟩
  · rcases mem_insT.1 ht with rfl | ht
    · show S.tm ≤ max S.tm (S.old f) ∧ max S.tm (S.old f) ≤ S.tm + _
      omega
    · exact h.act t ht
  · show (if g = f then 0 else S.old g) ≤ S.tm + _
    split
    · omega
    · exact h.old g
theorem TInv.join {i : Nat} (h : TInv i S) (f w : Int) : TInv i (joinR S f w).2 := by
  unfold joinR
  split
  · exact h.joinS ‹_›
  · exact h
theorem TInv.leave {i : Nat} (h : TInv i S) (f : Int) : TInv i (leaveR S f).2 := by
  unfold leaveR
  split
  · exact h
  · rename_i t ht
    obtain ⟨h1, h2⟩ := fget_some ht
    have hok := h.ok.leave ht
    have ha := h.act t h1
    show TInv i (leaveS S f t.s)
    unfold leaveS at *
    split
    · rename_i he
      rw [if_pos he] at hok
      exact ⟨hok, by show (0 : Int) ≤ _; omega, by simp, fun g => by show (0 : Int) ≤ 0 + _; omega⟩
    · rename_i he
      rw [if_neg he] at hok
      refine ⟨hok, h.tm, fun t ht => h.act t (mem_delT.1 ht).1, fun g => ?_⟩
      show (if g = f then t.s else S.old g) ≤ S.tm + _
      split
      · omega
      · exact h.old g
theorem TInv.by_ {i : Nat} (h : TInv i S) (hne : S.L ≠ []) : byS S = S.tm := by
  have := h.act _ (lst_mem hne)
  unfold byS; omega
theorem TInv.sub {i : Nat} (h : TInv i S) (hne : S.L ≠ []) : TInv i (subS S S.tm) := by
  have h1 := byS_rng h.ok hne
  rw [h.by_ hne] at h1
  refine ⟨h.ok.sub h1.1 h1.2.1 h1.2.2, ?_, fun t ht => ?_, fun f => ?_⟩
  · show S.tm - S.tm ≤ _; omega
  · obtain ⟨u, hu, rfl⟩ := List.mem_map.1 ht
    have := h.act u hu
    show S.tm - S.tm ≤ u.s - S.tm ∧ u.s - S.tm ≤ S.tm - S.tm + _
    omega
  · have := h.old f
    show max (S.old f - S.tm) 0 ≤ S.tm - S.tm + _
    omega
theorem TInv.reb {i : Nat} (h : TInv i S) (hne : S.L ≠ []) (r : Int) : TInv i (rebS r S) := by
  unfold rebS
  split
  · exact h
  · rw [h.by_ hne]; exact h.sub hne
theorem TInv.ch {i : Nat} (h : TInv i S) (hi : i ≤ 300) (hne : S.L ≠ []) {len : Int} (h1 : 1 ≤ len) (h2 : len ≤ 4096) :
    finF (lst S.L).s len (lst S.L).w = ((lst S.L).s + cst len (lst S.L).w, 0) ∧ TInv (i + 1) (chS S (lst S.L) ((lst S.L).s + cst len (lst S.L).w)) ∧ max S.tm (lst S.L).s = (lst S.L).s := by
  have hm := lst_mem hne
  have hmin : ∀ t ∈ S.L, (lst S.L).s ≤ t.s := fun t ht => lst_min ht
  generalize lst S.L = t at *
  have hr := h.ok.ok.rng t hm
  have ha := h.act t hm
  have ht := h.tm
  obtain ⟨c1, c2⟩ := cst_range hr.2.2.1 hr.2.2.2.1 h1 h2
  have hfin : finF t.s len t.w = (t.s + cst len t.w, 0) := by
    unfold finF
    rw [if_neg (by unfold badLW; omega), if_neg (by omega)]
  have hmx : max S.tm t.s = t.s := by omega
  refine ⟨hfin, ⟨h.ok.ch hm (by omega), ?_, fun u hu => ?_, fun f => ?_⟩, hmx⟩
  · show max S.tm t.s ≤ _; push_cast; omega
  · show max S.tm t.s ≤ u.s ∧ u.s ≤ max S.tm t.s + _
    rw [hmx]
    rcases mem_setT hu with rfl | ⟨hu, _⟩
    · simp only; omega
    · have := hmin u hu
      have := h.act u hu
      omega
  · have := h.old f
    show S.old f ≤ max S.tm t.s + _
    omega
/-- The selected flow is charged. -/
theorem TInv.charge {i : Nat} (h : TInv i S) (hi : i ≤ 300) (hne : S.L ≠ []) {len : Int} (h1 : 1 ≤ len) (h2 : len ≤ 4096) (r : Int) :
    chargeR r S (lst S.L).f len = (0, rebS r (chS S (lst S.L) ((lst S.L).s + cst len (lst S.L).w))) ∧ TInv (i + 1) (rebS r (chS S (lst S.L) ((lst S.L).s + cst len (lst S.L).w))) := by
  obtain ⟨hf, hT, _⟩ := h.ch hi hne h1 h2
  refine ⟨?_, hT.reb (setT_ne hne) r⟩
  unfold chargeR
  rw [fget_mem h.ok.ok (lst_mem hne)]
  simp only [hf]
  rw [if_neg (by simp)]
end
end Go.Proofs.Ytnandakoigmknaa
