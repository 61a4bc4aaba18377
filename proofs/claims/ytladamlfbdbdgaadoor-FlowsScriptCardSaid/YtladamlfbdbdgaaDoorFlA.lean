/- The program's table: how it lies in memory; New, Total, flow, Find. -/
import Derived.Test.YtladamlfbdbdgaaDoorFlP
import Derived.Test.YtladamlfbdbdgaaDoorRe
namespace Go.Proofs.YtladamlfbdbdgaaDoor
open Go.RowKit
open SP

def blks : List (Option Nat) → List (Flo × Bool) → List SP
  | some b :: ps, (f, _) :: F => cel b 67 (floC f) :: blks ps F
  | none :: ps, _ :: F => SP.pu True :: blks ps F
  | _, _ => []
def ptrV (p : Option Nat) : Value := .pointer (p.map fun b => ⟨b, 0, none⟩)
def PtrOk (ps : List (Option Nat)) (F : List (Flo × Bool)) : Prop := ps.map (·.isSome) = F.map (·.2)

/-- The program's table behind block b. -/
def FlowP (b : Nat) (T : Tab) : SP := ex fun (p : Option Addr × Nat × Nat × Option Addr × Nat × List (Option Nat)) =>
  st [pu (PtrOk p.2.2.2.2.2 T.F), cel b 59 [.int .i64 T.cap, .int .i64 T.rates, .slice p.1 T.S.length p.2.1, .map (some p.2.2.1), .slice p.2.2.2.1 T.F.length p.2.2.2.2.1, .int .i64 (totF T.F)],
    slc 64 4 p.1 T.S.length p.2.1 (flat staC T.S), mpS (Value.int .i64) p.2.2.1 (nmMap T.S), slc 65 1 p.2.2.2.1 T.F.length p.2.2.2.2.1 (p.2.2.2.2.2.map ptrV), st (blks p.2.2.2.2.2 T.F)]

section
variable {W w w' : World} {R : List SP} {b : Nat} {T : Tab}
theorem FlowP.iff : Own w (FlowP b T :: R) ↔ ∃ sa sc mb fa fc ps, PtrOk ps T.F ∧
    Own w (cel b 59 [.int .i64 T.cap, .int .i64 T.rates, .slice sa T.S.length sc, .map (some mb), .slice fa T.F.length fc, .int .i64 (totF T.F)] ::
      slc 64 4 sa T.S.length sc (flat staC T.S) :: mpS (Value.int .i64) mb (nmMap T.S) :: slc 65 1 fa T.F.length fc (ps.map ptrV) :: st (blks ps T.F) :: R) := by
  constructor
  · intro o
    obtain ⟨⟨sa, sc, mb, fa, fc, ps⟩, o⟩ := Own.ex.1 o
    obtain ⟨h, o⟩ := Own.pu.1 (Own.st.1 o)
    exact ⟨sa, sc, mb, fa, fc, ps, h, o⟩
  · rintro ⟨sa, sc, mb, fa, fc, ps, h, o⟩
    exact Own.ex.2 ⟨⟨sa, sc, mb, fa, fc, ps⟩, Own.st.2 (Own.pu.2 ⟨h, o⟩)⟩

theorem PtrOk.len {ps : List (Option Nat)} {F : List (Flo × Bool)} (h : PtrOk ps F) : ps.length = F.length := by
  have := congrArg List.length h; simpa using this
theorem PtrOk.at {ps : List (Option Nat)} {F : List (Flo × Bool)} (h : PtrOk ps F) {i : Nat} {f : Flo} {c : Bool} (hf : F[i]? = some (f, c)) : ∃ p, ps[i]? = some p ∧ p.isSome = c := by
  have hl := h.len
  have hi := (List.getElem?_eq_some_iff.1 hf).1
  refine ⟨ps[i]'(by omega), List.getElem?_eq_getElem _, ?_⟩
  have := congrArg (·[i]?) h
  simp only [List.getElem?_map, hf, List.getElem?_eq_getElem (show i < ps.length by omega), Option.map_some, Option.some.injEq] at this
  exact this
theorem blks_len : ∀ {ps : List (Option Nat)} {F : List (Flo × Bool)}, ps.length = F.length → (blks ps F).length = F.length
  | [], [], _ => rfl
  | some b :: ps, (f, c) :: F, h => by simp only [blks, List.length_cons]; rw [blks_len (by simpa using h)]
  | none :: ps, (f, c) :: F, h => by simp only [blks, List.length_cons]; rw [blks_len (by simpa using h)]
  | [], _ :: _, h => by simp at h
  | _ :: _, [], h => by simp at h
theorem blks_at : ∀ {ps : List (Option Nat)} {F : List (Flo × Bool)} {i : Nat} {f : Flo} {c : Bool} {p : Option Nat}, ps[i]? = some p → F[i]? = some (f, c) →
    (blks ps F)[i]? = some (match p with | some b => cel b 67 (floC f) | none => SP.pu True)
  | p0 :: ps, (f0, c0) :: F, 0, f, c, p, h1, h2 => by
    simp at h1 h2; obtain ⟨rfl, rfl⟩ := h2; subst h1
    cases p0 <;> rfl
  | p0 :: ps, (f0, c0) :: F, i + 1, f, c, p, h1, h2 => by
    have := blks_at (ps := ps) (F := F) (i := i) (f := f) (c := c) (p := p) (by simpa using h1) (by simpa using h2)
    cases p0 <;> simpa [blks] using this
  | [], _, _, _, _, _, h, _ => by simp at h
  | _ :: _, [], _, _, _, _, _, h => by simp at h
theorem blks_set : ∀ {ps : List (Option Nat)} {F : List (Flo × Bool)} {i : Nat} {g f : Flo} {c c' : Bool} {b : Nat}, ps[i]? = some (some b) → F[i]? = some (g, c) →
    (blks ps F).set i (cel b 67 (floC f)) = blks ps (F.set i (f, c'))
  | p0 :: ps, (f0, c0) :: F, 0, g, f, c, c', b, h1, h2 => by
    simp at h1; subst h1; simp [blks]
  | p0 :: ps, (f0, c0) :: F, i + 1, g, f, c, c', b, h1, h2 => by
    have := blks_set (ps := ps) (F := F) (i := i) (g := g) (f := f) (c := c) (c' := c') (b := b) (by simpa using h1) (by simpa using h2)
    cases p0 <;> simp [blks, this]
  | [], _, _, _, _, _, _, _, h, _ => by simp at h
  | _ :: _, [], _, _, _, _, _, _, _, h => by simp at h
theorem blks_gone : ∀ {ps : List (Option Nat)} {F : List (Flo × Bool)} {i : Nat} {g f : Flo} {c c' : Bool} {b : Nat}, ps[i]? = some (some b) → F[i]? = some (g, c) →
    (blks ps F).set i (SP.pu True) = blks (ps.set i none) (F.set i (f, c'))
  | p0 :: ps, (f0, c0) :: F, 0, g, f, c, c', b, h1, h2 => by
    simp at h1; subst h1; simp [blks]
  | p0 :: ps, (f0, c0) :: F, i + 1, g, f, c, c', b, h1, h2 => by
    have := blks_gone (ps := ps) (F := F) (i := i) (g := g) (f := f) (c := c) (c' := c') (b := b) (by simpa using h1) (by simpa using h2)
    cases p0 <;> simp [blks, this]
  | [], _, _, _, _, _, _, _, h, _ => by simp at h
  | _ :: _, [], _, _, _, _, _, _, _, h => by simp at h
theorem blks_append : ∀ {ps : List (Option Nat)} {F : List (Flo × Bool)} {f : Flo} {c : Bool} {b : Nat}, ps.length = F.length → blks (ps ++ [some b]) (F ++ [(f, c)]) = blks ps F ++ [cel b 67 (floC f)]
  | [], [], _, _, _, _ => rfl
  | some b0 :: ps, (f0, c0) :: F, f, c, b, h => by simp only [List.cons_append, blks]; rw [blks_append (by simpa using h)]
  | none :: ps, (f0, c0) :: F, f, c, b, h => by simp only [List.cons_append, blks]; rw [blks_append (by simpa using h)]
  | [], _ :: _, _, _, _, h => by simp at h
  | _ :: _, [], _, _, _, h => by simp at h

theorem perm_set {α : Type} : ∀ {l : List α} {i : Nat} {A B : α}, l[i]? = some A → (B :: l.eraseIdx i).Perm (l.set i B)
  | _ :: l, 0, A, B, _ => by simp
  | x :: l, i + 1, A, B, h => by
    simp only [List.eraseIdx_cons_succ, List.set_cons_succ]
    exact (List.Perm.swap x B _).trans ((perm_set (A := A) (by simpa using h)).cons x)
  | [], i, A, B, h => by simp at h
/-- One part of several taken to the front. -/
theorem Own.focus {l : List SP} {i : Nat} {A : SP} (h : l[i]? = some A) (o : Own w (SP.st l :: R)) : Own w (A :: SP.st (l.eraseIdx i) :: R) := by
  have o1 := Own.st.1 o
  have o2 : Own w (A :: (l.eraseIdx i ++ R)) := o1.perm ((perm_up i l A h).append_right R)
  have o3 : Own w (l.eraseIdx i ++ (A :: R)) := o2.perm List.perm_middle.symm
  exact (Own.st.2 o3).swap
/-- .. and laid back, turned. -/
theorem Own.unfocus {l : List SP} {i : Nat} {A B : SP} (h : l[i]? = some A) (o : Own w (B :: SP.st (l.eraseIdx i) :: R)) : Own w (SP.st (l.set i B) :: R) := by
  have o1 := Own.st.1 o.swap
  have o2 : Own w (B :: (l.eraseIdx i ++ R)) := o1.perm List.perm_middle
  exact Own.st.2 (o2.perm ((perm_set h).append_right R))
theorem Own.puT (o : Own w R) : Own w (SP.pu True :: R) := Own.pu.2 ⟨trivial, o⟩

theorem weighty_spec (x : Int) : Calls Tryd.prog 25 #[.int .i64 x] w (IsRet (.bool (decide (1 ≤ x ∧ x ≤ 16))) w) := by
  go_enter Tryd.func25, Tryd.ntmps25
  go_wp2
  all_goals go_ret
  all_goals refine ⟨congrArg Ending.returned (congrArg Value.bool ?_), rfl⟩
  all_goals
    rw [Bool.eq_iff_iff]
    simp only [decide_eq_true_eq, Bool.decide_and, Bool.and_eq_true, Bool.false_eq_true, false_iff]
    omega

theorem total_spec (o : Own w (FlowP b T :: R)) : Calls Tryd.prog 11 #[.pointer (some ⟨b, 0, none⟩)] w (IsRet (.int .i64 (totF T.F)) w) := by
  obtain ⟨sa, sc, mb, fa, fc, ps, hp, o1⟩ := FlowP.iff.1 o
  have c5 := o1.cell 5
  go_enter Tryd.func11, Tryd.ntmps11
  go_wp2
  go_ret
  exact ⟨rfl, rfl⟩

def newFE (c r : Int) : Int := if c < 1 ∨ 512 < c ∨ r < 1 ∨ 12 < r then 1 else 0
set_option maxHeartbeats 1600000 in
theorem flNew_bad (c r : Int) (h : newFE c r ≠ 0) : Calls Tryd.prog 9 #[.int .i64 c, .int .i64 r] w (IsRet (.tuple #[.pointer none, .int .i64 1]) w) := by
  have h2 : c < 1 ∨ 512 < c ∨ r < 1 ∨ 12 < r := by unfold newFE at h; split at h; · assumption
                                                   · omega
  have H2 := Lib.hid h2
  clear h h2
  go_enter Tryd.func9, Tryd.ntmps9
  go_wp2
  all_goals first
    | (go_ret2; exact ⟨rfl, rfl⟩)
    | (exfalso; have := H2.out; omega)
set_option maxHeartbeats 1600000 in
theorem flNew_spec (c r : Int) (hc : 1 ≤ c ∧ c ≤ 512) (hr : 1 ≤ r ∧ r ≤ 12) (o : Own w R) :
    Calls Tryd.prog 9 #[.int .i64 c, .int .i64 r] w fun e w' => ∃ b, e = .returned (.tuple #[.pointer (some ⟨b, 0, none⟩), .int .i64 0]) ∧ Own w' (FlowP b ⟨c, r, [], []⟩ :: R) ∧ Calm w w' := by
  obtain ⟨hc1, hc2⟩ := hc
  obtain ⟨hr1, hr2⟩ := hr
  have e1 : decide (c < 1) = false := decide_eq_false (by omega)
  have e2 : decide (512 < c) = false := decide_eq_false (by omega)
  have e3 : decide (r < 1) = false := decide_eq_false (by omega)
  have e4 : decide (12 < r) = false := decide_eq_false (by omega)
  have hmm := @run_makeMap Tryd.prog
  have o1 := o.mpS_made (f := Value.int .i64) (α := Int)
  have o2 := o1.alloc (.cells #[.int .i64 c, .int .i64 r, .slice none 0 0, .map (some w.heap.size), .slice none 0 0, .int .i64 0] 59)
  go_enter Tryd.func9, Tryd.ntmps9
  go_wp2
  go_ret2
  refine ⟨_, rfl, FlowP.iff.2 ⟨none, 0, w.heap.size, none, 0, [], rfl, ?_⟩, ⟨rfl, rfl, rfl⟩⟩
  simp only [World.size_alloc] at o2
  have oE := (Own.st (m := [])).2 o2
  have o4 := Own.slc_nil (e := 64) (size := 4) (Own.slc_nil (e := 65) (size := 1) oE)
  exact o4.re [3, 0, 4, 1, 2]

/-- What the program's 'flow' gives. -/
def flowPtr (ps : List (Option Nat)) (f : Int) : Option Nat := if f < 0 then none else (ps[f.toNat]?).join
set_option maxHeartbeats 1600000 in
theorem flow_get (f : Int) {sa fa : Option Addr} {sc mb fc : Nat} {ps : List (Option Nat)} (hp : PtrOk ps T.F) (hl : T.F.length ≤ 32)
    (o : Own w (cel b 59 [.int .i64 T.cap, .int .i64 T.rates, .slice sa T.S.length sc, .map (some mb), .slice fa T.F.length fc, .int .i64 (totF T.F)] ::
      slc 64 4 sa T.S.length sc (flat staC T.S) :: mpS (Value.int .i64) mb (nmMap T.S) :: slc 65 1 fa T.F.length fc (ps.map ptrV) :: st (blks ps T.F) :: R)) :
    Calls Tryd.prog 26 #[.pointer (some ⟨b, 0, none⟩), .int .i64 f] w (IsRet (ptrV (flowPtr ps f)) w) := by
  have hpl := hp.len
  have c4 := o.cell 4
  unfold flowPtr
  by_cases h0 : f < 0
  · rw [if_pos h0]
    go_enter Tryd.func26, Tryd.ntmps26
    go_wp2
    go_ret
    exact ⟨rfl, rfl⟩
  · rw [if_neg h0]
    obtain ⟨i, rfl⟩ : ∃ i : Nat, f = (i : Int) := ⟨f.toNat, by omega⟩
    rw [Int.toNat_natCast]
    by_cases h1 : i < T.F.length
    · obtain ⟨p, hpi⟩ : ∃ p, ps[i]? = some p := ⟨_, List.getElem?_eq_getElem (by omega)⟩
      rw [hpi]
      obtain ⟨g, rfl, hc, _, _⟩ := (o.up 3).slc_cell (by omega)
      have d := hc i (ptrV p) (by rw [List.getElem?_map, hpi]; rfl)
      clear hc hpi
      show Calls _ _ _ _ (IsRet (ptrV p) w)
      obtain ⟨v, hv⟩ : ∃ v, ptrV p = v := ⟨_, rfl⟩
      rw [hv] at d ⊢
      clear hv
      go_enter Tryd.func26, Tryd.ntmps26
      go_wp2
      go_ret
      exact ⟨rfl, rfl⟩
    · rw [List.getElem?_eq_none (by omega)]
      have h1' : (T.F.length : Int) ≤ (i : Int) := by omega
      go_enter Tryd.func26, Tryd.ntmps26
      go_wp2
      go_ret
      exact ⟨rfl, rfl⟩
theorem flowPtr_none {ps : List (Option Nat)} {F : List (Flo × Bool)} (hp : PtrOk ps F) {f : Int} (h : getF F f = none) : flowPtr ps f = none := by
  have hl := hp.len
  unfold flowPtr
  rcases getF_none h with h1 | h1 | ⟨i, g, rfl, hg, hi⟩
  · rw [if_pos h1]
  · split
    · rfl
    · rw [List.getElem?_eq_none (by omega)]; rfl
  · rw [if_neg (by omega), Int.toNat_natCast]
    obtain ⟨p, h2, h3⟩ := hp.at hg
    rw [h2]
    cases p with
    | none => rfl
    | some x => simp at h3
theorem flowPtr_some {ps : List (Option Nat)} {F : List (Flo × Bool)} (hp : PtrOk ps F) {f : Int} {g : Flo} (h : getF F f = some g) : ∃ (i c : Nat), f = (i : Int) ∧ F[i]? = some (g, true) ∧ ps[i]? = some (some c) ∧ flowPtr ps f = some c ∧ i < F.length := by
  obtain ⟨i, rfl, hg, hi⟩ := getF_some h
  obtain ⟨p, h2, h3⟩ := hp.at hg
  cases p with
  | none => simp at h3
  | some c =>
    refine ⟨i, c, rfl, hg, h2, ?_, hi⟩
    unfold flowPtr
    rw [if_neg (by omega), Int.toNat_natCast, h2]; rfl
end
end Go.Proofs.YtladamlfbdbdgaaDoor
