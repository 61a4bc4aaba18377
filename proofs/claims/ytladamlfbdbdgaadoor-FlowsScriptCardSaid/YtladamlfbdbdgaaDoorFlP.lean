/- The table of stations and flows: an abstract state and its operations, in plain Lean. -/
import Derived.Test.YtladamlfbdbdgaaDoorLabS
import Derived.Test.YtladamlfbdbdgaaDoorMapS
namespace Go.Proofs.YtladamlfbdbdgaaDoor
open Go.RowKit
open SP

structure Sta where
  id : Int
  nm : ByteArray
  wt : Int
  rate : Int
structure Flo where
  id : Int
  stn : Int
  wt : Int
  pk : Int
  bts : Int
  lag : Int
  lead : Int
def staC (s : Sta) : List Value := [.int .i64 s.id, .string s.nm, .int .i64 s.wt, .int .i64 s.rate]
def floC (f : Flo) : List Value := [.int .i64 f.id, .int .i64 f.stn, .int .i64 f.wt, .int .i64 f.pk, .int .i64 f.bts, .int .i64 f.lag, .int .i64 f.lead]
theorem staC_len (s : Sta) : (staC s).length = 4 := rfl
theorem floC_len (f : Flo) : (floC f).length = 7 := rfl

/-- The table: a flow stands with whether it is there. -/
structure Tab where
  cap : Int
  rates : Int
  S : List Sta
  F : List (Flo × Bool)

def totF : List (Flo × Bool) → Int
  | [] => 0
  | (f, b) :: F => (if b = true then f.wt else 0) + totF F

structure Tab.Ok (T : Tab) : Prop where
  cap : 1 ≤ T.cap ∧ T.cap ≤ 512
  rates : 1 ≤ T.rates ∧ T.rates ≤ 12
  sl : T.S.length ≤ 16
  fl : T.F.length ≤ 32
  sid : ∀ (i : Nat) s, T.S[i]? = some s → s.id = (i : Int)
  snm : ∀ s ∈ T.S, nameB s.nm.data.toList = true
  fwt : ∀ p ∈ T.F, 1 ≤ p.1.wt ∧ p.1.wt ≤ 16
  tot : totF T.F ≤ T.cap

theorem totF_range : ∀ (F : List (Flo × Bool)), (∀ p ∈ F, 1 ≤ p.1.wt ∧ p.1.wt ≤ 16) → 0 ≤ totF F ∧ totF F ≤ 16 * F.length
  | [], _ => by simp [totF]
  | (f, b) :: F, h => by
    have ih := totF_range F fun p hp => h p (by simp [hp])
    have h0 := h (f, b) (by simp)
    unfold totF
    simp only [List.length_cons] at h0 ⊢
    split <;> omega
theorem totF_append (F G : List (Flo × Bool)) : totF (F ++ G) = totF F + totF G := by
  induction F with
  | nil => simp [totF]
  | cons p F ih => obtain ⟨f, b⟩ := p; simp only [List.cons_append, totF, ih]; omega
theorem totF_set : ∀ (F : List (Flo × Bool)) (i : Nat) (f g : Flo) (b c : Bool), F[i]? = some (f, b) → totF (F.set i (g, c)) = totF F - (if b = true then f.wt else 0) + (if c = true then g.wt else 0)
  | [], i, f, g, b, c, h => by simp at h
  | (f0, b0) :: F, 0, f, g, b, c, h => by
    simp at h; obtain ⟨rfl, rfl⟩ := h
    simp only [List.set_cons_zero, totF]; omega
  | (f0, b0) :: F, i + 1, f, g, b, c, h => by
    simp only [List.set_cons_succ, totF, totF_set F i f g b c (by simpa using h)]; omega

/-- The station with a name: where its folded name stands in the list. -/
def findG : List Sta → List Nat → Option Int
  | [], _ => none
  | s :: S, r => if foldR s.nm.data.toList = r then some s.id else findG S r
def findT (S : List Sta) (n : ByteArray) : Option Int := if nameB n.data.toList = true then findG S (foldR n.data.toList) else none
/-- The program's map of folded names. -/
def nmMap (S : List Sta) : List (ByteArray × Int) := S.map fun s => (foldS s.nm, s.id)

theorem ByteArray.mk_inj {a b : List UInt8} : (⟨a.toArray⟩ : ByteArray) = ⟨b.toArray⟩ ↔ a = b := by
  constructor
  · intro h
    have := congrArg (fun x : ByteArray => x.data.toList) h
    simpa using this
  · intro h; rw [h]

theorem sget_nmMap : ∀ (S : List Sta) (_ : ∀ s ∈ S, nameB s.nm.data.toList = true) (n : ByteArray) (_ : nameB n.data.toList = true), sget (nmMap S) (foldS n) = findG S (foldR n.data.toList)
  | [], _, _, _ => rfl
  | s :: S, h, n, hn => by
    have ih := sget_nmMap S (fun t ht => h t (by simp [ht])) n hn
    have h0 := h s (by simp)
    have hiff : foldS n = foldS s.nm ↔ foldR s.nm.data.toList = foldR n.data.toList := by
      unfold foldS
      rw [if_pos hn, if_pos h0, ByteArray.mk_inj, foldB_inj]
      exact eq_comm
    unfold nmMap at ih ⊢
    simp only [List.map_cons, sget, findG]
    by_cases hc : foldR s.nm.data.toList = foldR n.data.toList
    · rw [if_pos (hiff.2 hc), if_pos hc]
    · rw [if_neg (fun e => hc (hiff.1 e)), if_neg hc]
      exact ih
theorem sput_none {α : Type} : ∀ (m : List (ByteArray × α)) (k : ByteArray) (v : α), sget m k = none → sput m k v = m ++ [(k, v)]
  | [], _, _, _ => rfl
  | (k0, v0) :: m, k, v, h => by
    unfold sget at h
    split at h
    · cases h
    · rename_i hk
      unfold sput
      rw [if_neg hk, sput_none m k v h]; rfl

/-! ### The operations -/
def badW (w : Int) : Prop := ¬ (1 ≤ w ∧ w ≤ 16)
instance (w : Int) : Decidable (badW w) := inferInstanceAs (Decidable (¬ _))
def staErr (T : Tab) (n : ByteArray) (w r : Int) : Int :=
  if nameB n.data.toList = false ∨ badW w ∨ r < 0 ∨ T.rates ≤ r then 1 else if (findT T.S n).isSome = true then 7 else if T.S.length = 16 then 4 else 0
def staId (T : Tab) (n : ByteArray) (w r : Int) : Int := if staErr T n w r = 0 then (T.S.length : Int) else 0
def staT (T : Tab) (n : ByteArray) (w r : Int) : Tab := if staErr T n w r = 0 then { T with S := T.S ++ [⟨T.S.length, n, w, r⟩] } else T
def newF (T : Tab) (s w : Int) : Flo := ⟨T.F.length, s, w, 64, 262144, 1099511627776, 1099511627776⟩
def floErr (T : Tab) (s w : Int) : Int :=
  if s < 0 ∨ (T.S.length : Int) ≤ s then 6 else if badW w then 1 else if T.F.length = 32 then 4 else if T.cap < totF T.F + w then 12 else 0
def floId (T : Tab) (s w : Int) : Int := if floErr T s w = 0 then (T.F.length : Int) else 0
def floT (T : Tab) (s w : Int) : Tab := if floErr T s w = 0 then { T with F := T.F ++ [(newF T s w, true)] } else T
/-- The flow, if it is there. -/
def getF (F : List (Flo × Bool)) (f : Int) : Option Flo := if f < 0 then none else match F[f.toNat]? with
  | some (g, true) => some g
  | _ => none
def setF (F : List (Flo × Bool)) (f : Int) (g : Flo) : List (Flo × Bool) := F.set f.toNat (g, true)
def wtErr (T : Tab) (f w : Int) : Int := match getF T.F f with
  | none => 6
  | some g => if badW w then 1 else if T.cap < totF T.F - g.wt + w then 12 else 0
def wtT (T : Tab) (f w : Int) : Tab := match getF T.F f with
  | none => T
  | some g => if wtErr T f w = 0 then { T with F := setF T.F f { g with wt := w } } else T
def capErr (T : Tab) (f p n : Int) : Int := match getF T.F f with
  | none => 6
  | some _ => if p < 1 ∨ 64 < p ∨ n < 1 ∨ 262144 < n then 1 else 0
def capT (T : Tab) (f p n : Int) : Tab := match getF T.F f with
  | none => T
  | some g => if capErr T f p n = 0 then { T with F := setF T.F f { g with pk := p, bts := n } } else T
def bndErr (T : Tab) (f p n : Int) : Int := match getF T.F f with
  | none => 6
  | some _ => if p < 0 ∨ 1099511627776 < p ∨ n < 0 ∨ 1099511627776 < n then 1 else 0
def bndT (T : Tab) (f p n : Int) : Tab := match getF T.F f with
  | none => T
  | some g => if bndErr T f p n = 0 then { T with F := setF T.F f { g with lag := p, lead := n } } else T
def rmErr (T : Tab) (f : Int) : Int := match getF T.F f with
  | none => 6
  | some _ => 0
def rmT (T : Tab) (f : Int) : Tab := match getF T.F f with
  | none => T
  | some g => { T with F := T.F.set f.toNat (g, false) }

theorem getF_some {F : List (Flo × Bool)} {f : Int} {g : Flo} (h : getF F f = some g) : ∃ i : Nat, f = (i : Int) ∧ F[i]? = some (g, true) ∧ i < F.length := by
  unfold getF at h
  split at h
  · cases h
  · rename_i h0
    split at h
    · rename_i g' hg
      cases h
      exact ⟨f.toNat, by omega, hg, (List.getElem?_eq_some_iff.1 hg).1⟩
    · cases h
theorem getF_none {F : List (Flo × Bool)} {f : Int} (h : getF F f = none) : f < 0 ∨ (F.length : Int) ≤ f ∨ ∃ (i : Nat) (g : Flo), f = (i : Int) ∧ F[i]? = some (g, false) ∧ i < F.length := by
  unfold getF at h
  split at h
  · exact .inl (by assumption)
  · rename_i h0
    by_cases hl : f.toNat < F.length
    · obtain ⟨⟨g, b⟩, hg⟩ : ∃ p, F[f.toNat]? = some p := ⟨_, List.getElem?_eq_getElem hl⟩
      rw [hg] at h
      cases b with
      | true => cases h
      | false => exact .inr (.inr ⟨f.toNat, g, by omega, hg, hl⟩)
    · exact .inr (.inl (by omega))

section
variable {T : Tab}
theorem Tab.Ok.staT (h : T.Ok) (n : ByteArray) (w r : Int) : (staT T n w r).Ok := by
  unfold Go.Proofs.YtladamlfbdbdgaaDoor.staT
  split
  · rename_i he
    unfold staErr at he
    split at he
    · omega
    · rename_i h1
      split at he
      · omega
      · split at he
        · omega
        · rename_i h2
          have hn : nameB n.data.toList = true := by
            cases hc : nameB n.data.toList with
            | true => rfl
            | false => exact absurd (.inl hc) h1
          have := h.sl
          refine ⟨h.cap, h.rates, by simp; omega, h.fl, ?_, ?_, h.fwt, h.tot⟩
          · intro i s hs
            by_cases hi : i < T.S.length
            · rw [List.getElem?_append_left hi] at hs; exact h.sid i s hs
            · rw [List.getElem?_append_right (by omega)] at hs
              have : i - T.S.length = 0 := by have := (List.getElem?_eq_some_iff.1 hs).1; simp at this; omega
              rw [this] at hs; simp at hs; subst hs
              show (T.S.length : Int) = i; omega
          · intro s hs
            rcases List.mem_append.1 hs with hs | hs
            · exact h.snm s hs
            · simp at hs; subst hs; exact hn
  · exact h
theorem Tab.Ok.floT (h : T.Ok) (s w : Int) : (floT T s w).Ok := by
  unfold Go.Proofs.YtladamlfbdbdgaaDoor.floT
  split
  · rename_i he
    unfold floErr at he
    split at he
    · omega
    · split at he
      · omega
      · rename_i h1
        split at he
        · omega
        · split at he
          · omega
          · rename_i h2 h3
            have := h.fl
            have hw : 1 ≤ w ∧ w ≤ 16 := by unfold badW at h1; omega
            refine ⟨h.cap, h.rates, h.sl, by simp; omega, h.sid, h.snm, ?_, ?_⟩
            · intro p hp
              rcases List.mem_append.1 hp with hp | hp
              · exact h.fwt p hp
              · simp at hp; subst hp; exact hw
            · rw [totF_append]; simp only [totF, newF]; simp; omega
  · exact h
theorem Tab.Ok.setF (h : T.Ok) {i : Nat} {g g' : Flo} (hg : T.F[i]? = some (g, true)) (hw : 1 ≤ g'.wt ∧ g'.wt ≤ 16) (ht : totF T.F - g.wt + g'.wt ≤ T.cap) : Tab.Ok { T with F := T.F.set i (g', true) } := by
  refine ⟨h.cap, h.rates, h.sl, by simp; exact h.fl, h.sid, h.snm, ?_, ?_⟩
  · intro p hp
    rcases List.mem_or_eq_of_mem_set hp with hp | rfl
    · exact h.fwt p hp
    · exact hw
  · simp only [totF_set T.F i g g' true true hg, if_true]; omega
theorem Tab.Ok.wtOf (h : T.Ok) {i : Nat} {g : Flo} {b : Bool} (hg : T.F[i]? = some (g, b)) : 1 ≤ g.wt ∧ g.wt ≤ 16 := h.fwt _ (List.mem_of_getElem? hg)
theorem Tab.Ok.wtT (h : T.Ok) (f w : Int) : (wtT T f w).Ok := by
  unfold Go.Proofs.YtladamlfbdbdgaaDoor.wtT
  cases hg : getF T.F f with
  | none => exact h
  | some g =>
    obtain ⟨i, rfl, hi, _⟩ := getF_some hg
    dsimp only
    split
    · rename_i he
      unfold wtErr at he
      rw [hg] at he
      dsimp only at he
      split at he
      · omega
      · rename_i h1
        split at he
        · omega
        · exact h.setF hi (g' := { g with wt := w }) (by unfold badW at h1; dsimp only; omega) (by dsimp only; omega)
    · exact h
theorem Tab.Ok.same (h : T.Ok) {f : Int} {g g' : Flo} (hg : getF T.F f = some g) (hw : g'.wt = g.wt) : Tab.Ok { T with F := Go.Proofs.YtladamlfbdbdgaaDoor.setF T.F f g' } := by
  obtain ⟨i, rfl, hi, _⟩ := getF_some hg
  have := h.wtOf hi
  have := h.tot
  exact h.setF hi (by omega) (by omega)
theorem Tab.Ok.capT (h : T.Ok) (f p n : Int) : (capT T f p n).Ok := by
  unfold Go.Proofs.YtladamlfbdbdgaaDoor.capT
  cases hg : getF T.F f with
  | none => exact h
  | some g =>
    dsimp only
    split
    · exact h.same hg rfl
    · exact h
theorem Tab.Ok.bndT (h : T.Ok) (f p n : Int) : (bndT T f p n).Ok := by
  unfold Go.Proofs.YtladamlfbdbdgaaDoor.bndT
  cases hg : getF T.F f with
  | none => exact h
  | some g =>
    dsimp only
    split
    · exact h.same hg rfl
    · exact h
theorem Tab.Ok.rmT (h : T.Ok) (f : Int) : (rmT T f).Ok := by
  unfold Go.Proofs.YtladamlfbdbdgaaDoor.rmT
  cases hg : getF T.F f with
  | none => exact h
  | some g =>
    obtain ⟨i, rfl, hi, _⟩ := getF_some hg
    have hw := h.wtOf hi
    have ht := h.tot
    refine ⟨h.cap, h.rates, h.sl, by simp; exact h.fl, h.sid, h.snm, ?_, ?_⟩
    · intro p hp
      rcases List.mem_or_eq_of_mem_set hp with hp | rfl
      · exact h.fwt p hp
      · exact hw
    · show totF (T.F.set (i : Int).toNat (g, false)) ≤ T.cap
      rw [Int.toNat_natCast, totF_set T.F i g g true false hi]; simp; omega
theorem Tab.Ok.new (c r : Int) (hc : 1 ≤ c ∧ c ≤ 512) (hr : 1 ≤ r ∧ r ≤ 12) : Tab.Ok ⟨c, r, [], []⟩ :=
  ⟨hc, hr, by simp, by simp, by simp, by simp, by simp, by simp [totF]; omega⟩
end
end Go.Proofs.YtladamlfbdbdgaaDoor
