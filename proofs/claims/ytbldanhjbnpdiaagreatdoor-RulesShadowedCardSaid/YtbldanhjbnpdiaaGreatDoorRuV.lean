/- Rules, plain: what a covered rule matches is matched by the covering one. -/
import Derived.Test.YtbldanhjbnpdiaaGreatDoorRuT
import Derived.Test.YtbldanhjbnpdiaaGreatDoorRuU
namespace Go.Proofs.YtbldanhjbnpdiaaGreatDoor
theorem cmpS_names {s t : List UInt8} (h : nameB s = true) (g : nameB t = true) : cmpS (mkB s) (mkB t) = 0 ↔ foldR s = foldR t := by
  unfold cmpS
  rw [if_pos (show nameB (mkB s).data.toList = true from h), if_pos (show nameB (mkB t).data.toList = true from g), cmpN_eq]
  exact Iff.rfl
theorem covOK_iff {a b : Ru} : covOK a b = true ↔ ruOK a = true ∧ ruOK b = true ∧ (a.st = [] ∨ cmpS (mkB a.st) (mkB b.st) = 0) ∧ (a.cls = -1 ∨ a.cls = b.cls) ∧ a.first ≤ b.first ∧ b.last ≤ a.last := by
  unfold covOK
  simp only [Bool.and_eq_true, Bool.or_eq_true, decide_eq_true_eq]
  constructor
  · rintro ⟨⟨⟨⟨⟨h1, h2⟩, h3⟩, h4⟩, h5⟩, h6⟩; exact ⟨h1, h2, h3, h4, h5, h6⟩
  · rintro ⟨h1, h2, h3, h4, h5, h6⟩; exact ⟨⟨⟨⟨⟨h1, h2⟩, h3⟩, h4⟩, h5⟩, h6⟩
theorem matOK_iff {a : Ru} {h : Hd} : matOK a h = true ↔ ruOK a = true ∧ hdOK h = true ∧ (a.st = [] ∨ cmpS (mkB a.st) (mkB h.st) = 0) ∧ (a.cls = -1 ∨ a.cls = h.cls) ∧ a.first ≤ h.port ∧ h.port ≤ a.last := by
  unfold matOK
  simp only [Bool.and_eq_true, Bool.or_eq_true, decide_eq_true_eq]
  constructor
  · rintro ⟨⟨⟨⟨⟨h1, h2⟩, h3⟩, h4⟩, h5⟩, h6⟩; exact ⟨h1, h2, h3, h4, h5, h6⟩
  · rintro ⟨h1, h2, h3, h4, h5, h6⟩; exact ⟨⟨⟨⟨⟨h1, h2⟩, h3⟩, h4⟩, h5⟩, h6⟩
theorem hdOK_name {h : Hd} (g : hdOK h = true) : nameB h.st = true := by
  unfold hdOK at g; rw [Bool.and_eq_true] at g; exact g.1
theorem hdOK_port {h : Hd} (g : hdOK h = true) : 0 ≤ h.port ∧ h.port ≤ 65535 := by
  unfold hdOK at g
  rw [Bool.and_eq_true, decide_eq_true_eq] at g
  exact ⟨g.2.2.2.1, g.2.2.2.2.1⟩
theorem ruOK_nums {r : Ru} (h : ruOK r = true) : -1 ≤ r.cls ∧ 0 ≤ r.first ∧ r.first ≤ r.last ∧ r.last ≤ 65535 := by
  unfold ruOK at h
  simp only [Bool.and_eq_true, decide_eq_true_eq] at h
  exact ⟨h.2.1, h.2.2.2.1, h.2.2.2.2.1, h.2.2.2.2.2.1⟩
/-- Covering is passed on to what is matched. -/
theorem cov_mat {a b : Ru} {h : Hd} (h1 : covOK a b = true) (h2 : matOK b h = true) : matOK a h = true := by
  rw [covOK_iff] at h1
  rw [matOK_iff] at h2 ⊢
  obtain ⟨a1, a2, a3, a4, a5, a6⟩ := h1
  obtain ⟨_, b2, b3, b4, b5, b6⟩ := h2
  refine ⟨a1, b2, ?_, ?_, by omega, by omega⟩
  · by_cases ha : a.st = []
    · exact .inl ha
    · right
      have c1 := a3.resolve_left ha
      have na := ruOK_name a1 ha
      have hb : ¬ b.st = [] := fun e => by rw [cmp_empty na e] at c1; cases c1
      have c2 := b3.resolve_left hb
      have nb := ruOK_name a2 hb
      have nh := hdOK_name b2
      rw [cmpS_names na nb] at c1
      rw [cmpS_names nb nh] at c2
      rw [cmpS_names na nh, c1, c2]
  · rcases a4 with e | e
    · exact .inl e
    · rcases b4 with f | f
      · exact .inl (e.trans f)
      · exact .inr (e.trans f)
theorem cov_self {a : Ru} (h : ruOK a = true) : covOK a a = true := by
  rw [covOK_iff]
  refine ⟨h, h, ?_, .inr rfl, Int.le_refl _, Int.le_refl _⟩
  by_cases ha : a.st = []
  · exact .inl ha
  · exact .inr ((cmpS_names (ruOK_name h ha) (ruOK_name h ha)).2 rfl)
/-- The rule that covers all. -/
def ruAll : Ru := ⟨[], -1, 0, 65535, 0⟩
theorem ruAll_ok : ruOK ruAll = true := rfl
theorem cov_all {x : Ru} (h : ruOK x = true) : covOK ruAll x = true := by
  have := ruOK_nums h
  rw [covOK_iff]
  exact ⟨ruAll_ok, h, .inl rfl, .inl rfl, by show 0 ≤ x.first; omega, by show x.last ≤ 65535; omega⟩
theorem mat_all {h : Hd} (g : hdOK h = true) : matOK ruAll h = true := by
  have := hdOK_port g
  rw [matOK_iff]
  exact ⟨ruAll_ok, g, .inl rfl, .inl rfl, by show 0 ≤ h.port; omega, by show h.port ≤ 65535; omega⟩
end Go.Proofs.YtbldanhjbnpdiaaGreatDoor
