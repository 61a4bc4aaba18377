/- CompRebase, the plain law: an order that is rebased and one that is not select the same flows. -/
import Derived.Test.YtnandakoigmknaaCompP
namespace Go.Proofs.Ytnandakoigmknaa
open Go.RowKit
open SP

theorem leastL_shift {tgA tgB : List (Int × Int)} {s : Int} : ∀ (ks : List Int) (best : Int), (∀ k ∈ ks, tget tgB k = tget tgA k + s) → (best < 0 ∨ tget tgB best = tget tgA best + s) → leastL tgB ks best = leastL tgA ks best
  | [], _, _, _ => rfl
  | f :: ks, best, h, hb => by
    have hf := h f (by simp)
    have hks : ∀ k ∈ ks, tget tgB k = tget tgA k + s := fun k hk => h k (by simp [hk])
    unfold leastL
    by_cases hc : best < 0 ∨ tget tgA f < tget tgA best
    · rw [if_pos hc, if_pos (by omega)]
      exact leastL_shift ks f hks (.inr hf)
    · rw [if_neg hc, if_neg (by omega)]
      exact leastL_shift ks best hks hb

structure RInv (s : Int) (i : Nat) (el tgA : List (Int × Int)) (tmA : Int) (tgB : List (Int × Int)) (tmB : Int) : Prop where
  a : SInv 4096 i el tgA tmA
  b : SInv 4096 i el tgB tmB
  tm : tmB = tmA + s
  eff : ∀ f, max (tget tgB f) tmB = max (tget tgA f) tmA + s

section
variable {s : Int} {i : Nat} {el tgA tgB : List (Int × Int)} {tmA tmB : Int}

theorem RInv.start : RInv 0 0 [] [] 0 [] 0 := ⟨SInv.start (by decide), SInv.start (by decide), rfl, fun f => by simp⟩

theorem RInv.on (h : RInv s i el tgA tmA tgB tmB) {k : Int} (hk : k ∈ el.map (·.1)) : tget tgB k = tget tgA k + s := by
  obtain ⟨p, hp, rfl⟩ := List.mem_map.1 hk
  have h1 := h.a.low p hp
  have h2 := h.b.low p hp
  have h3 := h.eff p.1
  omega

theorem RInv.least (h : RInv s i el tgA tmA tgB tmB) : leastF el tgB = leastF el tgA := by
  unfold leastF
  exact leastL_shift _ _ (fun k hk => h.on (sortK_mem.1 hk)) (.inl (by omega))

theorem RInv.elig (h : RInv s i el tgA tmA tgB tmB) {l : List (Int × Int)} (hl : l.Sublist fullSet) : RInv s i (eligEl l []) (eligTg el tmA l tgA) tmA (eligTg el tmB l tgB) tmB := by
  refine ⟨h.a.elig hl, h.b.elig hl, h.tm, fun f => ?_⟩
  have := h.eff f
  rw [eligTg_get, eligTg_get]
  split <;> omega

theorem RInv.lowA {s : Int} (h : RInv s i el tgA tmA tgB tmB) (hs : SInv 4096 i el (lower tmA tgA) (tmA - tmA)) : RInv (s + tmA) i el (lower tmA tgA) (tmA - tmA) tgB tmB := by
  have h0 := h.a.tm0.1
  refine ⟨hs, h.b, by have := h.tm; omega, fun f => ?_⟩
  have := h.eff f
  rw [tget_lower _ h0]
  omega
theorem RInv.lowB {s : Int} (h : RInv s i el tgA tmA tgB tmB) (hs : SInv 4096 i el (lower tmB tgB) (tmB - tmB)) : RInv (s - tmB) i el tgA tmA (lower tmB tgB) (tmB - tmB) := by
  have h0 := h.b.tm0.1
  refine ⟨h.a, hs, by have := h.tm; omega, fun f => ?_⟩
  have := h.eff f
  rw [tget_lower _ h0]
  omega

theorem RInv.serve (h : RInv s i el tgA tmA tgB tmB) (hi : i ≤ 100) {f : Int} (hf : f ∈ el.map (·.1)) (hle : leastF el tgA = f) {len : Int} (h1 : 1 ≤ len) (h2 : len ≤ 4096)
    (hget : ∀ tg tm, SInv 4096 i el tg tm → ∀ g, tget (servTg el tg f len) g = if g = f then tget tg f + len * unit1 (wf f) else tget tg g) :
    RInv s (i + 1) el (servTg el tgA f len) (servTm tgA tmA f) (servTg el tgB f len) (servTm tgB tmB f) := by
  have hne : el ≠ [] := by rintro rfl; simp at hf
  have hlb : leastF el tgB = f := by rw [h.least]; exact hle
  have ha := (h.a.serve hi hne h1 h2).2.2.2.1
  have hb := (h.b.serve hi hne h1 h2).2.2.2.1
  rw [hle] at ha
  rw [hlb] at hb
  have hon := h.on hf
  obtain ⟨p, hp, hpf⟩ := List.mem_map.1 hf
  have la := h.a.low p hp
  have lb := h.b.low p hp
  rw [hpf] at la lb
  have ta : servTm tgA tmA f = tget tgA f := by unfold servTm; omega
  have tb : servTm tgB tmB f = tget tgB f := by unfold servTm; omega
  refine ⟨ha, hb, by rw [ta, tb]; exact hon, fun g => ?_⟩
  have heg := h.eff g
  rw [ta, tb, hget _ _ h.a, hget _ _ h.b]
  split <;> omega
end
end Go.Proofs.Ytnandakoigmknaa
