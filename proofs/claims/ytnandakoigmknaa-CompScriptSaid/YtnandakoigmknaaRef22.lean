/- The reference order of chapter 22: its block, at, NewOrder, Tag. -/
import Derived.Test.YtnandakoigmknaaCompP
import Derived.Test.YtnandakoigmknaaSpread
import Derived.Test.YtnandakoigmknaaRe
namespace Go.Proofs.Ytnandakoigmknaa
open Go.RowKit
open SP

/-- The cells of a reference order. -/
def refCells (reb : Int) (a : Option Addr) (n c : Nat) (tags : List Int) (now : Int) : List Value := [.int .i64 reb, .slice a n c] ++ (tags.map (Value.int .i64) ++ [.int .i64 now])

/-- The list of eligible flows may lie in a pool S that others read, too. -/
def RefR (S : SP) (b : Nat) (reb : Int) (l : List (Int × Int)) (tags : List Int) (now : Int) : SP := ex fun (p : Option Addr × Nat) =>
  st [pu (tags.length = 32 ∧ PartsAt S p.1 l ∧ l.length ≤ p.2), cel b 55 (refCells reb p.1 l.length p.2 tags now)]
/-- What can be read in a pool can be read in a greater one. -/
def PExt (S S' : SP) : Prop := ∀ a l, PartsAt S a l → PartsAt S' a l

section
variable {S : SP} {W w w' : World} {R : List SP} {b : Nat} {reb now : Int} {l : List (Int × Int)} {tags : List Int}

theorem RefR.iff : Own w (RefR S b reb l tags now :: R) ↔ ∃ a c, tags.length = 32 ∧ (PartsAt S a l ∧ l.length ≤ c) ∧ Own w (cel b 55 (refCells reb a l.length c tags now) :: R) := by
  constructor
  · intro o
    obtain ⟨⟨a, c⟩, h⟩ := Own.ex.1 o
    obtain ⟨⟨h1, h2⟩, h3⟩ := Own.pu.1 (Own.st.1 h)
    exact ⟨a, c, h1, h2, h3⟩
  · rintro ⟨a, c, h1, h2, h3⟩
    exact Own.ex.2 ⟨(a, c), Own.st.2 (Own.pu.2 ⟨⟨h1, h2⟩, h3⟩)⟩
theorem RefR.mono {S' : SP} (h : PExt S S') (o : Own w (RefR S b reb l tags now :: R)) : Own w (RefR S' b reb l tags now :: R) := by
  obtain ⟨a, c, h1, h2, h3⟩ := RefR.iff.1 o
  exact RefR.iff.2 ⟨a, c, h1, ⟨h _ _ h2.1, h2.2⟩, h3⟩
theorem PExt.refl (S : SP) : PExt S S := fun _ _ h => h
theorem PExt.trans {A B C : SP} (h : PExt A B) (k : PExt B C) : PExt A C := fun _ _ x => k _ _ (h _ _ x)
theorem PExt.add (A S : SP) : PExt S (st [A, S]) := fun _ _ h w R o i y hy => h w _ ((Own.st.1 o).up 1) i y hy
theorem PartsAt.new {S A : SP} {a : Option Addr} (h : PartsAt A a l) : PartsAt (st [A, S]) a l := fun w R o i y hy => h w _ (Own.st.1 o) i y hy

theorem refCells_tag {a : Option Addr} {n c i : Nat} {t : Int} (h : tags[i]? = some t) : (refCells reb a n c tags now)[2 + i]? = some (.int .i64 t) := by
  unfold refCells
  rw [List.getElem?_append_right (by simp)]
  simp only [List.length_cons, List.length_nil]
  rw [show 2 + i - (0 + 1 + 1) = i from by omega, List.getElem?_append_left (by rw [List.length_map]; exact (List.getElem?_eq_some_iff.1 h).1), List.getElem?_map, h]
  rfl
theorem refCells_now {a : Option Addr} {n c : Nat} (h : tags.length = 32) : (refCells reb a n c tags now)[34]? = some (.int .i64 now) := by
  unfold refCells
  rw [List.getElem?_append_right (by simp), List.getElem?_append_right (by simp; omega)]
  simp [h]
theorem refCells_setTag {a : Option Addr} {n c i : Nat} {v : Int} (h : i < tags.length) : (refCells reb a n c tags now).set (2 + i) (.int .i64 v) = refCells reb a n c (tags.set i v) now := by
  unfold refCells
  rw [List.set_append_right _ _ (by simp)]
  simp only [List.length_cons, List.length_nil]
  rw [show 2 + i - (0 + 1 + 1) = i from by omega, List.set_append_left _ _ (by rw [List.length_map]; exact h), List.map_set]
theorem refCells_setNow {a : Option Addr} {n c : Nat} {v : Int} (h : tags.length = 32) : (refCells reb a n c tags now).set 34 (.int .i64 v) = refCells reb a n c tags v := by
  unfold refCells
  rw [List.set_append_right _ _ (by simp), List.set_append_right _ _ (by simp; omega)]
  simp [h]
theorem refCells_setIn {a a' : Option Addr} {n c n' c' : Nat} : (refCells reb a n c tags now).set 1 (.slice a' n' c') = refCells reb a' n' c' tags now := rfl

/-- Where a flow stands in a list, or -1. -/
def atF (f : Int) : Nat → List (Int × Int) → Int
  | _, [] => -1
  | i, p :: l => if p.1 = f then (i : Int) else atF f (i + 1) l

def AtRel (l : List (Int × Int)) (f T : Int) (w : World) (v : Value) (wr : World) : Prop :=
  ∃ i : Nat, v = .int .i64 (i : Int) ∧ i ≤ l.length ∧ atF f i (l.drop i) = T ∧ wr = w

set_option maxHeartbeats 800000 in
theorem at_spec {a : Option Addr} {n c : Nat} (f : Int) (hS : PartsAt S a l) (hn : n = l.length) (hn2 : n ≤ 1000) (o : Own w (S :: R)) :
    Calls Try.prog 53 #[.slice a n c, .int .i64 f] w (IsRet (.int .i64 (atF f 0 l)) w) := by
  have hT : AtRel l f (atF f 0 l) w (.int .i64 0) w := ⟨0, rfl, by omega, rfl, rfl⟩
  generalize atF f 0 l = T at *
  have Hn := Lib.hid hn
  clear hn
  go_enter Try.func53, Try.ntmps53
  go_wp2
  go_loopw [5] (fun v wr => AtRel l f T w v wr) (fun v _ => n - (intOf v).toNat)
  case atStart => exact hT
  case round =>
    clear hT
    obtain ⟨i, rfl, hi, hE, rfl⟩ := hrel
    have HT := Lib.hid hE
    clear hE
    by_cases hlt : i < n
    · obtain ⟨p, hp⟩ : ∃ p, l[i]? = some p := ⟨_, List.getElem?_eq_getElem (by have := Hn.out; omega)⟩
      obtain ⟨g, so, rfl, d0, d1⟩ := hS _ _ o i _ hp
      have HD := Lib.hid (drop_cons hp)
      clear hp
      obtain ⟨x, y⟩ := p
      dsimp only at d0 d1
      by_cases hx : x = f
      · subst hx
        go_wp2
        go_ret
        refine ⟨?_, rfl⟩
        rw [← HT.out, HD.out, atF, if_pos rfl]; rfl
      · have hxb : (x == f) = false := by simpa using hx
        go_wp2
        go_roundw
        case rel => exact ⟨i + 1, by go_num, by have := Hn.out; omega, by rw [← HT.out, HD.out, atF, if_neg hx], rfl⟩
        case measure => simp [intOf]; omega
    · go_wp2
      go_ret
      refine ⟨?_, rfl⟩
      rw [← HT.out, List.drop_eq_nil_of_le (by have := Hn.out; omega)]; rfl

set_option maxHeartbeats 800000 in
theorem refTag_spec (f : Int) (o : Own w (RefR S b reb l tags now :: R)) :
    Calls Try.prog 50 #[.pointer (some ⟨b, 0, none⟩), .int .i64 f] w (IsRet (.int .i64 (if f < 0 ∨ 32 ≤ f then 0 else tags.getD f.toNat 0)) w) := by
  obtain ⟨a, c, hl, hP, o1⟩ := RefR.iff.1 o
  by_cases h1 : f < 0
  · rw [if_pos (.inl h1)]
    go_enter Try.func50, Try.ntmps50
    go_wp2
    go_ret
    exact ⟨rfl, rfl⟩
  · by_cases h2 : 32 ≤ f
    · rw [if_pos (.inr h2)]
      go_enter Try.func50, Try.ntmps50
      go_wp2
      go_ret
      exact ⟨rfl, rfl⟩
    · rw [if_neg (by omega)]
      obtain ⟨i, rfl⟩ : ∃ i : Nat, f = (i : Int) := ⟨f.toNat, by omega⟩
      obtain ⟨t, ht⟩ : ∃ t, tags[i]? = some t := ⟨_, List.getElem?_eq_getElem (by omega)⟩
      have htd : tags.getD ((i : Int)).toNat 0 = t := by rw [Int.toNat_natCast, List.getD_eq_getElem?_getD, ht]; rfl
      rw [htd]
      have d := o1.cell (2 + i) (refCells_tag ht)
      clear htd
      go_enter Try.func50, Try.ntmps50
      go_wp2
      go_ret
      exact ⟨rfl, rfl⟩

set_option maxHeartbeats 800000 in
set_option maxRecDepth 100000 in
theorem refNew_spec (r : Int) (h1 : 1 ≤ r) (h2 : r ≤ 1099511627776) (o : Own w R) :
    Calls Try.prog 23 #[.int .i64 r] w fun e w' => ∃ b, Ret (.tuple #[.pointer (some ⟨b, 0, none⟩), .int .i64 0]) (RefR S b r [] (List.replicate 32 0) 0 :: R) w e w' := by
  go_enter Try.func23, Try.ntmps23
  go_wp2
  go_ret2
  have o1 := o.alloc (.cells (refCells r none 0 0 (List.replicate 32 0) 0).toArray 55)
  exact ⟨_, rfl, RefR.iff.2 ⟨none, 0, by decide, ⟨fun _ _ _ _ _ h => by simp at h, Nat.le_refl _⟩, o1⟩, ⟨rfl, rfl, rfl⟩⟩
theorem goodWeight_spec (wt : Int) (w : World) : Calls Try.prog 79 #[.int .i64 wt] w (IsRet (.bool (decide (1 ≤ wt ∧ wt ≤ 16))) w) := by
  by_cases h1 : wt < 1
  · have : decide (1 ≤ wt ∧ wt ≤ 16) = false := by simp; omega
    rw [this]
    go_enter Try.func79, Try.ntmps79
    go_wp2
    go_ret
    exact ⟨rfl, rfl⟩
  · by_cases h2 : wt ≤ 16
    · have : decide (1 ≤ wt ∧ wt ≤ 16) = true := by simp; omega
      rw [this]
      go_enter Try.func79, Try.ntmps79
      go_wp2
      go_ret
      exact ⟨rfl, rfl⟩
    · have : decide (1 ≤ wt ∧ wt ≤ 16) = false := by simp; omega
      rw [this]
      go_enter Try.func79, Try.ntmps79
      go_wp2
      go_ret
      exact ⟨rfl, rfl⟩

set_option maxHeartbeats 800000 in
theorem refCost_spec (len wt : Int) (w : World) : Calls Try.prog 71 #[.int .i64 len, .int .i64 wt] w (IsRet (pairV (costF len wt)) w) := by
  have hw := goodWeight_spec wt w
  by_cases h : badLW len wt
  · have e : costF len wt = (0, 1) := if_pos h
    rw [e]; clear e
    by_cases h1 : len < 1
    · go_enter Try.func71, Try.ntmps71
      go_wp2
      go_ret2
      exact ⟨rfl, rfl⟩
    · by_cases h2 : 4096 < len
      · go_enter Try.func71, Try.ntmps71
        go_wp2
        go_ret2
        exact ⟨rfl, rfl⟩
      · have hd : decide (1 ≤ wt ∧ wt ≤ 16) = false := by unfold badLW at h; simp; omega
        rw [hd] at hw
        clear h hd
        go_enter Try.func71, Try.ntmps71
        go_wp2_with fail
        refine hw.mono ?_
        rintro e1 w1 ⟨rfl, rfl⟩
        go_wp2
        go_ret2
        exact ⟨rfl, rfl⟩
  · have e : costF len wt = (cst len wt, 0) := if_neg h
    rw [e]; clear e
    have h' : 1 ≤ len ∧ len ≤ 4096 ∧ 1 ≤ wt ∧ wt ≤ 16 := by unfold badLW at h; omega
    have hd : decide (1 ≤ wt ∧ wt ≤ 16) = true := by simp; omega
    rw [hd] at hw
    clear h hd
    obtain ⟨h1, h2, h3, h4⟩ := h'
    obtain ⟨c1, c2⟩ := cst_range h3 h4 h1 h2
    obtain ⟨u1, u2⟩ := unit1_range h3 h4
    have e1 : Int.tdiv 720720 wt = unit1 wt := rfl
    have e2 : len * unit1 wt = cst len wt := rfl
    generalize unit1 wt = u at *
    generalize cst len wt = z at *
    have hz : ¬ wt = 0 := by omega
    go_enter Try.func71, Try.ntmps71
    go_wp2_with fail
    refine hw.mono ?_
    rintro e1 w1 ⟨rfl, rfl⟩
    go_wp2
    go_ret2
    exact ⟨rfl, rfl⟩


/-- The reference's first flow with the least tag. -/
def selL (tags : List Int) : List (Int × Int) → Int → Int
  | [], k => k
  | p :: l, k => selL tags l (if tags.getD p.1.toNat 0 < tags.getD k.toNat 0 then p.1 else k)
def refSel (tags : List Int) : List (Int × Int) → Value
  | [] => .tuple #[.int .i64 0, .int .i64 5]
  | p :: l => .tuple #[.int .i64 (selL tags l p.1), .int .i64 0]

def SelRel (l : List (Int × Int)) (tags : List Int) (T : Int) (w : World) (v4 v5 : Value) (wr : World) : Prop :=
  ∃ (i : Nat) (k : Nat), v5 = .int .i64 (i : Int) ∧ v4 = .int .i64 (k : Int) ∧ k < 32 ∧ 1 ≤ i ∧ i ≤ l.length ∧ selL tags (l.drop i) k = T ∧ ∃ m, wr = w.drewN m

set_option maxHeartbeats 1600000 in
set_option maxRecDepth 100000 in
theorem refSelect_spec (hid : ∀ p ∈ l, 0 ≤ p.1 ∧ p.1 < 32) (hn2 : l.length ≤ 1000) (o : Own w (RefR S b reb l tags now :: S :: R)) :
    Calls Try.prog 49 #[.pointer (some ⟨b, 0, none⟩)] w (fun e w' => e = .returned (refSel tags l) ∧ ∃ m, w' = w.drewN m) := by
  obtain ⟨a, c, hl, hP, o1⟩ := RefR.iff.1 o
  have c1 := o1.cell 1
  cases l with
  | nil =>
    go_enter Try.func49, Try.ntmps49
    go_wp2
    go_ret2
    exact ⟨rfl, 0, rfl⟩
  | cons p l' =>
    obtain ⟨x, y⟩ := p
    have hx := hid (x, y) (by simp)
    dsimp only at hx
    obtain ⟨x0, rfl⟩ : ∃ x0 : Nat, x = (x0 : Int) := ⟨x.toNat, by omega⟩
    obtain ⟨g, so, rfl, d0, _⟩ := hP.1 _ _ (o1.up 1) 0 ((x0 : Int), y) rfl
    simp only [Nat.zero_mul, Nat.add_zero] at d0
    have hT : SelRel (((x0 : Int), y) :: l') tags (selL tags l' x0) w (.int .i64 x0) (.int .i64 1) w := ⟨1, x0, rfl, rfl, by omega, by omega, by simp, rfl, 0, rfl⟩
    have hres : refSel tags (((x0 : Int), y) :: l') = .tuple #[.int .i64 (selL tags l' x0), .int .i64 0] := rfl
    rw [hres]
    clear hres
    generalize selL tags l' x0 = T at *
    have hpos : 1 ≤ (((x0 : Int), y) :: l').length := by simp
    generalize (((x0 : Int), y) :: l') = L at *
    obtain ⟨n, hnl⟩ : ∃ n, L.length = n := ⟨_, rfl⟩
    rw [hnl] at c1 hpos hn2
    have Hn := Lib.hid hnl
    have hn0 : ((n : Int) == 0) = false := by simp; omega
    clear hnl
    go_enter Try.func49, Try.ntmps49
    go_wp2
    go_loopw [4, 5] (fun v4 v5 wr => SelRel L tags T w v4 v5 wr) (fun _ v5 _ => n - (intOf v5).toNat)
    case atStart => exact hT
    case round =>
      clear hT
      obtain ⟨i, k, rfl, rfl, hk, hi1, hi2, hE, m, rfl⟩ := hrel
      have HT := Lib.hid hE
      clear hE
      by_cases hlt : i < n
      · obtain ⟨q, hq⟩ : ∃ q, L[i]? = some q := ⟨_, List.getElem?_eq_getElem (by have := Hn.out; omega)⟩
        obtain ⟨g', so', hgg, e0, _⟩ := hP.1 _ _ (o1.up 1) i q hq
        cases hgg
        have hqr := hid q (List.mem_of_getElem? hq)
        have HD := Lib.hid (drop_cons hq)
        clear hq
        obtain ⟨z, u⟩ := q
        dsimp only at e0 hqr
        obtain ⟨z0, rfl⟩ : ∃ z0 : Nat, z = (z0 : Int) := ⟨z.toNat, by omega⟩
        obtain ⟨t1, ht1⟩ : ∃ t, tags[z0]? = some t := ⟨_, List.getElem?_eq_getElem (by omega)⟩
        obtain ⟨t2, ht2⟩ : ∃ t, tags[k]? = some t := ⟨_, List.getElem?_eq_getElem (by omega)⟩
        have f1 := o1.cell (2 + z0) (refCells_tag ht1)
        have f2 := o1.cell (2 + k) (refCells_tag ht2)
        have hg1 : Hid (tags.getD ((z0 : Int)).toNat 0 = t1) := Lib.hid (by rw [Int.toNat_natCast, List.getD_eq_getElem?_getD, ht1]; rfl)
        have hg2 : Hid (tags.getD ((k : Int)).toNat 0 = t2) := Lib.hid (by rw [Int.toNat_natCast, List.getD_eq_getElem?_getD, ht2]; rfl)
        clear ht1 ht2
        by_cases hc : t1 < t2
        · have hd : decide (t1 < t2) = true := by simpa using hc
          go_wp2
          go_quiet (fail)
          go_wp2
          go_roundw
          case rel => exact ⟨i + 1, z0, by go_num, rfl, by omega, by omega, by have := Hn.out; omega, by rw [← HT.out, HD.out, selL]; dsimp only; rw [hg1.out, hg2.out, if_pos hc], _, rfl⟩
          case measure => simp [intOf]; omega
        · have hd : decide (t1 < t2) = false := by simpa using hc
          go_wp2
          go_quiet (fail)
          go_wp2
          go_roundw
          case rel => exact ⟨i + 1, k, by go_num, rfl, hk, by omega, by have := Hn.out; omega, by rw [← HT.out, HD.out, selL]; dsimp only; rw [hg1.out, hg2.out, if_neg (by omega)], _, rfl⟩
          case measure => simp [intOf]; omega
      · go_wp2
        go_ret2
        have hkT : (k : Int) = T := by rw [← HT.out, List.drop_eq_nil_of_le (by have := Hn.out; omega)]; rfl
        refine ⟨?_, m, rfl⟩
        rw [← hkT]; rfl
end
end Go.Proofs.Ytnandakoigmknaa
