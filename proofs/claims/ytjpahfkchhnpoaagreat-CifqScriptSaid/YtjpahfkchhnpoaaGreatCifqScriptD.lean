/- Texts that the law rests on, put together by a program. -/
import Derived.Test.YtjpahfkchhnpoaaGreatCifqScriptC
import Derived.Test.YtjpahfkchhnpoaaGreatCifqScriptB
import Derived.Deep.RegionLaw
/- Ranging over a map with int keys while the entry that came is deleted; the counts of cifq reset. -/
namespace Go.Proofs.YtjpahfkchhnpoaaGreat
open Go.RowKit
open SP

section
variable {α : Type} {f : α → Value} {w w' : World} {R : List SP} {tb ib : Nat} {m : List (Int × α)} {S : Int → Bool} {cur : Option Int}
variable {P : Program} {t kt et : TypeId}

theorem mdel_erase (k : Int) : ∀ (m : List (Int × α)) (i : Nat), midx m k = some i → mdel m k = m.eraseIdx i
  | [], _, h => by simp [midx] at h
  | (k', v') :: m, i, h => by
    by_cases hk : k = k'
    · subst hk
      simp [midx] at h
      subst h
      simp [mdel]
    · simp only [midx, if_neg hk, Option.map_eq_some_iff] at h
      obtain ⟨j, hj, rfl⟩ := h
      simp [mdel, hk, mdel_erase k m j hj]

theorem run_delete_rng (ty : TypeId) (ht : P.underlying t = some (.map kt et)) (hk : P.underlying kt = some (.int .i64)) (o : Own w (SP.rng f tb ib m S cur :: R)) (k : Int) (hin : (mget m k).isSome = true) (ts : Array TypeId) (hts : ts[0]? = some t) :
    ∃ w', (Builtin.delete_ ts ty #[.map (some tb), .int .i64 k]).run P w = .ok (.tuple #[]) w' ∧ Own w' (SP.rng f tb ib (mdel m k) S none :: R) ∧ Calm w w' := by
  obtain ⟨es, clock, seen, h1, h2, h3, h4, h5, o⟩ := Own.rng.1 o
  have hb := o.blk
  have hm := midx_mget m k
  have hf := run_findKey_int (P := P) hk h1 k w
  obtain ⟨h6, h7⟩ := mdel_lists (f := f) k es.toList m h1
  obtain ⟨x, hmg⟩ := Option.isSome_iff_exists.1 hin
  obtain ⟨i, hmi⟩ : ∃ i, midx m k = some i := by rw [hin] at hm; exact Option.isSome_iff_exists.1 hm
  simp [hmi, hmg] at hf
  have e1 : (es.eraseIdxIfInBounds i).toList = es.toList.eraseIdx i := by simp
  refine ⟨_, ?_, Own.rng.2 ⟨es.eraseIdxIfInBounds i, clock, seen, ?_, ?_, ?_, ?_, (fun k h => by cases h), o.setMap _⟩, ⟨rfl, rfl, rfl⟩⟩
  · simp [Builtin.delete_, hts, run_underlying ht, getObj, setObj, Sem.run, hb, run_checkKey_int hk, hf]
  · rw [e1]; exact h6 i hmi
  · rw [e1]; exact h2.sublist (List.eraseIdx_sublist _ _)
  · rw [e1]; exact fun e he => h3 e ((List.eraseIdx_sublist _ _).subset he)
  · rw [e1, mdel_erase k m i hmi]
    intro j e y he hy
    rw [List.getElem?_eraseIdx] at he hy
    split at he
    · rename_i hlt
      rw [if_pos hlt] at hy
      exact h4 j e y he hy
    · rename_i hlt
      rw [if_neg hlt] at hy
      exact h4 (j + 1) e y he hy

theorem wpList_delete_rng {ops : Array Oper} {rest : List Oper} {op : Oper} {A : Act} {Q : Exit → Act → World → Prop} (hgd : op.guard = none) (x y : Operand)
    (hop : op.op = .call { callee := .builtin .delete, args := #[x, y], argTypes := #[t, kt] })
    (ht : P.underlying t = some (.map kt et)) (hk : P.underlying kt = some (.int .i64)) (o : Own w (SP.rng f tb ib m S cur :: R)) (k : Int) (hin : (mget m k).isSome = true)
    (hx : A.eval x = .map (some tb)) (hy : A.eval y = .int .i64 k)
    (h : ∀ w', Own w' (SP.rng f tb ib (mdel m k) S none :: R) → Calm w w' → wpList P ops Q rest (A.put op.dst (.tuple #[])) w') : wpList P ops Q (op :: rest) A w := by
  refine wpList_plain hgd fun K hK => ?_
  obtain ⟨w', hr, h2, h3⟩ := run_delete_rng op.type ht hk o k hin #[t, kt] rfl
  unfold Oper.wp execOp
  simp only [hop, resolve, invoke, builtin, Sem.run_bind, Sem.run_pure, Result.andThen_ok, List.map_toArray, List.map_cons, List.map_nil, hx, hy, hr]
  exact hK _ _ (h w' h2 h3)

theorem mdel_filtK : ∀ {m : List (Int × α)} (k : Int), Uniq m → mdel m k = m.filter fun x => !(x.1 == k)
  | [], _, _ => rfl
  | (k', v) :: m, k, hu => by
    have hu' : k' ∉ m.map (·.1) ∧ Uniq m := by unfold Uniq at *; simpa using hu
    by_cases hk : k = k'
    · subst hk
      have : m.filter (fun x => !(x.1 == k)) = m := List.filter_eq_self.2 fun x hx => by
        have : x.1 ≠ k := fun e => hu'.1 (List.mem_map.2 ⟨x, hx, e⟩)
        simpa using this
      simp [mdel, this]
    · have ih := mdel_filtK k hu'.2
      have : (k' == k) = false := by simpa using fun e => hk e.symm
      simp [mdel, hk, ih, this]
theorem kleft_sub {m m' : List (Int × α)} (h : m'.Sublist m) (S : Int → Bool) : kleft m' S ≤ kleft m S := by
  unfold kleft
  exact ((h.map _).filter _).length_le
/-- What is left of a map when the keys of S have come and those without p among them went. -/
def left (p S : Int → Bool) (n : List (Int × α)) : List (Int × α) := n.filter fun x => !(S x.1) || p x.1
theorem left_uniq {p S : Int → Bool} {n : List (Int × α)} (h : Uniq n) : Uniq (left p S n) := by
  unfold Uniq at *
  exact h.sublist ((List.filter_sublist).map _)
theorem left_start (p : Int → Bool) (n : List (Int × α)) : left p (fun _ => false) n = n := List.filter_eq_self.2 fun _ _ => rfl
theorem left_keep {p S : Int → Bool} {n : List (Int × α)} {k : Int} (h : p k = true) : left p (fun z => S z || z == k) n = left p S n := by
  unfold left
  refine List.filter_congr fun x _ => ?_
  dsimp only
  by_cases e : x.1 = k
  · rw [e, h]; simp
  · have : (x.1 == k) = false := by simpa using e
    rw [this]; simp
theorem left_del {p S : Int → Bool} {n : List (Int × α)} {k : Int} (hu : Uniq n) (h : p k = false) : left p (fun z => S z || z == k) n = mdel (left p S n) k := by
  rw [mdel_filtK k (left_uniq hu)]
  unfold left
  rw [List.filter_filter]
  refine List.filter_congr fun x _ => ?_
  dsimp only
  by_cases e : x.1 = k
  · rw [e, h]; simp
  · have : (x.1 == k) = false := by simpa using e
    rw [this]; simp
theorem left_done {p S : Int → Bool} {n : List (Int × α)} (h : ∀ x ∈ left p S n, S x.1 = true) : left p S n = n.filter fun x => p x.1 := by
  unfold left at *
  refine List.filter_congr fun x hx => ?_
  cases hS : S x.1 with
  | true => simp
  | false =>
    have := h x (List.mem_filter.2 ⟨hx, by simp [hS]⟩)
    rw [hS] at this; cases this
end
end Go.Proofs.YtjpahfkchhnpoaaGreat

/- The counts of the flows that no longer lead go. -/
namespace Go.Proofs.YtjpahfkchhnpoaaGreat
open Go.RowKit
open SP
section
variable {W w w' : World} {R : List SP} {b rp lp cp xp nb N : Nat} {num den reb : Int} {S : St} {D : List Tg} {m : List (Int × (Int × Int))}

def ResRel (b : Nat) (num den : Int) (rp lp cp xp nb N : Nat) (D : List Tg) (p : Int → Bool) (ib : Nat) (m : List (Int × (Int × Int))) (R : List SP) (w : World) (wr : World) : Prop :=
  ∃ (S : Int → Bool) (cur : Option Int), Own wr (rng cntV nb ib (left p S m) S cur :: CqC b num den rp lp cp xp nb :: LagR lp N D :: R) ∧ Calm w wr
set_option maxHeartbeats 3200000 in
set_option maxRecDepth 100000 in
theorem reset_spec (hu : Uniq m) (o : Own w (CqC b num den rp lp cp xp nb :: LagR lp N D :: mpI cntV nb m :: R)) :
    Calls Tryz.prog 46 #[.pointer (some ⟨b, 0, none⟩)] w (Ret (.tuple #[]) (CqC b num den rp lp cp xp nb :: LagR lp N D :: mpI cntV nb (resetC D m) :: R) w) := by
  have c6 := o.cell 6
  have hlt := o.celLt
  obtain ⟨p, hp⟩ : ∃ p : Int → Bool, p = fun k => decide (lagO D k < 0) := ⟨_, rfl⟩
  have hres : resetC D m = m.filter fun x => p x.1 := by rw [hp]; rfl
  have hlp : ∀ k, decide (lagO D k < 0) = p k := fun k => by rw [hp]
  rw [hres]
  obtain ⟨w5, hr5, o9, k9⟩ := run_range_mpI (P := Tryz.prog) Tryz.underlying66 (o.up 2)
  have hT : ResRel b num den rp lp cp xp nb N D p w.heap.size m R w w5 := ⟨fun _ => false, none, by rw [left_start]; exact o9, k9⟩
  generalize hib : w.heap.size = ib at *
  have HU := Lib.hid hu
  have HP := Lib.hid hlp
  clear o9 k9 hib hres hp hlp hu
  go_enter Tryz.func46, Tryz.ntmps46
  go_wp2
  go_loopw [2] (fun _ wr => ResRel b num den rp lp cp xp nb N D p ib m R w wr) (fun _ wr => rleft wr nb ib)
  case atStart => exact hT
  case round =>
    clear hT hr5 c6 o hlt
    obtain ⟨S, cur, oR, kR⟩ := hrel
    have hum := left_uniq (p := p) (S := S) HU.out
    rcases run_next_rng (P := Tryz.prog) 0 hum oR with ⟨hd, hr⟩ | ⟨x, w6, hx, hS, hr, o10, k10⟩
    · have hall := left_done hd
      have oD := oR.rng_done
      rw [hall] at oD
      clear hd hall hum
      go_wp2
      go_end0
      exact ⟨rfl, oD.re [1, 2, 0], kR⟩
    · have hmv := mget_mem hum hx
      have hen := run_entry_rng (P := Tryz.prog) hum o10 hmv
      have hlt2 := kleft_lt hx hS
      have hw := oR.rleft
      obtain ⟨k, t⟩ := x
      dsimp only at hS hmv hen o10 hlt2 hr
      have hc := leading_spec k (o10.re [1, 2, 0])
      rw [HP.out] at hc
      have HLT := Lib.hid hlt2
      have HW := Lib.hid hw
      have HX := Lib.hid hx
      have HUM := Lib.hid hum
      clear hlt2 hw hx hum
      unfold cntV at hr hen
      cases hpk : p k with
      | true =>
        rw [hpk] at hc
        have HPK := Lib.hid hpk
        clear hpk
        go_wp2_with fail
        refine hc.mono ?_
        rintro e1 w7 ⟨rfl, o7, k7⟩
        clear hc
        go_wp2
        go_roundw
        case rel => exact ⟨fun z => S z || z == k, some k, by rw [left_keep HPK.out]; exact o7.re [2, 0, 1], ⟨(k7.os.trans k10.os).trans kR.os, (k7.tape.trans k10.tape).trans kR.tape, (k7.output.trans k10.output).trans kR.output⟩⟩
        case measure =>
          rw [(o7.re [2, 0, 1]).rleft, HW.out]
          exact HLT.out
      | false =>
        rw [hpk] at hc
        have HPK := Lib.hid hpk
        clear hpk
        go_wp2_with fail
        refine hc.mono ?_
        rintro e1 w7 ⟨rfl, o7, k7⟩
        clear hc
        have d6 := o7.cell 6
        have hb7 := o7.celLt
        go_wp2_with (at_delete; refine wpList_delete_rng rfl _ _ rfl Tryz.underlying66 Tryz.underlying3 (o7.re [2, 0, 1]) k (by rw [hmv]; rfl) rfl rfl ?c1)
        case c1 =>
        intro w8 o8 k8
        go_wp2
        go_roundw
        case rel => exact ⟨fun z => S z || z == k, none, by rw [left_del HU.out HPK.out]; exact o8, ⟨((k8.os.trans k7.os).trans k10.os).trans kR.os, ((k8.tape.trans k7.tape).trans k10.tape).trans kR.tape, ((k8.output.trans k7.output).trans k10.output).trans kR.output⟩⟩
        case measure =>
          rw [o8.rleft, HW.out]
          refine Nat.lt_of_le_of_lt (kleft_sub ?_ _) HLT.out
          rw [mdel_filtK k HUM.out]
          exact List.filter_sublist
end
end Go.Proofs.YtjpahfkchhnpoaaGreat

/- The parts of the flows that could send. -/
namespace Go.Proofs.YtjpahfkchhnpoaaGreat
open Go.RowKit
open SP
section
variable {W w w' : World} {R : List SP} {b rp lp cp xp nb N : Nat} {num den reb : Int} {S : St} {D : List Tg}

def pickT (D : List Tg) (p : Head → Bool) (H : List Head) (i : Nat) : List (Int × Int) := (((H.zip (ptsOf D)).take i).filter fun x => p x.1).map (·.2)
theorem pickT_all {D : List Tg} {p : Head → Bool} {H : List Head} {i : Nat} (h : H.length ≤ i) : pickT D p H i = pickH D p H := by
  unfold pickT pickH
  rw [List.take_of_length_le (by rw [List.length_zip]; omega)]
theorem pickT_step {D : List Tg} {p : Head → Bool} {H : List Head} {i : Nat} {h : Head} {t : Tg} (e1 : H[i]? = some h) (e2 : D[i]? = some t) :
    pickT D p H (i + 1) = if p h then pickT D p H i ++ [(t.f, t.w)] else pickT D p H i := by
  have e : (H.zip (ptsOf D))[i]? = some (h, (t.f, t.w)) := by
    rw [List.getElem?_zip_eq_some]
    exact ⟨e1, by unfold ptsOf; rw [List.getElem?_map, e2]; rfl⟩
  unfold pickT
  rw [List.take_add_one, e]
  simp only [Option.toList_some, List.filter_append, List.map_append]
  by_cases hp : p h = true
  · rw [if_pos hp, List.filter_cons_of_pos (by simpa using hp)]; simp
  · rw [if_neg hp, List.filter_cons_of_neg (by simpa using hp)]; simp
theorem pickT_len (D : List Tg) (p : Head → Bool) (H : List Head) (i : Nat) : (pickT D p H i).length ≤ i := by
  unfold pickT
  rw [List.length_map]
  exact Nat.le_trans (List.length_filter_le _ _) (by rw [List.length_take]; omega)
def goodP (h : Head) : Bool := h.good
def lagP (D : List Tg) (h : Head) : Bool := h.good && decide (0 < lagO D h.f)

def SndRel (b : Nat) (num den : Int) (rp lp cp xp nb N : Nat) (D : List Tg) (H : List Head) (ap : Option Addr) (pc : Nat) (Sp : SP) (R : List SP) (w : World) (v4 v5 v18 : Value) (wr : World) : Prop :=
  ∃ (i : Nat) (a1 a2 : Option Addr) (c1 c2 : Nat), v18 = .int .i64 (i : Int) ∧ i ≤ H.length ∧ v4 = .slice a1 (pickT D goodP H i).length c1 ∧ v5 = .slice a2 (pickT D (lagP D) H i).length c2 ∧
    Own wr (slc 145 2 a1 (pickT D goodP H i).length c1 (flat part (pickT D goodP H i)) :: slc 145 2 a2 (pickT D (lagP D) H i).length c2 (flat part (pickT D (lagP D) H i)) ::
      slc 145 2 ap D.length pc (flat part (ptsOf D)) :: CqC b num den rp lp cp xp nb :: LagR lp N D :: Sp :: R) ∧ Calm w wr
def SndPost (b : Nat) (num den : Int) (rp lp cp xp nb N : Nat) (D : List Tg) (H : List Head) (Sp : SP) (R : List SP) (w : World) (e : Ending) (w' : World) : Prop :=
  ∃ (a1 a2 : Option Addr) (c1 c2 : Nat), Ret (.tuple #[.slice a1 (allH D H).length c1, .slice a2 (lagH D H).length c2])
    (slc 145 2 a1 (allH D H).length c1 (flat part (allH D H)) :: slc 145 2 a2 (lagH D H).length c2 (flat part (lagH D H)) :: CqC b num den rp lp cp xp nb :: LagR lp N D :: Sp :: R) w e w'

set_option maxHeartbeats 3200000 in
set_option maxRecDepth 100000 in
theorem sending_spec {Sp : SP} {a : Option Addr} {n c : Nat} {H : List Head} (h1 : HeadsAt Sp a H) (hn : n = H.length) (hD : D.length = n) (hl : n ≤ 32) (o : Own w (CqC b num den rp lp cp xp nb :: LagR lp N D :: Sp :: R)) :
    Calls Tryz.prog 59 #[.pointer (some ⟨b, 0, none⟩), .slice a n c] w (SndPost b num den rp lp cp xp nb N D H Sp R w) := by
  have c3 := o.cell 3
  have hlt := o.celLt
  have Hn := Lib.hid hn
  have HD := Lib.hid hD
  clear hn hD
  go_enter Tryz.func59, Tryz.ntmps59
  go_wp2_with fail
  refine (lagParts_spec (o.up 1)).mono ?_
  rintro e1 w1 ⟨ap, pc, rfl, o1, k1⟩
  have hT : SndRel b num den rp lp cp xp nb N D H ap pc Sp R w (.slice none 0 0) (.slice none 0 0) (.int .i64 0) w1 :=
    ⟨0, none, none, 0, 0, rfl, by omega, rfl, rfl, Own.slc_nil (Own.slc_nil (o1.re [0, 2, 1, 3])), k1⟩
  clear o1 k1 c3 hlt o
  go_wp2
  go_loopw [4, 5, 18] (fun v4 v5 v18 wr => SndRel b num den rp lp cp xp nb N D H ap pc Sp R w v4 v5 v18 wr) (fun _ _ v _ => n - (Lib.intOf v).toNat)
  case atStart => exact hT
  case round =>
    clear hT
    obtain ⟨i, a1, a2, q1, q2, rfl, hi, rfl, rfl, oR, kR⟩ := hrel
    by_cases hil : i < n
    · obtain ⟨h, hh⟩ : ∃ h, H[i]? = some h := ⟨_, List.getElem?_eq_getElem (by have := Hn.out; omega)⟩
      obtain ⟨t, ht⟩ : ∃ t, D[i]? = some t := ⟨_, List.getElem?_eq_getElem (by have := HD.out; omega)⟩
      have st1 := pickT_step (p := goodP) hh ht
      have st2 := pickT_step (p := lagP D) hh ht
      have l1 := pickT_len D goodP H i
      have l2 := pickT_len D (lagP D) H i
      obtain ⟨g, rfl, d0, d1, d2⟩ := h1 _ _ (oR.up 5) i _ hh
      obtain ⟨gp, rfl, pcell, _, _⟩ := (oR.up 2).slc_cell (by have := HD.out; omega)
      have HF0 := Lib.hid (show (flat part (ptsOf D))[i * 2 + 0]? = some (.int .i64 t.f) by rw [flat_get part_len (ptsOf D) i 0 (t.f, t.w) (by unfold ptsOf; rw [List.getElem?_map, ht]; rfl) (by omega)]; rfl)
      have HF1 := Lib.hid (show (flat part (ptsOf D))[i * 2 + 1]? = some (.int .i64 t.w) by rw [flat_get part_len (ptsOf D) i 1 (t.f, t.w) (by unfold ptsOf; rw [List.getElem?_map, ht]; rfl) (by omega)]; rfl)
      have oB := oR.alloc (.cells #[.int .i64 h.f, .int .i64 h.len, .bool h.good] 87)
      clear pcell hh ht
      cases hg : h.good with
      | false =>
        have e1 : goodP h = false := hg
        have e2 : lagP D h = false := by unfold lagP; rw [hg]; rfl
        rw [e1] at st1
        rw [e2] at st2
        rw [hg] at d2 oB
        simp only [Bool.false_eq_true, if_false] at st1 st2
        have ST1 := Lib.hid st1
        have ST2 := Lib.hid st2
        clear st1 st2 e1 e2
        go_wp2
        go_roundw
        case rel => exact ⟨i + 1, a1, a2, q1, q2, by go_num, by have := Hn.out; omega, by rw [ST1.out], by rw [ST2.out], by rw [ST1.out, ST2.out]; exact oB.drop, ⟨kR.os, kR.tape, kR.output⟩⟩
        case measure => simp [Lib.intOf]; omega
      | true =>
        have e1 : goodP h = true := hg
        rw [e1] at st1
        rw [hg] at d2 oB
        simp only [if_true] at st1
        have ST1 := Lib.hid st1
        clear st1 e1
        obtain ⟨gp2, hq, pcell, _, _⟩ := (oB.up 3).slc_cell (by have := HD.out; omega)
        cases hq
        have b0 := pcell (i * 2 + 0) (.int .i64 t.f) (HF0.out)
        rw [Nat.add_zero] at b0
        have b1 := pcell (i * 2 + 1) (.int .i64 t.w) (HF1.out)
        have oA := oB.alloc (.cells #[.int .i64 t.f, .int .i64 t.w] 145)
        simp only [World.size_alloc] at oA
        have hiD : i < D.length := by have := HD.out; omega
        clear pcell
        go_wp2_with (at_builtin; refine wpList_append_slc rfl _ _ rfl Tryz.partT rfl (oA.up 2) ⟨wr.heap.size + 1, 0, none⟩ 1 1 [.int .i64 t.f, .int .i64 t.w] rfl rfl ?c1 ?c2 ?c3 ?c4 ?c5)
        case c1 => exact Own.news (T := 145) oA
        case c2 => intro u hu; simp at hu; rcases hu with rfl | rfl <;> rfl
        case c3 => unfold maxLen; omega
        case c4 => omega
        case c5 =>
        intro a3 q3 w5 o5 k5
        have o6 := (o5.up 1).drop
        have o7 := o6.drew.re [5, 4, 1, 0, 2, 3]
        have x3 := (o7.up 1).cell 3
        have xb := Own.cell (T := 87) (vs := [.int .i64 h.f, .int .i64 h.len, .bool true]) (o7.up 2) 0
        have hfl : flat part (pickT D goodP H i) ++ [.int .i64 t.f, .int .i64 t.w] = flat part (pickT D goodP H (i + 1)) := by rw [ST1.out]; unfold flat; simp [part]
        have HFL := Lib.hid hfl
        clear hfl
        obtain ⟨z, hz⟩ := lagV_eq D h.f
        have hcall := lagLag_spec h.f o7
        rw [hz] at hcall
        clear hz
        have e2 : lagP D h = decide (0 < lagO D h.f) := by unfold lagP; rw [hg]; rfl
        rw [e2] at st2
        clear e2 hg
        generalize lagO D h.f = lg at *
        have HST2 := Lib.hid st2
        clear st2
        go_wp2_with fail
        go_region_held3 (fun w' => w'.cell? ⟨b, 3, none⟩ = some (.pointer (some ⟨lp, 0, none⟩)) ∧ w'.cell? ⟨wr.heap.size, 0, none⟩ = some (.int .i64 h.f)) (go_keep) (first | (go_at_call 35; (with_reducible refine hcall.mono ?_); rintro e6 w6 ⟨rfl, o8, k8⟩; have y3 := (o8.up 1).cell 3; have yb := Own.cell (T := 87) (vs := [.int .i64 h.f, .int .i64 h.len, .bool true]) (o8.up 2) 0))
        clear hcall
        by_cases hlg : 0 < lg
        · have hst := HST2.out
          rw [if_pos (by simpa using hlg)] at hst
          have ST2 := Lib.hid hst
          clear hst
          obtain ⟨gp3, hq, pcell, _, _⟩ := (o8.up 5).slc_cell (by omega)
          cases hq
          have m0 := pcell (i * 2 + 0) (.int .i64 t.f) (HF0.out)
          rw [Nat.add_zero] at m0
          have m1 := pcell (i * 2 + 1) (.int .i64 t.w) (HF1.out)
          have oC := o8.alloc (.cells #[.int .i64 t.f, .int .i64 t.w] 145)
          clear pcell
          go_wp2_with (at_builtin; refine wpList_append_slc rfl _ _ rfl Tryz.partT rfl (oC.up 5) ⟨w6.heap.size, 0, none⟩ 1 1 [.int .i64 t.f, .int .i64 t.w] rfl rfl ?d1 ?d2 ?d3 ?d4 ?d5)
          case d1 => exact Own.news (T := 145) oC
          case d2 => intro u hu; simp at hu; rcases hu with rfl | rfl <;> rfl
          case d3 => unfold maxLen; omega
          case d4 => omega
          case d5 =>
          intro a4 q4 w7 o9 k9
          have hfl2 : flat part (pickT D (lagP D) H i) ++ [.int .i64 t.f, .int .i64 t.w] = flat part (pickT D (lagP D) H (i + 1)) := by rw [ST2.out]; unfold flat; simp [part]
          have HFL2 := Lib.hid hfl2
          clear hfl2
          have oE := (((o9.up 1).drop.up 3).drop).re [3, 0, 4, 2, 1]
          go_wp2
          go_roundw
          case rel =>
            refine ⟨i + 1, a3, a4, q3, q4, by go_num, by have := Hn.out; omega, by rw [ST1.out, List.length_append]; rfl, by rw [ST2.out, List.length_append]; rfl, ?_, kR.trans (Calm.trans ⟨k5.os, k5.tape, k5.output⟩ (Calm.trans ⟨k8.os, k8.tape, k8.output⟩ ⟨k9.os, k9.tape, k9.output⟩))⟩
            rw [HFL.out, HFL2.out] at oE
            have z1 : (pickT D goodP H (i + 1)).length = (pickT D goodP H i).length + 1 := by rw [ST1.out, List.length_append]; rfl
            have z2 : (pickT D (lagP D) H (i + 1)).length = (pickT D (lagP D) H i).length + 1 := by rw [ST2.out, List.length_append]; rfl
            rw [z1, z2]
            exact oE
          case measure => simp [Lib.intOf]; omega
        · have hst := HST2.out
          rw [if_neg (by simpa using hlg)] at hst
          have ST2 := Lib.hid hst
          clear hst
          have oE := ((o8.up 2).drop).re [2, 3, 4, 1, 0]
          go_wp2
          go_roundw
          case rel =>
            refine ⟨i + 1, a3, a2, q3, q2, by go_num, by have := Hn.out; omega, by rw [ST1.out, List.length_append]; rfl, by rw [ST2.out], ?_, kR.trans (Calm.trans ⟨k5.os, k5.tape, k5.output⟩ ⟨k8.os, k8.tape, k8.output⟩)⟩
            rw [HFL.out] at oE
            have z1 : (pickT D goodP H (i + 1)).length = (pickT D goodP H i).length + 1 := by rw [ST1.out, List.length_append]; rfl
            rw [z1, ST2.out]
            exact oE
          case measure => simp [Lib.intOf]; omega
    · have hin : H.length ≤ i := by have := Hn.out; omega
      have e1 : pickT D goodP H i = allH D H := pickT_all hin
      have e2 : pickT D (lagP D) H i = lagH D H := pickT_all hin
      rw [e1, e2] at oR ⊢
      clear e1 e2 hin
      go_wp2
      go_ret2
      exact ⟨a1, a2, q1, q2, rfl, ((oR.up 2).drop), kR⟩
end
end Go.Proofs.YtjpahfkchhnpoaaGreat

/- A service booked: the reference and one of the orders. -/
namespace Go.Proofs.YtjpahfkchhnpoaaGreat
open Go.RowKit
open SP
section
variable {W w w' : World} {R : List SP} {b rp lp cp xp nb N : Nat} {num den reb : Int} {S : St} {D : List Tg} {C X : Ord}

def OrdR (b : Nat) (reb : Int) (o : Ord) : SP := OrderR b reb o.el o.tg o.tm
structure OrdOk (o : Ord) : Prop where
  key : KeyOk o.el
  len : o.el.length ≤ 1000
  uniq : Uniq o.tg
  val : ∀ x ∈ o.tg, 0 ≤ x.2 ∧ x.2 ≤ 1099511627776
  tm : 0 ≤ o.tm ∧ o.tm ≤ 1099511627776

theorem servO_spec (f len : Int) (hC : OrdOk C) (o : Own w (OrdR b reb C :: R)) :
    Calls Tryz.prog 95 #[.pointer (some ⟨b, 0, none⟩), .int .i64 f, .int .i64 len] w (Ret (.int .i64 (servO reb C f len).1) (OrdR b reb (servO reb C f len).2 :: R) w) := by
  refine (serve_spec f len hC.key hC.len hC.uniq hC.val hC.tm o).mono ?_
  intro e w' h
  unfold ServPost at h
  unfold servO
  by_cases h1 : servE C.el C.tg f len ≠ 0
  · rw [if_pos h1] at h ⊢; exact h
  · rw [if_neg h1] at h ⊢
    by_cases h2 : servBy C.el C.tg C.tm f len < reb
    · rw [if_pos h2] at h ⊢; exact h
    · rw [if_neg h2] at h ⊢; exact h

def CqServPost (b : Nat) (num den : Int) (rp lp cp xp nb : Nat) (reb : Int) (S : St) (C X : Ord) (c : Chc) (len : Int) (R : List SP) (w : World) (e : Ending) (w' : World) : Prop :=
  if (chargeR reb S c.ch len).1 ≠ 0 then Ret (.int .i64 (chargeR reb S c.ch len).1) (CqC b num den rp lp cp xp nb :: SfqR rp reb (chargeR reb S c.ch len).2 :: OrdR cp reb C :: OrdR xp reb X :: R) w e w'
  else Ret (.int .i64 (servC reb C X c len).1) (CqC b num den rp lp cp xp nb :: SfqR rp reb (chargeR reb S c.ch len).2 :: OrdR cp reb (servC reb C X c len).2.1 :: OrdR xp reb (servC reb C X c len).2.2 :: R) w e w'

set_option maxHeartbeats 3200000 in
set_option maxRecDepth 100000 in
theorem cqServe_spec (c : Chc) (len : Int) (haw : 0 ≤ S.aw ∧ S.aw ≤ 1152921504606846976) (hC : OrdOk C) (hX : OrdOk X) (o : Own w (CqC b num den rp lp cp xp nb :: SfqR rp reb S :: OrdR cp reb C :: OrdR xp reb X :: R)) :
    Calls Tryz.prog 63 #[.pointer (some ⟨b, 0, none⟩), chV c, .int .i64 len] w (CqServPost b num den rp lp cp xp nb reb S C X c len R w) := by
  have c2 := o.cell 2
  have hlt := o.celLt
  unfold chV
  obtain ⟨ch, sv, why⟩ := c
  have oA := o.alloc (.cells #[.int .i64 ch, .int .i64 sv, .int .i64 why] 89)
  have hq := sfqCharge_spec ch len haw (oA.drew.re [2, 0, 1])
  unfold CqServPost
  dsimp only
  obtain ⟨Y, hY⟩ : ∃ Y, chargeR reb S ch len = Y := ⟨_, rfl⟩
  rw [hY] at hq ⊢
  clear hY
  obtain ⟨y, S'⟩ := Y
  dsimp only at hq ⊢
  by_cases hy : y = 0
  · subst hy
    simp only [ne_eq, not_true_eq_false, if_false]
    obtain ⟨V, hV⟩ : ∃ V, servC reb C X ⟨ch, sv, why⟩ len = V := ⟨_, rfl⟩
    rw [hV]
    have HV := Lib.hid hV
    clear hV
    go_enter Tryz.func63, Tryz.ntmps63
    go_wp2
    refine wp_region_tail 7 (by kernel_rfl) (by kernel_rfl) ?_
    simp only [List.take_succ_cons, List.take_zero, List.drop_succ_cons, List.drop_zero]
    repeat still_step
    refine wpStill_nil ?_
    go_wp2_with fail
    refine hq.mono ?_
    rintro e1 w1 ⟨rfl, o1, k1⟩
    clear hq
    have x4 := (o1.up 2).cell 4
    have x5 := (o1.up 2).cell 5
    have xl := (o1.up 2).celLt
    have z1 := Own.cell (T := 89) (vs := [.int .i64 ch, .int .i64 sv, .int .i64 why]) (o1.up 1) 1
    have z2 := Own.cell (T := 89) (vs := [.int .i64 ch, .int .i64 sv, .int .i64 why]) (o1.up 1) 2
    by_cases h23 : why = 2 ∨ why = 3
    · have e : servC reb C X ⟨ch, sv, why⟩ len = ((servO reb C sv len).1, (servO reb C sv len).2, X) := by unfold servC; rw [if_pos h23]
      have hs := servO_spec sv len hC (o1.drew.re [3, 0, 1, 2])
      have hv := HV.out
      rw [e] at hv
      clear e HV
      subst hv
      rcases h23 with rfl | rfl
      · go_wp2
        refine wp_region_tail 7 (by kernel_rfl) (by kernel_rfl) ?_
        simp only [List.take_succ_cons, List.take_zero, List.drop_succ_cons, List.drop_zero]
        repeat still_step
        refine wpStill_nil ?_
        go_wp2_with fail
        refine hs.mono ?_
        rintro e2 w2 ⟨rfl, o2, k2⟩
        clear hs
        go_wp2
        go_ret
        exact ⟨rfl, ((o2.up 2).drop).re [2, 1, 0], Calm.trans ⟨k1.os, k1.tape, k1.output⟩ ⟨k2.os, k2.tape, k2.output⟩⟩
      · go_wp2
        refine wp_region_tail 7 (by kernel_rfl) (by kernel_rfl) ?_
        simp only [List.take_succ_cons, List.take_zero, List.drop_succ_cons, List.drop_zero]
        repeat still_step
        refine wpStill_nil ?_
        go_wp2_with fail
        refine hs.mono ?_
        rintro e2 w2 ⟨rfl, o2, k2⟩
        clear hs
        go_wp2
        go_ret
        exact ⟨rfl, ((o2.up 2).drop).re [2, 1, 0], Calm.trans ⟨k1.os, k1.tape, k1.output⟩ ⟨k2.os, k2.tape, k2.output⟩⟩
    · have n2 : (why == 2) = false := by simpa using fun e => h23 (.inl e)
      have n3 : (why == 3) = false := by simpa using fun e => h23 (.inr e)
      by_cases h4 : why = 4
      · have e : servC reb C X ⟨ch, sv, why⟩ len = ((servO reb X sv len).1, C, (servO reb X sv len).2) := by unfold servC; rw [if_neg h23, if_pos h4]
        have hs := servO_spec sv len hX (o1.drew.re [4, 0, 1, 2, 3])
        have hv := HV.out
        rw [e] at hv
        clear e HV
        subst hv
        subst h4
        go_wp2
        refine wp_region_tail 7 (by kernel_rfl) (by kernel_rfl) ?_
        simp only [List.take_succ_cons, List.take_zero, List.drop_succ_cons, List.drop_zero]
        repeat still_step
        refine wpStill_nil ?_
        go_wp2_with fail
        refine hs.mono ?_
        rintro e2 w2 ⟨rfl, o2, k2⟩
        clear hs
        go_wp2
        go_ret
        exact ⟨rfl, ((o2.up 2).drop).re [2, 1, 3, 0], Calm.trans ⟨k1.os, k1.tape, k1.output⟩ ⟨k2.os, k2.tape, k2.output⟩⟩
      · have e : servC reb C X ⟨ch, sv, why⟩ len = (0, C, X) := by unfold servC; rw [if_neg h23, if_neg h4]
        have n4 : (why == 4) = false := by simpa using h4
        have hv := HV.out
        rw [e] at hv
        clear e HV
        subst hv
        go_wp2
        go_ret
        exact ⟨rfl, ((o1.up 1).drop).re [1, 0], ⟨k1.os, k1.tape, k1.output⟩⟩
  · have hb : (y == 0) = false := by simpa using hy
    have hb' : (y != 0) = true := by simpa using hy
    simp only [ne_eq, hy, not_false_eq_true, if_true]
    go_enter Tryz.func63, Tryz.ntmps63
    go_wp2
    refine wp_region_tail 7 (by kernel_rfl) (by kernel_rfl) ?_
    simp only [List.take_succ_cons, List.take_zero, List.drop_succ_cons, List.drop_zero]
    repeat still_step
    refine wpStill_nil ?_
    go_wp2_with fail
    refine hq.mono ?_
    rintro e1 w1 ⟨rfl, o1, k1⟩
    clear hq
    go_wp2
    go_ret
    exact ⟨rfl, ((o1.up 1).drop).re [1, 0], ⟨k1.os, k1.tape, k1.output⟩⟩
end
end Go.Proofs.YtjpahfkchhnpoaaGreat

/- The choice of cifq: the slot's flow keeps it. -/
namespace Go.Proofs.YtjpahfkchhnpoaaGreat
open Go.RowKit
open SP
section
variable {W w w' : World} {R : List SP} {b rp lp cp xp nb N : Nat} {num den reb : Int} {S : St} {D : List Tg} {C X : Ord} {m : List (Int × (Int × Int))}

theorem idxH_head {k : Int} : ∀ (j : Nat) (H : List Head), (∃ h ∈ H, h.f = k) → ∃ (i : Nat) (h : Head), H[i]? = some h ∧ idxH k j H = ((j + i : Nat) : Int) ∧ H.find? (fun h => h.f == k) = some h
  | _, [], h => by obtain ⟨_, h, _⟩ := h; cases h
  | j, x :: H, h => by
    by_cases hx : x.f = k
    · exact ⟨0, x, rfl, by simp [idxH, hx], by simp [hx]⟩
    · obtain ⟨y, hy, hyk⟩ := h
      have hin : y ∈ H := by
        rcases List.mem_cons.1 hy with rfl | h
        · exact absurd hyk hx
        · exact h
      obtain ⟨i, h, h1, h2, h3⟩ := idxH_head (j + 1) H ⟨y, hin, hyk⟩
      refine ⟨i + 1, h, by simpa using h1, ?_, ?_⟩
      · unfold idxH; rw [if_neg hx, h2]; congr 1; omega
      · rw [List.find?_cons_of_neg (by simpa using hx)]; exact h3
theorem headOf_idx {k : Int} {H : List Head} (h : ∃ h ∈ H, h.f = k) : ∃ (i : Nat), H[i]? = some (headOf H k) ∧ idxH k 0 H = (i : Int) := by
  obtain ⟨i, x, h1, h2, h3⟩ := idxH_head 0 H h
  exact ⟨i, by unfold headOf; rw [h3]; exact h1, by rw [h2, Nat.zero_add]⟩
theorem chRow {fn : Func} (h : fn.results = #[.cell 6 89]) {tmps : Array Value} {p : Nat} {x y z : Value} (hp : tmps.getD 6 undef = .pointer (some ⟨p, 0, none⟩))
    (o : Own w (cel p 89 [x, y, z] :: R)) : (results fn tmps).run Tryz.prog w = .ok (.agg #[x, y, z]) w :=
  results_cell_row h _ _ p _ _ _ _ hp o.blk Tryz.underlying89 rfl (by kernel_rfl)
/-- What the scheduler's parts are while it chooses. -/
abbrev ChoPool (b : Nat) (num den : Int) (rp lp cp xp nb N : Nat) (reb : Int) (S : St) (D : List Tg) (C X : Ord) (m : List (Int × (Int × Int))) (Sp : SP) (R : List SP) : List SP :=
  CqC b num den rp lp cp xp nb :: SfqR rp reb S :: LagR lp N D :: mpI cntV nb m :: OrdR cp reb C :: OrdR xp reb X :: Sp :: R

set_option maxHeartbeats 3200000 in
set_option maxRecDepth 100000 in
theorem choose_own {Sp : SP} {a : Option Addr} {n c : Nat} {H : List Head} {so : Bool} (h1 : HeadsAt Sp a H) (hn : n = H.length) (hl : n ≤ 32) (hk : ∃ h ∈ H, h.f = (selT S.L).1)
    (hg : (headOf H (selT S.L).1).good = true) (hld : decide (lagO D (selT S.L).1 < 0) = false) (o : Own w (ChoPool b num den rp lp cp xp nb N reb S D C X m Sp R)) :
    Calls Tryz.prog 61 #[.pointer (some ⟨b, 0, none⟩), .slice a n c, .bool so] w (Ret (chV ⟨(selT S.L).1, (selT S.L).1, 1⟩) (ChoPool b num den rp lp cp xp nb N reb S D C X m Sp R) w) := by
  unfold chV
  dsimp only
  have c2 := o.cell 2
  have hlt := o.celLt
  obtain ⟨i, hi, hix⟩ := headOf_idx hk
  have hin : i < n := by have := (List.getElem?_eq_some_iff.1 hi).1; omega
  have HI := Lib.hid hi
  have Hn := Lib.hid hn
  have oA := o.alloc (.cells #[.int .i64 0, .int .i64 0, .int .i64 0] 89)
  have hsel := sfqSelect_spec (oA.up 2)
  have HLD := Lib.hid hld
  obtain ⟨K, hK⟩ : ∃ K, headOf H (selT S.L).1 = K := ⟨_, rfl⟩
  rw [hK] at hg HI
  generalize (selT S.L).1 = k at *
  generalize (selT S.L).2 = e at *
  clear hi hn hk hld hK
  go_enter Tryz.func61, Tryz.ntmps61
  go_wp2_with fail
  refine hsel.mono ?_
  rintro e1 w1 ⟨rfl, o1, k1⟩
  clear hsel
  have hidx := cqIndex_spec (f := k) (c := c) h1 Hn.out (by omega) (o1.up 7)
  rw [hix] at hidx
  go_wp2_with fail
  refine hidx.mono ?_
  rintro e2 w2 ⟨rfl, o2, k2⟩
  clear hidx hix
  obtain ⟨g, rfl, d0, d1, d2⟩ := h1 _ _ o2 i _ HI.out
  rw [hg] at d2
  have o3 := (o2.alloc (.cells #[.int .i64 k, .int .i64 k, .int .i64 1] 89)).re [4, 5, 0, 1, 2, 3]
  have hlead := leading_spec k o3
  rw [HLD.out] at hlead
  go_wp2_with fail
  refine hlead.mono ?_
  rintro e3 w3 ⟨rfl, o4, k3⟩
  clear hlead
  have y0 := Own.cell (T := 89) (vs := [.int .i64 k, .int .i64 k, .int .i64 1]) (o4.up 2) 0
  have y1 := Own.cell (T := 89) (vs := [.int .i64 k, .int .i64 k, .int .i64 1]) (o4.up 2) 1
  have y2 := Own.cell (T := 89) (vs := [.int .i64 k, .int .i64 k, .int .i64 1]) (o4.up 2) 2
  have z0 := Own.cell (T := 89) (vs := [.int .i64 0, .int .i64 0, .int .i64 0]) (o4.up 5) 0
  have z1 := Own.cell (T := 89) (vs := [.int .i64 0, .int .i64 0, .int .i64 0]) (o4.up 5) 1
  have z2 := Own.cell (T := 89) (vs := [.int .i64 0, .int .i64 0, .int .i64 0]) (o4.up 5) 2
  have zf := Own.frozen (T := 89) (vs := [.int .i64 0, .int .i64 0, .int .i64 0]) (o4.up 5)
  have zl := Own.celLt (T := 89) (vs := [.int .i64 0, .int .i64 0, .int .i64 0]) (o4.up 5)
  have o5 := Own.setCell (T := 89) (vs := [.int .i64 0, .int .i64 0, .int .i64 0]) (o4.up 5) 0 (.int .i64 k)
  have o6 := Own.setCell (T := 89) (vs := [.int .i64 k, .int .i64 0, .int .i64 0]) o5 1 (.int .i64 k)
  have o7 := Own.setCell (T := 89) (vs := [.int .i64 k, .int .i64 k, .int .i64 0]) o6 2 (.int .i64 1)
  go_wp2
  refine bodyPost_ret (v := .agg #[.int .i64 k, .int .i64 k, .int .i64 1]) ?_ rfl ?_
  · exact chRow (p := w.heap.size) rfl rfl o7
  · exact ⟨rfl, ((o7.drop).up 2).drop.re [0, 3, 1, 4, 5, 6, 2], ⟨k3.os.trans (k2.os.trans k1.os), k3.tape.trans (k2.tape.trans k1.tape), k3.output.trans (k2.output.trans k1.output)⟩⟩
end
end Go.Proofs.YtjpahfkchhnpoaaGreat

/- The choice of cifq: a leading flow keeps its slot. -/
namespace Go.Proofs.YtjpahfkchhnpoaaGreat
open Go.RowKit
open SP
section
variable {W w w' : World} {R : List SP} {b rp lp cp xp nb N : Nat} {num den reb : Int} {S : St} {D : List Tg} {C X : Ord} {m : List (Int × (Int × Int))}

set_option maxHeartbeats 3200000 in
set_option maxRecDepth 100000 in
theorem choose_keeps {nu de cr cl : Nat} (hnu : nu < 4194304) (hde : de < 4194304) (hcr : cr < 1099511627776) (hcl : cl < 1099511627776) (hc : cntO m (selT S.L).1 = ((cr : Int), (cl : Int))) {Sp : SP} {a : Option Addr} {n c : Nat} {H : List Head} {so : Bool} (h1 : HeadsAt Sp a H) (hn : n = H.length) (hl : n ≤ 32) (hk : ∃ h ∈ H, h.f = (selT S.L).1)
    (hg : (headOf H (selT S.L).1).good = true) (hld : decide (lagO D (selT S.L).1 < 0) = true) (hkp : keepsO (nu : Int) (de : Int) (cntO m (selT S.L).1) = true) (o : Own w (ChoPool b (nu : Int) (de : Int) rp lp cp xp nb N reb S D C X m Sp R)) :
    Calls Tryz.prog 61 #[.pointer (some ⟨b, 0, none⟩), .slice a n c, .bool so] w (Ret (chV ⟨(selT S.L).1, (selT S.L).1, 1⟩) (ChoPool b (nu : Int) (de : Int) rp lp cp xp nb N reb S D C X m Sp R) w) := by
  unfold chV
  dsimp only
  have c2 := o.cell 2
  have hlt := o.celLt
  obtain ⟨i, hi, hix⟩ := headOf_idx hk
  have hin : i < n := by have := (List.getElem?_eq_some_iff.1 hi).1; omega
  have HI := Lib.hid hi
  have Hn := Lib.hid hn
  have oA := o.alloc (.cells #[.int .i64 0, .int .i64 0, .int .i64 0] 89)
  have hsel := sfqSelect_spec (oA.up 2)
  have HLD := Lib.hid hld
  have HKP := Lib.hid hkp
  have HC := Lib.hid hc
  obtain ⟨K, hK⟩ : ∃ K, headOf H (selT S.L).1 = K := ⟨_, rfl⟩
  rw [hK] at hg HI
  generalize (selT S.L).1 = k at *
  generalize (selT S.L).2 = e at *
  clear hi hn hk hld hK hkp hc
  go_enter Tryz.func61, Tryz.ntmps61
  go_wp2_with fail
  refine hsel.mono ?_
  rintro e1 w1 ⟨rfl, o1, k1⟩
  clear hsel
  have hidx := cqIndex_spec (f := k) (c := c) h1 Hn.out (by omega) (o1.up 7)
  rw [hix] at hidx
  go_wp2_with fail
  refine hidx.mono ?_
  rintro e2 w2 ⟨rfl, o2, k2⟩
  clear hidx hix
  obtain ⟨g, rfl, d0, d1, d2⟩ := h1 _ _ o2 i _ HI.out
  rw [hg] at d2
  have o3 := (o2.alloc (.cells #[.int .i64 k, .int .i64 k, .int .i64 1] 89)).re [4, 5, 0, 1, 2, 3]
  have hlead := leading_spec k o3
  rw [HLD.out] at hlead
  go_wp2_with fail
  refine hlead.mono ?_
  rintro e3 w3 ⟨rfl, o4, k3⟩
  clear hlead
  have hkeep := keeps_spec k hnu hde hcr hcl HC.out (o4.re [0, 6, 1, 2, 3, 4, 5])
  rw [HKP.out] at hkeep
  go_wp2_with fail
  refine hkeep.mono ?_
  rintro e4 w4 ⟨rfl, o4', k4⟩
  clear hkeep
  have y0 := Own.cell (T := 89) (vs := [.int .i64 k, .int .i64 k, .int .i64 1]) (o4'.up 3) 0
  have y1 := Own.cell (T := 89) (vs := [.int .i64 k, .int .i64 k, .int .i64 1]) (o4'.up 3) 1
  have y2 := Own.cell (T := 89) (vs := [.int .i64 k, .int .i64 k, .int .i64 1]) (o4'.up 3) 2
  have z0 := Own.cell (T := 89) (vs := [.int .i64 0, .int .i64 0, .int .i64 0]) (o4'.up 6) 0
  have z1 := Own.cell (T := 89) (vs := [.int .i64 0, .int .i64 0, .int .i64 0]) (o4'.up 6) 1
  have z2 := Own.cell (T := 89) (vs := [.int .i64 0, .int .i64 0, .int .i64 0]) (o4'.up 6) 2
  have zf := Own.frozen (T := 89) (vs := [.int .i64 0, .int .i64 0, .int .i64 0]) (o4'.up 6)
  have zl := Own.celLt (T := 89) (vs := [.int .i64 0, .int .i64 0, .int .i64 0]) (o4'.up 6)
  have o5 := Own.setCell (T := 89) (vs := [.int .i64 0, .int .i64 0, .int .i64 0]) (o4'.up 6) 0 (.int .i64 k)
  have o6 := Own.setCell (T := 89) (vs := [.int .i64 k, .int .i64 0, .int .i64 0]) o5 1 (.int .i64 k)
  have o7 := Own.setCell (T := 89) (vs := [.int .i64 k, .int .i64 k, .int .i64 0]) o6 2 (.int .i64 1)
  go_wp2
  refine bodyPost_ret (v := .agg #[.int .i64 k, .int .i64 k, .int .i64 1]) ?_ rfl ?_
  · exact chRow (p := w.heap.size) rfl rfl o7
  · exact ⟨rfl, ((o7.drop).up 3).drop.re [0, 4, 2, 1, 5, 6, 3], ⟨k4.os.trans (k3.os.trans (k2.os.trans k1.os)), k4.tape.trans (k3.tape.trans (k2.tape.trans k1.tape)), k4.output.trans (k3.output.trans (k2.output.trans k1.output))⟩⟩
end
end Go.Proofs.YtjpahfkchhnpoaaGreat

/- The choice of cifq: another flow is served. -/
namespace Go.Proofs.YtjpahfkchhnpoaaGreat
open Go.RowKit
open SP
section
variable {W w w' : World} {R : List SP} {b rp lp cp xp nb N : Nat} {num den reb : Int} {S : St} {D : List Tg} {C X : Ord} {m : List (Int × (Int × Int))}

set_option maxHeartbeats 3200000 in
set_option maxRecDepth 100000 in
theorem choose_error {Sp : SP} {a : Option Addr} {n c : Nat} {H : List Head} {so : Bool} (h1 : HeadsAt Sp a H) (hn : n = H.length) (hl : n ≤ 32) (hk : ∃ h ∈ H, h.f = (selT S.L).1)
    (hg : (headOf H (selT S.L).1).good = false) (hC : OrdOk C) (hj : 0 ≤ leastF C.el C.tg) (o : Own w (ChoPool b num den rp lp cp xp nb N reb S D C X m Sp R)) :
    Calls Tryz.prog 61 #[.pointer (some ⟨b, 0, none⟩), .slice a n c, .bool so] w (Ret (chV ⟨(selT S.L).1, leastF C.el C.tg, 3⟩) (ChoPool b num den rp lp cp xp nb N reb S D C X m Sp R) w) := by
  unfold chV
  dsimp only
  have c2 := o.cell 2
  have hlt := o.celLt
  obtain ⟨i, hi, hix⟩ := headOf_idx hk
  have hin : i < n := by have := (List.getElem?_eq_some_iff.1 hi).1; omega
  have HI := Lib.hid hi
  have Hn := Lib.hid hn
  have oA := o.alloc (.cells #[.int .i64 0, .int .i64 0, .int .i64 0] 89)
  have hsel := sfqSelect_spec (oA.up 2)
  obtain ⟨K, hK⟩ : ∃ K, headOf H (selT S.L).1 = K := ⟨_, rfl⟩
  rw [hK] at hg HI
  generalize (selT S.L).1 = k at *
  generalize (selT S.L).2 = e at *
  clear hi hn hk hK
  go_enter Tryz.func61, Tryz.ntmps61
  go_wp2_with fail
  refine hsel.mono ?_
  rintro e1 w1 ⟨rfl, o1, k1⟩
  clear hsel
  have hidx := cqIndex_spec (f := k) (c := c) h1 Hn.out (by omega) (o1.up 7)
  rw [hix] at hidx
  go_wp2_with fail
  refine hidx.mono ?_
  rintro e2 w2 ⟨rfl, o2, k2⟩
  clear hidx hix
  obtain ⟨g, rfl, d0, d1, d2⟩ := h1 _ _ o2 i _ HI.out
  rw [hg] at d2
  have o3 := (o2.alloc (.cells #[.int .i64 k, .int .i64 k, .int .i64 1] 89)).up 7
  have hlead := select_spec hC.key hC.len o3
  have x4 := (o3.up 5).cell 4
  have hsv : selV C.el C.tg = .tuple #[.int .i64 (leastF C.el C.tg), .int .i64 0] := by unfold selV; rw [if_neg (by omega)]
  rw [hsv] at hlead
  clear hsv
  generalize leastF C.el C.tg = jj at *
  go_wp2_with fail
  refine hlead.mono ?_
  rintro e3 w3 ⟨rfl, o4, k3⟩
  clear hlead
  have y0 := Own.cell (T := 89) (vs := [.int .i64 k, .int .i64 k, .int .i64 1]) (o4.up 1) 0
  have y1 := Own.cell (T := 89) (vs := [.int .i64 k, .int .i64 k, .int .i64 1]) (o4.up 1) 1
  have y2 := Own.cell (T := 89) (vs := [.int .i64 k, .int .i64 k, .int .i64 1]) (o4.up 1) 2
  have z0 := Own.cell (T := 89) (vs := [.int .i64 0, .int .i64 0, .int .i64 0]) (o4.up 4) 0
  have z1 := Own.cell (T := 89) (vs := [.int .i64 0, .int .i64 0, .int .i64 0]) (o4.up 4) 1
  have z2 := Own.cell (T := 89) (vs := [.int .i64 0, .int .i64 0, .int .i64 0]) (o4.up 4) 2
  have zf := Own.frozen (T := 89) (vs := [.int .i64 0, .int .i64 0, .int .i64 0]) (o4.up 4)
  have zl := Own.celLt (T := 89) (vs := [.int .i64 0, .int .i64 0, .int .i64 0]) (o4.up 4)
  have o5 := Own.setCell (T := 89) (vs := [.int .i64 0, .int .i64 0, .int .i64 0]) (o4.up 4) 0 (.int .i64 k)
  have o6 := Own.setCell (T := 89) (vs := [.int .i64 k, .int .i64 0, .int .i64 0]) o5 1 (.int .i64 jj)
  have o7 := Own.setCell (T := 89) (vs := [.int .i64 k, .int .i64 jj, .int .i64 0]) o6 2 (.int .i64 3)
  go_wp2
  refine bodyPost_ret (v := .agg #[.int .i64 k, .int .i64 jj, .int .i64 3]) ?_ rfl ?_
  · exact chRow (p := w.heap.size) rfl rfl o7
  · exact ⟨rfl, ((o7.drop).up 1).drop.re [3, 2, 4, 5, 0, 6, 1], ⟨k3.os.trans (k2.os.trans k1.os), k3.tape.trans (k2.tape.trans k1.tape), k3.output.trans (k2.output.trans k1.output)⟩⟩
end
end Go.Proofs.YtjpahfkchhnpoaaGreat

/- The choice of cifq: a leading flow gives its slot away. -/
namespace Go.Proofs.YtjpahfkchhnpoaaGreat
open Go.RowKit
open SP
section
variable {W w w' : World} {R : List SP} {b rp lp cp xp nb N : Nat} {num den reb : Int} {S : St} {D : List Tg} {C X : Ord} {m : List (Int × (Int × Int))}

set_option maxHeartbeats 3200000 in
set_option maxRecDepth 100000 in
theorem choose_lead {nu de cr cl : Nat} (hnu : nu < 4194304) (hde : de < 4194304) (hcr : cr < 1099511627776) (hcl : cl < 1099511627776) (hc : cntO m (selT S.L).1 = ((cr : Int), (cl : Int))) {Sp : SP} {a : Option Addr} {n c : Nat} {H : List Head} {so : Bool} (h1 : HeadsAt Sp a H) (hn : n = H.length) (hl : n ≤ 32) (hk : ∃ h ∈ H, h.f = (selT S.L).1)
    (hg : (headOf H (selT S.L).1).good = true) (hld : decide (lagO D (selT S.L).1 < 0) = true) (hkp : keepsO (nu : Int) (de : Int) (cntO m (selT S.L).1) = false) (hC : OrdOk C) (hj : 0 ≤ leastF C.el C.tg) (o : Own w (ChoPool b (nu : Int) (de : Int) rp lp cp xp nb N reb S D C X m Sp R)) :
    Calls Tryz.prog 61 #[.pointer (some ⟨b, 0, none⟩), .slice a n c, .bool so] w (Ret (chV ⟨(selT S.L).1, leastF C.el C.tg, 2⟩) (ChoPool b (nu : Int) (de : Int) rp lp cp xp nb N reb S D C X m Sp R) w) := by
  unfold chV
  dsimp only
  have c2 := o.cell 2
  have hlt := o.celLt
  obtain ⟨i, hi, hix⟩ := headOf_idx hk
  have hin : i < n := by have := (List.getElem?_eq_some_iff.1 hi).1; omega
  have HI := Lib.hid hi
  have Hn := Lib.hid hn
  have oA := o.alloc (.cells #[.int .i64 0, .int .i64 0, .int .i64 0] 89)
  have hsel := sfqSelect_spec (oA.up 2)
  have HLD := Lib.hid hld
  have HKP := Lib.hid hkp
  have HC := Lib.hid hc
  obtain ⟨K, hK⟩ : ∃ K, headOf H (selT S.L).1 = K := ⟨_, rfl⟩
  rw [hK] at hg HI
  generalize (selT S.L).1 = k at *
  generalize (selT S.L).2 = e at *
  clear hi hn hk hld hK hkp hc
  go_enter Tryz.func61, Tryz.ntmps61
  go_wp2_with fail
  refine hsel.mono ?_
  rintro e1 w1 ⟨rfl, o1, k1⟩
  clear hsel
  have hidx := cqIndex_spec (f := k) (c := c) h1 Hn.out (by omega) (o1.up 7)
  rw [hix] at hidx
  go_wp2_with fail
  refine hidx.mono ?_
  rintro e2 w2 ⟨rfl, o2, k2⟩
  clear hidx hix
  obtain ⟨g, rfl, d0, d1, d2⟩ := h1 _ _ o2 i _ HI.out
  rw [hg] at d2
  have o3 := (o2.alloc (.cells #[.int .i64 k, .int .i64 k, .int .i64 1] 89)).re [4, 5, 0, 1, 2, 3]
  have hlead := leading_spec k o3
  rw [HLD.out] at hlead
  go_wp2_with fail
  refine hlead.mono ?_
  rintro e3 w3 ⟨rfl, o4, k3⟩
  clear hlead
  have hkeep := keeps_spec k hnu hde hcr hcl HC.out (o4.re [0, 6, 1, 2, 3, 4, 5])
  rw [HKP.out] at hkeep
  go_wp2_with fail
  refine hkeep.mono ?_
  rintro e4 w4 ⟨rfl, o4', k4⟩
  clear hkeep
  have hsel2 := select_spec hC.key hC.len (o4'.up 7)
  have x4 := o4'.cell 4
  have hsv : selV C.el C.tg = .tuple #[.int .i64 (leastF C.el C.tg), .int .i64 0] := by unfold selV; rw [if_neg (by omega)]
  rw [hsv] at hsel2
  clear hsv
  generalize leastF C.el C.tg = jj at *
  go_wp2_with fail
  refine hsel2.mono ?_
  rintro e5 w5 ⟨rfl, o8, k5⟩
  clear hsel2
  have y0 := Own.cell (T := 89) (vs := [.int .i64 k, .int .i64 k, .int .i64 1]) (o8.up 4) 0
  have y1 := Own.cell (T := 89) (vs := [.int .i64 k, .int .i64 k, .int .i64 1]) (o8.up 4) 1
  have y2 := Own.cell (T := 89) (vs := [.int .i64 k, .int .i64 k, .int .i64 1]) (o8.up 4) 2
  have z0 := Own.cell (T := 89) (vs := [.int .i64 0, .int .i64 0, .int .i64 0]) (o8.up 7) 0
  have z1 := Own.cell (T := 89) (vs := [.int .i64 0, .int .i64 0, .int .i64 0]) (o8.up 7) 1
  have z2 := Own.cell (T := 89) (vs := [.int .i64 0, .int .i64 0, .int .i64 0]) (o8.up 7) 2
  have zf := Own.frozen (T := 89) (vs := [.int .i64 0, .int .i64 0, .int .i64 0]) (o8.up 7)
  have zl := Own.celLt (T := 89) (vs := [.int .i64 0, .int .i64 0, .int .i64 0]) (o8.up 7)
  have o5 := Own.setCell (T := 89) (vs := [.int .i64 0, .int .i64 0, .int .i64 0]) (o8.up 7) 0 (.int .i64 k)
  have o6 := Own.setCell (T := 89) (vs := [.int .i64 k, .int .i64 0, .int .i64 0]) o5 1 (.int .i64 jj)
  have o7 := Own.setCell (T := 89) (vs := [.int .i64 k, .int .i64 jj, .int .i64 0]) o6 2 (.int .i64 2)
  go_wp2
  refine bodyPost_ret (v := .agg #[.int .i64 k, .int .i64 jj, .int .i64 2]) ?_ rfl ?_
  · exact chRow (p := w.heap.size) rfl rfl o7
  · exact ⟨rfl, ((o7.drop).up 4).drop.re [1, 5, 3, 2, 0, 6, 4], ⟨k5.os.trans (k4.os.trans (k3.os.trans (k2.os.trans k1.os))), k5.tape.trans (k4.tape.trans (k3.tape.trans (k2.tape.trans k1.tape))), k5.output.trans (k4.output.trans (k3.output.trans (k2.output.trans k1.output)))⟩⟩
end
end Go.Proofs.YtjpahfkchhnpoaaGreat

/- The choice of cifq: the slot's flow takes it back; nobody sends. -/
namespace Go.Proofs.YtjpahfkchhnpoaaGreat
open Go.RowKit
open SP
section
variable {W w w' : World} {R : List SP} {b rp lp cp xp nb N : Nat} {num den reb : Int} {S : St} {D : List Tg} {C X : Ord} {m : List (Int × (Int × Int))}

set_option maxHeartbeats 3200000 in
set_option maxRecDepth 100000 in
theorem choose_back {nu de cr cl : Nat} (hnu : nu < 4194304) (hde : de < 4194304) (hcr : cr < 1099511627776) (hcl : cl < 1099511627776) (hc : cntO m (selT S.L).1 = ((cr : Int), (cl : Int))) {Sp : SP} {a : Option Addr} {n c : Nat} {H : List Head} {so : Bool} (h1 : HeadsAt Sp a H) (hn : n = H.length) (hl : n ≤ 32) (hk : ∃ h ∈ H, h.f = (selT S.L).1)
    (hg : (headOf H (selT S.L).1).good = true) (hld : decide (lagO D (selT S.L).1 < 0) = true) (hkp : keepsO (nu : Int) (de : Int) (cntO m (selT S.L).1) = false) (hC : OrdOk C) (hj : leastF C.el C.tg < 0) (o : Own w (ChoPool b (nu : Int) (de : Int) rp lp cp xp nb N reb S D C X m Sp R)) :
    Calls Tryz.prog 61 #[.pointer (some ⟨b, 0, none⟩), .slice a n c, .bool so] w (Ret (chV ⟨(selT S.L).1, (selT S.L).1, 1⟩) (ChoPool b (nu : Int) (de : Int) rp lp cp xp nb N reb S D C X m Sp R) w) := by
  unfold chV
  dsimp only
  have c2 := o.cell 2
  have hlt := o.celLt
  obtain ⟨i, hi, hix⟩ := headOf_idx hk
  have hin : i < n := by have := (List.getElem?_eq_some_iff.1 hi).1; omega
  have HI := Lib.hid hi
  have Hn := Lib.hid hn
  have oA := o.alloc (.cells #[.int .i64 0, .int .i64 0, .int .i64 0] 89)
  have hsel := sfqSelect_spec (oA.up 2)
  have HLD := Lib.hid hld
  have HKP := Lib.hid hkp
  have HC := Lib.hid hc
  obtain ⟨K, hK⟩ : ∃ K, headOf H (selT S.L).1 = K := ⟨_, rfl⟩
  rw [hK] at hg HI
  generalize (selT S.L).1 = k at *
  generalize (selT S.L).2 = e at *
  clear hi hn hk hld hK hkp hc
  go_enter Tryz.func61, Tryz.ntmps61
  go_wp2_with fail
  refine hsel.mono ?_
  rintro e1 w1 ⟨rfl, o1, k1⟩
  clear hsel
  have hidx := cqIndex_spec (f := k) (c := c) h1 Hn.out (by omega) (o1.up 7)
  rw [hix] at hidx
  go_wp2_with fail
  refine hidx.mono ?_
  rintro e2 w2 ⟨rfl, o2, k2⟩
  clear hidx hix
  obtain ⟨g, rfl, d0, d1, d2⟩ := h1 _ _ o2 i _ HI.out
  rw [hg] at d2
  have o3 := (o2.alloc (.cells #[.int .i64 k, .int .i64 k, .int .i64 1] 89)).re [4, 5, 0, 1, 2, 3]
  have hlead := leading_spec k o3
  rw [HLD.out] at hlead
  go_wp2_with fail
  refine hlead.mono ?_
  rintro e3 w3 ⟨rfl, o4, k3⟩
  clear hlead
  have hkeep := keeps_spec k hnu hde hcr hcl HC.out (o4.re [0, 6, 1, 2, 3, 4, 5])
  rw [HKP.out] at hkeep
  go_wp2_with fail
  refine hkeep.mono ?_
  rintro e4 w4 ⟨rfl, o4', k4⟩
  clear hkeep
  have hsel2 := select_spec hC.key hC.len (o4'.up 7)
  have x4 := o4'.cell 4
  have hsv : selV C.el C.tg = .tuple #[.int .i64 0, .int .i64 5] := by unfold selV; rw [if_pos hj]
  rw [hsv] at hsel2
  clear hsv
  clear hj
  go_wp2_with fail
  refine hsel2.mono ?_
  rintro e5 w5 ⟨rfl, o8, k5⟩
  clear hsel2
  have y0 := Own.cell (T := 89) (vs := [.int .i64 k, .int .i64 k, .int .i64 1]) (o8.up 4) 0
  have y1 := Own.cell (T := 89) (vs := [.int .i64 k, .int .i64 k, .int .i64 1]) (o8.up 4) 1
  have y2 := Own.cell (T := 89) (vs := [.int .i64 k, .int .i64 k, .int .i64 1]) (o8.up 4) 2
  have z0 := Own.cell (T := 89) (vs := [.int .i64 0, .int .i64 0, .int .i64 0]) (o8.up 7) 0
  have z1 := Own.cell (T := 89) (vs := [.int .i64 0, .int .i64 0, .int .i64 0]) (o8.up 7) 1
  have z2 := Own.cell (T := 89) (vs := [.int .i64 0, .int .i64 0, .int .i64 0]) (o8.up 7) 2
  have zf := Own.frozen (T := 89) (vs := [.int .i64 0, .int .i64 0, .int .i64 0]) (o8.up 7)
  have zl := Own.celLt (T := 89) (vs := [.int .i64 0, .int .i64 0, .int .i64 0]) (o8.up 7)
  have o5 := Own.setCell (T := 89) (vs := [.int .i64 0, .int .i64 0, .int .i64 0]) (o8.up 7) 0 (.int .i64 k)
  have o6 := Own.setCell (T := 89) (vs := [.int .i64 k, .int .i64 0, .int .i64 0]) o5 1 (.int .i64 k)
  have o7 := Own.setCell (T := 89) (vs := [.int .i64 k, .int .i64 k, .int .i64 0]) o6 2 (.int .i64 1)
  go_wp2
  refine bodyPost_ret (v := .agg #[.int .i64 k, .int .i64 k, .int .i64 1]) ?_ rfl ?_
  · exact chRow (p := w.heap.size) rfl rfl o7
  · exact ⟨rfl, ((o7.drop).up 4).drop.re [1, 5, 3, 2, 0, 6, 4], ⟨k5.os.trans (k4.os.trans (k3.os.trans (k2.os.trans k1.os))), k5.tape.trans (k4.tape.trans (k3.tape.trans (k2.tape.trans k1.tape))), k5.output.trans (k4.output.trans (k3.output.trans (k2.output.trans k1.output)))⟩⟩
set_option maxHeartbeats 3200000 in
set_option maxRecDepth 100000 in
theorem choose_idle {Sp : SP} {a : Option Addr} {n c : Nat} {H : List Head} (h1 : HeadsAt Sp a H) (hn : n = H.length) (hl : n ≤ 32) (hk : ∃ h ∈ H, h.f = (selT S.L).1)
    (hg : (headOf H (selT S.L).1).good = false) (hC : OrdOk C) (hj : leastF C.el C.tg < 0) (o : Own w (ChoPool b num den rp lp cp xp nb N reb S D C X m Sp R)) :
    Calls Tryz.prog 61 #[.pointer (some ⟨b, 0, none⟩), .slice a n c, .bool false] w (Ret (chV chIdle) (ChoPool b num den rp lp cp xp nb N reb S D C X m Sp R) w) := by
  unfold chV chIdle
  dsimp only
  have c2 := o.cell 2
  have hlt := o.celLt
  obtain ⟨i, hi, hix⟩ := headOf_idx hk
  have hin : i < n := by have := (List.getElem?_eq_some_iff.1 hi).1; omega
  have HI := Lib.hid hi
  have Hn := Lib.hid hn
  have oA := o.alloc (.cells #[.int .i64 0, .int .i64 0, .int .i64 0] 89)
  have hsel := sfqSelect_spec (oA.up 2)
  obtain ⟨K, hK⟩ : ∃ K, headOf H (selT S.L).1 = K := ⟨_, rfl⟩
  rw [hK] at hg HI
  generalize (selT S.L).1 = k at *
  generalize (selT S.L).2 = e at *
  clear hi hn hk hK
  go_enter Tryz.func61, Tryz.ntmps61
  go_wp2_with fail
  refine hsel.mono ?_
  rintro e1 w1 ⟨rfl, o1, k1⟩
  clear hsel
  have hidx := cqIndex_spec (f := k) (c := c) h1 Hn.out (by omega) (o1.up 7)
  rw [hix] at hidx
  go_wp2_with fail
  refine hidx.mono ?_
  rintro e2 w2 ⟨rfl, o2, k2⟩
  clear hidx hix
  obtain ⟨g, rfl, d0, d1, d2⟩ := h1 _ _ o2 i _ HI.out
  rw [hg] at d2
  have o3 := (o2.alloc (.cells #[.int .i64 k, .int .i64 k, .int .i64 1] 89)).up 7
  have hlead := select_spec hC.key hC.len o3
  have x4 := (o3.up 5).cell 4
  have hsv : selV C.el C.tg = .tuple #[.int .i64 0, .int .i64 5] := by unfold selV; rw [if_pos hj]
  rw [hsv] at hlead
  clear hsv
  clear hj
  go_wp2_with fail
  refine hlead.mono ?_
  rintro e3 w3 ⟨rfl, o4, k3⟩
  clear hlead
  have y0 := Own.cell (T := 89) (vs := [.int .i64 k, .int .i64 k, .int .i64 1]) (o4.up 1) 0
  have y1 := Own.cell (T := 89) (vs := [.int .i64 k, .int .i64 k, .int .i64 1]) (o4.up 1) 1
  have y2 := Own.cell (T := 89) (vs := [.int .i64 k, .int .i64 k, .int .i64 1]) (o4.up 1) 2
  have z0 := Own.cell (T := 89) (vs := [.int .i64 0, .int .i64 0, .int .i64 0]) (o4.up 4) 0
  have z1 := Own.cell (T := 89) (vs := [.int .i64 0, .int .i64 0, .int .i64 0]) (o4.up 4) 1
  have z2 := Own.cell (T := 89) (vs := [.int .i64 0, .int .i64 0, .int .i64 0]) (o4.up 4) 2
  have zf := Own.frozen (T := 89) (vs := [.int .i64 0, .int .i64 0, .int .i64 0]) (o4.up 4)
  have zl := Own.celLt (T := 89) (vs := [.int .i64 0, .int .i64 0, .int .i64 0]) (o4.up 4)
  have o5 := Own.setCell (T := 89) (vs := [.int .i64 0, .int .i64 0, .int .i64 0]) (o4.up 4) 0 (.int .i64 (-1))
  have o6 := Own.setCell (T := 89) (vs := [.int .i64 (-1), .int .i64 0, .int .i64 0]) o5 1 (.int .i64 (-1))
  have o7 := Own.setCell (T := 89) (vs := [.int .i64 (-1), .int .i64 (-1), .int .i64 0]) o6 2 (.int .i64 6)
  go_wp2
  refine bodyPost_ret (v := .agg #[.int .i64 (-1), .int .i64 (-1), .int .i64 6]) ?_ rfl ?_
  · exact chRow (p := w.heap.size) rfl rfl o7
  · exact ⟨rfl, ((o7.drop).up 1).drop.re [3, 2, 4, 5, 0, 6, 1], ⟨k3.os.trans (k2.os.trans k1.os), k3.tape.trans (k2.tape.trans k1.tape), k3.output.trans (k2.output.trans k1.output)⟩⟩
end
end Go.Proofs.YtjpahfkchhnpoaaGreat

/- The choice of cifq: a slot that nobody is owed. -/
namespace Go.Proofs.YtjpahfkchhnpoaaGreat
open Go.RowKit
open SP
section
variable {W w w' : World} {R : List SP} {b rp lp cp xp nb N : Nat} {num den reb : Int} {S : St} {D : List Tg} {C X : Ord} {m : List (Int × (Int × Int))}

set_option maxHeartbeats 3200000 in
set_option maxRecDepth 100000 in
theorem choose_excess {Sp : SP} {a : Option Addr} {n c : Nat} {H : List Head} (h1 : HeadsAt Sp a H) (hn : n = H.length) (hl : n ≤ 32) (hk : ∃ h ∈ H, h.f = (selT S.L).1)
    (hg : (headOf H (selT S.L).1).good = false) (hC : OrdOk C) (hX : OrdOk X) (hj : leastF C.el C.tg < 0) (o : Own w (ChoPool b num den rp lp cp xp nb N reb S D C X m Sp R)) :
    Calls Tryz.prog 61 #[.pointer (some ⟨b, 0, none⟩), .slice a n c, .bool true] w (Ret (chV ⟨(selT S.L).1, if 0 ≤ leastF X.el X.tg then leastF X.el X.tg else 0, 4⟩) (ChoPool b num den rp lp cp xp nb N reb S D C X m Sp R) w) := by
  unfold chV
  dsimp only
  have c2 := o.cell 2
  have hlt := o.celLt
  obtain ⟨i, hi, hix⟩ := headOf_idx hk
  have hin : i < n := by have := (List.getElem?_eq_some_iff.1 hi).1; omega
  have HI := Lib.hid hi
  have Hn := Lib.hid hn
  have oA := o.alloc (.cells #[.int .i64 0, .int .i64 0, .int .i64 0] 89)
  have hsel := sfqSelect_spec (oA.up 2)
  obtain ⟨K, hK⟩ : ∃ K, headOf H (selT S.L).1 = K := ⟨_, rfl⟩
  rw [hK] at hg HI
  generalize (selT S.L).1 = k at *
  generalize (selT S.L).2 = e at *
  clear hi hn hk hK
  have hse : ∃ code, selV X.el X.tg = .tuple #[.int .i64 (if 0 ≤ leastF X.el X.tg then leastF X.el X.tg else 0), .int .i64 code] := by
    unfold selV
    by_cases h : leastF X.el X.tg < 0
    · rw [if_pos h, if_neg (by omega)]; exact ⟨_, rfl⟩
    · rw [if_neg h, if_pos (by omega)]; exact ⟨_, rfl⟩
  have HSE := Lib.hid hse
  clear hse
  generalize (if 0 ≤ leastF X.el X.tg then leastF X.el X.tg else 0) = jj at *
  go_enter Tryz.func61, Tryz.ntmps61
  go_wp2_with fail
  refine hsel.mono ?_
  rintro e1 w1 ⟨rfl, o1, k1⟩
  clear hsel
  have hidx := cqIndex_spec (f := k) (c := c) h1 Hn.out (by omega) (o1.up 7)
  rw [hix] at hidx
  go_wp2_with fail
  refine hidx.mono ?_
  rintro e2 w2 ⟨rfl, o2, k2⟩
  clear hidx hix
  obtain ⟨g, rfl, d0, d1, d2⟩ := h1 _ _ o2 i _ HI.out
  rw [hg] at d2
  have o3 := (o2.alloc (.cells #[.int .i64 k, .int .i64 k, .int .i64 1] 89)).up 7
  have hlead := select_spec hC.key hC.len o3
  have x4 := (o3.up 5).cell 4
  have hsv : selV C.el C.tg = .tuple #[.int .i64 0, .int .i64 5] := by unfold selV; rw [if_pos hj]
  rw [hsv] at hlead
  clear hsv
  clear hj
  go_wp2_with fail
  refine hlead.mono ?_
  rintro e3 w3 ⟨rfl, o4, k3⟩
  clear hlead
  have hsel2 := select_spec hX.key hX.len (o4.up 8)
  have x5 := (o4.up 5).cell 5
  obtain ⟨code, hcode⟩ := HSE.out
  rw [hcode] at hsel2
  clear hcode HSE
  go_wp2_with fail
  refine hsel2.mono ?_
  rintro e6 w6 ⟨rfl, o9, k6⟩
  clear hsel2
  have y0 := Own.cell (T := 89) (vs := [.int .i64 k, .int .i64 k, .int .i64 1]) (o9.up 2) 0
  have y1 := Own.cell (T := 89) (vs := [.int .i64 k, .int .i64 k, .int .i64 1]) (o9.up 2) 1
  have y2 := Own.cell (T := 89) (vs := [.int .i64 k, .int .i64 k, .int .i64 1]) (o9.up 2) 2
  have z0 := Own.cell (T := 89) (vs := [.int .i64 0, .int .i64 0, .int .i64 0]) (o9.up 5) 0
  have z1 := Own.cell (T := 89) (vs := [.int .i64 0, .int .i64 0, .int .i64 0]) (o9.up 5) 1
  have z2 := Own.cell (T := 89) (vs := [.int .i64 0, .int .i64 0, .int .i64 0]) (o9.up 5) 2
  have zf := Own.frozen (T := 89) (vs := [.int .i64 0, .int .i64 0, .int .i64 0]) (o9.up 5)
  have zl := Own.celLt (T := 89) (vs := [.int .i64 0, .int .i64 0, .int .i64 0]) (o9.up 5)
  have o5 := Own.setCell (T := 89) (vs := [.int .i64 0, .int .i64 0, .int .i64 0]) (o9.up 5) 0 (.int .i64 k)
  have o6 := Own.setCell (T := 89) (vs := [.int .i64 k, .int .i64 0, .int .i64 0]) o5 1 (.int .i64 jj)
  have o7 := Own.setCell (T := 89) (vs := [.int .i64 k, .int .i64 jj, .int .i64 0]) o6 2 (.int .i64 4)
  go_wp2
  refine bodyPost_ret (v := .agg #[.int .i64 k, .int .i64 jj, .int .i64 4]) ?_ rfl ?_
  · exact chRow (p := w.heap.size) rfl rfl o7
  · exact ⟨rfl, ((o7.drop).up 2).drop.re [4, 3, 5, 6, 1, 0, 2], ⟨k6.os.trans (k3.os.trans (k2.os.trans k1.os)), k6.tape.trans (k3.tape.trans (k2.tape.trans k1.tape)), k6.output.trans (k3.output.trans (k2.output.trans k1.output))⟩⟩
end
end Go.Proofs.YtjpahfkchhnpoaaGreat

/- The choice of cifq: all its ways. -/
namespace Go.Proofs.YtjpahfkchhnpoaaGreat
open Go.RowKit
open SP
section
variable {w w' : World} {R : List SP} {b rp lp cp xp nb N : Nat} {reb : Int} {s : Cq}

theorem choose_spec {nu de cr cl : Nat} (hnu : nu < 4194304) (hde : de < 4194304) (hcr : cr < 1099511627776) (hcl : cl < 1099511627776) (hc : cntO s.n (selT s.R.L).1 = ((cr : Int), (cl : Int)))
    {Sp : SP} {a : Option Addr} {n c : Nat} {H : List Head} {so : Bool} (h1 : HeadsAt Sp a H) (hn : n = H.length) (hl : n ≤ 32) (hk : ∃ h ∈ H, h.f = (selT s.R.L).1) (hC : OrdOk s.C) (hX : OrdOk s.X)
    (o : Own w (ChoPool b (nu : Int) (de : Int) rp lp cp xp nb N reb s.R s.D s.C s.X s.n Sp R)) :
    Calls Tryz.prog 61 #[.pointer (some ⟨b, 0, none⟩), .slice a n c, .bool so] w
      (Ret (chV (chooseC (nu : Int) (de : Int) s H so)) (ChoPool b (nu : Int) (de : Int) rp lp cp xp nb N reb s.R s.D s.C s.X s.n Sp R) w) := by
  unfold chooseC
  dsimp only
  cases hg : (headOf H (selT s.R.L).1).good with
  | true =>
    cases hld : decide (lagO s.D (selT s.R.L).1 < 0) with
    | false => simp only [Bool.true_and, Bool.not_false, Bool.true_or, if_true]; exact choose_own h1 hn hl hk hg hld o
    | true =>
      cases hkp : keepsO (nu : Int) (de : Int) (cntO s.n (selT s.R.L).1) with
      | true => simp only [Bool.true_and, Bool.not_true, Bool.false_or, if_true]; exact choose_keeps hnu hde hcr hcl hc h1 hn hl hk hg hld hkp o
      | false =>
        simp only [Bool.true_and, Bool.not_true, Bool.false_or, Bool.false_eq_true, if_false, if_true]
        by_cases hj : 0 ≤ leastF s.C.el s.C.tg
        · rw [if_pos hj]; exact choose_lead hnu hde hcr hcl hc h1 hn hl hk hg hld hkp hC hj o
        · rw [if_neg hj]; exact choose_back hnu hde hcr hcl hc h1 hn hl hk hg hld hkp hC (by omega) o
  | false =>
    simp only [Bool.false_and, Bool.false_eq_true, if_false]
    by_cases hj : 0 ≤ leastF s.C.el s.C.tg
    · rw [if_pos hj]; exact choose_error h1 hn hl hk hg hC hj o
    · rw [if_neg hj]
      cases so with
      | true => simp only [if_true]; exact choose_excess h1 hn hl hk hg hC hX (by omega) o
      | false => simp only [Bool.false_eq_true, if_false]; exact choose_idle h1 hn hl hk hg hC (by omega) o
end
end Go.Proofs.YtjpahfkchhnpoaaGreat

/- Chapter 23: the law's generator of eligible flows, and the example. -/
namespace Go.Proofs.YtjpahfkchhnpoaaGreat
open Go.RowKit
open SP

def fullSet : List (Int × Int) := [(0, 1), (1, 2), (2, 3), (3, 1), (4, 16)]

section
variable {W w w' : World} {R : List SP} {b : Nat}

def SetPost (W : World) (b N : Nat) (R : List SP) (w : World) (e : Ending) (w' : World) : Prop :=
  ∃ (l : List (Int × Int)) (a : Option Addr) (cap : Nat), l.Sublist fullSet ∧ e = .returned (.slice a l.length cap) ∧ Own w' (slc 145 2 a l.length cap (flat part l) :: Ch W b (N + 5) :: old W :: R) ∧ Calm w w'

def SetRel (W : World) (b N : Nat) (R : List SP) (w : World) (v3 v4 : Value) (wr : World) : Prop :=
  ∃ (i : Nat) (l : List (Int × Int)) (a : Option Addr) (cap : Nat), i ≤ 5 ∧ l.Sublist (fullSet.take i) ∧ v4 = .int .i64 (i : Int) ∧ v3 = .slice a l.length cap ∧
    Own wr (slc 145 2 a l.length cap (flat part l) :: Ch W b (N + i) :: old W :: R) ∧ Calm w wr

theorem take_full {i : Nat} {p : Int × Int} (h : fullSet[i]? = some p) : fullSet.take (i + 1) = fullSet.take i ++ [p] := by
  rw [List.take_add_one, h]; rfl

end
end Go.Proofs.YtjpahfkchhnpoaaGreat

/- The order of comp as functions on lists of pairs: what Eligible, Select and Serve keep. No program in sight. -/
namespace Go.Proofs.YtjpahfkchhnpoaaGreat
open Go.RowKit
open SP

section
variable {reb tm : Int} {el tg : List (Int × Int)}

theorem tget_mput (tg : List (Int × Int)) (k v f : Int) : tget (mput tg k v) f = if f = k then v else tget tg f := by
  unfold tget; rw [mget_mput]; split <;> rfl
theorem tget_lower (by_ : Int) (hb : 0 ≤ by_) (tg : List (Int × Int)) (f : Int) : tget (lower by_ tg) f = max (tget tg f - by_) 0 := by
  induction tg with
  | nil => simp [tget, mget, lower]; omega
  | cons x tg ih =>
    obtain ⟨k, v⟩ := x
    unfold tget lower at *
    simp only [List.map_cons]
    unfold mget
    by_cases h : f = k
    · rw [if_pos h, if_pos h]; rfl
    · rw [if_neg h, if_neg h]; exact ih
theorem lower_keys (by_ : Int) (tg : List (Int × Int)) : (lower by_ tg).map (·.1) = tg.map (·.1) := by unfold lower; rw [List.map_map]; rfl
theorem Uniq.lower (h : Uniq tg) (by_ : Int) : Uniq (lower by_ tg) := by unfold Uniq; rw [lower_keys]; exact h
theorem tget_val (hu : Uniq tg) {x : Int × Int} (hx : x ∈ tg) : tget tg x.1 = x.2 := by unfold tget; rw [mget_mem hu hx]; rfl

theorem eligTg_uniq (el : List (Int × Int)) (tm : Int) : ∀ (l tg : List (Int × Int)), Uniq tg → Uniq (eligTg el tm l tg)
  | [], tg, h => h
  | p :: l, tg, h => by
    unfold eligTg
    refine eligTg_uniq el tm l _ ?_
    split
    · exact h
    · exact h.mput _ _
theorem eligTg_get (el : List (Int × Int)) (tm f : Int) : ∀ (l tg : List (Int × Int)), tget (eligTg el tm l tg) f = if f ∈ l.map (·.1) ∧ mget el f = none then max (tget tg f) tm else tget tg f
  | [], tg => by simp [eligTg]
  | p :: l, tg => by
    unfold eligTg
    rw [eligTg_get el tm f l]
    cases he : mget el p.1 with
    | none =>
      simp only [Option.isSome_none, Bool.false_eq_true, if_false]
      rw [tget_mput]
      by_cases hf : f = p.1
      · subst hf
        simp only [if_true, he, and_true, List.map_cons, List.mem_cons, true_or]
        split <;> omega
      · simp only [List.map_cons, List.mem_cons, hf, false_or, if_false]
    | some v =>
      simp only [Option.isSome_some, if_true]
      by_cases hf : f = p.1
      · subst hf; simp [he]
      · simp only [List.map_cons, List.mem_cons, hf, false_or]

theorem mput_end : ∀ (m : List (Int × Int)) (k v : Int), k ∉ m.map (·.1) → mput m k v = m ++ [(k, v)]
  | [], _, _, _ => rfl
  | (k', v') :: m, k, v, h => by
    simp only [List.map_cons, List.mem_cons, not_or] at h
    unfold mput
    rw [if_neg h.1, mput_end m k v h.2]; rfl
theorem eligEl_append : ∀ (l m : List (Int × Int)), ((m ++ l).map (·.1)).Nodup → eligEl l m = m ++ l
  | [], m, _ => by simp [eligEl]
  | p :: l, m, h => by
    unfold eligEl
    have hk : p.1 ∉ m.map (·.1) := by
      rw [List.map_append, List.nodup_append] at h
      intro hp
      exact h.2.2 _ hp _ (by simp) rfl
    rw [mput_end m p.1 p.2 hk, eligEl_append l _ (by simpa using h)]
    simp
theorem eligEl_self {l : List (Int × Int)} (h : Uniq l) : eligEl l [] = l := by rw [eligEl_append l [] (by simpa [Uniq] using h)]; rfl

theorem eligBad_ok : ∀ (l : List (Int × Int)) (last : Int), (l.map (·.1)).Pairwise (· < ·) → (∀ p ∈ l, last < p.1 ∧ p.1 < 32 ∧ 1 ≤ p.2 ∧ p.2 ≤ 16) → eligBad last l = false
  | [], _, _, _ => rfl
  | p :: l, last, h, hp => by
    have h0 := hp p (by simp)
    rw [List.map_cons, List.pairwise_cons] at h
    have ih := eligBad_ok l p.1 h.2 (fun q hq => ⟨h.1 _ (List.mem_map.2 ⟨q, hq, rfl⟩), (hp q (by simp [hq])).2⟩)
    unfold eligBad
    rw [ih]
    simp; omega

/-- The weights that the laws use. -/
def wf (f : Int) : Int := (mget fullSet f).getD 1
theorem set_facts {l : List (Int × Int)} (h : l.Sublist fullSet) : eligBad (-1) l = false ∧ Uniq l ∧ KeyOk l ∧ l.length ≤ 5 ∧ ∀ p ∈ l, 0 ≤ p.1 ∧ p.1 ≤ 4 ∧ p.2 = wf p.1 ∧ 1 ≤ p.2 ∧ p.2 ≤ 16 := by
  have hp : ∀ p ∈ l, 0 ≤ p.1 ∧ p.1 ≤ 4 ∧ p.2 = wf p.1 ∧ 1 ≤ p.2 ∧ p.2 ≤ 16 := fun p hp => by
    have : ∀ q ∈ fullSet, 0 ≤ q.1 ∧ q.1 ≤ 4 ∧ q.2 = wf q.1 ∧ 1 ≤ q.2 ∧ q.2 ≤ 16 := by decide
    exact this p (h.subset hp)
  have hw : (l.map (·.1)).Pairwise (· < ·) := by
    have : (fullSet.map (·.1)).Pairwise (· < ·) := by decide
    exact this.sublist (h.map _)
  have hu : Uniq l := by unfold Uniq; exact hw.imp (fun h => by omega)
  refine ⟨eligBad_ok l (-1) hw (fun p h => by have := hp p h; omega), hu, ⟨hu, fun x hx => by have := hp x hx; omega⟩, h.length_le, hp⟩

theorem wf_range (f : Int) : 1 ≤ wf f ∧ wf f ≤ 16 := by
  unfold wf
  cases h : mget fullSet f with
  | none => decide
  | some v =>
    have : ∀ q ∈ fullSet, 1 ≤ q.2 ∧ q.2 ≤ 16 := by decide
    exact this _ (mem_of_mget h)

theorem leastL_facts (tg : List (Int × Int)) : ∀ (ks : List Int) (best : Int), (∀ k ∈ ks, 0 ≤ k) → 0 ≤ best →
    (leastL tg ks best = best ∨ leastL tg ks best ∈ ks) ∧ tget tg (leastL tg ks best) ≤ tget tg best ∧ ∀ k ∈ ks, tget tg (leastL tg ks best) ≤ tget tg k
  | [], best, _, _ => ⟨.inl rfl, Int.le_refl _, by simp⟩
  | f :: ks, best, h, hb => by
    have hks : ∀ k ∈ ks, 0 ≤ k := fun k hk => h k (by simp [hk])
    unfold leastL
    by_cases hc : best < 0 ∨ tget tg f < tget tg best
    · rw [if_pos hc]
      obtain ⟨h1, h2, h3⟩ := leastL_facts tg ks f hks (h f (by simp))
      have hc' : tget tg f < tget tg best := by omega
      refine ⟨.inr (by rcases h1 with h1 | h1 <;> simp [h1]), by omega, ?_⟩
      intro k hk
      rcases List.mem_cons.1 hk with rfl | hk
      · exact h2
      · exact h3 k hk
    · rw [if_neg hc]
      obtain ⟨h1, h2, h3⟩ := leastL_facts tg ks best hks hb
      refine ⟨by rcases h1 with h1 | h1 <;> simp [h1], h2, ?_⟩
      intro k hk
      rcases List.mem_cons.1 hk with rfl | hk
      · omega
      · exact h3 k hk

theorem leastF_facts (el tg : List (Int × Int)) (h : ∀ p ∈ el, 0 ≤ p.1) : (el = [] ∧ leastF el tg = -1) ∨ (leastF el tg ∈ el.map (·.1) ∧ ∀ p ∈ el, tget tg (leastF el tg) ≤ tget tg p.1) := by
  have hk : ∀ k ∈ sortK el, 0 ≤ k := fun k hk => by
    obtain ⟨x, hx, rfl⟩ := List.mem_map.1 (sortK_mem.1 hk)
    exact h x hx
  have hm : ∀ k, k ∈ sortK el ↔ k ∈ el.map (·.1) := fun k => sortK_mem
  unfold leastF
  cases hs : sortK el with
  | nil =>
    left
    have : el.length = 0 := by rw [← sortK_length, hs]; rfl
    exact ⟨List.eq_nil_of_length_eq_zero this, rfl⟩
  | cons f ks =>
    right
    rw [hs] at hk hm
    unfold leastL
    rw [if_pos (.inl (by omega))]
    obtain ⟨h1, h2, h3⟩ := leastL_facts tg ks f (fun k hk' => hk k (by simp [hk'])) (hk f (by simp))
    refine ⟨(hm _).1 (by rcases h1 with h1 | h1 <;> simp [h1]), fun p hp => ?_⟩
    rcases List.mem_cons.1 ((hm p.1).2 (List.mem_map.2 ⟨p, hp, rfl⟩)) with h4 | h4
    · rw [h4]; exact h2
    · exact h3 _ h4

theorem mget_isSome_of {el : List (Int × Int)} {f : Int} (h : f ∈ el.map (·.1)) : ∃ v, mget el f = some v := by
  cases h' : mget el f with
  | none => exact absurd h (mget_none.1 h')
  | some v => exact ⟨v, rfl⟩

/-! ### CompSpread -/
structure SInv (sz : Int) (i : Nat) (el tg : List (Int × Int)) (tm : Int) : Prop where
  szr : 1 ≤ sz ∧ sz ≤ 4096
  sub : el.Sublist fullSet
  uniq : Uniq tg
  tm0 : 0 ≤ tm ∧ tm ≤ i * 2952069120
  get : ∀ f, 0 ≤ tget tg f ∧ tget tg f ≤ i * 2952069120 ∧ tget tg f ≤ tm + sz * unit1 (wf f)
  low : ∀ p ∈ el, tm ≤ tget tg p.1

theorem SInv.start {sz : Int} (hz : 1 ≤ sz ∧ sz ≤ 4096) : SInv sz 0 [] [] 0 := ⟨hz, List.nil_sublist _, by simp [Uniq], by omega, fun f => by
  have := unit1_range (wf_range f).1 (wf_range f).2
  show 0 ≤ (0 : Int) ∧ _
  refine ⟨Int.le_refl _, ?_, ?_⟩
  · show (0 : Int) ≤ _; simp
  · show (0 : Int) ≤ _; have := Int.mul_nonneg (show 0 ≤ sz by omega) (show 0 ≤ unit1 (wf f) by omega); omega, by simp⟩

theorem SInv.room {sz : Int} {i : Nat} (h : SInv sz i el tg tm) (f : Int) : 0 ≤ sz * unit1 (wf f) := by
  have := unit1_range (wf_range f).1 (wf_range f).2
  exact Int.mul_nonneg (by have := h.szr; omega) (by omega)

theorem SInv.vals {sz : Int} {i : Nat} (h : SInv sz i el tg tm) (hi : i ≤ 300) : ∀ x ∈ tg, 0 ≤ x.2 ∧ x.2 ≤ 1099511627776 := fun x hx => by
  have := h.get x.1
  rw [tget_val h.uniq hx] at this
  omega

theorem SInv.elig {sz : Int} {i : Nat} (h : SInv sz i el tg tm) {l : List (Int × Int)} (hl : l.Sublist fullSet) : SInv sz i (eligEl l []) (eligTg el tm l tg) tm := by
  obtain ⟨_, hu, _, _, hp⟩ := set_facts hl
  have hlow : ∀ f, mget el f ≠ none → tm ≤ tget tg f := fun f hf => by
    cases he : mget el f with
    | none => exact absurd he hf
    | some v => exact h.low _ (mem_of_mget he)
  have htm := h.tm0
  rw [eligEl_self hu]
  refine ⟨h.szr, hl, eligTg_uniq el tm l tg h.uniq, h.tm0, fun f => ?_, fun p hp => ?_⟩
  · have := h.get f
    have := h.room f
    rw [eligTg_get]
    split <;> omega
  · rw [eligTg_get]
    split
    · omega
    · rename_i hn
      refine hlow _ fun he => hn ⟨List.mem_map.2 ⟨p, hp, rfl⟩, he⟩

theorem SInv.serve {sz : Int} {i : Nat} (h : SInv sz i el tg tm) (hi : i ≤ 100) (hne : el ≠ []) {len : Int} (h1 : 1 ≤ len) (h2 : len ≤ sz) :
    0 ≤ leastF el tg ∧ servE el tg (leastF el tg) len = 0 ∧
    (servBy el tg tm (leastF el tg) len = servTm tg tm (leastF el tg)) ∧
    SInv sz (i + 1) el (servTg el tg (leastF el tg) len) (servTm tg tm (leastF el tg)) ∧
    SInv sz (i + 1) el (lower (servBy el tg tm (leastF el tg) len) (servTg el tg (leastF el tg) len)) (servTm tg tm (leastF el tg) - servBy el tg tm (leastF el tg) len) := by
  obtain ⟨_, hu, _, _, hp⟩ := set_facts h.sub
  have hp0 : ∀ p ∈ el, 0 ≤ p.1 := fun p hp' => (hp p hp').1
  rcases leastF_facts el tg hp0 with ⟨he, _⟩ | ⟨hmem, hmin⟩
  · exact absurd he hne
  have hf0 : 0 ≤ leastF el tg := by obtain ⟨p, hp', hpe⟩ := List.mem_map.1 hmem; rw [← hpe]; exact hp0 p hp'
  refine ⟨hf0, ?_⟩
  generalize leastF el tg = f at *
  obtain ⟨wt, hwt⟩ := mget_isSome_of hmem
  have hin := mem_of_mget hwt
  have hpw := hp _ hin
  dsimp only at hpw
  have hel : tget el f = wt := by unfold tget; rw [hwt]; rfl
  have hlow := h.low _ hin
  dsimp only at hlow
  have hg := h.get f
  have hsz := h.szr
  obtain ⟨c1, c2⟩ := cst_range (len := len) hpw.2.2.2.1 hpw.2.2.2.2 h1 (by have := h.szr; omega)
  have hfin : servFin el tg f len = (tget tg f + cst len wt, 0) := by
    unfold servFin finF
    rw [hel, if_neg (by unfold badLW; omega), if_neg (by omega)]
  have hcu : cst len wt ≤ sz * unit1 (wf f) := by
    rw [← hpw.2.2.1]
    exact Int.mul_le_mul_of_nonneg_right h2 (by have := unit1_range hpw.2.2.2.1 hpw.2.2.2.2; omega)
  have hE : servE el tg f len = 0 := by unfold servE; rw [hwt, hfin]; rfl
  have hTm : servTm tg tm f = tget tg f := by unfold servTm; omega
  have hTg : ∀ g, tget (servTg el tg f len) g = if g = f then tget tg f + cst len wt else tget tg g := fun g => by unfold servTg; rw [tget_mput, hfin]
  have hlow' : ∀ p ∈ el, tget tg f ≤ tget (servTg el tg f len) p.1 := fun p hp' => by
    rw [hTg]
    split
    · omega
    · exact hmin p hp'
  have hBy : servBy el tg tm f len = tget tg f := by
    unfold servBy
    rw [hTm]
    rcases leastF_facts el (servTg el tg f len) hp0 with ⟨he, _⟩ | ⟨hm2, _⟩
    · exact absurd he hne
    · obtain ⟨q, hq, hqe⟩ := List.mem_map.1 hm2
      have := hlow' q hq
      rw [hqe] at this
      omega
  have hu1 : Uniq (servTg el tg f len) := h.uniq.mput _ _
  refine ⟨hE, by rw [hBy, hTm], ⟨h.szr, h.sub, hu1, by rw [hTm]; push_cast; omega, fun g => ?_, by rw [hTm]; exact hlow'⟩, ⟨h.szr, h.sub, hu1.lower _, by rw [hTm, hBy]; push_cast; omega, fun g => ?_, fun p hp' => ?_⟩⟩
  · have hgg := h.get g
    rw [hTm, hTg]
    split
    · rename_i hgf; subst hgf; push_cast; omega
    · push_cast; omega
  · have hgg := h.get g
    have hug := h.room g
    rw [hBy, tget_lower _ hg.1, hTm, hTg]
    split
    · rename_i hgf; subst hgf; push_cast; omega
    · push_cast; omega
  · rw [hBy, hTm, tget_lower _ hg.1]
    omega
end
end Go.Proofs.YtjpahfkchhnpoaaGreat

/- Regions whose order Go leaves open: one invariant that every operation keeps serves for all orders. -/
namespace Go.Proofs.YtjpahfkchhnpoaaGreat
open Go.RowKit
section
variable {P : Program} {ops : Array Oper} {Q : Exit → Act → World → Prop}

theorem count_set_lt : ∀ (l : List Bool) (i : Nat), l[i]? = some false → (l.set i true).count false < l.count false
  | [], i, h => by simp at h
  | b :: l, 0, h => by
    simp at h; subst h
    simp
  | b :: l, i + 1, h => by
    have := count_set_lt l i (by simpa using h)
    simp only [List.set_cons_succ, List.count_cons]
    omega

theorem count_zero_all : ∀ (l : List Bool), l.count false = 0 → ∀ b ∈ l, b = true
  | [], _, b, h => by simp at h
  | c :: l, h, b, hb => by
    rw [List.count_cons] at h
    have h1 : l.count false = 0 := by omega
    rcases List.mem_cons.1 hb with rfl | hb
    · cases b
      · simp at h
      · rfl
    · exact count_zero_all l h1 b hb

/-- Edges point back. -/
def edgesBack (ops : Array Oper) : Bool := ops.toList.zipIdx.all fun (o, i) => o.after.all fun e => !Region.binds .any e || decide (e.on < i)
theorem edgesBack_spec (h : edgesBack ops = true) {i : Nat} {o : Oper} (ho : ops[i]? = some o) {e : Edge} (he : e ∈ o.after) (hb : Region.binds .any e = true) : e.on < i := by
  unfold edgesBack at h
  rw [List.all_eq_true] at h
  have hm : (o, i) ∈ ops.toList.zipIdx := by
    rw [List.mk_mem_zipIdx_iff_getElem?]
    simpa using ho
  have := h _ hm
  simp only [Array.all_eq_true'] at this
  have := this e he
  rw [hb] at this
  simpa using this

theorem ready_nil_all (hk : edgesBack ops = true) {L : Array Bool} (hs : L.size = ops.size) (h : Region.ready .any ops L = []) : ∀ i, i < ops.size → L.getD i true = true := by
  intro i
  induction i using Nat.strongRecOn with
  | _ i ih =>
    intro hi
    cases hc : L.getD i true with
    | true => rfl
    | false =>
      exfalso
      have hm : i ∈ Region.ready .any ops L := by
        rw [mem_ready]
        refine ⟨hc, ops[i], Array.getElem?_eq_getElem hi, fun e he hb => ?_⟩
        have hlt := edgesBack_spec hk (Array.getElem?_eq_getElem hi) he hb
        have := ih e.on hlt (by omega)
        have h1 : e.on < L.size := by omega
        simp only [Array.getD, h1, dif_pos] at this ⊢
        exact this
      rw [h] at hm
      cases hm

theorem wpAny_inv {I : Array Bool → Act → World → Prop} (hk : edgesBack ops = true)
    (step : ∀ (L : Array Bool) (i : Nat) (o : Oper) (a : Act) (w : World), L.size = ops.size → ops[i]? = some o → L.getD i true = false → (∀ e ∈ o.after, Region.binds .any e = true → L.getD e.on false = true) → I L a w → wpOp P ops Q i (I (L.setIfInBounds i true)) a w)
    (fin : ∀ (L : Array Bool) (a : Act) (w : World), L.size = ops.size → (∀ i, i < ops.size → L.getD i true = true) → I L a w → Q .normal a w) :
    ∀ (fuel : Nat) (L : Array Bool) (a : Act) (w : World), L.size = ops.size → L.toList.count false ≤ fuel → I L a w → wpAny P .any ops Q fuel L a w
  | 0, L, a, w, hs, hc, hI => by
    have hall : ∀ i, i < ops.size → L.getD i true = true := by
      intro i hi
      have h1 : i < L.size := by omega
      have h2 := count_zero_all L.toList (by omega) L[i] (by simp)
      simp only [Array.getD, h1, dif_pos]
      exact h2
    refine ⟨?_, fin L a w hs hall hI⟩
    cases hr : Region.ready .any ops L with
    | nil => rfl
    | cons j l =>
      exfalso
      have hm : j ∈ Region.ready .any ops L := by rw [hr]; exact List.mem_cons_self
      obtain ⟨h1, o, ho, _⟩ := mem_ready.1 hm
      rw [hall j (Array.getElem?_eq_some_iff.1 ho).1] at h1
      cases h1
  | fuel + 1, L, a, w, hs, hc, hI => by
    refine ⟨fun h => fin L a w hs (ready_nil_all hk hs h) hI, fun i hi => ?_⟩
    obtain ⟨h1, o, ho, h2⟩ := mem_ready.1 hi
    refine wpOp_mono (fun a' w' hI' => ?_) (step L i o a w hs ho h1 h2 hI)
    refine wpAny_inv hk step fin fuel _ a' w' (by simpa using hs) ?_ hI'
    have hlt := (Array.getElem?_eq_some_iff.1 ho).1
    have h3 : L.toList[i]? = some false := by
      have h4 : i < L.size := by omega
      simp only [Array.getD, h4, dif_pos] at h1
      rw [Array.getElem?_toList, Array.getElem?_eq_getElem h4]
      exact congrArg some h1
    have := count_set_lt _ _ h3
    rw [Array.toList_setIfInBounds]
    omega

/-- What an activation holds when the operations that L marks have been carried out, with the values v. -/
structure Agree (A0 : Act) (ops : Array Oper) (L : Nat → Bool) (v : Nat → Value) (a : Act) : Prop where
  defers : a.defers = A0.defers
  size : a.tmps.size = A0.tmps.size
  off : ∀ t : Nat, (∀ k o, ops[k]? = some o → o.dst = some t → L k = false) → a.tmps.getD t undef = A0.tmps.getD t undef
  on : ∀ (k : Nat) (o : Oper) (t : Nat), ops[k]? = some o → o.dst = some t → L k = true → a.tmps.getD t undef = v k

def dIns (L : Nat → Bool) (i : Nat) : Nat → Bool := fun j => if j = i then true else L j
def dUpd (v : Nat → Value) (i : Nat) (x : Value) : Nat → Value := fun j => if j = i then x else v j

/-- Each operation has a slot of its own. -/
def slotsOk (ops : Array Oper) (n : Nat) : Bool :=
  (List.range ops.size).all fun i => match (ops[i]?).bind (·.dst) with
    | none => true
    | some t => decide (t < n) && (List.range ops.size).all fun j => decide (i = j) || (ops[j]?).bind (·.dst) != some t
theorem slotsOk_lt {n : Nat} (h : slotsOk ops n = true) {i : Nat} {o : Oper} {t : Nat} (ho : ops[i]? = some o) (ht : o.dst = some t) : t < n := by
  unfold slotsOk at h
  rw [List.all_eq_true] at h
  have := h i (List.mem_range.2 (Array.getElem?_eq_some_iff.1 ho).1)
  rw [ho] at this
  simp only [Option.bind_some, ht, Bool.and_eq_true, decide_eq_true_eq] at this
  exact this.1
theorem slotsOk_ne {n : Nat} (h : slotsOk ops n = true) {i j : Nat} {o o' : Oper} {t : Nat} (ho : ops[i]? = some o) (ht : o.dst = some t) (ho' : ops[j]? = some o') (ht' : o'.dst = some t) : i = j := by
  unfold slotsOk at h
  rw [List.all_eq_true] at h
  have := h i (List.mem_range.2 (Array.getElem?_eq_some_iff.1 ho).1)
  rw [ho] at this
  simp only [Option.bind_some, ht, Bool.and_eq_true, decide_eq_true_eq, List.all_eq_true] at this
  have := this.2 j (List.mem_range.2 (Array.getElem?_eq_some_iff.1 ho').1)
  rw [ho'] at this
  simpa [ht'] using this

theorem Agree.put {A0 a : Act} {L : Nat → Bool} {v : Nat → Value} {i : Nat} {o : Oper} (hs : slotsOk ops A0.tmps.size = true) (h : Agree A0 ops L v a) (ho : ops[i]? = some o) (x : Value) :
    Agree A0 ops (dIns L i) (dUpd v i x) (a.put o.dst x) := by
  cases hd : o.dst with
  | none =>
    refine ⟨h.defers, h.size, fun t ht => h.off t fun k o' hk hk' => ?_, fun k o' t hk hk' hl => ?_⟩
    · have := ht k o' hk hk'
      unfold dIns at this
      split at this
      · cases this
      · exact this
    · unfold dIns at hl
      split at hl
      · rename_i e; subst e; rw [ho] at hk; cases hk; rw [hd] at hk'; cases hk'
      · rename_i e
        simp only [dUpd, if_neg e]
        exact h.on k o' t hk hk' hl
  | some d =>
    have hdl : d < a.tmps.size := by rw [h.size]; exact slotsOk_lt hs ho hd
    have same : ∀ t, t ≠ d → (a.put (some d) x).tmps.getD t undef = a.tmps.getD t undef := by
      intro t ht
      simp only [Act.put, Array.getD_eq_getD_getElem?, Array.getElem?_setIfInBounds]
      rw [if_neg (Ne.symm ht)]
    refine ⟨h.defers, by simp [Act.put, h.size], fun t ht => ?_, fun k o' t hk hk' hl => ?_⟩
    · have hne : t ≠ d := by
        rintro rfl
        have := ht i o ho hd
        simp [dIns] at this
      rw [same t hne]
      refine h.off t fun k o' hk hk' => ?_
      have := ht k o' hk hk'
      unfold dIns at this
      split at this
      · cases this
      · exact this
    · by_cases hki : k = i
      · subst hki
        rw [ho] at hk; cases hk
        rw [hd] at hk'; cases hk'
        simp [Act.put, dUpd, Array.getD_eq_getD_getElem?, hdl]
      · have hne : t ≠ d := by
          rintro rfl
          exact hki (slotsOk_ne hs hk hk' ho hd)
        rw [same t hne]
        simp only [dIns, if_neg hki] at hl
        simp only [dUpd, if_neg hki]
        exact h.on k o' t hk hk' hl

theorem Agree.start (A0 : Act) (ops : Array Oper) (v : Nat → Value) : Agree A0 ops (fun _ => false) v A0 :=
  ⟨rfl, rfl, fun _ _ => rfl, fun _ _ _ _ _ h => by cases h⟩

theorem Agree.uniq {A0 a b : Act} {L : Nat → Bool} {v : Nat → Value} (h : Agree A0 ops L v a) (k : Agree A0 ops L v b) : a = b := by
  have e1 : a.defers = b.defers := h.defers.trans k.defers.symm
  have es : a.tmps.size = b.tmps.size := h.size.trans k.size.symm
  have e2 : a.tmps = b.tmps := by
    apply Array.ext es
    intro t h1 h2
    have hh : a.tmps.getD t undef = b.tmps.getD t undef := by
      by_cases hx : ∃ k o, ops[k]? = some o ∧ o.dst = some t ∧ L k = true
      · obtain ⟨k', o, ho, hd, hl⟩ := hx
        rw [h.on k' o t ho hd hl, k.on k' o t ho hd hl]
      · have hno : ∀ k o, ops[k]? = some o → o.dst = some t → L k = false := by
          intro k' o ho hd
          cases hl : L k' with
          | false => rfl
          | true => exact absurd ⟨k', o, ho, hd, hl⟩ hx
        rw [h.off t hno, k.off t hno]
    simpa [Array.getD, h1, h2] using hh
  cases a; cases b
  simp only at e1 e2
  rw [e1, e2]

/-- All operations' values, put in the order of the text. -/
def putAll : List Oper → Nat → (Nat → Value) → Act → Act
  | [], _, _, a => a
  | o :: l, k, v, a => putAll l (k + 1) v (a.put o.dst (v k))

theorem Agree.congr {A0 a : Act} {L L' : Nat → Bool} {v v' : Nat → Value} (h : Agree A0 ops L v a) (hL : ∀ k, k < ops.size → L k = L' k) (hv : ∀ k, k < ops.size → L k = true → v k = v' k) : Agree A0 ops L' v' a :=
  ⟨h.defers, h.size, fun t ht => h.off t fun k o ho hd => by rw [hL k (Array.getElem?_eq_some_iff.1 ho).1]; exact ht k o ho hd,
   fun k o t ho hd hl => by
    have hk := (Array.getElem?_eq_some_iff.1 ho).1
    rw [← hL k hk] at hl
    rw [h.on k o t ho hd hl, hv k hk hl]⟩

theorem Agree.all {A0 : Act} (hs : slotsOk ops A0.tmps.size = true) (v : Nat → Value) : ∀ (l : List Oper) (k : Nat) (a : Act), ops.toList.drop k = l → Agree A0 ops (fun j => decide (j < k)) v a → Agree A0 ops (fun _ => true) v (putAll l k v a)
  | [], k, a, hl, h => by
    have hk : ops.size ≤ k := by
      have := congrArg List.length hl
      simp at this
      omega
    refine h.congr (fun j hj => by simp; omega) (fun _ _ _ => rfl)
  | o :: l, k, a, hl, h => by
    have ho : ops[k]? = some o := by
      have : (ops.toList.drop k)[0]? = some o := by rw [hl]; rfl
      rw [List.getElem?_drop] at this
      simpa using this
    have hl' : ops.toList.drop (k + 1) = l := by
      rw [← List.drop_drop, hl]; rfl
    refine Agree.all hs v l (k + 1) _ hl' ?_
    refine (h.put hs ho (v k)).congr (fun j hj => ?_) (fun j hj _ => ?_)
    · unfold dIns; split
      · rename_i e; subst e; simp
      · rename_i e
        have : (j < k) ↔ (j < k + 1) := by omega
        simp [this]
    · unfold dUpd; split
      · rename_i e; rw [e]
      · rfl

/-- Said of every operation. -/
def AllOps : List Oper → Nat → (Nat → Oper → Prop) → Prop
  | [], _, _ => True
  | o :: l, k, p => p k o ∧ AllOps l (k + 1) p
theorem AllOps.get {p : Nat → Oper → Prop} : ∀ {l : List Oper} {k : Nat}, AllOps l k p → ∀ (i : Nat) (o : Oper), l[i]? = some o → p (k + i) o
  | [], _, _, i, o, h => by simp at h
  | x :: l, k, h, 0, o, ho => by simp at ho; subst ho; exact h.1
  | x :: l, k, h, i + 1, o, ho => by
    have := AllOps.get h.2 i o (by simpa using ho)
    rwa [show k + 1 + i = k + (i + 1) by omega] at this

/-- The step of one operation. -/
def DrawStep (P : Program) (ops : Array Oper) (Q : Exit → Act → World → Prop) (A0 : Act) (Inv : (Nat → Bool) → (Nat → Value) → World → Prop) (i : Nat) (o : Oper) : Prop :=
  ∀ (L : Nat → Bool) (v : Nat → Value) (a : Act) (w : World), L i = false → (∀ e ∈ o.after, Region.binds .any e = true → L e.on = true) → Agree A0 ops L v a → Inv L v w →
    ∀ K' : Act → World → Prop, Shut (∀ x w', Inv (dIns L i) (dUpd v i x) w' → K' (a.put o.dst x) w') → if Region.wanted o (yielded ops a.tmps) = true then Oper.wp P o a w K' Q else K' (a.put o.dst undef) w
theorem Agree.get {A0 a : Act} {L : Nat → Bool} {v : Nat → Value} (h : Agree A0 ops L v a) (k : Nat) {t : Nat} (hl : L k = true) (ho : (ops[k]?).bind (·.dst) = some t := by rfl) : a.tmps[t]?.getD undef = v k := by
  obtain ⟨o, ho, hd⟩ := Option.bind_eq_some_iff.1 ho
  rw [← Array.getD_eq_getD_getElem?]
  exact h.on k o t ho hd hl
theorem Agree.base {A0 a : Act} {L : Nat → Bool} {v : Nat → Value} (h : Agree A0 ops L v a) (t : Nat) (hb : (ops.toList.all fun o => o.dst != some t) = true) : a.tmps[t]?.getD undef = A0.tmps[t]?.getD undef := by
  rw [← Array.getD_eq_getD_getElem?, ← Array.getD_eq_getD_getElem?]
  refine h.off t fun k o ho hd => ?_
  rw [List.all_eq_true] at hb
  have := hb o (by have := Array.mem_of_getElem? ho; simpa using this)
  rw [hd] at this
  simp at this
/-- An operation number i of a DrawStep, with the way on laid open. -/
theorem DrawStep.mk {A0 : Act} {Inv : (Nat → Bool) → (Nat → Value) → World → Prop} {i : Nat} {o : Oper} (hg : o.guard = none)
    (h : ∀ (L : Nat → Bool) (v : Nat → Value) (a : Act) (w : World), L i = false → (∀ e ∈ o.after, Region.binds .any e = true → L e.on = true) → Agree A0 ops L v a → Inv L v w →
      ∀ K' : Act → World → Prop, Shut (∀ x w', Inv (dIns L i) (dUpd v i x) w' → K' (a.put o.dst x) w') → Oper.wp P o a w K' Q) : DrawStep P ops Q A0 Inv i o := by
  intro L v a w h1 h2 h3 h4 K' hK
  rw [if_pos (by unfold Region.wanted; rw [hg])]
  exact h L v a w h1 h2 h3 h4 K' hK

theorem wp_region_draws {id : Nat} {A0 : Act} {w : World} (Inv : (Nat → Bool) → (Nat → Value) → World → Prop) (hm : P.follows .mixedOrders = true)
    (hk : edgesBack ops = true) (hs : slotsOk ops A0.tmps.size = true)
    (h0 : Inv (fun _ => false) (fun _ => undef) w.drew)
    (step : AllOps ops.toList 0 (DrawStep P ops Q A0 Inv))
    (fin : ∀ (L : Nat → Bool) (v : Nat → Value) (w : World), (∀ i, i < ops.size → L i = true) → Inv L v w → Q .normal (putAll ops.toList 0 v A0) w) : (Code.region id ops true).wp P Q A0 w := by
  refine wp_region_any hm ?_
  refine wpAny_inv (I := fun L a w => ∃ v, Agree A0 ops (fun j => L.getD j false) v a ∧ Inv (fun j => L.getD j false) v w) hk ?_ ?_ _ _ _ _ (by simp) ?_ ?_
  · rintro L i o a w hLs ho hL hdep ⟨v, hA, hI⟩
    have hi := (Array.getElem?_eq_some_iff.1 ho).1
    have hiL : i < L.size := by omega
    have hLi : L.getD i false = false := by
      simp only [Array.getD, hiL, dif_pos] at hL ⊢; exact hL
    have hst := step.get i o (by simpa using ho)
    rw [Nat.zero_add] at hst
    have hst := hst _ v a w hLi hdep hA hI
    have hins : (fun j => (L.setIfInBounds i true).getD j false) = dIns (fun j => L.getD j false) i := by
      funext j
      unfold dIns
      by_cases hj : j = i
      · subst hj; simp [Array.getD_eq_getD_getElem?, hiL]
      · simp [Array.getD_eq_getD_getElem?, Ne.symm hj, hj]
    refine wpOp_step ho fun K' hK => hst K' ?_
    intro x w' hI'
    exact hK _ _ ⟨_, by rw [hins]; exact hA.put hs ho x, by rw [hins]; exact hI'⟩
  · rintro L a w hLs hall ⟨v, hA, hI⟩
    have hall' : ∀ i, i < ops.size → L.getD i false = true := by
      intro i hi
      have h1 : i < L.size := by omega
      have := hall i hi
      simp only [Array.getD, h1, dif_pos] at this ⊢; exact this
    have e : a = putAll ops.toList 0 v A0 := by
      refine Agree.uniq (L := fun _ => true) (v := v) (hA.congr (fun k hk => hall' k hk) (fun _ _ _ => rfl)) ?_
      exact Agree.all hs v ops.toList 0 A0 (by simp) ((Agree.start A0 ops v).congr (fun k hk => by simp) (fun _ _ h => by cases h))
    rw [e]
    exact fin _ v w hall' hI
  · simp
  · have e : (fun j => (Array.replicate ops.size false).getD j false) = fun _ => false := by
      funext j
      simp only [Array.getD_eq_getD_getElem?, Array.getElem?_replicate]
      split <;> rfl
    rw [e]
    exact ⟨_, Agree.start A0 ops _, h0⟩
end
section
open SP
variable {W w w' : World} {R : List SP}
/-- A table that a region lays and then indexes: the part of its array. -/
def Tb (l : Bool) (v : Value) (T : TypeId) (xs : List Value) : SP :=
  if l = true then ex fun (g : Nat) => st [pu (v = .slice (some ⟨g, 0, none⟩) xs.length xs.length), cel g T xs] else pu True
theorem Tb.no {v : Value} {T : TypeId} {xs : List Value} (o : Own w R) : Own w (Tb false v T xs :: R) := by
  unfold Tb
  rw [if_neg (by decide)]
  exact Own.pu.2 ⟨trivial, o⟩
theorem Tb.new {v : Value} {T : TypeId} {xs : List Value} (_ : Own w (Tb false v T xs :: R)) (g : Nat) (o' : Own w' (cel g T xs :: Tb false v T xs :: R)) : Own w' (Tb true (.slice (some ⟨g, 0, none⟩) xs.length xs.length) T xs :: R) := by
  unfold Tb at o' ⊢
  rw [if_neg (by decide)] at o'
  rw [if_pos rfl]
  exact Own.ex.2 ⟨g, Own.st.2 (Own.pu.2 ⟨rfl, o'.swap.drop⟩)⟩
theorem Tb.at {g n m : Nat} {T : TypeId} {xs : List Value} (o : Own w (Tb true (.slice (some ⟨g, 0, none⟩) n m) T xs :: R)) {j : Nat} (hj : j < xs.length) : w.cell? ⟨g, j, none⟩ = some xs[j] := by
  unfold Tb at o
  rw [if_pos rfl] at o
  obtain ⟨g', o⟩ := Own.ex.1 o
  obtain ⟨h, o⟩ := Own.pu.1 (Own.st.1 o)
  simp only [Value.slice.injEq, Option.some.injEq, Addr.mk.injEq] at h
  obtain ⟨⟨rfl, _⟩, _⟩ := h
  exact Own.cell o j (List.getElem?_eq_getElem hj)
theorem Tb.val {v : Value} {T : TypeId} {xs : List Value} (o : Own w (Tb true v T xs :: R)) : ∃ g : Nat, v = .slice (some ⟨g, 0, none⟩) xs.length xs.length := by
  unfold Tb at o
  rw [if_pos rfl] at o
  obtain ⟨g, o⟩ := Own.ex.1 o
  exact ⟨g, (Own.pu.1 (Own.st.1 o)).1⟩
theorem tblInt {k : IntKind} (l : List Int) {x : Value} (h : x ∈ l.map (Value.int k)) : ∃ y : Int, x = .int k y := by
  obtain ⟨y, _, rfl⟩ := List.mem_map.1 h
  exact ⟨y, rfl⟩
/-- What is known of the values of such a table's operations: move, call, address, load. -/
structure TD (L : Nat → Bool) (v : Nat → Value) (cb b m c a l : Nat) (xs : List Value) : Prop where
  move : L m = true → v m = .pointer (some ⟨cb, 0, none⟩)
  call : L c = true → ∃ j : Nat, j < xs.length ∧ v c = .int .i64 (j : Int)
  addr : L a = true → L b = true ∧ ∃ g j : Nat, j < xs.length ∧ v b = .slice (some ⟨g, 0, none⟩) xs.length xs.length ∧ v a = .pointer (some ⟨g, j, none⟩)
  load : L l = true → v l ∈ xs
theorem TD.no {v : Nat → Value} {cb b m c a l : Nat} {xs : List Value} : TD (fun _ => false) v cb b m c a l xs :=
  ⟨fun h => (Bool.false_ne_true h).elim, fun h => (Bool.false_ne_true h).elim, fun h => (Bool.false_ne_true h).elim, fun h => (Bool.false_ne_true h).elim⟩
theorem TD.other {L : Nat → Bool} {v : Nat → Value} {cb b m c a l : Nat} {xs : List Value} (h : TD L v cb b m c a l xs) {i : Nat} (x : Value) (hL : L i = false) (hn : i ≠ m ∧ i ≠ c ∧ i ≠ a ∧ i ≠ l) :
    TD (dIns L i) (dUpd v i x) cb b m c a l xs := by
  obtain ⟨h1, h2, h3, h4⟩ := hn
  refine ⟨fun hh => ?_, fun hh => ?_, fun hh => ?_, fun hh => ?_⟩
  · simp only [dIns, dUpd, if_neg (Ne.symm h1)] at hh ⊢; exact h.move hh
  · simp only [dIns, dUpd, if_neg (Ne.symm h2)] at hh ⊢; exact h.call hh
  · simp only [dIns, if_neg (Ne.symm h3)] at hh
    obtain ⟨k1, g, j, k2, k3, k4⟩ := h.addr hh
    have hb : b ≠ i := by rintro rfl; rw [hL] at k1; cases k1
    simp only [dIns, dUpd, if_neg (Ne.symm h3), if_neg hb]
    exact ⟨k1, g, j, k2, k3, k4⟩
  · simp only [dIns, dUpd, if_neg (Ne.symm h4)] at hh ⊢; exact h.load hh
theorem TD.doMove {L : Nat → Bool} {v : Nat → Value} {cb b m c a l : Nat} {xs : List Value} (h : TD L v cb b m c a l xs) (hL : L m = false) (hn : m ≠ c ∧ m ≠ a ∧ m ≠ l) :
    TD (dIns L m) (dUpd v m (.pointer (some ⟨cb, 0, Option.none⟩))) cb b m c a l xs := by
  obtain ⟨h2, h3, h4⟩ := hn
  refine ⟨fun _ => by simp [dUpd], fun hh => ?_, fun hh => ?_, fun hh => ?_⟩
  · simp only [dIns, dUpd, if_neg (Ne.symm h2)] at hh ⊢; exact h.call hh
  · simp only [dIns, if_neg (Ne.symm h3)] at hh
    obtain ⟨k1, g, j, k2, k3, k4⟩ := h.addr hh
    have hb : b ≠ m := by rintro rfl; rw [hL] at k1; cases k1
    simp only [dIns, dUpd, if_neg (Ne.symm h3), if_neg hb]
    exact ⟨k1, g, j, k2, k3, k4⟩
  · simp only [dIns, dUpd, if_neg (Ne.symm h4)] at hh ⊢; exact h.load hh
theorem TD.doCall {L : Nat → Bool} {v : Nat → Value} {cb b m c a l : Nat} {xs : List Value} (h : TD L v cb b m c a l xs) (hL : L c = false) (hn : c ≠ m ∧ c ≠ a ∧ c ≠ l) {j : Nat} (hj : j < xs.length) :
    TD (dIns L c) (dUpd v c (.int .i64 (j : Int))) cb b m c a l xs := by
  obtain ⟨h2, h3, h4⟩ := hn
  refine ⟨fun hh => ?_, fun hh => ⟨j, hj, by simp [dUpd]⟩, fun hh => ?_, fun hh => ?_⟩
  · simp only [dIns, dUpd, if_neg (Ne.symm h2)] at hh ⊢; exact h.move hh
  · simp only [dIns, if_neg (Ne.symm h3)] at hh
    obtain ⟨k1, g, j, k2, k3, k4⟩ := h.addr hh
    have hb : b ≠ c := by rintro rfl; rw [hL] at k1; cases k1
    simp only [dIns, dUpd, if_neg (Ne.symm h3), if_neg hb]
    exact ⟨k1, g, j, k2, k3, k4⟩
  · simp only [dIns, dUpd, if_neg (Ne.symm h4)] at hh ⊢; exact h.load hh
theorem TD.doAddr {L : Nat → Bool} {v : Nat → Value} {cb b m c a l : Nat} {xs : List Value} (h : TD L v cb b m c a l xs) (hL : L a = false) (hn : a ≠ m ∧ a ≠ c ∧ a ≠ l) (hb : L b = true) {g j : Nat} (hj : j < xs.length) (hv : v b = .slice (some ⟨g, 0, Option.none⟩) xs.length xs.length) :
    TD (dIns L a) (dUpd v a (.pointer (some ⟨g, j, Option.none⟩))) cb b m c a l xs := by
  obtain ⟨h2, h3, h4⟩ := hn
  have hba : b ≠ a := by rintro rfl; rw [hL] at hb; cases hb
  refine ⟨fun hh => ?_, fun hh => ?_, fun hh => ⟨?_, g, j, hj, ?_, ?_⟩, fun hh => ?_⟩
  · simp only [dIns, dUpd, if_neg (Ne.symm h2)] at hh ⊢; exact h.move hh
  · simp only [dIns, dUpd, if_neg (Ne.symm h3)] at hh ⊢; exact h.call hh
  · simp only [dIns, if_neg hba]; exact hb
  · simp only [dUpd, if_neg hba]; exact hv
  · simp [dUpd]
  · simp only [dIns, dUpd, if_neg (Ne.symm h4)] at hh ⊢; exact h.load hh
theorem TD.doLoad {L : Nat → Bool} {v : Nat → Value} {cb b m c a l : Nat} {xs : List Value} (h : TD L v cb b m c a l xs) (hL : L l = false) (hn : l ≠ m ∧ l ≠ c ∧ l ≠ a) {x : Value} (hx : x ∈ xs) :
    TD (dIns L l) (dUpd v l x) cb b m c a l xs := by
  obtain ⟨h2, h3, h4⟩ := hn
  refine ⟨fun hh => ?_, fun hh => ?_, fun hh => ?_, fun hh => by simpa [dUpd] using hx⟩
  · simp only [dIns, dUpd, if_neg (Ne.symm h2)] at hh ⊢; exact h.move hh
  · simp only [dIns, dUpd, if_neg (Ne.symm h3)] at hh ⊢; exact h.call hh
  · simp only [dIns, if_neg (Ne.symm h4)] at hh
    obtain ⟨k1, g, j, k2, k3, k4⟩ := h.addr hh
    have hb : b ≠ l := by rintro rfl; rw [hL] at k1; cases k1
    simp only [dIns, dUpd, if_neg (Ne.symm h4), if_neg hb]
    exact ⟨k1, g, j, k2, k3, k4⟩
def dOne (b : Bool) : Nat := if b = true then 1 else 0
theorem dOne_le (b : Bool) : dOne b ≤ 1 := by unfold dOne; split <;> omega
theorem dOne_no : dOne false = 0 := rfl
theorem dOne_yes : dOne true = 1 := rfl
end
end Go.Proofs.YtjpahfkchhnpoaaGreat

/- The program's ledger of lags: Transfer. -/
namespace Go.Proofs.YtjpahfkchhnpoaaGreat
open Go.RowKit
open SP
section
variable {W w w' : World} {b N : Nat} {L : List Tg} {R : List SP}

theorem nMove_none {c s n : Int} (h : fget L c = none ∨ fget L s = none) : nMove L c s n = (6, L) := by
  unfold nMove
  rcases h with h | h
  · rw [h]
  · rw [h]; cases fget L c <;> rfl
theorem nMove_some {c s n : Int} {a d : Tg} (hc : fget L c = some a) (hs : fget L s = some d) : nMove L c s n =
    if n < 1 ∨ 4096 < n then (1, L) else if c = s then (0, L)
    else if 1099511627776 < a.s + n ∨ 1099511627776 < d.s - n ∨ a.s + n < -1099511627776 ∨ d.s - n < -1099511627776 then (2, L)
    else (0, setT ⟨s, d.w, d.s - n⟩ (setT ⟨c, a.w, a.s + n⟩ L)) := by
  unfold nMove; rw [hc, hs]
/-- What a lookup gives. -/
theorem lookN_any {ab : Nat} {m : List (Int × Tg)} (o : Own w (mpI accV ab m :: R)) (hm : RepN m L) (k : Int) :
    ∃ (wt s : Int) (z : Bool), (Instr.lookup 110 (.map (some ab)) (.int .i64 k) true).run Tryz.prog w = .ok (.tuple #[.agg #[.int .i64 wt, .int .i64 s], .bool z]) w ∧ (z = true → ∃ t, fget L k = some t ∧ t.w = wt ∧ t.s = s) ∧ (z = false → fget L k = none) := by
  cases hf : fget L k with
  | none => exact ⟨0, 0, false, lookN_none o hm hf, fun h => by simp at h, fun _ => rfl⟩
  | some t => exact ⟨t.w, t.s, true, lookN_some o hm hf, fun _ => ⟨t, rfl, rfl, rfl⟩, fun h => by simp at h⟩

def mvMap (c s : Int) (a d : Tg) (x y : Int) (m : List (Int × Tg)) (L : Nat → Bool) : List (Int × Tg) :=
  if L 17 then mput (mput m c ⟨c, a.w, x⟩) s ⟨s, d.w, y⟩ else if L 14 then mput m c ⟨c, a.w, x⟩ else m
def MvInv (b h g ab : Nat) (c s : Int) (a d : Tg) (x y : Int) (m : List (Int × Tg)) (R : List SP) (w : World) (L : Nat → Bool) (v : Nat → Value) (wc : World) : Prop :=
  Own wc (mpI accV ab (mvMap c s a d x y m L) :: cel g 138 [.int .i64 d.w, .int .i64 y] :: cel h 138 [.int .i64 a.w, .int .i64 x] :: cel b 112 [.map (some ab)] :: R) ∧ Calm w wc ∧
  ((L 0 = true → v 0 = .pointer (some ⟨b, 0, none⟩)) ∧ (L 1 = true → v 1 = .pointer (some ⟨b, 0, none⟩)) ∧ (L 2 = true → v 2 = .pointer (some ⟨b, 0, none⟩)) ∧ (L 3 = true → v 3 = .map (some ab)) ∧
  (L 4 = true → v 4 = .int .i64 c) ∧ (L 5 = true → v 5 = .pointer (some ⟨b, 0, none⟩)) ∧ (L 6 = true → v 6 = .pointer (some ⟨b, 0, none⟩)) ∧ (L 7 = true → v 7 = .pointer (some ⟨b, 0, none⟩)) ∧
  (L 8 = true → v 8 = .map (some ab)) ∧ (L 9 = true → v 9 = .int .i64 s) ∧ (L 10 = true → v 10 = .agg #[.int .i64 a.w, .int .i64 x]) ∧ (L 11 = true → v 11 = .agg #[.int .i64 d.w, .int .i64 y])) ∧
  (L 12 = true → ∃ born : Nat, v 12 = .tuple #[accV a, .int .i64 (born : Int)] ∧ (L 13 = true → v 13 = .int .i64 (born : Int)) ∧ (L 14 = false → BornAt m wc ab c born)) ∧
  (L 15 = true → ∃ born : Nat, v 15 = .tuple #[accV d, .int .i64 (born : Int)] ∧ (L 16 = true → v 16 = .int .i64 (born : Int)) ∧ (L 17 = false → BornAt (mput m c ⟨c, a.w, x⟩) wc ab s born)) ∧
  (L 13 = true → L 12 = true) ∧ (L 14 = true → L 13 = true) ∧ (L 15 = true → L 14 = true) ∧ (L 16 = true → L 15 = true) ∧ (L 17 = true → L 16 = true)

set_option maxHeartbeats 3200000 in
set_option maxRecDepth 100000 in
theorem lagMove_spec (c s n : Int) (hN : (N : Int) ≤ 1000000000000) (o : Own w (LagR b N L :: R)) :
    Calls Tryz.prog 66 #[.pointer (some ⟨b, 0, none⟩), .int .i64 c, .int .i64 s, .int .i64 n] w (Ret (.int .i64 (nMove L c s n).1) (LagR b (N + 1) (nMove L c s n).2 :: R) w) := by
  obtain ⟨ab, m, hm, hok, o1⟩ := LagR.iff.1 o
  have o' := LagR.le (Nat.le_succ N) o
  have c1 := o1.cell 0
  have hbl := o1.celLt
  have hbn : b ≠ w.heap.size := by omega
  have hbn2 : b ≠ w.heap.size + 1 := by omega
  obtain ⟨wa, sa, za, hla, ta, fa⟩ := lookN_any (o1.up 1) hm c
  obtain ⟨wd, sd, zd, hld, td, fd⟩ := lookN_any ((o1.alloc (.cells #[.int .i64 wa, .int .i64 sa] 138)).up 2) hm s
  have fin : ∀ x y, Ret (.int .i64 6) (LagR b (N + 1) L :: R) w (.returned (.int .i64 6)) ((w.alloc x).alloc y) := fun x y => ⟨rfl, (o'.more x).more y, ⟨rfl, rfl, rfl⟩⟩
  cases za with
  | false =>
    rw [nMove_none (.inl (fa rfl))]
    clear ta fa td fd
    cases zd
    all_goals
      go_enter Tryz.func66, Tryz.ntmps66
      go_wp2
      go_ret
      exact fin _ _
  | true =>
    cases zd with
    | false =>
      rw [nMove_none (.inr (fd rfl))]
      clear ta fa td fd
      go_enter Tryz.func66, Tryz.ntmps66
      go_wp2
      go_ret
      exact fin _ _
    | true =>
      obtain ⟨a, hfa, rfl, rfl⟩ := ta rfl
      obtain ⟨d, hfd, rfl, rfl⟩ := td rfl
      rw [nMove_some hfa hfd]
      clear fin ta fa td fd
      by_cases hbad : n < 1 ∨ 4096 < n
      · rw [if_pos hbad]
        have fin : ∀ x y, Ret (.int .i64 1) (LagR b (N + 1) L :: R) w (.returned (.int .i64 1)) ((w.alloc x).alloc y) := fun x y => ⟨rfl, (o'.more x).more y, ⟨rfl, rfl, rfl⟩⟩
        by_cases h1 : n < 1
        · clear hbad
          go_enter Tryz.func66, Tryz.ntmps66
          go_wp2
          go_ret
          exact fin _ _
        · have h2 : 4096 < n := by omega
          clear hbad
          go_enter Tryz.func66, Tryz.ntmps66
          go_wp2
          go_ret
          exact fin _ _
      · rw [if_neg hbad]
        have h1 : ¬ n < 1 := by omega
        have h2 : ¬ 4096 < n := by omega
        clear hbad
        by_cases hcs : c = s
        · rw [if_pos hcs]
          subst hcs
          have fin : ∀ x y, Ret (.int .i64 0) (LagR b (N + 1) L :: R) w (.returned (.int .i64 0)) ((w.alloc x).alloc y) := fun x y => ⟨rfl, (o'.more x).more y, ⟨rfl, rfl, rfl⟩⟩
          go_enter Tryz.func66, Tryz.ntmps66
          go_wp2
          go_ret
          exact fin _ _
        · rw [if_neg hcs]
          have hcb : (c == s) = false := by simpa using hcs
          have hla2 := hok.lag (fget_some hfa).1
          have hld2 := hok.lag (fget_some hfd).1
          have hra := hok.ok.rng a (fget_some hfa).1
          have hrd := hok.ok.rng d (fget_some hfd).1
          obtain ⟨x, hx⟩ : ∃ x, a.s + n = x := ⟨_, rfl⟩
          obtain ⟨y, hy⟩ : ∃ y, d.s - n = y := ⟨_, rfl⟩
          have wx : IntKind.i64.wrap (a.s + n) = x := by rw [IntKind.wrap_i64]; omega
          have wy : IntKind.i64.wrap (d.s - n) = y := by rw [IntKind.wrap_i64]; omega
          have hms := nMove_ok hok c s n
          rw [nMove_some hfa hfd, if_neg (by omega), if_neg hcs] at hms
          rw [hx, hy] at hms ⊢
          obtain ⟨M, hM⟩ : ∃ M, max x y = M := ⟨_, rfl⟩
          obtain ⟨K, hK⟩ : ∃ K, min x y = K := ⟨_, rfl⟩
          by_cases hr : 1099511627776 < x ∨ 1099511627776 < y ∨ x < -1099511627776 ∨ y < -1099511627776
          · rw [if_pos hr]
            clear hms hx hy hla2 hld2 hra hrd
            by_cases hM2 : 1099511627776 < M
            · have f1 : decide (1099511627776 < M) = true := decide_eq_true hM2
              go_enter Tryz.func66, Tryz.ntmps66
              go_wp2
              go_ret
              exact ⟨rfl, (o'.more _).more _, ⟨rfl, rfl, rfl⟩⟩
            · have f1 : decide (1099511627776 < M) = false := decide_eq_false hM2
              have f2 : decide (K < -1099511627776) = true := decide_eq_true (by omega)
              go_enter Tryz.func66, Tryz.ntmps66
              go_wp2
              go_ret
              exact ⟨rfl, (o'.more _).more _, ⟨rfl, rfl, rfl⟩⟩
          · rw [if_neg hr] at hms ⊢
            have f1 : decide (1099511627776 < M) = false := decide_eq_false (by omega)
            have f2 : decide (K < -1099511627776) = false := decide_eq_false (by omega)
            have hrep1 : RepN (mput m c ⟨c, a.w, x⟩) (setT ⟨c, a.w, x⟩ L) := hm.set (x := ⟨c, a.w, x⟩) (by show fget L c ≠ none; rw [hfa]; simp) (by have := (fget_some hfa).2; refine ⟨?_, ?_, ?_, ?_⟩ <;> (simp only; omega))
            have hfd2 : fget (setT ⟨c, a.w, x⟩ L) s = some d := by
              have h5 := fget_memN hrep1.ok (mem_setT_of (fget_some hfd).1 (x := ⟨c, a.w, x⟩) (by have := (fget_some hfd).2; simp only; omega))
              rw [(fget_some hfd).2] at h5
              exact h5
            have hrep2 : RepN (mput (mput m c ⟨c, a.w, x⟩) s ⟨s, d.w, y⟩) (setT ⟨s, d.w, y⟩ (setT ⟨c, a.w, x⟩ L)) := hrep1.set (x := ⟨s, d.w, y⟩) (by show fget _ s ≠ none; rw [hfd2]; simp) (by have := (fget_some hfd).2; refine ⟨?_, ?_, ?_, ?_⟩ <;> (simp only; omega))
            have hga : mget m c = some a := by rw [hm.get]; exact hfa
            have hgd : mget (mput m c ⟨c, a.w, x⟩) s = some d := by rw [hrep1.get]; exact hfd2
            have hok2 := hms.1
            have oA := o1.alloc (.cells #[.int .i64 a.w, .int .i64 x] 138)
            have oB := oA.alloc (.cells #[.int .i64 d.w, .int .i64 y] 138)
            clear hms hr hx hy hla2 hld2 hra hrd hrep1 hfd2 hfa hfd o' hm hok
            go_enter Tryz.func66, Tryz.ntmps66
            go_wp2
            refine wp_region_draws (MvInv b w.heap.size (w.heap.size + 1) ab c s a d x y m R w) (by kernel_rfl) (by kernel_rfl) (by kernel_rfl) ?h0 ?step ?fin
            case h0 =>
              have F : ∀ {p : Prop}, false = true → p := fun h => (Bool.false_ne_true h).elim
              simp only [World.size_alloc] at oB
              exact ⟨(oB.re [3, 0, 1, 2]).drew, ⟨rfl, rfl, rfl⟩, ⟨F, F, F, F, F, F, F, F, F, F, F, F⟩, F, F, F, F, F, F, F⟩
            case step =>
              refine ⟨DrawStep.mk rfl ?_, DrawStep.mk rfl ?_, DrawStep.mk rfl ?_, DrawStep.mk rfl ?_, DrawStep.mk rfl ?_, DrawStep.mk rfl ?_, DrawStep.mk rfl ?_, DrawStep.mk rfl ?_, DrawStep.mk rfl ?_, DrawStep.mk rfl ?_, DrawStep.mk rfl ?_, DrawStep.mk rfl ?_, DrawStep.mk rfl ?_, DrawStep.mk rfl ?_, DrawStep.mk rfl ?_, DrawStep.mk rfl ?_, DrawStep.mk rfl ?_, DrawStep.mk rfl ?_, trivial⟩
              all_goals intro L v ac wc hL hd hA hI K' hK
              all_goals obtain ⟨oD, kD, ⟨f0, f1, f2, f3, f4, f5, f6, f7, f8, f9, f10, f11⟩, e12, e15, l13, l14, l15, l16, l17⟩ := hI
              all_goals simp [Region.binds] at hd
              · have c0 := hA.base 0 (by rfl)
                simp only [List.getElem?_toArray, List.getElem?_cons_zero, Option.getD_some] at c0
                go_simp
                exact hK.out _ _ ⟨oD, kD, ⟨fun _ => rfl, f1, f2, f3, f4, f5, f6, f7, f8, f9, f10, f11⟩, e12, e15, l13, l14, l15, l16, l17⟩
              · have c0 := (hA.get 0 hd).trans (f0 hd)
                go_simp
                exact hK.out _ _ ⟨oD, kD, ⟨f0, fun _ => rfl, f2, f3, f4, f5, f6, f7, f8, f9, f10, f11⟩, e12, e15, l13, l14, l15, l16, l17⟩
              · have c0 := (hA.get 1 hd).trans (f1 hd)
                go_simp
                exact hK.out _ _ ⟨oD, kD, ⟨f0, f1, fun _ => rfl, f3, f4, f5, f6, f7, f8, f9, f10, f11⟩, e12, e15, l13, l14, l15, l16, l17⟩
              · have c0 := (hA.get 2 hd).trans (f2 hd)
                have cc := (oD.up 3).cell 0
                go_simp
                exact hK.out _ _ ⟨oD, kD, ⟨f0, f1, f2, fun _ => rfl, f4, f5, f6, f7, f8, f9, f10, f11⟩, e12, e15, l13, l14, l15, l16, l17⟩
              · have c0 := hA.base 1 (by rfl)
                simp only [List.getElem?_toArray, List.getElem?_cons_zero, List.getElem?_cons_succ, Option.getD_some] at c0
                go_simp
                exact hK.out _ _ ⟨oD, kD, ⟨f0, f1, f2, f3, fun _ => rfl, f5, f6, f7, f8, f9, f10, f11⟩, e12, e15, l13, l14, l15, l16, l17⟩
              · have c0 := hA.base 0 (by rfl)
                simp only [List.getElem?_toArray, List.getElem?_cons_zero, Option.getD_some] at c0
                go_simp
                exact hK.out _ _ ⟨oD, kD, ⟨f0, f1, f2, f3, f4, fun _ => rfl, f6, f7, f8, f9, f10, f11⟩, e12, e15, l13, l14, l15, l16, l17⟩
              · have c0 := (hA.get 5 hd).trans (f5 hd)
                go_simp
                exact hK.out _ _ ⟨oD, kD, ⟨f0, f1, f2, f3, f4, f5, fun _ => rfl, f7, f8, f9, f10, f11⟩, e12, e15, l13, l14, l15, l16, l17⟩
              · have c0 := (hA.get 6 hd).trans (f6 hd)
                go_simp
                exact hK.out _ _ ⟨oD, kD, ⟨f0, f1, f2, f3, f4, f5, f6, fun _ => rfl, f8, f9, f10, f11⟩, e12, e15, l13, l14, l15, l16, l17⟩
              · have c0 := (hA.get 7 hd).trans (f7 hd)
                have cc := (oD.up 3).cell 0
                go_simp
                exact hK.out _ _ ⟨oD, kD, ⟨f0, f1, f2, f3, f4, f5, f6, f7, fun _ => rfl, f9, f10, f11⟩, e12, e15, l13, l14, l15, l16, l17⟩
              · have c0 := hA.base 2 (by rfl)
                simp only [List.getElem?_toArray, List.getElem?_cons_zero, List.getElem?_cons_succ, Option.getD_some] at c0
                go_simp
                exact hK.out _ _ ⟨oD, kD, ⟨f0, f1, f2, f3, f4, f5, f6, f7, f8, fun _ => rfl, f10, f11⟩, e12, e15, l13, l14, l15, l16, l17⟩
              · have c0 := hA.base 9 (by rfl)
                simp only [List.getElem?_toArray, List.getElem?_cons_zero, List.getElem?_cons_succ, Option.getD_some] at c0
                have cc := (oD.up 2).cell 0
                have cc1 := (oD.up 2).cell 1
                go_simp
                exact hK.out _ _ ⟨oD, kD, ⟨f0, f1, f2, f3, f4, f5, f6, f7, f8, f9, fun _ => rfl, f11⟩, e12, e15, l13, l14, l15, l16, l17⟩
              · have c0 := hA.base 11 (by rfl)
                simp only [List.getElem?_toArray, List.getElem?_cons_zero, List.getElem?_cons_succ, Option.getD_some] at c0
                have cc := (oD.up 1).cell 0
                have cc1 := (oD.up 1).cell 1
                go_simp
                exact hK.out _ _ ⟨oD, kD, ⟨f0, f1, f2, f3, f4, f5, f6, f7, f8, f9, f10, fun _ => rfl⟩, e12, e15, l13, l14, l15, l16, l17⟩
              · have c0 := (hA.get 3 hd.1).trans (f3 hd.1)
                have c4 := (hA.get 4 hd.2.1).trans (f4 hd.2.1)
                have n13 : L 13 = false := by cases h : L 13 with | false => rfl | true => rw [l13 h] at hL; cases hL
                have n14 : L 14 = false := by cases h : L 14 with | false => rfl | true => rw [l14 h] at n13; cases n13
                have n15 : L 15 = false := by cases h : L 15 with | false => rfl | true => rw [l15 h] at n14; cases n14
                have n16 : L 16 = false := by cases h : L 16 with | false => rfl | true => rw [l16 h] at n15; cases n15
                have n17 : L 17 = false := by cases h : L 17 with | false => rfl | true => rw [l17 h] at n16; cases n16
                have eM : mvMap c s a d x y m L = m := by unfold mvMap; rw [n17, n14]; rfl
                rw [eM] at oD
                obtain ⟨w2, born, hr, hB, o2, k2⟩ := run_mapEntry_mpI Tryz.underlying110 Tryz.underlying3 oD c hga
                have o3 : Own w2 (mpI accV ab (mvMap c s a d x y m L) :: cel (w.heap.size + 1) 138 [.int .i64 d.w, .int .i64 y] :: cel w.heap.size 138 [.int .i64 a.w, .int .i64 x] :: cel b 112 [.map (some ab)] :: R) := by rw [eM]; exact o2
                go_simp
                exact hK.out _ _ ⟨o3, kD.trans k2, ⟨f0, f1, f2, f3, f4, f5, f6, f7, f8, f9, f10, f11⟩, fun _ => ⟨born, rfl, fun h => (Bool.false_ne_true (n13.symm.trans h)).elim, fun _ => hB⟩, fun h => (Bool.false_ne_true (n15.symm.trans h)).elim, fun h => rfl, l14, l15, l16, l17⟩
              · obtain ⟨born, h12, h13, hB⟩ := e12 hd
                have c0 := (hA.get 12 hd).trans h12
                go_simp
                exact hK.out _ _ ⟨oD, kD, ⟨f0, f1, f2, f3, f4, f5, f6, f7, f8, f9, f10, f11⟩, fun _ => ⟨born, h12, fun _ => rfl, hB⟩, e15, fun _ => hd, fun h => rfl, l15, l16, l17⟩
              · obtain ⟨born, h12, h13, hB⟩ := e12 hd.2.2.2.1
                have c0 := (hA.get 3 hd.1).trans (f3 hd.1)
                have c1' := (hA.get 13 hd.2.1).trans (h13 hd.2.1)
                have c2 := (hA.get 10 hd.2.2.1).trans (f10 hd.2.2.1)
                have hd13 := hd.2.1
                have n15 : L 15 = false := by cases h : L 15 with | false => rfl | true => rw [l15 h] at hL; cases hL
                have n16 : L 16 = false := by cases h : L 16 with | false => rfl | true => rw [l16 h] at n15; cases n15
                have n17 : L 17 = false := by cases h : L 17 with | false => rfl | true => rw [l17 h] at n16; cases n16
                have eM : mvMap c s a d x y m L = m := by unfold mvMap; rw [n17, hL]; rfl
                rw [eM] at oD
                obtain ⟨w2, hr, o2, k2⟩ := run_entryStore_mpI (P := Tryz.prog) (t := 110) oD c ⟨c, a.w, x⟩ (hB hL)
                have o3 : Own w2 (mpI accV ab (mvMap c s a d x y m (dIns L 14)) :: cel (w.heap.size + 1) 138 [.int .i64 d.w, .int .i64 y] :: cel w.heap.size 138 [.int .i64 a.w, .int .i64 x] :: cel b 112 [.map (some ab)] :: R) := by
                  have : mvMap c s a d x y m (dIns L 14) = mput m c ⟨c, a.w, x⟩ := by unfold mvMap; rw [show dIns L 14 17 = L 17 from rfl, n17]; rfl
                  rw [this]; exact o2
                have hr' : (Instr.entryStore 110 (.map (some ab)) (.int .i64 (born : Int)) (.agg #[.int .i64 a.w, .int .i64 x])).run Tryz.prog wc = .ok () w2 := hr
                go_simp
                exact hK.out undef _ ⟨o3, kD.trans k2, ⟨f0, f1, f2, f3, f4, f5, f6, f7, f8, f9, f10, f11⟩, fun h => ⟨born, h12, h13, fun h => (Bool.false_ne_true h.symm).elim⟩, fun h => (Bool.false_ne_true (n15.symm.trans h)).elim, l13, fun _ => hd13, fun h => rfl, l16, l17⟩
              · have c0 := (hA.get 8 hd.1).trans (f8 hd.1)
                have c4 := (hA.get 9 hd.2.1).trans (f9 hd.2.1)
                have h14 := hd.2.2.1
                have n16 : L 16 = false := by cases h : L 16 with | false => rfl | true => rw [l16 h] at hL; cases hL
                have n17 : L 17 = false := by cases h : L 17 with | false => rfl | true => rw [l17 h] at n16; cases n16
                have eM : mvMap c s a d x y m L = mput m c ⟨c, a.w, x⟩ := by unfold mvMap; rw [n17, h14]; rfl
                rw [eM] at oD
                obtain ⟨w2, born, hr, hB, o2, k2⟩ := run_mapEntry_mpI Tryz.underlying110 Tryz.underlying3 oD s hgd
                have o3 : Own w2 (mpI accV ab (mvMap c s a d x y m L) :: cel (w.heap.size + 1) 138 [.int .i64 d.w, .int .i64 y] :: cel w.heap.size 138 [.int .i64 a.w, .int .i64 x] :: cel b 112 [.map (some ab)] :: R) := by rw [eM]; exact o2
                have e12' : ∃ born : Nat, v 12 = .tuple #[accV a, .int .i64 (born : Int)] ∧ (L 13 = true → v 13 = .int .i64 (born : Int)) ∧ (L 14 = false → BornAt m w2 ab c born) := by
                  obtain ⟨b0, h1, h2, _⟩ := e12 (l13 (l14 h14))
                  exact ⟨b0, h1, h2, fun h => (by rw [h14] at h; cases h)⟩
                go_simp
                exact hK.out _ _ ⟨o3, kD.trans k2, ⟨f0, f1, f2, f3, f4, f5, f6, f7, f8, f9, f10, f11⟩, fun _ => e12', fun _ => ⟨born, rfl, fun h => (Bool.false_ne_true (n16.symm.trans h)).elim, fun _ => hB⟩, l13, l14, fun _ => h14, fun h => rfl, l17⟩
              · obtain ⟨born, h12, h13, hB⟩ := e15 hd
                have c0 := (hA.get 15 hd).trans h12
                go_simp
                exact hK.out _ _ ⟨oD, kD, ⟨f0, f1, f2, f3, f4, f5, f6, f7, f8, f9, f10, f11⟩, e12, fun _ => ⟨born, h12, fun _ => rfl, hB⟩, l13, l14, l15, fun _ => hd, fun h => rfl⟩
              · obtain ⟨born, h12, h13, hB⟩ := e15 hd.2.2.2.1
                have c0 := (hA.get 8 hd.1).trans (f8 hd.1)
                have c1' := (hA.get 16 hd.2.1).trans (h13 hd.2.1)
                have c2 := (hA.get 11 hd.2.2.1).trans (f11 hd.2.2.1)
                have hd16 := hd.2.1
                have h14 := l15 (l16 hd16)
                have eM : mvMap c s a d x y m L = mput m c ⟨c, a.w, x⟩ := by unfold mvMap; rw [hL, h14]; rfl
                rw [eM] at oD
                obtain ⟨w2, hr, o2, k2⟩ := run_entryStore_mpI (P := Tryz.prog) (t := 110) oD s ⟨s, d.w, y⟩ (hB hL)
                have o3 : Own w2 (mpI accV ab (mvMap c s a d x y m (dIns L 17)) :: cel (w.heap.size + 1) 138 [.int .i64 d.w, .int .i64 y] :: cel w.heap.size 138 [.int .i64 a.w, .int .i64 x] :: cel b 112 [.map (some ab)] :: R) := o2
                have hr' : (Instr.entryStore 110 (.map (some ab)) (.int .i64 (born : Int)) (.agg #[.int .i64 d.w, .int .i64 y])).run Tryz.prog wc = .ok () w2 := hr
                have e12' : ∃ born : Nat, v 12 = .tuple #[accV a, .int .i64 (born : Int)] ∧ (L 13 = true → v 13 = .int .i64 (born : Int)) ∧ (L 14 = false → BornAt m w2 ab c born) := by
                  obtain ⟨b0, h1, h2, _⟩ := e12 (l13 (l14 h14))
                  exact ⟨b0, h1, h2, fun h => (by rw [h14] at h; cases h)⟩
                go_simp
                exact hK.out undef _ ⟨o3, kD.trans k2, ⟨f0, f1, f2, f3, f4, f5, f6, f7, f8, f9, f10, f11⟩, fun _ => e12', fun h => ⟨born, h12, h13, fun h => (Bool.false_ne_true h.symm).elim⟩, l13, l14, l15, l16, fun _ => hd16⟩
            case fin =>
              rintro L v wc hall ⟨oD, kD, _⟩
              have eM : mvMap c s a d x y m L = mput (mput m c ⟨c, a.w, x⟩) s ⟨s, d.w, y⟩ := by unfold mvMap; rw [hall 17 (by decide)]; rfl
              rw [eM] at oD
              clear hall
              simp only [putAll, Act.put, List.setIfInBounds_toArray, List.set_cons_zero, List.set_cons_succ]
              go_wp2
              go_ret
              exact ⟨rfl, LagR.iff.2 ⟨ab, _, hrep2, hok2, oD.re [3, 0, 1, 2] |>.re [0, 1] |> fun q => (q.up 2).drop.up 2 |>.drop⟩, kD⟩
end
end Go.Proofs.YtjpahfkchhnpoaaGreat

/- The program's ledger of lags: Leave. -/
namespace Go.Proofs.YtjpahfkchhnpoaaGreat
open Go.RowKit
open SP
section
variable {W w w' : World} {b N : Nat} {L : List Tg} {R : List SP}

theorem setT_none {x : Tg} : ∀ {L : List Tg}, (∀ t ∈ L, t.f ≠ x.f) → setT x L = L
  | [], _ => rfl
  | a :: L, h => by
    show (if a.f = x.f then x else a) :: setT x L = _
    rw [if_neg (h a (by simp)), setT_none fun t ht => h t (by simp [ht])]
theorem addS_step : ∀ {L : List Tg} {Q : List Int} {i : Nat} {t : Tg} {q : Int}, (L.map (·.f)).Pairwise (· < ·) → L[i]? = some t → Q[i]? = some q →
    (addS L (Q.take i))[i]? = some t ∧ setT ⟨t.f, t.w, t.s + q⟩ (addS L (Q.take i)) = addS L (Q.take (i + 1))
  | [], _, i, t, q, _, h, _ => by simp at h
  | _ :: _, [], i, t, q, _, _, h => by simp at h
  | a :: L, p :: Q, 0, t, q, hp, h, h' => by
    rw [List.map_cons, List.pairwise_cons] at hp
    simp only [List.getElem?_cons_zero, Option.some.injEq] at h h'
    subst h; subst h'
    rw [List.take_zero, addS_nil]
    refine ⟨rfl, ?_⟩
    show (if a.f = a.f then (⟨a.f, a.w, a.s + p⟩ : Tg) else a) :: setT ⟨a.f, a.w, a.s + p⟩ L = ⟨a.f, a.w, a.s + p⟩ :: addS L []
    rw [if_pos rfl, addS_nil, setT_none]
    intro u hu
    have := hp.1 u.f (List.mem_map.2 ⟨u, hu, rfl⟩)
    simp only; omega
  | a :: L, p :: Q, i + 1, t, q, hp, h, h' => by
    rw [List.map_cons, List.pairwise_cons] at hp
    rw [List.getElem?_cons_succ] at h h'
    obtain ⟨h1, h2⟩ := addS_step (L := L) (Q := Q) hp.2 h h'
    rw [List.take_succ_cons, List.take_succ_cons, addS_cons, addS_cons]
    refine ⟨by rw [List.getElem?_cons_succ]; exact h1, ?_⟩
    have hlt := hp.1 t.f (List.mem_map.2 ⟨t, List.mem_of_getElem? h, rfl⟩)
    show (if a.f = t.f then _ else _) :: setT _ _ = _
    rw [if_neg (by omega), h2]
theorem LgOk.del (h : LgOk N L) {t : Tg} (ht : t ∈ L) : LgOk N (delT t.f L) :=
  ⟨h.ok.del _, by have h1 := (delT_sums h.ok.asc' ht).1; have h2 := h.sm; have h3 := ab_nonneg t.s; omega⟩

def LvRel (b ab h : Nat) (t : Tg) (D : List Tg) (Q : List Int) (ga pa : Option Addr) (gc pc : Nat) (R : List SP) (w : World) (v41 : Value) (wr : World) : Prop :=
  ∃ (i : Nat) (m : List (Int × Tg)), v41 = .int .i64 (i : Int) ∧ i ≤ D.length ∧ RepN m (addS D (Q.take i)) ∧
    Own wr (cel b 112 [.map (some ab)] :: mpI accV ab m :: slc 2 1 ga D.length gc (i64s Q) :: slc 145 2 pa D.length pc (flat part (ptsOf D)) :: cel h 138 [.int .i64 t.w, .int .i64 t.s] :: R) ∧ Calm w wr

set_option maxHeartbeats 3200000 in
set_option maxRecDepth 100000 in
theorem lagLeave_spec (f : Int) (hN : (N : Int) ≤ 1000000000000) (o : Own w (LagR b N L :: R)) :
    Calls Tryz.prog 44 #[.pointer (some ⟨b, 0, none⟩), .int .i64 f] w (Ret (.tuple #[.int .i64 (nLeave L f).1.1, .int .i64 (nLeave L f).1.2]) (LagR b N (nLeave L f).2 :: R) w) := by
  obtain ⟨ab, m, hm, hok, o1⟩ := LagR.iff.1 o
  have c1 := o1.cell 0
  have hbl := o1.celLt
  cases hf : fget L f with
  | none =>
    have e : nLeave L f = ((0, 6), L) := by unfold nLeave; rw [hf]
    rw [e]; clear e
    have hlk := lookN_none (o1.up 1) hm hf
    clear hf
    go_enter Tryz.func44, Tryz.ntmps44
    go_wp2
    go_ret2
    exact ⟨rfl, o.more _, ⟨rfl, rfl, rfl⟩⟩
  | some t =>
    have e : nLeave L f = ((t.s, 0), addS (delT f L) (lagSplit t.s (wts (delT f L)))) := by unfold nLeave; rw [hf]
    have hok' := nLeave_ok hok f
    rw [e] at hok' ⊢
    clear e
    obtain ⟨ht, rfl⟩ := fget_some hf
    have hlk := lookN_some (o1.up 1) hm hf
    have hbn : b ≠ w.heap.size := by omega
    have hokD := hok.del ht
    have hrepD := hm.del t.f
    have hts := hok.lag ht
    have o2 := o1.alloc (.cells #[.int .i64 t.w, .int .i64 t.s] 138)
    have hptD := ptsOf_ok hokD.ok
    have hpw := pws_pts (delT t.f L)
    have hlagD : ∀ u ∈ delT t.f L, -(8192 * (N : Int)) ≤ u.s ∧ u.s ≤ 8192 * (N : Int) := fun u hu => hokD.lag hu
    generalize delT t.f L = D at *
    have HLD := Lib.hid hlagD
    clear hlagD
    go_enter Tryz.func44, Tryz.ntmps44
    go_wp2_with (first | fail | (at_delete; refine wpList_delete_mpI rfl _ _ rfl Tryz.underlying110 Tryz.underlying3 (o2.up 2) t.f rfl rfl ?c2))
    case c2 =>
    intro w1 o3 k3
    have o4 : Own w1 (LagR b N D :: blk w.heap.size (.cells #[.int .i64 t.w, .int .i64 t.s] 138) :: R) := LagR.iff.2 ⟨ab, _, hrepD, hokD, o3.re [2, 0, 1]⟩
    go_wp2_with fail
    refine (lagParts_spec o4).mono ?_
    rintro e1 w2 ⟨pa, pc, rfl, o5, k5⟩
    have cA := (o5.up 2).cell (T := 138) (vs := [.int .i64 t.w, .int .i64 t.s]) 1
    have hsp := shSplit_spec (w := w2) (c := pc) t.s (by unfold Go.Proofs.YtjpahfkchhnpoaaGreat.ab; omega) (partsAt_slc pa D.length pc (ptsOf D) (ptsOf_len D).symm) hptD (ptsOf_len D).symm o5
    go_wp2_with fail
    refine hsp.mono ?_
    rintro e2 w3 ⟨ga, gc, rfl, o6, k6⟩
    rw [pws_pts, ptsOf_len] at o6
    rw [ptsOf_len]
    obtain ⟨er, her⟩ : ∃ er : Int, (if ptsOf D = [] then (5 : Int) else 0) = er := ⟨_, rfl⟩
    rw [her]
    clear her
    obtain ⟨ab3, m3, hm3, hok3, o7⟩ := LagR.iff.1 (o6.up 2)
    have hQl : (lagSplit t.s (wts D)).length = D.length := by rw [lagSplit_len]; unfold wts; rw [List.length_map]
    have hQa := lagSplit_abs t.s (wts_pos hok3.ok)
    have hts2 : Go.Proofs.YtjpahfkchhnpoaaGreat.ab t.s ≤ 8192 * (N : Int) := by unfold Go.Proofs.YtjpahfkchhnpoaaGreat.ab; omega
    generalize lagSplit t.s (wts D) = Q at *
    have hasc := hok3.ok.asc'
    have hD32 := hok3.ok.len
    have hAD := HLD.out
    have hT : LvRel b ab3 w.heap.size t D Q ga pa gc pc R w (.int .i64 0) w3 := ⟨0, m3, rfl, by omega, by rw [List.take_zero, addS_nil]; exact hm3, o7.re [0, 1, 2, 3, 4], ((⟨k3.os, k3.tape, k3.output⟩ : Calm w w1).trans k5).trans k6⟩
    have HQ := Lib.hid hQl
    have HQA := Lib.hid (And.intro hQa hts2)
    have HO' := Lib.hid hok'
    have HASC := Lib.hid hasc
    have HOKD := Lib.hid hokD
    have HN := Lib.hid hN
    have HLD2 := Lib.hid hAD
    clear hQl hQa hts2 hok' hasc hokD hN hAD o7 o6 o5 o4 o3 o2 o1 o hsp cA k6 k5 k3 hptD hpw hrepD hm hok hm3 hok3 ht hlk hts hbl hbn c1
    go_wp2
    go_loopw [41] (fun v wr => LvRel b ab3 w.heap.size t D Q ga pa gc pc R w v wr) (fun v _ => D.length - (ivOf v).toNat)
    case atStart => exact hT
    case round =>
      clear hT
      obtain ⟨i, m, rfl, hi, hm, oR, kR⟩ := hrel
      by_cases hlt : i < D.length
      · obtain ⟨u, hu⟩ : ∃ u, D[i]? = some u := ⟨_, List.getElem?_eq_getElem hlt⟩
        obtain ⟨q, hq⟩ : ∃ q, Q[i]? = some q := ⟨_, List.getElem?_eq_getElem (by rw [HQ.out]; exact hlt)⟩
        obtain ⟨hg, hset⟩ := addS_step (Q := Q) (q := q) HASC.out hu hq
        have hfg := fget_memN hm.ok (List.mem_of_getElem? hg)
        have hlk := lookN_one (oR.drew.up 1) hm hfg
        obtain ⟨g, rfl, hc, _, _⟩ := (oR.up 2).slc_cell (by omega)
        have d0 := hc i (.int .i64 q) (by unfold i64s; rw [List.getElem?_map, hq]; rfl)
        obtain ⟨gp, rfl, d1, d2⟩ := part_cells (oR.up 3) (i := i) (y := (u.f, u.w)) (by unfold ptsOf; rw [List.getElem?_map, hu]; rfl) (by omega)
        have c1 := oR.cell 0
        dsimp only at d1 d2
        have hu2 := HLD2.out u (List.mem_of_getElem? hu)
        have hq2 : Go.Proofs.YtjpahfkchhnpoaaGreat.ab q ≤ 8192 * (N : Int) := Int.le_trans (sumI_ab_mem (List.mem_of_getElem? hq)) (Int.le_trans HQA.out.1 HQA.out.2)
        have hur := HOKD.out.ok.rng u (List.mem_of_getElem? hu)
        have hw : IntKind.i64.wrap (u.s + q) = u.s + q := by have := HN.out; unfold Go.Proofs.YtjpahfkchhnpoaaGreat.ab at hq2; rw [IntKind.wrap_i64]; omega
        have hrep : RepN (mput m u.f ⟨u.f, u.w, u.s + q⟩) (addS D (Q.take (i + 1))) := by
          rw [← hset]
          exact hm.set (x := ⟨u.f, u.w, u.s + q⟩) (by show fget _ u.f ≠ none; rw [hfg]; simp) (by refine ⟨?_, ?_, ?_, ?_⟩ <;> (simp only; omega))
        have HR := Lib.hid hrep
        have oA := oR.alloc (.cells #[.int .i64 u.w, .int .i64 (u.s + q)] 138)
        clear hc hg hset hu hq hu2 hq2 hur hrep
        have lbl := oR.celLt
        have hbw : b ≠ wr.heap.size := by omega
        have hgp : gp < wr.heap.size := World.block_lt_of_cell? _ _ d1
        have hgw : gp ≠ wr.heap.size := by omega
        have hlk2 := lookN_one ((oR.alloc (.cells #[.int .i64 0, .int .i64 0] 138)).drew.up 2) hm hfg
        clear hfg hm
        go_wp2
        go_region_law (fail)
        all_goals go_wp2
        all_goals refine wp_region_tail 10 (by kernel_rfl) (by kernel_rfl) ?_
        all_goals simp only [List.take_succ_cons, List.take_zero, List.drop_succ_cons, List.drop_zero]
        all_goals repeat still_step
        all_goals refine wpStill_nil ?_
        all_goals go_wp2_with (at_mapUpdate; refine wpList_mapUpdate_mpI (f := accV) rfl _ _ _ rfl Tryz.underlying110 Tryz.underlying3 ((oA.up 2).drewN 2) u.f ⟨u.f, u.w, u.s + q⟩ rfl rfl rfl ?_)
        all_goals
          intro w4 o4 k4
          go_wp2
          go_roundw
          case rel => exact ⟨i + 1, _, by go_num, by omega, HR.out, o4.re [1, 2, 0, 3, 4, 5] 1, kR.trans ⟨k4.os, k4.tape, k4.output⟩⟩
          case measure => simp [ivOf]; omega
      · have hin : i = D.length := by omega
        subst hin
        rw [List.take_of_length_le (by rw [HQ.out]; omega)] at hm
        have c0 := (oR.up 4).cell 0
        have c1 := (oR.up 4).cell 1
        go_wp2
        go_ret2
        exact ⟨rfl, LagR.iff.2 ⟨_, _, hm, HO'.out, oR.re [2, 3, 4, 0, 1] 3⟩, kR⟩
end
end Go.Proofs.YtjpahfkchhnpoaaGreat
