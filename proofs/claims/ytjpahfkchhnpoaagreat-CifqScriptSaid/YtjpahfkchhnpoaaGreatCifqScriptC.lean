/- Texts that the law rests on, put together by a program. -/
import Derived.Test.YtjpahfkchhnpoaaGreatCifqScriptB
import Derived.Test.YtjpahfkchhnpoaaGreatCifqScriptA
import Derived.Deep.RegionHeld3
import Derived.Test.YtjpahfkchhnpoaaGreatProg
import Derived.Deep.DeepCutAuto
import Derived.Deep.CutBlock
import Derived.Shelf.SlMaps.Clone
/- The order of comp: Serve. -/
namespace Go.Proofs.YtjpahfkchhnpoaaGreat
open Go.RowKit
open SP

section
variable {W w w' : World} {b : Nat} {reb tm : Int} {el tg : List (Int × Int)} {R : List SP}

def servFin (el tg : List (Int × Int)) (f len : Int) : Int × Int := finF (tget tg f) len (tget el f)
def servE (el tg : List (Int × Int)) (f len : Int) : Int := if (mget el f).isSome then (servFin el tg f len).2 else 6
def servTg (el tg : List (Int × Int)) (f len : Int) : List (Int × Int) := mput tg f (servFin el tg f len).1
def servTm (tg : List (Int × Int)) (tm f : Int) : Int := max tm (tget tg f)
def servBy (el tg : List (Int × Int)) (tm f len : Int) : Int := min (servTm tg tm f) (tget (servTg el tg f len) (leastF el (servTg el tg f len)))
def lower (by_ : Int) (tg : List (Int × Int)) : List (Int × Int) := tg.map fun x => (x.1, max (x.2 - by_) 0)
def ServPost (b : Nat) (reb tm : Int) (el tg : List (Int × Int)) (f len : Int) (R : List SP) (w : World) (e : Ending) (w' : World) : Prop :=
  if servE el tg f len ≠ 0 then Ret (.int .i64 (servE el tg f len)) (OrderR b reb el tg tm :: R) w e w' else
  if servBy el tg tm f len < reb then Ret (.int .i64 0) (OrderR b reb el (servTg el tg f len) (servTm tg tm f) :: R) w e w' else
  Ret (.int .i64 0) (OrderR b reb el (lower (servBy el tg tm f len) (servTg el tg f len)) (servTm tg tm f - servBy el tg tm f len) :: R) w e w'

theorem tget_range {tg : List (Int × Int)} (hv : ∀ x ∈ tg, 0 ≤ x.2 ∧ x.2 ≤ 1099511627776) (f : Int) : 0 ≤ tget tg f ∧ tget tg f ≤ 1099511627776 := by
  unfold tget
  cases h : mget tg f with
  | none => simp
  | some v => exact hv _ (mem_of_mget h)
theorem mput_mem {α : Type} {m : List (Int × α)} {k : Int} {v : α} {x : Int × α} (h : x ∈ mput m k v) : x ∈ m ∨ x = (k, v) := by
  induction m with
  | nil => simp [mput] at h; exact .inr h
  | cons y m ih =>
    obtain ⟨k', v'⟩ := y
    unfold mput at h
    split at h
    · rcases List.mem_cons.1 h with rfl | h
      · exact .inr rfl
      · exact .inl (List.mem_cons_of_mem _ h)
    · rcases List.mem_cons.1 h with rfl | h
      · exact .inl (by simp)
      · rcases ih h with h | h
        · exact .inl (List.mem_cons_of_mem _ h)
        · exact .inr h
theorem mput_range {tg : List (Int × Int)} {f nx : Int} (hv : ∀ x ∈ tg, 0 ≤ x.2 ∧ x.2 ≤ 1099511627776) (hn : 0 ≤ nx ∧ nx ≤ 1099511627776) : ∀ x ∈ mput tg f nx, 0 ≤ x.2 ∧ x.2 ≤ 1099511627776 := by
  intro x hx
  rcases mput_mem hx with h | rfl
  · exact hv x h
  · exact hn
theorem finF_range {was len wt : Int} (hw : 0 ≤ was ∧ was ≤ 1099511627776) : 0 ≤ (finF was len wt).1 ∧ (finF was len wt).1 ≤ 1099511627776 := by
  unfold finF
  split
  · simp
  · rename_i h
    have h' : 1 ≤ len ∧ len ≤ 4096 ∧ 1 ≤ wt ∧ wt ≤ 16 := by
      have h1 : ¬ badLW len wt := fun h2 => h (.inl h2)
      unfold badLW at h1; omega
    obtain ⟨c1, c2⟩ := cst_range h'.2.2.1 h'.2.2.2 h'.1 h'.2.1
    split
    · simp
    · simp only; omega

def Serv2 (b : Nat) (reb : Int) (el tg1 : List (Int × Int)) (tm1 by_ : Int) (R : List SP) (w : World) (e : Ending) (w' : World) : Prop :=
  if by_ < reb then Ret (.int .i64 0) (OrderR b reb el tg1 tm1 :: R) w e w' else Ret (.int .i64 0) (OrderR b reb el (lower by_ tg1) (tm1 - by_) :: R) w e w'

/-- The range lowers every tag. -/
def lowered (by_ : Int) (S : Int → Bool) (tg : List (Int × Int)) : List (Int × Int) := tg.map fun x => (x.1, if S x.1 then max (x.2 - by_) 0 else x.2)

theorem lowered_keys (by_ : Int) (S : Int → Bool) (tg : List (Int × Int)) : (lowered by_ S tg).map (·.1) = tg.map (·.1) := by
  unfold lowered; rw [List.map_map]; rfl
theorem lowered_all {by_ : Int} {S : Int → Bool} {tg : List (Int × Int)} (h : ∀ x ∈ tg, S x.1 = true) : lowered by_ S tg = lower by_ tg := by
  unfold lowered lower
  exact List.map_congr_left fun x hx => by rw [h x hx, if_pos rfl]
theorem lowered_put {by_ : Int} {S : Int → Bool} : ∀ {tg : List (Int × Int)} (_ : Uniq tg) {k v : Int} (_ : mget tg k = some v), mput (lowered by_ S tg) k (max (v - by_) 0) = lowered by_ (fun z => S z || z == k) tg
  | [], _, k, v, h => by simp [mget] at h
  | (k0, v0) :: tg, hu, k, v, h => by
    unfold Uniq at hu
    rw [List.map_cons, List.nodup_cons] at hu
    unfold mget at h
    unfold lowered
    simp only [List.map_cons]
    unfold mput
    by_cases hk : k = k0
    · subst hk
      rw [if_pos rfl] at h ⊢
      simp at h
      subst h
      simp only [BEq.rfl, Bool.or_true, if_true, List.cons.injEq, true_and]
      refine List.map_congr_left fun x hx => ?_
      have hne : x.1 ≠ k := fun e => hu.1 (List.mem_map.2 ⟨x, hx, e⟩)
      have : (x.1 == k) = false := by simpa using hne
      simp only [this, Bool.or_false]
    · rw [if_neg hk] at h ⊢
      have hb : (k0 == k) = false := by simpa using Ne.symm hk
      simp only [hb, Bool.or_false, List.cons.injEq, true_and]
      exact lowered_put hu.2 h
theorem mget_lowered {by_ : Int} {S : Int → Bool} : ∀ {tg : List (Int × Int)} (k : Int), mget (lowered by_ S tg) k = (mget tg k).map (fun v => if S k then max (v - by_) 0 else v)
  | [], k => rfl
  | (k0, v0) :: tg, k => by
    unfold lowered
    simp only [List.map_cons]
    unfold mget
    by_cases hk : k = k0
    · subst hk; simp
    · rw [if_neg hk, if_neg hk]; exact mget_lowered k

def LowRel (b : Nat) (reb : Int) (eb tb ib : Nat) (el tg1 : List (Int × Int)) (tm1 by_ : Int) (R : List SP) (w wr : World) : Prop :=
  ∃ (S : Int → Bool) (cur : Option Int) (m : List (Int × Int)), True = True ∧ m = lowered by_ S tg1 ∧
    Own wr (rng (Value.int .i64) tb ib m S cur :: cel b 115 [.int .i64 reb, .map (some eb), .map (some tb), .int .i64 tm1] :: mpI (Value.int .i64) eb el :: R) ∧ Calm w wr

set_option maxHeartbeats 3200000 in
set_option maxRecDepth 100000 in
theorem serve_spec (f len : Int) (hk : KeyOk el) (hn : el.length ≤ 1000) (hu : Uniq tg) (hv : ∀ x ∈ tg, 0 ≤ x.2 ∧ x.2 ≤ 1099511627776) (ht : 0 ≤ tm ∧ tm ≤ 1099511627776) (o : Own w (OrderR b reb el tg tm :: R)) :
    Calls Tryz.prog 95 #[.pointer (some ⟨b, 0, none⟩), .int .i64 f, .int .i64 len] w (ServPost b reb tm el tg f len R w) := by
  obtain ⟨eb, tb, o1⟩ := OrderR.iff.1 o
  have c1 := o1.cell 1
  have c2 := o1.cell 2
  have hlk := lookII eb (o1.up 1) f true
  simp only [if_true] at hlk
  cases hel : mget el f with
  | none =>
    have e1 : servE el tg f len = 6 := by unfold servE; rw [hel]; rfl
    have : ServPost b reb tm el tg f len R w = Ret (.int .i64 6) (OrderR b reb el tg tm :: R) w := by
      funext e w'; unfold ServPost; rw [e1, if_pos (by decide)]
    rw [this]; clear this
    rw [hel] at hlk
    go_enter Tryz.func95, Tryz.ntmps95
    go_wp2
    go_ret
    exact ⟨rfl, o, Calm.refl w⟩
  | some wt =>
    have hls : (mget el f).isSome = true := by rw [hel]; rfl
    have e1 : servE el tg f len = (servFin el tg f len).2 := if_pos hls
    rw [hel] at hlk
    have hl2 := lookIL tb (o1.up 2) f false
    simp only [Bool.false_eq_true, if_false] at hl2
    have hfin := finish_spec (tget tg f) len (tget el f) w
    have H0 : servFin el tg f len = finF (tget tg f) len (tget el f) := rfl
    rw [← H0] at hfin
    clear H0
    have hwas : 0 ≤ tget tg f ∧ tget tg f ≤ 1099511627776 := tget_range hv f
    have hnx : 0 ≤ (servFin el tg f len).1 ∧ (servFin el tg f len).1 ≤ 1099511627776 := finF_range hwas
    cases hP : servFin el tg f len with
    | mk nx er =>
    rw [hP] at hfin hnx e1
    dsimp only at hnx e1
    unfold pairV at hfin
    dsimp only at hfin
    by_cases her : er = 0
    · subst her
      have hm1 : servTg el tg f len = mput tg f nx := by unfold servTg; rw [hP]
      have hm2 : servTm tg tm f = max tm (tget tg f) := rfl
      have hpost : ServPost b reb tm el tg f len R w = Serv2 b reb el (servTg el tg f len) (servTm tg tm f) (servBy el tg tm f len) R w := by
        funext e w'; unfold ServPost Serv2; rw [e1, if_neg (by simp)]
      have hb0 : servBy el tg tm f len = min (servTm tg tm f) (tget (servTg el tg f len) (leastF el (servTg el tg f len))) := rfl
      have hu1 : Uniq (servTg el tg f len) := by rw [hm1]; exact hu.mput _ _
      have hv1 : ∀ x ∈ servTg el tg f len, 0 ≤ x.2 ∧ x.2 ≤ 1099511627776 := by rw [hm1]; exact mput_range hv hnx
      have ht1 : 0 ≤ servTm tg tm f ∧ servTm tg tm f ≤ 1099511627776 := by rw [hm2]; omega
      have hby : 0 ≤ servBy el tg tm f len ∧ servBy el tg tm f len ≤ 1099511627776 := by
        have := tget_range hv1 (leastF el (servTg el tg f len)); rw [hb0]; omega
      rw [hpost]
      clear hpost hP e1
      generalize servTg el tg f len = tg1 at *
      generalize servTm tg tm f = tm1 at *
      generalize servBy el tg tm f len = by_ at *
      have HM1 := Lib.hid hm1
      have HM2 := Lib.hid hm2
      have HB0 := Lib.hid hb0
      clear hm1 hm2 hb0
      go_enter Tryz.func95, Tryz.ntmps95
      go_wp2_with fail
      refine hfin.mono ?_
      rintro e2 w2 ⟨rfl, rfl⟩
      go_wp2_with (at_mapUpdate; refine wpList_mapUpdate_mpI rfl _ _ _ rfl Tryz.underlying107 Tryz.underlying3 (o1.up 2) f nx rfl rfl rfl ?k1)
      case k1 =>
      intro w3 o3 k3
      rw [← HM1.out] at o3
      have o4 := o3.up 1
      have c3 := o4.cell 3
      have hf := o4.frozen
      have hlt := o4.celLt
      have hmx : max tm (tget tg f) = tm1 := HM2.out.symm
      have o5 := o4.setCell 3 (.int .i64 tm1)
      have o6 : Own ((w3.setCell ⟨b, 3, none⟩ (.int .i64 tm1)).drew) (OrdC b reb eb tb el tg1 tm1 :: R) := OrdC.iff.2 ((o5.up 2).up 1 |>.drew)
      clear c1 c2 hlk hl2
      have d2 := o5.cell 2
      have d3 := o5.cell 3
      have hmn : min tm1 (tget tg1 (leastF el tg1)) = by_ := HB0.out.symm
      go_wp2
      go_region_held3 (fun w' => w'.cell? ⟨b, 2, none⟩ = some (.map (some tb)) ∧ w'.cell? ⟨b, 3, none⟩ = some (.int .i64 tm1)) (go_keep) (first
        | (go_at_call 116; (with_reducible refine (leastC_spec hk hn o6).mono ?_); rintro e4 w4 ⟨rfl, o7, k7⟩; have q2 := (OrdC.iff.1 o7).cell 2; have q3 := (OrdC.iff.1 o7).cell 3; have l7 := lookIL tb ((OrdC.iff.1 o7).up 2) (leastF el tg1) false; simp only [Bool.false_eq_true, if_false] at l7))
      have o8 := OrdC.iff.1 o7
      have q0 := o8.cell 0
      have K7 : Calm w w4 := k3.trans ⟨k7.os, k7.tape, k7.output⟩
      clear l7 d2 d3 hmn hmx c3 hf hlt
      by_cases hcmp : by_ < reb
      · go_wp2
        go_ret
        rw [Serv2, if_pos hcmp]
        exact ⟨rfl, OrderR.iff.2 ⟨eb, tb, o8⟩, K7⟩
      · obtain ⟨w5, hr5, o9, k9⟩ := run_range_mpI (P := Tryz.prog) Tryz.underlying107 (o8.up 2)
        have hT : LowRel b reb eb tb w4.heap.size el tg1 tm1 by_ R w w5 := ⟨fun _ => false, none, tg1, rfl, by unfold lowered; simp, o9, K7.trans k9⟩
        have qr2 := (o9.up 1).cell 2
        generalize hib : w4.heap.size = ib at *
        clear hib
        go_wp2
        go_loopw [13] (fun _ wr => LowRel b reb eb tb ib el tg1 tm1 by_ R w wr) (fun _ wr => rleft wr tb ib)
        case atStart => exact hT
        case round =>
          obtain ⟨S, cur, m, _, hm, oR, kR⟩ := hrel
          have Hm := Lib.hid hm
          have hkm : m.map (·.1) = tg1.map (·.1) := by rw [hm, lowered_keys]
          have hum : Uniq m := by unfold Uniq; rw [hkm]; exact hu1
          clear hm
          have g0 := (oR.up 1).cell 2
          rcases run_next_rng (P := Tryz.prog) 0 hum oR with ⟨hd, hr⟩ | ⟨x, w6, hx, hS, hr, o10, k10⟩
          · have g3 := (oR.up 1).cell 3
            have gf := (oR.up 1).frozen
            have gb := (oR.up 1).celLt
            have oD := (oR.rng_done.up 1).setCell 3 (.int .i64 (tm1 - by_))
            have hall : ∀ x ∈ tg1, S x.1 = true := fun x hx => by
              have : x.1 ∈ m.map (·.1) := by rw [hkm]; exact List.mem_map.2 ⟨x, hx, rfl⟩
              obtain ⟨y, hy, hyx⟩ := List.mem_map.1 this
              rw [← hyx]; exact hd y hy
            rw [Hm.out, lowered_all hall] at oD
            clear hd
            go_wp2
            go_ret
            rw [Serv2, if_neg (by omega)]
            exact ⟨rfl, OrderR.iff.2 ⟨eb, tb, oD.up 2 |>.up 1⟩, ⟨kR.os, kR.tape, kR.output⟩⟩
          · obtain ⟨key, val⟩ := x
            dsimp only at hS hr o10
            have hmv : mget m key = some val := mget_mem hum hx
            have hmt : mget tg1 key = some val := by
              rw [Hm.out, mget_lowered] at hmv
              simp only [hS, Bool.false_eq_true, if_false, Option.map_eq_some_iff, exists_eq_right] at hmv
              exact hmv
            have hvr := hv1 _ (mem_of_mget hmt)
            dsimp only at hvr
            have hen := run_entry_rng (P := Tryz.prog) hum o10 hmv
            have g6 := (o10.up 1).cell 2
            have hin : (mget m key).isSome = true := by rw [hmv]; rfl
            have Hmv := Lib.hid hmv
            have Hin := Lib.hid hin
            have Hmt := Lib.hid hmt
            clear hmv hin hmt
            go_wp2_with (at_mapUpdate; refine wpList_mapUpdate_rng rfl _ _ _ rfl Tryz.underlying107 Tryz.underlying3 hum o10 key (max (val - by_) 0) Hin.out rfl rfl rfl ?k2)
            case k2 =>
            intro w7 o11 k11
            go_wp2
            go_roundw
            case rel =>
              refine ⟨_, _, _, rfl, ?_, o11, (kR.trans k10).trans k11⟩
              rw [Hm.out]; exact lowered_put hu1 Hmt.out
            case measure =>
              rw [o11.rleft, oR.rleft, kleft_mput (List.mem_map.2 ⟨_, hx, rfl⟩)]
              exact kleft_lt hx hS
    · have hpost : ServPost b reb tm el tg f len R w = Ret (.int .i64 er) (OrderR b reb el tg tm :: R) w := by
        funext e w'; unfold ServPost; rw [e1, if_pos her]
      rw [hpost]
      have her' : (er == 0) = false := by simpa using her
      clear hpost e1 her hP
      go_enter Tryz.func95, Tryz.ntmps95
      go_wp2_with fail
      refine hfin.mono ?_
      rintro e2 w2 ⟨rfl, rfl⟩
      go_wp2
      go_ret
      exact ⟨rfl, o, Calm.refl w⟩
end
end Go.Proofs.YtjpahfkchhnpoaaGreat

/- Cifq, plain: what a slot decides and how the accounts change. -/
namespace Go.Proofs.YtjpahfkchhnpoaaGreat
open Go.RowKit
/-- The head of a flow. -/
structure Head where
  f : Int
  len : Int
  good : Bool
/-- An order: the eligible flows with their weights, tags, time. -/
structure Ord where
  el : List (Int × Int)
  tg : List (Int × Int)
  tm : Int
structure Cq where
  R : St
  D : List Tg
  C : Ord
  X : Ord
  n : List (Int × (Int × Int))
structure Chc where
  ch : Int
  sv : Int
  why : Int
instance : DecidableEq Chc := fun a b => decidable_of_iff (a.ch = b.ch ∧ a.sv = b.sv ∧ a.why = b.why) ⟨fun ⟨h1, h2, h3⟩ => by cases a; cases b; simp_all, fun h => by rw [h]; exact ⟨rfl, rfl, rfl⟩⟩
def chV (c : Chc) : Value := .agg #[.int .i64 c.ch, .int .i64 c.sv, .int .i64 c.why]
def ch0 : Chc := ⟨0, 0, 0⟩
def chIdle : Chc := ⟨-1, -1, 6⟩
def eligO (o : Ord) (l : List (Int × Int)) : Ord := ⟨eligEl l [], eligTg o.el o.tm l o.tg, o.tm⟩
def servO (reb : Int) (o : Ord) (f len : Int) : Int × Ord :=
  if servE o.el o.tg f len ≠ 0 then (servE o.el o.tg f len, o) else
  if servBy o.el o.tg o.tm f len < reb then (0, ⟨o.el, servTg o.el o.tg f len, servTm o.tg o.tm f⟩) else
  (0, ⟨o.el, lower (servBy o.el o.tg o.tm f len) (servTg o.el o.tg f len), servTm o.tg o.tm f - servBy o.el o.tg o.tm f len⟩)
/-- The lag of a flow; 0 of a flow that is not there. -/
def lagO (D : List Tg) (f : Int) : Int := ((fget D f).map (·.s)).getD 0
def cntO (n : List (Int × (Int × Int))) (f : Int) : Int × Int := (mget n f).getD (0, 0)
def fitsH (L : List Tg) (H : List Head) : Bool := decide (H.map (·.f) = L.map (·.f)) && H.all fun h => decide (1 ≤ h.len ∧ h.len ≤ 4096)
/-- The parts of the flows whose heads have a property. -/
def pickH (D : List Tg) (p : Head → Bool) (H : List Head) : List (Int × Int) := ((H.zip (ptsOf D)).filter fun x => p x.1).map (·.2)
def allH (D : List Tg) (H : List Head) : List (Int × Int) := pickH D (fun h => h.good) H
def lagH (D : List Tg) (H : List Head) : List (Int × Int) := pickH D (fun h => h.good && decide (0 < lagO D h.f)) H
def headOf (H : List Head) (f : Int) : Head := (H.find? fun h => h.f == f).getD ⟨0, 0, false⟩
/-- Whether a leading flow keeps its slot. -/
def keepsO (num den : Int) (c : Int × Int) : Bool := decide (c.2 * den ≤ num * c.1)
def chooseC (num den : Int) (s : Cq) (H : List Head) (some_ : Bool) : Chc :=
  let k := (selT s.R.L).1
  let can := (headOf H k).good
  if (can && (!decide (lagO s.D k < 0) || keepsO num den (cntO s.n k))) = true then ⟨k, k, 1⟩
  else if 0 ≤ leastF s.C.el s.C.tg then ⟨k, leastF s.C.el s.C.tg, if can = true then 2 else 3⟩
  else if can = true then ⟨k, k, 1⟩
  else if some_ = true then ⟨k, if 0 ≤ leastF s.X.el s.X.tg then leastF s.X.el s.X.tg else 0, 4⟩
  else chIdle
/-- The orders behind a service. -/
def servC (reb : Int) (C X : Ord) (c : Chc) (len : Int) : Int × Ord × Ord :=
  if c.why = 2 ∨ c.why = 3 then ((servO reb C c.sv len).1, (servO reb C c.sv len).2, X)
  else if c.why = 4 then ((servO reb X c.sv len).1, C, (servO reb X c.sv len).2)
  else (0, C, X)
def countC (num den : Int) (s : Cq) (c : Chc) : Bool := decide (lagO s.D c.ch < 0) && (decide (c.why = 2) || (decide (c.why = 1) && keepsO num den (cntO s.n c.ch)))
def resetC (D : List Tg) (n : List (Int × (Int × Int))) : List (Int × (Int × Int)) := n.filter fun x => decide (lagO D x.1 < 0)
def bumpC (n : List (Int × (Int × Int))) (c : Chc) (len : Int) : List (Int × (Int × Int)) := mput n c.ch ((cntO n c.ch).1 + len, if c.ch = c.sv then (cntO n c.ch).2 + len else (cntO n c.ch).2)
/-- A slot: the choice, the code, the state behind it. -/
def stepC (num den reb : Int) (s : Cq) (H : List Head) : Chc × Int × Cq :=
  if fitsH s.R.L H = false then (ch0, 1, s)
  else if H = [] then (ch0, 5, s)
  else
    let C := eligO s.C (lagH s.D H)
    let X := eligO s.X (allH s.D H)
    let c := chooseC num den { s with C := C, X := X } H (!(allH s.D H).isEmpty)
    if c = chIdle then (c, 0, { s with C := C, X := X })
    else
      let len := (headOf H c.sv).len
      let r := chargeR reb s.R c.ch len
      if r.1 ≠ 0 then (ch0, r.1, s)
      else
        let o := servC reb C X c len
        if o.1 ≠ 0 then (ch0, o.1, s)
        else
          let d := nMove s.D c.ch c.sv len
          if d.1 ≠ 0 then (ch0, d.1, s)
          else (c, 0, ⟨r.2, d.2, o.2.1, o.2.2, resetC d.2 (if countC num den s c = true then bumpC s.n c len else s.n)⟩)
end Go.Proofs.YtjpahfkchhnpoaaGreat

/- The error-free reference, plain: the laws of fairness and of rebasing. -/
namespace Go.Proofs.YtjpahfkchhnpoaaGreat
open Go.RowKit
open SP

section
variable {S : St} {L : List Tg}
theorem fget_insT (x : Tg) (k : Int) : ∀ L : List Tg, fget L x.f = none → fget (insT x L) k = if k = x.f then some x else fget L k
  | [], _ => by
    show fget [x] k = _
    rw [fget_cons]
    by_cases h : k = x.f
    · rw [if_pos h.symm, if_pos h]
    · rw [if_neg (Ne.symm h), if_neg h]
  | a :: L, hn => by
    have hne := fget_none.1 hn a (by simp)
    have hn' : fget L x.f = none := fget_none.2 fun t ht => fget_none.1 hn t (by simp [ht])
    unfold insT
    split
    · rw [fget_cons, fget_insT x k L hn', fget_cons]
      by_cases h : k = x.f
      · rw [if_pos h, if_pos h, if_neg (by rw [h]; exact hne)]
      · rw [if_neg h, if_neg h]
    · rw [fget_cons]
      by_cases h : k = x.f
      · rw [if_pos h.symm, if_pos h]
      · rw [if_neg (Ne.symm h), if_neg h]
theorem fget_delT (g k : Int) : ∀ L : List Tg, fget (delT g L) k = if k = g then none else fget L k
  | [] => by show none = _; split <;> rfl
  | a :: L => by
    unfold delT
    rw [List.filter_cons]
    have ih := fget_delT g k L
    unfold delT at ih
    by_cases h : a.f = g
    · have : (a.f == g) = true := by simpa using h
      rw [this]
      simp only [Bool.not_true, Bool.false_eq_true, if_false]
      rw [ih, fget_cons]
      by_cases hk : k = g
      · rw [if_pos hk, if_pos hk]
      · rw [if_neg hk, if_neg hk, if_neg (by omega)]
    · have : (a.f == g) = false := by simpa using h
      rw [this]
      simp only [Bool.not_false, if_true]
      rw [fget_cons, ih, fget_cons]
      by_cases hk : k = g
      · rw [if_pos hk, if_pos hk, if_neg (by omega)]
      · rw [if_neg hk, if_neg hk]
theorem fget_setT (x : Tg) (k : Int) : ∀ L : List Tg, fget (setT x L) k = if k = x.f then (fget L k).map (fun _ => x) else fget L k
  | [] => by show none = _; split <;> rfl
  | a :: L => by
    have ih := fget_setT x k L
    unfold setT at *
    rw [List.map_cons, fget_cons, ih, fget_cons]
    by_cases hk : k = x.f
    · subst hk
      by_cases ha : a.f = x.f
      · simp [ha]
      · simp [ha]
    · by_cases ha : a.f = x.f
      · simp only [if_pos ha, if_neg hk]
        rw [if_neg (Ne.symm hk), if_neg (by omega)]
      · simp only [if_neg ha, if_neg hk]
theorem fget_map (g : Tg → Tg) (hg : ∀ t, (g t).f = t.f) (k : Int) : ∀ L : List Tg, fget (L.map g) k = (fget L k).map g
  | [] => rfl
  | a :: L => by
    rw [List.map_cons, fget_cons, fget_cons, hg, fget_map g hg k L]
    split <;> rfl

/-! ### SfqFair -/
/-- Flow f has had ba bytes of service, at weight wa. -/
def FA (f wa ba : Int) (S : St) : Prop := ∃ t, fget S.L f = some t ∧ t.w = wa ∧ t.s ≤ S.tm + 4096 * unit1 wa ∧ t.s + S.aw = ba * unit1 wa

theorem FA.join {f wa ba g w : Int} (h : FA f wa ba S) (hok : StOk S) : FA f wa ba (joinR S g w).2 := by
  unfold joinR
  split
  · rename_i he
    have hn := (hok.join he).2.1
    obtain ⟨t, h1, h2, h3, h4⟩ := h
    refine ⟨t, ?_, h2, h3, h4⟩
    show fget (insT ⟨g, w, max S.tm (S.old g)⟩ S.L) f = _
    rw [fget_insT _ _ _ hn, if_neg]
    · exact h1
    · intro e
      have : fget S.L g = some t := by rw [← h1]; congr 1; exact e.symm
      rw [hn] at this
      cases this
  · exact h
theorem FA.leave {f wa ba g : Int} (h : FA f wa ba S) (hne : f ≠ g) : FA f wa ba (leaveR S g).2 := by
  unfold leaveR
  split
  · exact h
  · rename_i u hu
    obtain ⟨t, h1, h2, h3, h4⟩ := h
    have h5 : fget (delT g S.L) f = some t := by rw [fget_delT, if_neg hne]; exact h1
    show FA f wa ba (leaveS S g u.s)
    unfold leaveS
    rw [if_neg (by intro e; rw [e] at h5; cases h5)]
    exact ⟨t, h5, h2, h3, h4⟩
theorem FA.sub {f wa ba by_ : Int} (h : FA f wa ba S) : FA f wa ba (subS S by_) := by
  obtain ⟨t, h1, h2, h3, h4⟩ := h
  refine ⟨⟨t.f, t.w, t.s - by_⟩, ?_, h2, ?_, ?_⟩
  · show fget (S.L.map _) f = _
    rw [fget_map (fun t : Tg => ⟨t.f, t.w, t.s - by_⟩) (fun _ => rfl), h1]
    rfl
  · show t.s - by_ ≤ S.tm - by_ + _; omega
  · show t.s - by_ + (S.aw + by_) = _; omega
theorem FA.reb {f wa ba r : Int} (h : FA f wa ba S) : FA f wa ba (rebS r S) := by
  unfold rebS
  split
  · exact h
  · exact h.sub
theorem FA.ch {f wa ba len : Int} {i : Nat} (h : FA f wa ba S) (hT : TInv i S) (hne : S.L ≠ []) (hl : 0 ≤ len ∧ len ≤ 4096) :
    FA f wa (if (lst S.L).f = f then ba + len else ba) (chS S (lst S.L) ((lst S.L).s + cst len (lst S.L).w)) := by
  have hm := lst_mem hne
  obtain ⟨t, h1, h2, h3, h4⟩ := h
  have ha := hT.act _ hm
  have hr := hT.ok.ok.rng _ hm
  have hmx : max S.tm (lst S.L).s = (lst S.L).s := by omega
  have hfm := fget_mem hT.ok.ok hm
  generalize lst S.L = x at *
  by_cases hf : x.f = f
  · rw [if_pos hf]
    subst hf
    have hxt : x = t := by rw [hfm] at h1; simpa using h1
    subst hxt
    subst h2
    have hu := unit1_range hr.2.2.1 hr.2.2.2.1
    have hc : cst len x.w = len * unit1 x.w := rfl
    refine ⟨⟨x.f, x.w, x.s + cst len x.w⟩, ?_, rfl, ?_, ?_⟩
    · show fget (setT ⟨x.f, x.w, _⟩ S.L) x.f = _
      rw [fget_setT, if_pos rfl, h1]; rfl
    · show x.s + cst len x.w ≤ max S.tm x.s + _
      rw [hmx, hc]
      have : len * unit1 x.w ≤ 4096 * unit1 x.w := Int.mul_le_mul_of_nonneg_right hl.2 (by omega)
      omega
    · show x.s + cst len x.w + S.aw = _
      rw [hc, Int.add_mul]; omega
  · rw [if_neg hf]
    refine ⟨t, ?_, h2, ?_, h4⟩
    · show fget (setT ⟨x.f, x.w, _⟩ S.L) f = _
      rw [fget_setT, if_neg (Ne.symm hf)]; exact h1
    · show t.s ≤ max S.tm x.s + _; omega

/-! ### SfqRebase -/
def sh (d : Int) (t : Tg) : Tg := ⟨t.f, t.w, t.s + d⟩
theorem insT_map (d : Int) (x : Tg) : ∀ L : List Tg, insT (sh d x) (L.map (sh d)) = (insT x L).map (sh d)
  | [] => rfl
  | a :: L => by
    rw [List.map_cons]
    unfold insT
    by_cases h : a.f < x.f
    · rw [if_pos (show (sh d a).f < (sh d x).f from h), if_pos h, List.map_cons, insT_map d x L]
    · rw [if_neg (show ¬ (sh d a).f < (sh d x).f from h), if_neg h, List.map_cons, List.map_cons]
theorem delT_map (d k : Int) (L : List Tg) : delT k (L.map (sh d)) = (delT k L).map (sh d) := by
  unfold delT
  rw [List.filter_map]; rfl
theorem setT_map (d : Int) (x : Tg) (L : List Tg) : setT (sh d x) (L.map (sh d)) = (setT x L).map (sh d) := by
  unfold setT
  rw [List.map_map, List.map_map]
  refine List.map_congr_left fun t _ => ?_
  show (if t.f = x.f then sh d x else sh d t) = sh d (if t.f = x.f then x else t)
  split <;> rfl
theorem leastG_map (d : Int) (L : List Tg) : ∀ (l : List Tg) (i best : Nat), i + l.length = L.length → best < L.length → leastG (L.map (sh d)) (l.map (sh d)) i best = leastG L l i best
  | [], _, _, _, _ => rfl
  | t :: l, i, best, hl, hb => by
    rw [List.map_cons]
    unfold leastG
    have e1 : ((L.map (sh d)).getD best ⟨0, 0, 0⟩).s = (L.getD best ⟨0, 0, 0⟩).s + d := by
      rw [List.getD_eq_getElem?_getD, List.getElem?_map, List.getD_eq_getElem?_getD, List.getElem?_eq_getElem hb]
      rfl
    rw [e1]
    have e2 : ((sh d t).s < (L.getD best ⟨0, 0, 0⟩).s + d) ↔ (t.s < (L.getD best ⟨0, 0, 0⟩).s) := by show t.s + d < _ ↔ _; omega
    simp only [e2]
    rw [List.length_cons] at hl
    refine leastG_map d L l (i + 1) _ (by omega) ?_
    split <;> omega
theorem leastN_map (d : Int) (L : List Tg) : leastN (L.map (sh d)) = leastN L := by
  unfold leastN
  cases L with
  | nil => rfl
  | cons a L => exact leastG_map d (a :: L) (a :: L) 0 0 (by simp) (by simp)
theorem lst_map (d : Int) {L : List Tg} (h : L ≠ []) : lst (L.map (sh d)) = sh d (lst L) := by
  unfold lst
  rw [leastN_map, List.getD_eq_getElem?_getD, List.getElem?_map, List.getD_eq_getElem?_getD, List.getElem?_eq_getElem (leastN_lt h)]
  rfl

structure PInv (i : Nat) (d : Int) (A B : St) : Prop where
  a : TInv i A
  b : TInv i B
  L : B.L = A.L.map (sh d)
  tm : B.tm = A.tm + d
  old : ∀ f, max (B.old f) B.tm = max (A.old f) A.tm + d

theorem PInv.start : PInv 0 0 ⟨[], fun _ => 0, 0, 0⟩ ⟨[], fun _ => 0, 0, 0⟩ := ⟨TInv.start, TInv.start, rfl, rfl, fun f => by simp⟩
section
variable {i : Nat} {d : Int} {A B : St}
theorem PInv.next (h : PInv i d A B) : PInv (i + 1) d A B := ⟨h.a.next, h.b.next, h.L, h.tm, h.old⟩
theorem PInv.get (h : PInv i d A B) (k : Int) : fget B.L k = (fget A.L k).map (sh d) := by rw [h.L]; exact fget_map (sh d) (fun _ => rfl) k A.L
theorem PInv.nil (h : PInv i d A B) : B.L = [] ↔ A.L = [] := by rw [h.L]; simp
theorem PInv.joinE (h : PInv i d A B) (f w : Int) : joinE B f w = joinE A f w := by
  unfold Go.Proofs.YtjpahfkchhnpoaaGreat.joinE
  rw [h.get]; simp
theorem PInv.join (h : PInv i d A B) (f w : Int) : (joinR B f w).1 = (joinR A f w).1 ∧ PInv i d (joinR A f w).2 (joinR B f w).2 := by
  refine ⟨h.joinE f w, ?_⟩
  have ha := h.a.join f w
  have hb := h.b.join f w
  unfold joinR at *
  rw [h.joinE] at *
  split
  · rename_i he
    simp only [if_pos he] at ha hb
    have hm := h.old f
    have ht := h.tm
    have tb := h.b.ok.tm
    have ta := h.a.ok.tm
    refine ⟨ha, hb, ?_, h.tm, fun g => ?_⟩
    · show insT ⟨f, w, max B.tm (B.old f)⟩ B.L = (insT ⟨f, w, max A.tm (A.old f)⟩ A.L).map (sh d)
      rw [← insT_map, h.L]
      congr 1
      show Tg.mk _ _ _ = Tg.mk f w (max A.tm (A.old f) + d)
      congr 1
      omega
    · have := h.old g
      show max (if g = f then 0 else B.old g) B.tm = max (if g = f then 0 else A.old g) A.tm + d
      split <;> omega
  · exact h
theorem PInv.leave (h : PInv i d A B) (f : Int) : (leaveR B f).1 = (leaveR A f).1 ∧ ∃ d', PInv i d' (leaveR A f).2 (leaveR B f).2 := by
  have ha := h.a.leave f
  have hb := h.b.leave f
  unfold leaveR at *
  rw [h.get] at *
  cases hf : fget A.L f with
  | none => exact ⟨rfl, d, h⟩
  | some t =>
    rw [hf] at ha hb
    refine ⟨rfl, ?_⟩
    simp only [Option.map_some] at ha hb ⊢
    have hd : delT f B.L = (delT f A.L).map (sh d) := by rw [h.L, delT_map]
    unfold leaveS at *
    rw [hd] at hb ⊢
    by_cases he : delT f A.L = []
    · rw [if_pos he] at ha ⊢
      rw [he] at hb ⊢
      simp only [List.map_nil, if_true] at hb ⊢
      exact ⟨0, ha, hb, rfl, rfl, fun g => by simp⟩
    · rw [if_neg he] at ha ⊢
      have he' : (delT f A.L).map (sh d) ≠ [] := by simpa using he
      rw [if_neg he'] at hb ⊢
      refine ⟨d, ha, hb, rfl, h.tm, fun g => ?_⟩
      have := h.old g
      have ht := h.tm
      show max (if g = f then t.s + d else B.old g) B.tm = max (if g = f then t.s else A.old g) A.tm + d
      split <;> omega
theorem PInv.sel (h : PInv i d A B) : selT B.L = selT A.L := by
  unfold selT
  by_cases he : A.L = []
  · rw [if_pos he, if_pos (h.nil.2 he)]
  · rw [if_neg he, if_neg (fun e => he (h.nil.1 e)), h.L, lst_map d he]
    rfl
theorem PInv.subA (h : PInv i d A B) (hne : A.L ≠ []) : PInv i (d + A.tm) (subS A A.tm) B := by
  refine ⟨h.a.sub hne, h.b, ?_, ?_, fun f => ?_⟩
  · show B.L = (A.L.map _).map _
    rw [h.L, List.map_map]
    refine List.map_congr_left fun t _ => ?_
    show Tg.mk _ _ _ = Tg.mk _ _ _
    congr 1
    show t.s + d = t.s - A.tm + (d + A.tm); omega
  · have := h.tm; show B.tm = A.tm - A.tm + (d + A.tm); omega
  · have h1 := h.old f
    have h2 := h.tm
    have h3 := h.a.ok.tm
    show max (B.old f) B.tm = max (max (A.old f - A.tm) 0) (A.tm - A.tm) + (d + A.tm)
    omega
theorem PInv.subB (h : PInv i d A B) (hne : B.L ≠ []) : PInv i (d - B.tm) A (subS B B.tm) := by
  refine ⟨h.a, h.b.sub hne, ?_, ?_, fun f => ?_⟩
  · show B.L.map _ = A.L.map _
    rw [h.L, List.map_map]
    refine List.map_congr_left fun t _ => ?_
    show Tg.mk _ _ _ = Tg.mk _ _ _
    congr 1
    show t.s + d - B.tm = t.s + (d - B.tm); omega
  · have := h.tm; show B.tm - B.tm = A.tm + (d - B.tm); omega
  · have h1 := h.old f
    have h2 := h.tm
    have h3 := h.b.ok.tm
    show max (max (B.old f - B.tm) 0) (B.tm - B.tm) = max (A.old f) A.tm + (d - B.tm)
    omega
theorem PInv.reb (h : PInv i d A B) (hne : A.L ≠ []) (ra rb : Int) : ∃ d', PInv i d' (rebS ra A) (rebS rb B) := by
  have hnb : B.L ≠ [] := fun e => hne (h.nil.1 e)
  have h1 : ∃ d', PInv i d' (rebS ra A) B := by
    unfold rebS
    split
    · exact ⟨d, h⟩
    · rw [h.a.by_ hne]; exact ⟨_, h.subA hne⟩
  obtain ⟨d', h1⟩ := h1
  unfold rebS at *
  by_cases hc : byS B < rb
  · simp only [if_pos hc]; exact ⟨d', h1⟩
  · simp only [if_neg hc]
    rw [h.b.by_ hnb]
    exact ⟨_, h1.subB hnb⟩
theorem PInv.charge (h : PInv i d A B) (hi : i ≤ 300) (ra rb : Int) {len : Int} (h1 : 1 ≤ len) (h2 : len ≤ 4096) :
    (chargeR rb B (selT A.L).1 len).1 = (chargeR ra A (selT A.L).1 len).1 ∧ ∃ d', PInv (i + 1) d' (chargeR ra A (selT A.L).1 len).2 (chargeR rb B (selT A.L).1 len).2 := by
  by_cases he : A.L = []
  · have hb := h.nil.2 he
    have ea : chargeR ra A (selT A.L).1 len = (6, A) := by unfold chargeR; rw [show fget A.L (selT A.L).1 = none from by rw [fget_none, he]; simp]
    have eb : chargeR rb B (selT A.L).1 len = (6, B) := by unfold chargeR; rw [show fget B.L (selT A.L).1 = none from by rw [fget_none, hb]; simp]
    rw [ea, eb]
    exact ⟨rfl, d, h.next⟩
  · have hbe : B.L ≠ [] := fun e => he (h.nil.1 e)
    have es : (selT A.L).1 = (lst A.L).f := by unfold selT; rw [if_neg he]
    have eb : lst B.L = sh d (lst A.L) := by rw [h.L]; exact lst_map d he
    obtain ⟨ca, ta⟩ := h.a.charge hi he h1 h2 ra
    obtain ⟨cb, tb⟩ := h.b.charge hi hbe h1 h2 rb
    have esb : (lst B.L).f = (lst A.L).f := by rw [eb]; rfl
    rw [es, ca]
    rw [esb] at cb
    rw [cb]
    refine ⟨rfl, ?_⟩
    have xa := (h.a.ch hi he h1 h2).2
    have xb := (h.b.ch hi hbe h1 h2).2
    refine PInv.reb (d := d) ⟨xa.1, xb.1, ?_, ?_, fun f => ?_⟩ (setT_ne he) ra rb
    · show setT ⟨(lst B.L).f, (lst B.L).w, (lst B.L).s + cst len (lst B.L).w⟩ B.L = (setT ⟨(lst A.L).f, (lst A.L).w, (lst A.L).s + cst len (lst A.L).w⟩ A.L).map (sh d)
      rw [← setT_map, h.L, ← h.L, eb]
      congr 1
      show Tg.mk _ _ _ = Tg.mk _ _ _
      congr 1
      show (lst A.L).s + d + cst len (lst A.L).w = (lst A.L).s + cst len (lst A.L).w + d
      omega
    · have e1 := xa.2
      have e2 := xb.2
      show max B.tm (lst B.L).s = max A.tm (lst A.L).s + d
      rw [e1, e2, eb]; rfl
    · have e0 := h.old f
      have e1 := h.tm
      have e2 : (lst B.L).s = (lst A.L).s + d := by rw [eb]; rfl
      show max (B.old f) (max B.tm (lst B.L).s) = max (A.old f) (max A.tm (lst A.L).s) + d
      omega
end
end
end Go.Proofs.YtjpahfkchhnpoaaGreat

/- The error-free reference of the program: New, Join, Leave, Tags, Time. -/
namespace Go.Proofs.YtjpahfkchhnpoaaGreat
open Go.RowKit
open SP

def sfqCells (reb : Int) (ab rb : Nat) (tm aw : Int) : List Value := [.int .i64 reb, .map (some ab), .map (some rb), .int .i64 tm, .int .i64 aw]
def SfqR (b : Nat) (reb : Int) (S : St) : SP := ex fun (p : Nat × Nat × List (Int × Tg) × List (Int × Int)) =>
  st [pu (Rep p.2.2.1 S.L ∧ (∀ f, tget p.2.2.2 f = S.old f) ∧ Uniq p.2.2.2 ∧ StOk S), cel b 109 [.int .i64 reb, .map (some p.1), .map (some p.2.1), .int .i64 S.tm, .int .i64 S.aw], mpI tagV p.1 p.2.2.1, mpI (Value.int .i64) p.2.1 p.2.2.2]

section
variable {W w w' : World} {b : Nat} {reb : Int} {S : St} {R : List SP}

theorem SfqR.iff : Own w (SfqR b reb S :: R) ↔ ∃ ab rb m rem, Rep m S.L ∧ (∀ f, tget rem f = S.old f) ∧ Uniq rem ∧ StOk S ∧
    Own w (cel b 109 [.int .i64 reb, .map (some ab), .map (some rb), .int .i64 S.tm, .int .i64 S.aw] :: mpI tagV ab m :: mpI (Value.int .i64) rb rem :: R) := by
  constructor
  · intro o
    obtain ⟨⟨ab, rb, m, rem⟩, h⟩ := Own.ex.1 o
    obtain ⟨⟨h1, h2, h3, h4⟩, h5⟩ := Own.pu.1 (Own.st.1 h)
    exact ⟨ab, rb, m, rem, h1, h2, h3, h4, h5⟩
  · rintro ⟨ab, rb, m, rem, h1, h2, h3, h4, h5⟩
    exact Own.ex.2 ⟨(ab, rb, m, rem), Own.st.2 (Own.pu.2 ⟨⟨h1, h2, h3, h4⟩, h5⟩)⟩

theorem SfqR.ok (o : Own w (SfqR b reb S :: R)) : StOk S := by
  obtain ⟨_, _, _, _, _, _, _, h, _⟩ := SfqR.iff.1 o
  exact h

theorem Tryz.zeroT (w : World) : (zeroValue 94).run Tryz.prog w = .ok (.agg #[.int .i64 0, .int .i64 0, .int .i64 0]) w := by kernel_rfl
theorem Tryz.tagT : ElemT Tryz.prog 44 94 3 24 := ElemT.mk' (z := .agg #[.int .i64 0, .int .i64 0, .int .i64 0]) Tryz.underlying44 (by kernel_rfl) rfl (by decide)

section
variable {ab : Nat} {m : List (Int × Tg)} {L : List Tg} {k : Int} {t : Tg}
theorem lookT_some (o : Own w (mpI tagV ab m :: R)) (hm : Rep m L) (h : fget L k = some t) :
    (Instr.lookup 106 (.map (some ab)) (.int .i64 k) true).run Tryz.prog w = .ok (.tuple #[.agg #[.int .i64 t.f, .int .i64 t.w, .int .i64 t.s], .bool true]) w := by
  rw [run_lookup_mpI Tryz.underlying106 Tryz.underlying3 Tryz.zeroT o k true, hm.get, h]; rfl
theorem lookT_one (o : Own w (mpI tagV ab m :: R)) (hm : Rep m L) (h : fget L k = some t) :
    (Instr.lookup 106 (.map (some ab)) (.int .i64 k) false).run Tryz.prog w = .ok (.agg #[.int .i64 t.f, .int .i64 t.w, .int .i64 t.s]) w := by
  rw [run_lookup_mpI Tryz.underlying106 Tryz.underlying3 Tryz.zeroT o k false, hm.get, h]; rfl
theorem lookT_none (o : Own w (mpI tagV ab m :: R)) (hm : Rep m L) (h : fget L k = none) :
    (Instr.lookup 106 (.map (some ab)) (.int .i64 k) true).run Tryz.prog w = .ok (.tuple #[.agg #[.int .i64 0, .int .i64 0, .int .i64 0], .bool false]) w := by
  rw [run_lookup_mpI Tryz.underlying106 Tryz.underlying3 Tryz.zeroT o k true, hm.get, h]; rfl
end

set_option maxHeartbeats 800000 in
theorem sfqNew_spec (r : Int) (h1 : 1 ≤ r) (h2 : r ≤ 1099511627776) (o : Own w R) :
    Calls Tryz.prog 18 #[.int .i64 r] w fun e w' => ∃ b, Ret (.tuple #[.pointer (some ⟨b, 0, none⟩), .int .i64 0]) (SfqR b r ⟨[], fun _ => 0, 0, 0⟩ :: R) w e w' := by
  have hmm := @run_makeMap Tryz.prog
  go_enter Tryz.func18, Tryz.ntmps18
  go_wp2
  go_ret2
  have o1 := (o.mpI_made (f := tagV)).mpI_made (f := Value.int .i64) (α := Int)
  have o2 := (o1.swap).alloc (.cells #[.int .i64 r, .map (some w.heap.size), .map (some (w.heap.size + 1)), .int .i64 0, .int .i64 0] 109)
  simp only [World.size_alloc] at o2
  exact ⟨_, rfl, SfqR.iff.2 ⟨w.heap.size, w.heap.size + 1, [], [], Rep.start, fun _ => rfl, by simp [Uniq], StOk.start, o2⟩, ⟨rfl, rfl, rfl⟩⟩

set_option maxHeartbeats 3200000 in
set_option maxRecDepth 100000 in
theorem sfqJoin_spec (f wt : Int) (o : Own w (SfqR b reb S :: R)) :
    Calls Tryz.prog 39 #[.pointer (some ⟨b, 0, none⟩), .int .i64 f, .int .i64 wt] w (Ret (.int .i64 (joinR S f wt).1) (SfqR b reb (joinR S f wt).2 :: R) w) := by
  obtain ⟨ab, rb, m, rem, hm, hold, hur, hok, o1⟩ := SfqR.iff.1 o
  have c1 := o1.cell 1
  have Hold := Lib.hid hold
  clear hold
  by_cases hbad : f < 0 ∨ 32 ≤ f ∨ wt < 1 ∨ 16 < wt
  · have e : joinR S f wt = (1, S) := by unfold joinR joinE; rw [if_pos hbad]; rfl
    rw [e]; clear e
    have fin : ∀ x, Ret (.int .i64 1) (SfqR b reb S :: R) w (.returned (.int .i64 1)) (w.alloc x) := fun x => ⟨rfl, o.more x, ⟨rfl, rfl, rfl⟩⟩
    have key : ∃ (t : Tg) (z : Bool), (Instr.lookup 106 (.map (some ab)) (.int .i64 f) true).run Tryz.prog w = .ok (.tuple #[.agg #[.int .i64 t.f, .int .i64 t.w, .int .i64 t.s], .bool z]) w := by
      cases hf : fget S.L f with
      | none => exact ⟨⟨0, 0, 0⟩, false, lookT_none (o1.up 1) hm hf⟩
      | some t => exact ⟨t, true, lookT_some (o1.up 1) hm hf⟩
    obtain ⟨t, z, hlk⟩ := key
    by_cases h1 : f < 0
    · clear hbad
      go_enter Tryz.func39, Tryz.ntmps39
      go_wp2
      go_ret
      exact fin _
    · by_cases h2 : 32 ≤ f
      · clear hbad
        go_enter Tryz.func39, Tryz.ntmps39
        go_wp2
        go_ret
        exact fin _
      · by_cases h3 : wt < 1
        · clear hbad
          go_enter Tryz.func39, Tryz.ntmps39
          go_wp2
          go_ret
          exact fin _
        · have h4 : 16 < wt := by omega
          clear hbad
          go_enter Tryz.func39, Tryz.ntmps39
          go_wp2
          go_ret
          exact fin _
  · have h1 : ¬ f < 0 := by omega
    have h2 : ¬ 32 ≤ f := by omega
    have h3 : ¬ wt < 1 := by omega
    have h4 : ¬ 16 < wt := by omega
    cases hf : fget S.L f with
    | some t =>
      have e : joinR S f wt = (7, S) := by unfold joinR joinE; rw [if_neg hbad, hf]; rfl
      rw [e]; clear e hbad
      have hlk := lookT_some (o1.up 1) hm hf
      clear hf
      go_enter Tryz.func39, Tryz.ntmps39
      go_wp2
      go_ret
      exact ⟨rfl, o.more _, ⟨rfl, rfl, rfl⟩⟩
    | none =>
      have he : joinE S f wt = 0 := by unfold joinE; rw [if_neg hbad, hf]; rfl
      have e : joinR S f wt = (0, joinS S f wt) := by unfold joinR; rw [he, if_pos rfl]
      rw [e]; clear e hbad
      have hlk := lookT_none (o1.up 1) hm hf
      have hok1 := hok.join he
      have hom := o1.alloc (.cells #[.int .i64 0, .int .i64 0, .int .i64 0] 94)
      have l1 := lookIL rb ((hom.up 3).drew) f false
      simp only [Bool.false_eq_true, if_false] at l1
      have c2 := o1.cell 2
      have c3 := o1.cell 3
      have hbl := o1.celLt
      have hx : tget rem f = S.old f := Hold.out f
      obtain ⟨s, hs⟩ : ∃ s, max S.tm (tget rem f) = s := ⟨_, rfl⟩
      have hms : max S.tm (S.old f) = s := by rw [← hx]; exact hs
      have HS := Lib.hid hms
      clear hms hx
      have hrep : Rep (mput m f ⟨f, wt, s⟩) (joinS S f wt).L := by
        have h5 := hok.tm
        have h6 := hok.old f
        have := hm.ins (x := ⟨f, wt, s⟩) hf (by refine ⟨?_, ?_, ?_, ?_, ?_, ?_⟩ <;> (simp only; first | omega | (rw [← HS.out]; omega)))
        show Rep (mput m f ⟨f, wt, s⟩) (insT ⟨f, wt, max S.tm (S.old f)⟩ S.L)
        rw [HS.out]; exact this
      clear hf he
      go_enter Tryz.func39, Tryz.ntmps39
      go_wp2
      refine wp_region_tail 19 (by kernel_rfl) (by kernel_rfl) ?_
      simp only [List.take_succ_cons, List.take_zero, List.drop_succ_cons, List.drop_zero]
      repeat still_step
      refine wpStill_nil ?_
      go_wp2_with (at_mapUpdate; refine wpList_mapUpdate_mpI (f := tagV) rfl _ _ _ rfl Tryz.underlying106 Tryz.underlying3 ((hom.up 2).drew) f ⟨f, wt, s⟩ rfl rfl rfl ?c1)
      case c1 =>
      intro w1 o2 k2
      have d2 := (o2.up 2).cell 2
      go_wp2_with (at_delete; refine wpList_delete_mpI rfl _ _ rfl Tryz.underlying107 Tryz.underlying3 (o2.up 3) f rfl rfl ?c2)
      case c2 =>
      intro w3 o3 k3
      go_wp2
      go_ret
      refine ⟨rfl, SfqR.iff.2 ⟨ab, rb, _, _, hrep, fun g => ?_, hur.mdel f, hok1.1, ?_⟩, (Calm.trans ⟨k2.os, k2.tape, k2.output⟩ k3)⟩
      · show tget (mdel rem f) g = if g = f then 0 else S.old g
        unfold tget
        rw [mget_mdel hur]
        split
        · rfl
        · exact Hold.out g
      · exact o3.re [2, 3, 1, 0] 1
end
end Go.Proofs.YtjpahfkchhnpoaaGreat

/- append(s, x...) where x may be empty, as an operation of a list and as a step of a region that draws its order. -/
namespace Go.Proofs.YtjpahfkchhnpoaaGreat
open Go.RowKit
open SP

/-- What is appended: x has m elements whose cells are news. -/
def IsSrc (w : World) (x : Value) (size m : Nat) (news : List Value) : Prop :=
  ∃ a c, x = .slice a m c ∧ news.length = m * size ∧ (∀ u ∈ news, u.oneCell' = true) ∧ (m = 0 ∨ ∃ ad, a = some ad ∧ ∀ (j : Nat) u, news[j]? = some u → w.cell? (ad.add j) = some u)

section
variable {w : World} {l : List SP} {P : Program} {t e : TypeId} {size bytes : Nat}

theorem run_append_src (ty : TypeId) (E : ElemT P t e size bytes) {a : Option Addr} {n cap : Nat} {xs : List Value} (o : Own w (SP.slc e size a n cap xs :: l)) {x : Value} {m : Nat} {news : List Value} (hx : IsSrc w x size m news)
    (h63 : n + m ≤ maxLen) (hbytes : (n + m) * bytes ≤ 140737488355328) :
    ∃ a' cap' w', (Builtin.append_ #[t, t] ty #[.slice a n cap, x]).run P w = .ok (.slice a' (n + m) cap') w' ∧ Own w' (SP.slc e size a' (n + m) cap' (xs ++ news) :: l) ∧ Calm w w' := by
  obtain ⟨b, c, rfl, hl, h1, hb⟩ := hx
  rcases hb with rfl | ⟨ad, rfl, hc⟩
  · have hn : news = [] := List.eq_nil_of_length_eq_zero (by simpa using hl)
    subst hn
    obtain ⟨ht, ⟨i, z, hi, hz, rfl, rfl, hzs⟩, hsz⟩ := E
    have hnc := o.slc_len.2.1
    refine ⟨a, cap, w, ?_, by simpa using o, Calm.refl w⟩
    cases b <;> cases a <;> first
      | (have h0 : n = 0 ∧ cap = 0 := by
          rcases Own.slc.1 o with ⟨_, h, h', _⟩ | ⟨_, _, h, _⟩
          · exact ⟨h, h'⟩
          · cases h
         obtain ⟨rfl, rfl⟩ := h0
         simp [Builtin.append_, run_underlying ht, sizeOf, typeInfo, hi, Builtin.lenOf, Builtin.firstCells, loadCells, loadCellsFrom])
      | simp [Builtin.append_, run_underlying ht, sizeOf, typeInfo, hi, Builtin.lenOf, Builtin.firstCells, loadCells, loadCellsFrom, hnc, storeCells]
  · exact run_append_slc ty E o ad m c news hl hc h1 h63 hbytes

theorem wpList_append_src {ops : Array Oper} {rest : List Oper} {op : Oper} {A : Act} {Q : Exit → Act → World → Prop} (hgd : op.guard = none) (s x : Operand)
    (hop : op.op = .call { callee := .builtin .append, args := #[s, x], argTypes := #[t, t] })
    (E : ElemT P t e size bytes) {a : Option Addr} {n cap : Nat} {xs : List Value} (hs : A.eval s = .slice a n cap) (o : Own w (SP.slc e size a n cap xs :: l))
    {v : Value} {m : Nat} {news : List Value} (hx : A.eval x = v) (hsrc : IsSrc w v size m news)
    (h63 : n + m ≤ maxLen) (hbytes : (n + m) * bytes ≤ 140737488355328)
    (h : ∀ a' cap' w', Own w' (SP.slc e size a' (n + m) cap' (xs ++ news) :: l) → Calm w w' → wpList P ops Q rest (A.put op.dst (.slice a' (n + m) cap')) w') : wpList P ops Q (op :: rest) A w := by
  refine wpList_plain hgd fun K hK => ?_
  obtain ⟨a', cap', w', hr, h2, h3⟩ := run_append_src op.type E o hsrc h63 hbytes
  unfold Oper.wp execOp
  simp only [hop, resolve, invoke, builtin, Sem.run_bind, Sem.run_pure, Result.andThen_ok, List.map_toArray, List.map_cons, List.map_nil, hs, hx, hr]
  exact hK _ _ (h a' cap' w' h2 h3)

theorem step_append_src {ops : Array Oper} {op : Oper} {A : Act} {K : Act → World → Prop} {Q : Exit → Act → World → Prop} {F : Prop} (hgd : op.guard = none) (s x : Operand)
    (hop : op.op = .call { callee := .builtin .append, args := #[s, x], argTypes := #[t, t] })
    (E : ElemT P t e size bytes) {a : Option Addr} {n cap : Nat} {xs : List Value} (hs : A.eval s = .slice a n cap) (o : Own w (SP.slc e size a n cap xs :: l))
    {v : Value} {m : Nat} {news : List Value} (hx : A.eval x = v) (hsrc : IsSrc w v size m news)
    (h63 : n + m ≤ maxLen) (hbytes : (n + m) * bytes ≤ 140737488355328)
    (h : ∀ a' cap' w', Own w' (SP.slc e size a' (n + m) cap' (xs ++ news) :: l) → Calm w w' → K (A.put op.dst (.slice a' (n + m) cap')) w') :
    if Region.wanted op (yielded ops A.tmps) = true then Oper.wp P op A w K Q else F := by
  have hw : Region.wanted op (yielded ops A.tmps) = true := by simp [Region.wanted, hgd]
  rw [if_pos hw]
  obtain ⟨a', cap', w', hr, h2, h3⟩ := run_append_src op.type E o hsrc h63 hbytes
  unfold Oper.wp execOp
  simp only [hop, resolve, invoke, builtin, Sem.run_bind, Sem.run_pure, Result.andThen_ok, List.map_toArray, List.map_cons, List.map_nil, hs, hx, hr]
  exact h a' cap' w' h2 h3

/-- A slice of no element in a block of its own. -/
theorem slc_zero {b : Nat} (o : Own w (SP.cel b e [] :: l)) : Own w (SP.slc e size (some ⟨b, 0, none⟩) 0 0 [] :: l) :=
  Own.slc.2 (.inr ⟨b, [], rfl, Nat.le_refl _, by unfold maxLen; omega, by simp, by simp, o⟩)
theorem slc_plus {a : Option Addr} {n cap : Nat} {xs : List Value} (o : Own w (SP.slc e size a (0 + n) cap ([] ++ xs) :: l)) : Own w (SP.slc e size a n cap xs :: l) := by
  rw [Nat.zero_add, List.nil_append] at o
  exact o
end
end Go.Proofs.YtjpahfkchhnpoaaGreat

/- Lists of tags in memory, behind a pool; parts of them as sources of an append. -/
namespace Go.Proofs.YtjpahfkchhnpoaaGreat
open Go.RowKit
open SP

/-! ### Lists of tags -/
/-- The list of tags that a slice at a holds, read behind Sp. -/
def TagsAt (Sp : SP) (a : Option Addr) (L : List Tg) : Prop := ∀ (w : World) (R : List SP), Own w (Sp :: R) → ∀ (i : Nat) (t : Tg), L[i]? = some t →
  ∃ g so, a = some ⟨g, so, none⟩ ∧ w.cell? ⟨g, so + i * 3, none⟩ = some (.int .i64 t.f) ∧ w.cell? ⟨g, so + i * 3 + 1, none⟩ = some (.int .i64 t.w) ∧ w.cell? ⟨g, so + i * 3 + 2, none⟩ = some (.int .i64 t.s)
theorem tagsAt_slcT {T : TypeId} (a : Option Addr) (n c : Nat) (L : List Tg) (hn : n = L.length) : TagsAt (slc T 3 a n c (flat tagC L)) a L := by
  intro w R o i t ht
  have := (List.getElem?_eq_some_iff.1 ht).1
  obtain ⟨g, h, hc, hf, hg⟩ := o.slc_cell (by omega)
  refine ⟨g, 0, h, ?_, ?_, ?_⟩
  · rw [Nat.zero_add]; exact hc (i * 3 + 0) _ (flat_get tagC_len L i 0 t ht (by omega))
  · rw [Nat.zero_add]; exact hc (i * 3 + 1) _ (flat_get tagC_len L i 1 t ht (by omega))
  · rw [Nat.zero_add]; exact hc (i * 3 + 2) _ (flat_get tagC_len L i 2 t ht (by omega))

theorem tagsAt_slc (a : Option Addr) (n c : Nat) (L : List Tg) (hn : n = L.length) : TagsAt (slc 94 3 a n c (flat tagC L)) a L := tagsAt_slcT a n c L hn
/-- The index of a flow, or -1. -/
def idxT (f : Int) : Nat → List Tg → Int
  | _, [] => -1
  | i, t :: l => if t.f = f then (i : Int) else idxT f (i + 1) l
theorem idxT_none {f : Int} : ∀ (k : Nat) (L : List Tg), fget L f = none → idxT f k L = -1
  | _, [], _ => rfl
  | k, t :: L, h => by
    have hn := fget_none.1 h
    rw [idxT, if_neg (hn t (by simp))]
    exact idxT_none (k + 1) L (fget_none.2 fun t ht => hn t (by simp [ht]))
theorem idxT_some {f : Int} {t : Tg} : ∀ (k : Nat) (L : List Tg), fget L f = some t → ∃ i, L[i]? = some t ∧ idxT f k L = ((k + i : Nat) : Int)
  | _, [], h => by simp [fget] at h
  | k, u :: L, h => by
    rw [fget_cons] at h
    by_cases hu : u.f = f
    · rw [if_pos hu] at h
      cases h
      exact ⟨0, rfl, by rw [idxT, if_pos hu]; rfl⟩
    · rw [if_neg hu] at h
      obtain ⟨i, h1, h2⟩ := idxT_some (k + 1) L h
      exact ⟨i + 1, h1, by rw [idxT, if_neg hu, h2]; congr 1; omega⟩

theorem insT_split (x : Tg) : ∀ (k : Nat) (L : List Tg), k ≤ L.length → (∀ (j : Nat) (t : Tg), j < k → L[j]? = some t → t.f < x.f) → (∀ t : Tg, L[k]? = some t → ¬ t.f < x.f) → insT x L = L.take k ++ [x] ++ L.drop k
  | 0, [], _, _, _ => rfl
  | 0, t :: L, _, _, h2 => by
    unfold insT
    rw [if_neg (h2 t rfl)]
    rfl
  | k + 1, [], hk, _, _ => by simp at hk
  | k + 1, t :: L, hk, h1, h2 => by
    unfold insT
    rw [if_pos (h1 0 t (by omega) rfl), insT_split x k L (by simpa using hk) (fun j u hj hu => h1 (j + 1) u (by omega) (by simpa using hu)) (fun u hu => h2 u (by simpa using hu))]
    rfl
/-- How a slice's head looks. -/
def SlOk (a : Option Addr) (c : Nat) : Prop := (a = none ∧ c = 0) ∨ ∃ g, a = some ⟨g, 0, none⟩
def PExtT (P P' : SP) : Prop := ∀ a L, TagsAt P a L → TagsAt P' a L
theorem PExtT.refl (P : SP) : PExtT P P := fun _ _ h => h
theorem PExtT.trans {A B C : SP} (h : PExtT A B) (k : PExtT B C) : PExtT A C := fun _ _ x => k _ _ (h _ _ x)
theorem PExtT.add (A S : SP) : PExtT S (st [A, S]) := fun _ _ h w R o i y hy => h w _ ((Own.st.1 o).up 1) i y hy
theorem TagsAt.new {S A : SP} {a : Option Addr} {L : List Tg} (h : TagsAt A a L) : TagsAt (st [A, S]) a L := fun w _ o i y hy => h w _ (Own.st.1 o) i y hy
theorem delT_len (f : Int) (L : List Tg) : (delT f L).length ≤ L.length := List.length_filter_le _ _
theorem take_snoc {α : Type} {L : List α} {i : Nat} {x : α} (h : L[i]? = some x) : L.take (i + 1) = L.take i ++ [x] := by rw [List.take_add_one, h]; rfl
theorem delT_snoc (f : Int) (L : List Tg) (t : Tg) : delT f (L ++ [t]) = if t.f = f then delT f L else delT f L ++ [t] := by
  unfold delT
  rw [List.filter_append]
  split
  · rename_i h; rw [List.filter_cons_of_neg (by simp [h])]; simp
  · rename_i h; rw [List.filter_cons_of_pos (by simp [h])]; simp

section
variable {W w w' : World} {R : List SP}
theorem slOk_slc {e : TypeId} {size : Nat} {a : Option Addr} {n c : Nat} {xs : List Value} (o : Own w (slc e size a n c xs :: R)) : SlOk a c := by
  rcases Own.slc.1 o with ⟨h1, _, h2, _⟩ | ⟨g, sp, h, _⟩
  · exact .inl ⟨h1, h2⟩
  · exact .inr ⟨g, h⟩
theorem tagsAt_nil (P : SP) (a : Option Addr) : TagsAt P a [] := fun w R o i y hy => by simp at hy
theorem tags_src {A : SP} {a : Option Addr} {n c : Nat} {L : List Tg} (hA : TagsAt A a L) (hn : n = L.length) (o : Own w (A :: R)) : IsSrc w (.slice a n c) 3 n (flat tagC L) := by
  refine ⟨a, c, rfl, by rw [flat_length tagC_len, hn], fun u hu => ?_, ?_⟩
  · obtain ⟨p, _, hp⟩ := List.mem_flatMap.1 hu
    unfold tagC at hp
    simp at hp
    rcases hp with rfl | rfl | rfl <;> rfl
  · cases L with
    | nil => exact .inl hn
    | cons p L' =>
      obtain ⟨g, so, rfl, _, _, _⟩ := hA _ _ o 0 p rfl
      refine .inr ⟨_, rfl, fun j u hu => ?_⟩
      have hadd : (⟨g, so, none⟩ : Addr).add j = ⟨g, so + j, none⟩ := by unfold Addr.add; split <;> simp_all
      rw [hadd]
      have hj : j < (p :: L').length * 3 := by have := (List.getElem?_eq_some_iff.1 hu).1; rwa [flat_length tagC_len] at this
      have hjk : j / 3 < (p :: L').length := by omega
      obtain ⟨t, ht⟩ : ∃ t, (p :: L')[j / 3]? = some t := ⟨_, List.getElem?_eq_getElem hjk⟩
      obtain ⟨g', so', h1, h2, h3, h4⟩ := hA _ _ o (j / 3) t ht
      cases h1
      have h5 := flat_get tagC_len (p :: L') (j / 3) (j % 3) t ht (Nat.mod_lt _ (by omega))
      rw [show j / 3 * 3 + j % 3 = j from by omega, hu] at h5
      have hm : j % 3 = 0 ∨ j % 3 = 1 ∨ j % 3 = 2 := by omega
      rcases hm with hm | hm | hm
      · rw [hm] at h5
        rw [show so + j = so + j / 3 * 3 from by omega, h2, h5]; rfl
      · rw [hm] at h5
        rw [show so + j = so + j / 3 * 3 + 1 from by omega, h3, h5]; rfl
      · rw [hm] at h5
        rw [show so + j = so + j / 3 * 3 + 2 from by omega, h4, h5]; rfl
theorem tags_cut {A : SP} {g so : Nat} {i k c : Nat} {L : List Tg} (hA : TagsAt A (some ⟨g, so, none⟩) L) (hik : i + k ≤ L.length) (o : Own w (A :: R)) :
    IsSrc w (.slice (some ⟨g, so + i * 3, none⟩) k c) 3 k (flat tagC ((L.drop i).take k)) := by
  have hl : ((L.drop i).take k).length = k := by rw [List.length_take, List.length_drop]; omega
  have hB : TagsAt A (some ⟨g, so + i * 3, none⟩) ((L.drop i).take k) := fun w R o j y hy => by
    have hj := (List.getElem?_eq_some_iff.1 hy).1
    rw [hl] at hj
    have hy2 : L[i + j]? = some y := by rw [List.getElem?_take, if_pos hj, List.getElem?_drop] at hy; exact hy
    obtain ⟨g', so', h1, h2, h3, h4⟩ := hA w R o (i + j) y hy2
    cases h1
    refine ⟨g, so + i * 3, rfl, ?_, ?_, ?_⟩
    · rw [← h2]; congr 2; omega
    · rw [← h3]; congr 2; omega
    · rw [← h4]; congr 2; omega
  exact tags_src hB hl.symm o

theorem at_world {op : Oper} {A : Act} {K : Act → World → Prop} {Q : Exit → Act → World → Prop} {F c : Prop} {h : Decidable c} (W : World) (hh : @ite Prop c h (Oper.wp Tryz.prog op A W K Q) F) : @ite Prop c h (Oper.wp Tryz.prog op A W K Q) F := hh
theorem news_src {T : TypeId} {nb : Nat} {t0 t1 t2 : Int} (o : Own w (cel nb T [.int .i64 t0, .int .i64 t1, .int .i64 t2] :: R)) : IsSrc w (.slice (some ⟨nb, 0, none⟩) 1 1) 3 1 [.int .i64 t0, .int .i64 t1, .int .i64 t2] :=
  ⟨_, _, rfl, rfl, by intro u hu; simp at hu; rcases hu with rfl | rfl | rfl <;> rfl, .inr ⟨_, rfl, fun j u hu => Own.news o j u hu⟩⟩
end
theorem flat_set {α : Type} {g : α → List Value} {sz : Nat} (hg : ∀ x, (g x).length = sz) : ∀ (L : List α) (i j : Nat) (x x' : α) (v : Value), L[i]? = some x → j < sz → g x' = (g x).set j v → flat g (L.set i x') = (flat g L).set (i * sz + j) v
  | [], i, j, x, x', v, h, _, _ => by simp at h
  | y :: L, 0, j, x, x', v, h, hj, he => by
    obtain rfl : y = x := by simpa using h
    show g x' ++ flat g L = (g y ++ flat g L).set (0 * sz + j) v
    rw [Nat.zero_mul, Nat.zero_add, List.set_append_left _ _ (by rw [hg]; exact hj), he]
  | y :: L, i + 1, j, x, x', v, h, hj, he => by
    have ih := flat_set hg L i j x x' v (by simpa using h) hj he
    show g y ++ flat g (L.set i x') = (g y ++ flat g L).set ((i + 1) * sz + j) v
    have e : (i + 1) * sz + j = sz + (i * sz + j) := by rw [Nat.add_mul]; omega
    rw [e, List.set_append_right _ _ (by rw [hg]; omega), hg, Nat.add_sub_cancel_left, ih]
theorem setT_atP {L : List Tg} (h : L.Pairwise fun a b => a.f < b.f) {i : Nat} {t x : Tg} (ht : L[i]? = some t) (hx : x.f = t.f) : L.set i x = setT x L := by
  apply List.ext_getElem?
  intro j
  unfold setT
  rw [List.getElem?_set, List.getElem?_map]
  by_cases hj : i = j
  · subst hj
    rw [if_pos rfl, if_pos (List.getElem?_eq_some_iff.1 ht).1, ht]
    simp [hx]
  · rw [if_neg hj]
    cases hu : L[j]? with
    | none => rfl
    | some u =>
      have hne : u.f ≠ x.f := fun he => by
        obtain ⟨h1, e1⟩ := List.getElem?_eq_some_iff.1 ht
        obtain ⟨h2, e2⟩ := List.getElem?_eq_some_iff.1 hu
        have hp := List.pairwise_iff_getElem.1 h
        rcases Nat.lt_or_gt_of_ne hj with h3 | h3
        · have := hp i j h1 h2 h3; rw [e1, e2] at this; omega
        · have := hp j i h2 h1 h3; rw [e1, e2] at this; omega
      simp [hne]
theorem delT_atP {L : List Tg} (h : L.Pairwise fun a b => a.f < b.f) {i : Nat} {t : Tg} (ht : L[i]? = some t) : L.take i ++ L.drop (i + 1) = delT t.f L := by
  obtain ⟨hi, ei⟩ := List.getElem?_eq_some_iff.1 ht
  have hp := List.pairwise_iff_getElem.1 h
  have hsp : L = L.take i ++ t :: L.drop (i + 1) := by rw [← ei, ← List.drop_eq_getElem_cons hi, List.take_append_drop]
  have h1 : ∀ y ∈ L.take i, y.f ≠ t.f := fun y hy he => by
    obtain ⟨j, hj, ej⟩ := List.mem_iff_getElem.1 hy
    rw [List.length_take] at hj
    rw [List.getElem_take] at ej
    have := hp j i (by omega) hi (by omega)
    rw [ej, ei] at this
    omega
  have h2 : ∀ y ∈ L.drop (i + 1), y.f ≠ t.f := fun y hy he => by
    obtain ⟨j, hj, ej⟩ := List.mem_iff_getElem.1 hy
    rw [List.length_drop] at hj
    rw [List.getElem_drop] at ej
    have := hp i (i + 1 + j) hi (by omega) (by omega)
    rw [ej, ei] at this
    omega
  conv => rhs; rw [hsp]
  unfold delT
  rw [List.filter_append, List.filter_cons_of_neg (by simp)]
  congr 1
  · exact (List.filter_eq_self.2 fun y hy => by simpa using h1 y hy).symm
  · exact (List.filter_eq_self.2 fun y hy => by simpa using h2 y hy).symm
end Go.Proofs.YtjpahfkchhnpoaaGreat

/- The error-free reference of the program: Leave, Tags, Valid, Least, Select. -/
namespace Go.Proofs.YtjpahfkchhnpoaaGreat
open Go.RowKit
open SP

section
variable {W w w' : World} {b : Nat} {reb : Int} {S : St} {R : List SP}

set_option maxHeartbeats 3200000 in
set_option maxRecDepth 100000 in
theorem sfqLeave_spec (f : Int) (o : Own w (SfqR b reb S :: R)) :
    Calls Tryz.prog 43 #[.pointer (some ⟨b, 0, none⟩), .int .i64 f] w (Ret (.int .i64 (leaveR S f).1) (SfqR b reb (leaveR S f).2 :: R) w) := by
  obtain ⟨ab, rb, m, rem, hm, hold, hur, hok, o1⟩ := SfqR.iff.1 o
  have c1 := o1.cell 1
  have Hold := Lib.hid hold
  clear hold
  cases hf : fget S.L f with
  | none =>
    have e : leaveR S f = (6, S) := by unfold leaveR; rw [hf]
    rw [e]; clear e
    have hlk := lookT_none (o1.up 1) hm hf
    clear hf
    go_enter Tryz.func43, Tryz.ntmps43
    go_wp2
    go_ret
    exact ⟨rfl, o.more _, ⟨rfl, rfl, rfl⟩⟩
  | some t =>
    have e : leaveR S f = (0, leaveS S f t.s) := by unfold leaveR; rw [hf]
    rw [e]; clear e
    have hlk := lookT_some (o1.up 1) hm hf
    have hbl := o1.celLt
    have hrep := hm.del f
    have hok1 := hok.leave hf
    have hom := o1.alloc (.cells #[.int .i64 t.f, .int .i64 t.w, .int .i64 t.s] 94)
    clear hf
    go_enter Tryz.func43, Tryz.ntmps43
    go_wp2_with (at_delete; refine wpList_delete_mpI rfl _ _ rfl Tryz.underlying106 Tryz.underlying3 (hom.up 2) f rfl rfl ?c1)
    case c1 =>
    intro w1 o2 k2
    have d2 := (o2.up 2).cell 2
    have q2 := Own.cell (T := 94) (vs := [.int .i64 t.f, .int .i64 t.w, .int .i64 t.s]) (o2.up 1) 2
    go_wp2
    refine wp_region_tail 7 (by kernel_rfl) (by kernel_rfl) ?_
    simp only [List.take_succ_cons, List.take_zero, List.drop_succ_cons, List.drop_zero]
    repeat still_step
    refine wpStill_nil ?_
    go_wp2_with (at_mapUpdate; refine wpList_mapUpdate_mpI rfl _ _ _ rfl Tryz.underlying107 Tryz.underlying3 ((o2.up 3).drew) f t.s rfl rfl rfl ?c2)
    case c2 =>
    intro w3 o3 k3
    have d1 := (o3.up 3).cell 1
    by_cases hz : delT f S.L = []
    · have hm0 : mdel m f = [] := by
        have := hrep.len
        rw [hz] at this
        exact List.eq_nil_of_length_eq_zero (by simpa using this)
      have hl0 : ((mdel m f).length : Int) = 0 := by rw [hm0]; rfl
      have hlb : (((mdel m f).length : Int) == 0) = true := by simpa using hl0
      have HM := Lib.hid hm0
      clear hm0 hl0
      have d2 := (o3.up 3).cell 2
      go_wp2_with (first | (at_len; refine wpList_len_mpI rfl _ rfl Tryz.underlying106 (o3.up 1) rfl ?_) | (refine wpList_clear_mpI rfl _ rfl Tryz.underlying107 o3 rfl ?c4))
      case c4 =>
      intro w4 o4 k4
      have h2 := (o4.up 3).cell 3
      have h3 := (o4.up 3).frozen
      have h4 := (o4.up 3).celLt
      have o5 := (o4.up 3).setCell 3 (.int .i64 0)
      go_wp2
      go_ret
      refine ⟨rfl, SfqR.iff.2 ⟨ab, rb, mdel m f, [], ?_, ?_, by simp [Uniq], hok1, ?_⟩, Calm.trans ⟨k2.os, k2.tape, k2.output⟩ (Calm.trans ⟨k3.os, k3.tape, k3.output⟩ ⟨k4.os, k4.tape, k4.output⟩)⟩
      · rw [HM.out, leaveS, if_pos hz]; exact Rep.start
      · rw [leaveS, if_pos hz]; exact fun _ => rfl
      · rw [leaveS, if_pos hz]
        exact o5.re [3, 0, 2, 1] 1
    · have hm0 : (mdel m f).length ≠ 0 := by
        rw [hrep.len]
        exact fun e => hz (List.eq_nil_of_length_eq_zero e)
      have hlb : (((mdel m f).length : Int) == 0) = false := beq_eq_false_iff_ne.2 (by omega)
      go_wp2_with (at_len; refine wpList_len_mpI rfl _ rfl Tryz.underlying106 (o3.up 1) rfl ?_)
      go_ret
      have e : leaveS S f t.s = { S with L := delT f S.L, old := fun g => if g = f then t.s else S.old g } := if_neg hz
      rw [e] at hok1 ⊢
      refine ⟨rfl, SfqR.iff.2 ⟨ab, rb, mdel m f, mput rem f t.s, hrep, fun g => ?_, hur.mput _ _, hok1, ?_⟩, Calm.trans ⟨k2.os, k2.tape, k2.output⟩ ⟨k3.os, k3.tape, k3.output⟩⟩
      · show tget (mput rem f t.s) g = if g = f then t.s else S.old g
        unfold tget
        rw [mget_mput]
        split
        · rfl
        · exact Hold.out g
      · exact o3.re [2, 3, 1, 0] 1

def ValidRel (L : List Tg) (Sp : SP) (R : List SP) (w : World) (v3 v8 : Value) (wr : World) : Prop :=
  ∃ (i : Nat) (last : Int), v8 = .int .i64 (i : Int) ∧ v3 = .int .i64 last ∧ i ≤ L.length ∧ (∀ t, L[i]? = some t → last < t.f) ∧ Own wr (Sp :: R) ∧ Calm w wr

set_option maxHeartbeats 3200000 in
set_option maxRecDepth 100000 in
theorem tagsValid_spec {Sp : SP} {L : List Tg} {a : Option Addr} {n c : Nat} (hS : TagsAt Sp a L) (hok : LOk L) (hn : n = L.length) (o : Own w (Sp :: R)) :
    Calls Tryz.prog 135 #[.slice a n c] w (Ret (.bool true) (Sp :: R) w) := by
  have hT : ValidRel L Sp R w (.int .i64 (-1)) (.int .i64 0) w := ⟨0, -1, rfl, rfl, by omega, fun t ht => by have := hok.rng t (List.mem_of_getElem? ht); omega, o, Calm.refl w⟩
  have hl := hok.len
  have hn2 : n ≤ 32 := by omega
  have Hn := Lib.hid hn
  clear hn
  go_enter Tryz.func135, Tryz.ntmps135
  go_wp2
  go_loopw [3, 8] (fun v3 v8 wr => ValidRel L Sp R w v3 v8 wr) (fun _ v8 _ => n - (intOf v8).toNat)
  case atStart => exact hT
  case round =>
    clear hT
    obtain ⟨i, last, rfl, rfl, hi, hlast, oR, kR⟩ := hrel
    by_cases hlt : i < n
    · obtain ⟨t, ht⟩ : ∃ t, L[i]? = some t := ⟨_, List.getElem?_eq_getElem (by have := Hn.out; omega)⟩
      obtain ⟨g, so, rfl, d0, d1, d2⟩ := hS _ _ oR i _ ht
      have h1 := hlast t ht
      have h2 := hok.rng t (List.mem_of_getElem? ht)
      have hnext : ∀ u, L[i + 1]? = some u → t.f < u.f := fun u hu => by
        have := List.pairwise_iff_getElem.1 hok.asc i (i + 1) (List.getElem?_eq_some_iff.1 ht).1 (List.getElem?_eq_some_iff.1 hu).1 (by omega)
        rw [(List.getElem?_eq_some_iff.1 ht).2, (List.getElem?_eq_some_iff.1 hu).2] at this
        exact this
      have HN := Lib.hid hnext
      obtain ⟨x, y, z⟩ := t
      dsimp only at d0 d1 d2 h1 h2 HN
      clear ht hlast hnext
      obtain ⟨h2, h3, h4, h5, h6, h7⟩ := h2
      have hw : decide (1 ≤ y ∧ y ≤ 16) = true := by simp; omega
      have hwt := fun w => weighty_spec y w
      rw [hw] at hwt
      clear hw
      have oA := oR.alloc (.cells #[.int .i64 x, .int .i64 y, .int .i64 z] 94)
      go_wp2_with (go_at_call 154; refine (hwt _).mono ?_; rintro e w1 ⟨rfl, rfl⟩)
      go_roundw
      case rel => exact ⟨i + 1, x, by go_num, rfl, by have := Hn.out; omega, HN.out, oA.drop, ⟨kR.os, kR.tape, kR.output⟩⟩
      case measure => simp [intOf]; omega
    · go_wp2
      go_ret
      exact ⟨rfl, oR, kR⟩

def LeastRelT (L : List Tg) (T : Nat) (Sp : SP) (R : List SP) (w : World) (v3 v16 : Value) (wr : World) : Prop :=
  ∃ (i best : Nat), v16 = .int .i64 (i : Int) ∧ v3 = .int .i64 (best : Int) ∧ i ≤ L.length ∧ best < L.length ∧ leastG L (L.drop i) i best = T ∧ Own wr (Sp :: R) ∧ Calm w wr

set_option maxHeartbeats 3200000 in
set_option maxRecDepth 100000 in
theorem tagsLeast_spec {Sp : SP} {L : List Tg} {a : Option Addr} {n c : Nat} (hS : TagsAt Sp a L) (hok : LOk L) (hn : n = L.length) (o : Own w (Sp :: R)) :
    Calls Tryz.prog 115 #[.slice a n c] w (Ret (.int .i64 (if L = [] then -1 else (leastN L : Int))) (Sp :: R) w) := by
  by_cases hz : L = []
  · rw [if_pos hz]
    have hn0 : n = 0 := by rw [hn, hz]; rfl
    subst hn0
    clear hn hz
    go_enter Tryz.func115, Tryz.ntmps115
    go_wp2
    go_ret
    exact ⟨rfl, o, Calm.refl w⟩
  · rw [if_neg hz]
    have hpos : 0 < n := by rw [hn]; exact List.length_pos_iff.2 hz
    have hl := hok.len
    have hn2 : n ≤ 32 := by omega
    have hv := tagsValid_spec (c := c) hS hok hn o
    have hT0 : leastG L (L.drop 0) 0 0 = leastN L := rfl
    generalize leastN L = T at *
    have HT0 := Lib.hid hT0
    have Hn := Lib.hid hn
    have hnb : ((n : Int) == 0) = false := by simp; omega
    clear hn hz hT0
    go_enter Tryz.func115, Tryz.ntmps115
    go_wp2_with (go_at_call 135; refine hv.mono ?_; rintro e w1 ⟨rfl, o1, k1⟩)
    have hT : LeastRelT L T Sp R w (.int .i64 0) (.int .i64 0) w1 := ⟨0, 0, rfl, rfl, by omega, by have := Hn.out; omega, HT0.out, o1, k1⟩
    go_wp2
    go_loopw [3, 16] (fun v3 v16 wr => LeastRelT L T Sp R w v3 v16 wr) (fun _ v16 _ => n - (intOf v16).toNat)
    case atStart => exact hT
    case round =>
      clear hT hv
      obtain ⟨i, best, rfl, rfl, hi, hb, hE, oR, kR⟩ := hrel
      have HT := Lib.hid hE
      clear hE
      by_cases hlt : i < n
      · obtain ⟨t, ht⟩ : ∃ t, L[i]? = some t := ⟨_, List.getElem?_eq_getElem (by have := Hn.out; omega)⟩
        obtain ⟨u, hu⟩ : ∃ u, L[best]? = some u := ⟨_, List.getElem?_eq_getElem (by have := Hn.out; omega)⟩
        obtain ⟨g, so, rfl, d0, d1, d2⟩ := hS _ _ oR i _ ht
        have oA := oR.alloc (.cells #[.int .i64 t.f, .int .i64 t.w, .int .i64 t.s] 94)
        obtain ⟨g', so', hgg, _, _, e2⟩ := hS _ _ (oA.up 1) best _ hu
        cases hgg
        have hstep : leastG L (L.drop i) i best = leastG L (L.drop (i + 1)) (i + 1) (if t.s < u.s then i else best) := by
          rw [drop_at ht, leastG, List.getD_eq_getElem?_getD, hu]; rfl
        have Hstep := Lib.hid hstep
        have hbn : best < n := by have := Hn.out; omega
        obtain ⟨x, y, z⟩ := t
        obtain ⟨x', y', z'⟩ := u
        dsimp only at d0 d1 d2 e2 Hstep
        clear ht hu hstep
        by_cases hc : z < z'
        · have hd : decide (z < z') = true := by simpa using hc
          go_wp2
          go_quiet (fail)
          go_wp2
          go_roundw
          case rel => exact ⟨i + 1, i, by go_num, rfl, by have := Hn.out; omega, by have := Hn.out; omega, by rw [← HT.out, Hstep.out, if_pos hc], oA.drop.drewN _, ⟨kR.os, kR.tape, kR.output⟩⟩
          case measure => simp [intOf]; omega
        · have hd : decide (z < z') = false := by simpa using hc
          go_wp2
          go_quiet (fail)
          go_wp2
          go_roundw
          case rel => exact ⟨i + 1, best, by go_num, rfl, by have := Hn.out; omega, hb, by rw [← HT.out, Hstep.out, if_neg (by omega)], oA.drop.drewN _, ⟨kR.os, kR.tape, kR.output⟩⟩
          case measure => simp [intOf]; omega
      · go_wp2
        go_ret
        have hbT : best = T := by rw [← HT.out, List.drop_eq_nil_of_le (by have := Hn.out; omega)]; rfl
        exact ⟨by rw [hbT]; rfl, oR, kR⟩

/-! ### Tags -/
def TagsRel (b ab rb : Nat) (reb : Int) (S : St) (m : List (Int × Tg)) (rem : List (Int × Int)) (a : Option Addr) (cap : Nat) (ks : List Int) (R : List SP) (w : World) (v3 v13 : Value) (wr : World) : Prop :=
  ∃ (i : Nat) (a' : Option Addr) (c' : Nat), v13 = .int .i64 (i : Int) ∧ i ≤ S.L.length ∧ v3 = .slice a' i c' ∧
    Own wr (slc 94 3 a' i c' (flat tagC (S.L.take i)) :: slc 3 1 a ks.length cap (ks.map (Value.int .i64)) :: cel b 109 [.int .i64 reb, .map (some ab), .map (some rb), .int .i64 S.tm, .int .i64 S.aw] :: mpI tagV ab m :: mpI (Value.int .i64) rb rem :: R) ∧ Calm w wr

def TagsPost (b : Nat) (reb : Int) (S : St) (R : List SP) (w : World) (e : Ending) (w' : World) : Prop :=
  ∃ (a : Option Addr) (c : Nat), Ret (.slice a S.L.length c) (slc 94 3 a S.L.length c (flat tagC S.L) :: SfqR b reb S :: R) w e w'

set_option maxHeartbeats 3200000 in
set_option maxRecDepth 100000 in
theorem sfqTags_spec (o : Own w (SfqR b reb S :: R)) :
    Calls Tryz.prog 34 #[.pointer (some ⟨b, 0, none⟩)] w (TagsPost b reb S R w) := by
  obtain ⟨ab, rb, m, rem, hm, hold, hur, hok, o1⟩ := SfqR.iff.1 o
  have c1 := o1.cell 1
  have Hold := Lib.hid hold
  clear hold
  have hlen := hm.ok.len
  have hml := hm.len
  have hks := hm.sort
  go_enter Tryz.func34, Tryz.ntmps34
  go_wp2_with fail
  refine (keysTag_spec _ _).mono ?_
  rintro e1 w1 ⟨rfl, rfl⟩
  have o2 := ((o1.alloc (.cells #[.map (some ab)] 106)).up 2).up 1
  go_wp2_with fail
  refine (sortedTag_spec w.heap.size hm.keyOk (by omega) o2).mono ?_
  rintro e2 w2 ⟨a, cap, rfl, o3, k3⟩
  rw [hks] at o3
  have hkl : (S.L.map (·.f)).length = m.length := by rw [List.length_map, hml]
  rw [← hkl] at o3 ⊢
  have hget : ∀ (i : Nat) (t : Tg), S.L[i]? = some t → (S.L.map (·.f))[i]? = some t.f := fun i t h => by rw [List.getElem?_map, h]; rfl
  have Hget := Lib.hid hget
  have hkn : (S.L.map (·.f)).length = S.L.length := List.length_map _
  generalize S.L.map (·.f) = ks at *
  have hT : TagsRel b ab rb reb S m rem a cap ks R w (.slice none 0 0) (.int .i64 0) w2 :=
    ⟨0, none, 0, rfl, by omega, rfl, Own.slc_nil (o3.re [0, 2, 1, 3]), ⟨k3.os, k3.tape, k3.output⟩⟩
  have Hkn := Lib.hid hkn
  have hk32 : ks.length ≤ 32 := by omega
  clear hkn hkl hks hml o3 k3 o2 o1 c1 hget
  go_wp2
  go_loopw [3, 13] (fun v3 v13 wr => TagsRel b ab rb reb S m rem a cap ks R w v3 v13 wr) (fun _ v13 _ => ks.length - (intOf v13).toNat)
  case atStart => exact hT
  case round =>
    clear hT
    obtain ⟨i, a', c', rfl, hi, rfl, oR, kR⟩ := hrel
    by_cases hlt : i < ks.length
    · obtain ⟨t, ht⟩ : ∃ t, S.L[i]? = some t := ⟨_, List.getElem?_eq_getElem (by have := Hkn.out; omega)⟩
      have hkt := Hget.out i t ht
      obtain ⟨g, rfl, hc, _, _⟩ := (oR.up 1).slc_cell (by omega)
      have d0 := hc i (.int .i64 t.f) (by rw [List.getElem?_map, hkt]; rfl)
      have c1 := (oR.up 2).cell 1
      have hfg := fget_mem hm.ok (List.mem_of_getElem? ht)
      have hlk := lookT_one (oR.up 3) hm hfg
      have htk : S.L.take (i + 1) = S.L.take i ++ [t] := by rw [List.take_add_one, ht]; rfl
      have HTK := Lib.hid htk
      have oA := oR.alloc (.cells #[.int .i64 t.f, .int .i64 t.w, .int .i64 t.s] 94)
      clear hc hkt ht hfg htk
      go_wp2_with (at_builtin; refine wpList_append_slc rfl _ _ rfl Tryz.tagT rfl (oA.up 1) ⟨wr.heap.size, 0, none⟩ 1 1 [.int .i64 t.f, .int .i64 t.w, .int .i64 t.s] rfl rfl ?c1 ?c2 ?c3 ?c4 ?c5)
      case c1 => exact Own.news (T := 94) oA
      case c2 => intro u hu; simp at hu; rcases hu with rfl | rfl | rfl <;> rfl
      case c3 => unfold maxLen; omega
      case c4 => omega
      case c5 =>
      intro a2 c2 w5 o5 k5
      go_wp2
      go_roundw
      case rel =>
        refine ⟨i + 1, a2, c2, by go_num, by have := Hkn.out; omega, rfl, ?_, kR.trans ⟨k5.os, k5.tape, k5.output⟩⟩
        rw [HTK.out, flat_append]
        exact (o5.up 1).drop
      case measure => simp [intOf]; omega
    · have hin : i = S.L.length := by have := Hkn.out; omega
      subst hin
      rw [List.take_length] at oR
      go_wp2
      go_ret
      refine ⟨a', c', rfl, ?_, kR⟩
      refine Own.swap (SfqR.iff.2 ⟨ab, rb, m, rem, hm, Hold.out, hur, hok, ?_⟩)
      exact (oR.re [1, 2, 3, 4, 0] 1)

set_option maxHeartbeats 1600000 in
set_option maxRecDepth 100000 in
theorem sfqSelect_spec (o : Own w (SfqR b reb S :: R)) :
    Calls Tryz.prog 90 #[.pointer (some ⟨b, 0, none⟩)] w (Ret (.tuple #[.int .i64 (selT S.L).1, .int .i64 (selT S.L).2]) (SfqR b reb S :: R) w) := by
  have hok := (SfqR.ok o).ok
  go_enter Tryz.func90, Tryz.ntmps90
  go_wp2_with fail
  refine (sfqTags_spec o).mono ?_
  rintro e1 w1 ⟨a, c, rfl, o1, k1⟩
  have hS := tagsAt_slc a S.L.length c S.L rfl
  go_wp2_with fail
  refine (tagsLeast_spec hS hok rfl o1).mono ?_
  rintro e2 w2 ⟨rfl, o2, k2⟩
  by_cases hz : S.L = []
  · have e1 : selT S.L = (0, 5) := if_pos hz
    have HE := Lib.hid e1
    rw [if_pos hz]
    clear hz e1
    go_wp2
    go_ret2
    rw [HE.out]
    exact ⟨rfl, o2.drop, k1.trans k2⟩
  · have e1 : selT S.L = ((lst S.L).f, 0) := if_neg hz
    have hlt := leastN_lt hz
    have hgt : S.L[leastN S.L]? = some (lst S.L) := by unfold lst; rw [List.getD_eq_getElem?_getD, List.getElem?_eq_getElem hlt]; rfl
    obtain ⟨g, so, rfl, d0, _, _⟩ := hS _ _ o2 _ _ hgt
    have HE := Lib.hid e1
    rw [if_neg hz]
    have hl32 := hok.len
    clear hz e1 hgt hS
    generalize leastN S.L = k at *
    generalize lst S.L = t at *
    go_wp2
    go_ret2
    rw [HE.out]
    exact ⟨rfl, o2.drop, k1.trans k2⟩
end
end Go.Proofs.YtjpahfkchhnpoaaGreat

/- The error-free reference of the program: subtract, Charge. -/
namespace Go.Proofs.YtjpahfkchhnpoaaGreat
open Go.RowKit
open SP

section
variable {W w w' : World} {b : Nat} {reb : Int} {S : St} {R : List SP}

def lowT (by_ : Int) (t : Tg) : Tg := ⟨t.f, t.w, t.s - by_⟩
def lowI (by_ : Int) (v : Int) : Int := max (v - by_) 0

def SubRel1 (b ab rb ib : Nat) (reb tm aw by_ : Int) (m : List (Int × Tg)) (rem : List (Int × Int)) (R : List SP) (w wr : World) : Prop :=
  ∃ (X : Int → Bool) (cur : Option Int) (m' : List (Int × Tg)), True = True ∧ m' = upd (lowT by_) X m ∧
    Own wr (rng tagV ab ib m' X cur :: cel b 109 [.int .i64 reb, .map (some ab), .map (some rb), .int .i64 tm, .int .i64 aw] :: mpI (Value.int .i64) rb rem :: R) ∧ Calm w wr
def SubRel2 (b ab rb ib : Nat) (reb tm aw by_ : Int) (m : List (Int × Tg)) (rem : List (Int × Int)) (R : List SP) (w wr : World) : Prop :=
  ∃ (X : Int → Bool) (cur : Option Int) (r' : List (Int × Int)), True = True ∧ r' = upd (lowI by_) X rem ∧
    Own wr (rng (Value.int .i64) rb ib r' X cur :: cel b 109 [.int .i64 reb, .map (some ab), .map (some rb), .int .i64 tm, .int .i64 aw] :: mpI tagV ab m :: R) ∧ Calm w wr

theorem tget_lowI {by_ : Int} (h : 0 ≤ by_) (rem : List (Int × Int)) (f : Int) : tget (rem.map fun x => (x.1, lowI by_ x.2)) f = max (tget rem f - by_) 0 := by
  have : rem.map (fun x => (x.1, lowI by_ x.2)) = upd (lowI by_) (fun _ => true) rem := by unfold upd; simp
  rw [this]
  unfold tget
  rw [mget_upd]
  cases mget rem f with
  | none => simp; omega
  | some v => simp [lowI]

set_option maxHeartbeats 6400000 in
set_option maxRecDepth 100000 in
theorem sfqSub_spec (by_ : Int) (h0 : 0 ≤ by_) (h1 : by_ ≤ S.tm) (h2 : ∀ t ∈ S.L, by_ ≤ t.s) (haw : 0 ≤ S.aw ∧ S.aw ≤ 1152921504606846976) (o : Own w (SfqR b reb S :: R)) :
    Calls Tryz.prog 118 #[.pointer (some ⟨b, 0, none⟩), .int .i64 by_] w (Ret (.tuple #[]) (SfqR b reb (subS S by_) :: R) w) := by
  obtain ⟨ab, rb, m, rem, hm, hold, hur, hok, o1⟩ := SfqR.iff.1 o
  have hok1 := hok.sub h0 h1 h2
  have hby : by_ ≤ 1099511627776 := by have := hok.tm; omega
  have htm := hok.tm
  have hmr : ∀ x ∈ m, by_ ≤ x.2.s ∧ x.2.s ≤ 1099511627776 ∧ x.2.f = x.1 := fun x hx => by
    obtain ⟨t, ht, he⟩ := List.mem_map.1 (hm.perm.mem_iff.1 hx)
    rw [← he]
    exact ⟨h2 t ht, (hok.ok.rng t ht).2.2.2.2.2, rfl⟩
  have hrr : ∀ x ∈ rem, 0 ≤ x.2 ∧ x.2 ≤ 1099511627776 := fun x hx => by
    have h3 := hold x.1
    have h4 := hok.old x.1
    rw [← h3] at h4
    unfold tget at h4
    rw [mget_mem hur hx] at h4
    exact h4
  have hum := hm.uniq
  have hfin : Rep (m.map fun p => (p.1, lowT by_ p.2)) (subS S by_).L := hm.map (lowT by_) (fun _ => rfl) hok1.ok
  have hfin2 : ∀ f, tget (rem.map fun x => (x.1, lowI by_ x.2)) f = (subS S by_).old f := fun f => by rw [tget_lowI h0, hold]; rfl
  have hfin3 : Uniq (rem.map fun x => (x.1, lowI by_ x.2)) := by
    unfold Uniq
    rw [List.map_map]
    exact hur
  have Hmr := Lib.hid hmr
  have Hrr := Lib.hid hrr
  have HF := Lib.hid hfin
  have HF2 := Lib.hid hfin2
  have HF3 := Lib.hid hfin3
  have HOK := Lib.hid hok1
  obtain ⟨w5, hr5, o9, k9⟩ := run_range_mpI (P := Tryz.prog) Tryz.underlying106 (o1.up 1)
  have hT : SubRel1 b ab rb w.heap.size reb S.tm S.aw by_ m rem R w w5 := ⟨fun _ => false, none, m, rfl, (upd_none _ _).symm, o9, k9⟩
  have c1 := o1.cell 1
  have e1 : subS S by_ = ⟨S.L.map (lowT by_), fun g => max (S.old g - by_) 0, S.tm - by_, S.aw + by_⟩ := rfl
  have HE1 := Lib.hid e1
  generalize hTM : S.tm = TM at *
  generalize hAW : S.aw = AW at *
  generalize hib : w.heap.size = ib at *
  clear hfin hfin2 hfin3 hok1 hmr hrr hold hok h2 o9 k9 e1 hTM hAW hib
  go_enter Tryz.func118, Tryz.ntmps118
  go_wp2
  go_loopw [13] (fun _ wr => SubRel1 b ab rb ib reb TM AW by_ m rem R w wr) (fun _ wr => rleft wr ab ib)
  case atStart => exact hT
  case round =>
    clear hT hr5 c1 o1 o
    obtain ⟨X, cur, m', _, hm', oR, kR⟩ := hrel
    have Hm := Lib.hid hm'
    have hkm : m'.map (·.1) = m.map (·.1) := by rw [hm', upd_keys]
    have hum' : Uniq m' := by unfold Uniq; rw [hkm]; exact hum
    clear hm'
    rcases run_next_rng (P := Tryz.prog) 0 hum' oR with ⟨hd, hr⟩ | ⟨x, w6, hx, hS, hr, o10, k10⟩
    · have hall : ∀ x ∈ m, X x.1 = true := fun x hx => by
        have : x.1 ∈ m'.map (·.1) := by rw [hkm]; exact List.mem_map.2 ⟨x, hx, rfl⟩
        obtain ⟨y, hy, hyx⟩ := List.mem_map.1 this
        rw [← hyx]; exact hd y hy
      have oD := oR.rng_done
      rw [Hm.out, upd_all hall] at oD
      have g2 := (oD.up 1).cell 2
      obtain ⟨w7, hr7, o7, k7⟩ := run_range_mpI (P := Tryz.prog) Tryz.underlying107 (oD.up 2)
      have hT2 : SubRel2 b ab rb wr.heap.size reb TM AW by_ (m.map fun p => (p.1, lowT by_ p.2)) rem R w w7 := ⟨fun _ => false, none, rem, rfl, (upd_none _ _).symm, o7.re [0, 2, 1], kR.trans k7⟩
      have HFm := HF
      generalize (m.map fun p => (p.1, lowT by_ p.2)) = m1 at *
      generalize wr.heap.size = ib2 at *
      clear hd hall o7 k7 HF
      go_wp2
      go_loopw [34] (fun _ wr => SubRel2 b ab rb ib2 reb TM AW by_ m1 rem R w wr) (fun _ wr => rleft wr rb ib2)
      case atStart => exact hT2
      case round =>
        clear hT2 hr7 g2 oD oR kR hr
        obtain ⟨X, cur, r', _, hr', oR, kR⟩ := hrel
        have Hr := Lib.hid hr'
        have hkr : r'.map (·.1) = rem.map (·.1) := by rw [hr', upd_keys]
        have hur' : Uniq r' := by unfold Uniq; rw [hkr]; exact hur
        clear hr'
        rcases run_next_rng (P := Tryz.prog) 0 hur' oR with ⟨hd, hr⟩ | ⟨x, w6, hx, hS, hr, o10, k10⟩
        · have hall : ∀ x ∈ rem, X x.1 = true := fun x hx => by
            have : x.1 ∈ r'.map (·.1) := by rw [hkr]; exact List.mem_map.2 ⟨x, hx, rfl⟩
            obtain ⟨y, hy, hyx⟩ := List.mem_map.1 this
            rw [← hyx]; exact hd y hy
          have oD := oR.rng_done
          rw [Hr.out, upd_all hall] at oD
          have g3 := (oD.up 1).cell 3
          have g4 := (oD.up 1).cell 4
          have gf := (oD.up 1).frozen
          have gb := (oD.up 1).celLt
          have oE := ((oD.up 1).setCell 3 (.int .i64 (TM - by_))).setCell 4 (.int .i64 (AW + by_))
          clear hd hall
          go_wp2
          go_end0
          refine ⟨rfl, SfqR.iff.2 ⟨ab, rb, _, _, HFm.out, HF2.out, HF3.out, HOK.out, ?_⟩, ⟨kR.os, kR.tape, kR.output⟩⟩
          rw [HE1.out]
          exact oE.re [0, 2, 1]
        · obtain ⟨key, val⟩ := x
          dsimp only at hS hr o10
          have hmv : mget r' key = some val := mget_mem hur' hx
          have hmt : mget rem key = some val := by
            rw [Hr.out, mget_upd] at hmv
            simp only [hS, Bool.false_eq_true, if_false, Option.map_eq_some_iff, exists_eq_right] at hmv
            exact hmv
          have hvr := Hrr.out _ (mem_of_mget hmt)
          dsimp only at hvr
          have hen := run_entry_rng (P := Tryz.prog) hur' o10 hmv
          have g6 := (o10.up 1).cell 2
          have hin : (mget r' key).isSome = true := by rw [hmv]; rfl
          have Hmv := Lib.hid hmv
          have Hin := Lib.hid hin
          have Hmt := Lib.hid hmt
          clear hmv hin hmt
          go_wp2_with (at_mapUpdate; refine wpList_mapUpdate_rng rfl _ _ _ rfl Tryz.underlying107 Tryz.underlying3 hur' o10 key (max (val - by_) 0) Hin.out rfl rfl rfl ?k2)
          case k2 =>
          intro w7 o11 k11
          go_wp2
          go_roundw
          case rel =>
            refine ⟨_, _, _, rfl, ?_, o11, (kR.trans k10).trans k11⟩
            rw [Hr.out]; exact upd_put hur Hmt.out
          case measure =>
            rw [o11.rleft, oR.rleft, kleft_mput (List.mem_map.2 ⟨_, hx, rfl⟩)]
            exact kleft_lt hx hS
    · obtain ⟨key, t⟩ := x
      dsimp only at hS hr o10
      have hmv : mget m' key = some t := mget_mem hum' hx
      have hmt : mget m key = some t := by
        rw [Hm.out, mget_upd] at hmv
        simp only [hS, Bool.false_eq_true, if_false, Option.map_eq_some_iff, exists_eq_right] at hmv
        exact hmv
      have hvr := Hmr.out _ (mem_of_mget hmt)
      dsimp only at hvr
      have hen := run_entry_rng (P := Tryz.prog) hum' o10 hmv
      obtain ⟨x, y, z⟩ := t
      unfold tagV at hen
      dsimp only at hen hvr
      obtain ⟨hv1, hv2, rfl⟩ := hvr
      have g6 := (o10.up 1).cell 1
      have gb := (o10.up 1).celLt
      have oA := o10.alloc (.cells #[.int .i64 x, .int .i64 y, .int .i64 (z - by_)] 94)
      have hin : (mget m' x).isSome = true := by rw [hmv]; rfl
      have Hmv := Lib.hid hmv
      have Hin := Lib.hid hin
      have Hmt := Lib.hid hmt
      clear hmv hin hmt
      go_wp2
      refine wp_region_tail 6 (by kernel_rfl) (by kernel_rfl) ?_
      simp only [List.take_succ_cons, List.take_zero, List.drop_succ_cons, List.drop_zero]
      repeat still_step
      refine wpStill_nil ?_
      go_wp2_with (at_mapUpdate; refine wpList_mapUpdate_rng (f := tagV) rfl _ _ _ rfl Tryz.underlying106 Tryz.underlying3 hum' ((oA.up 1).drew) x (lowT by_ ⟨x, y, z⟩) Hin.out rfl rfl rfl ?k3)
      case k3 =>
      intro w7 o11 k11
      go_wp2
      go_roundw
      case rel =>
        refine ⟨_, _, _, rfl, ?_, o11.re [0, 2, 3, 1] |>.re [3, 0, 1, 2] 1, (kR.trans k10).trans ⟨k11.os, k11.tape, k11.output⟩⟩
        rw [Hm.out]; exact upd_put hum Hmt.out
      case measure =>
        rw [o11.rleft, oR.rleft, kleft_mput (List.mem_map.2 ⟨_, hx, rfl⟩)]
        exact kleft_lt hx hS
end
end Go.Proofs.YtjpahfkchhnpoaaGreat

/- The error-free reference of the program: Charge. -/
namespace Go.Proofs.YtjpahfkchhnpoaaGreat
open Go.RowKit
open SP

section
variable {W w w' : World} {b : Nat} {reb : Int} {S : St} {R : List SP}

/-- The reference with its maps named. -/
def SfqK (b : Nat) (reb : Int) (ab rb : Nat) (S : St) (m : List (Int × Tg)) (rem : List (Int × Int)) : SP :=
  st [cel b 109 [.int .i64 reb, .map (some ab), .map (some rb), .int .i64 S.tm, .int .i64 S.aw], mpI tagV ab m, mpI (Value.int .i64) rb rem]
theorem SfqK.iff {ab rb : Nat} {m : List (Int × Tg)} {rem : List (Int × Int)} : Own w (SfqK b reb ab rb S m rem :: R) ↔
    Own w (cel b 109 [.int .i64 reb, .map (some ab), .map (some rb), .int .i64 S.tm, .int .i64 S.aw] :: mpI tagV ab m :: mpI (Value.int .i64) rb rem :: R) := Own.st

theorem chargeR_err {f len : Int} {t : Tg} (h : fget S.L f = some t) (he : (finF t.s len t.w).2 ≠ 0) : chargeR reb S f len = ((finF t.s len t.w).2, S) := by
  unfold chargeR; rw [h]; exact if_pos he
theorem chargeR_ok {f len nx : Int} {t : Tg} (h : fget S.L f = some t) (he : finF t.s len t.w = (nx, 0)) : chargeR reb S f len = (0, rebS reb (chS S t nx)) := by
  unfold chargeR; rw [h]; simp only [he]; exact if_neg (by simp)

set_option maxHeartbeats 6400000 in
set_option maxRecDepth 100000 in
theorem sfqCharge_spec (f len : Int) (haw : 0 ≤ S.aw ∧ S.aw ≤ 1152921504606846976) (o : Own w (SfqR b reb S :: R)) :
    Calls Tryz.prog 94 #[.pointer (some ⟨b, 0, none⟩), .int .i64 f, .int .i64 len] w (Ret (.int .i64 (chargeR reb S f len).1) (SfqR b reb (chargeR reb S f len).2 :: R) w) := by
  obtain ⟨ab, rb, m, rem, hm, hold, hur, hok, o1⟩ := SfqR.iff.1 o
  have c1 := o1.cell 1
  have Hold := Lib.hid hold
  clear hold
  cases hf : fget S.L f with
  | none =>
    have e : chargeR reb S f len = (6, S) := by unfold chargeR; rw [hf]
    rw [e]; clear e
    have hlk := lookT_none (o1.up 1) hm hf
    clear hf
    go_enter Tryz.func94, Tryz.ntmps94
    go_wp2
    go_ret
    exact ⟨rfl, o.more _, ⟨rfl, rfl, rfl⟩⟩
  | some t =>
    have hlk := lookT_some (o1.up 1) hm hf
    have hbl := o1.celLt
    obtain ⟨htm, htf⟩ := fget_some hf
    obtain ⟨x, y, z⟩ := t
    dsimp only at htf
    subst htf
    have htr := hok.ok.rng _ htm
    dsimp only at htr hlk
    cases hfin : finF z len y with
    | mk nx er =>
    have hfs := finish_spec z len y
    rw [hfin] at hfs
    unfold pairV at hfs
    dsimp only at hfs
    by_cases her : er = 0
    · subst her
      rw [chargeR_ok hf hfin]
      have hok2 := finF_ok (show (finF z len y).2 = 0 by rw [hfin])
      rw [hfin] at hok2
      have hnx : 0 ≤ nx ∧ nx ≤ 1099511627776 := by
        obtain ⟨h1, h2, h3, h4⟩ := hok2
        dsimp only at h1
        have := cst_range (len := len) (wt := y) (by unfold badLW at h2; omega) (by unfold badLW at h2; omega) (by unfold badLW at h2; omega) (by unfold badLW at h2; omega)
        omega
      have hokC := hok.ch htm hnx
      have hrep : Rep (mput m x ⟨x, y, nx⟩) (setT ⟨x, y, nx⟩ S.L) := by
        have := hm.set (x := ⟨x, y, nx⟩) (by rw [hf]; simp) ⟨htr.1, htr.2.1, htr.2.2.1, htr.2.2.2.1, hnx.1, hnx.2⟩
        exact this
      have hne : S.L ≠ [] := List.ne_nil_of_mem htm
      have c3 := o1.cell 3
      obtain ⟨tm1, htm1⟩ : ∃ x, max S.tm z = x := ⟨_, rfl⟩
      have hST : chS S ⟨x, y, z⟩ nx = ⟨setT ⟨x, y, nx⟩ S.L, S.old, tm1, S.aw⟩ := by unfold chS; rw [htm1]
      have oM := (o1.setCell 3 (.int .i64 tm1)).alloc (.cells #[.int .i64 x, .int .i64 y, .int .i64 nx] 94)
      have hne1 : setT (⟨x, y, nx⟩ : Tg) S.L ≠ [] := setT_ne hne
      rw [hST] at hokC ⊢
      have gf := o1.frozen
      clear hfin hok2 hf hne hST
      go_enter Tryz.func94, Tryz.ntmps94
      go_wp2_with (go_at_call 117; refine (hfs _).mono ?_; rintro e2 w2 ⟨rfl, rfl⟩)
      refine wp_region_tail 8 (by kernel_rfl) (by kernel_rfl) ?_
      simp only [List.take_succ_cons, List.take_zero, List.drop_succ_cons, List.drop_zero]
      repeat still_step
      refine wpStill_nil ?_
      go_wp2
      refine wp_region_tail 6 (by kernel_rfl) (by kernel_rfl) ?_
      simp only [List.take_succ_cons, List.take_zero, List.drop_succ_cons, List.drop_zero]
      repeat still_step
      refine wpStill_nil ?_
      go_wp2_with (at_mapUpdate; refine wpList_mapUpdate_mpI (f := tagV) rfl _ _ _ rfl Tryz.underlying106 Tryz.underlying3 (((oM.up 2).drew).drew) x ⟨x, y, nx⟩ rfl rfl rfl ?c1)
      case c1 =>
      intro w3 o3 k3
      have oS : Own w3 (SfqR b reb ⟨setT ⟨x, y, nx⟩ S.L, S.old, tm1, S.aw⟩ :: R) := SfqR.iff.2 ⟨ab, rb, _, rem, hrep, Hold.out, hur, hokC, o3.re [1, 2, 0, 3] 1⟩
      have K3 : Calm w w3 := ⟨k3.os, k3.tape, k3.output⟩
      clear o3 k3 oM hrep gf c3 hbl hlk c1 o1
      have hbS : byS ⟨setT ⟨x, y, nx⟩ S.L, S.old, tm1, S.aw⟩ = min tm1 (lst (setT ⟨x, y, nx⟩ S.L)).s := rfl
      have hrb := byS_rng hokC hne1
      have HR : Hid (rebS reb ⟨setT ⟨x, y, nx⟩ S.L, S.old, tm1, S.aw⟩ = if byS ⟨setT ⟨x, y, nx⟩ S.L, S.old, tm1, S.aw⟩ < reb then ⟨setT ⟨x, y, nx⟩ S.L, S.old, tm1, S.aw⟩ else subS ⟨setT ⟨x, y, nx⟩ S.L, S.old, tm1, S.aw⟩ (byS ⟨setT ⟨x, y, nx⟩ S.L, S.old, tm1, S.aw⟩)) := Lib.hid rfl
      obtain ⟨S1, hS1⟩ : ∃ S1 : St, S1 = ⟨setT ⟨x, y, nx⟩ S.L, S.old, tm1, S.aw⟩ := ⟨_, rfl⟩
      have e1 : setT ⟨x, y, nx⟩ S.L = S1.L := by rw [hS1]
      have e2 : tm1 = S1.tm := by rw [hS1]
      have e3 : S.aw = S1.aw := by rw [hS1]
      rw [← hS1] at oS HR hrb hbS hokC
      rw [e1, e2] at hbS
      rw [e1] at hne1
      rw [e3] at haw
      have HE1 := Lib.hid hS1
      clear hS1 e1 e2 e3 htm1
      obtain ⟨by_, hby⟩ : ∃ y, byS S1 = y := ⟨_, rfl⟩
      rw [hby] at hbS HR hrb
      clear hby hur htr
      go_wp2_with fail
      refine (sfqTags_spec oS).mono ?_
      rintro e4 w4 ⟨a, c, rfl, o4, k4⟩
      obtain ⟨ab2, rb2, m2, rem2, hm2, hold2, hur2, _, o5⟩ := SfqR.iff.1 (o4.up 1)
      have o6 : Own w4 (slc 94 3 a S1.L.length c (flat tagC S1.L) :: SfqK b reb ab2 rb2 S1 m2 rem2 :: R) := Own.swap (SfqK.iff.2 o5)
      have hS := tagsAt_slc a S1.L.length c S1.L rfl
      have hlt := leastN_lt hne1
      have hgt : S1.L[leastN S1.L]? = some (lst S1.L) := by unfold lst; rw [List.getD_eq_getElem?_getD, List.getElem?_eq_getElem hlt]; rfl
      have hl32 := hokC.ok.len
      have hlc := tagsLeast_spec (c := c) hS hokC.ok rfl o6.drew
      rw [if_neg hne1] at hlc
      have Hold2 := Lib.hid hold2
      have hkeep := o5.cell 3
      clear o5 o4
      have hat : ∀ (w : World) (R : List SP), Own w (slc 94 3 a S1.L.length c (flat tagC S1.L) :: R) → ∃ g so, a = some ⟨g, so, none⟩ ∧ w.cell? ⟨g, so + leastN S1.L * 3 + 2, none⟩ = some (.int .i64 (lst S1.L).s) := fun w R o => by
        obtain ⟨g, so, h1, _, _, h2⟩ := hS w R o _ _ hgt
        exact ⟨g, so, h1, h2⟩
      obtain ⟨g, so, hga, _⟩ := hat _ _ o6
      subst hga
      have hat2 : ∀ (w : World) (R : List SP), Own w (slc 94 3 (some ⟨g, so, none⟩) S1.L.length c (flat tagC S1.L) :: R) → w.cell? ⟨g, so + leastN S1.L * 3 + 2, none⟩ = some (.int .i64 (lst S1.L).s) := fun w R o => by
        obtain ⟨g', so', h1, h2⟩ := hat w R o
        cases h1
        exact h2
      have Hat := Lib.hid hat2
      have HBS := Lib.hid hbS
      clear hgt hS hold2 hat hat2 hbS
      generalize leastN S1.L = k at *
      generalize (lst S1.L).s = ls at *
      have htmr := hokC.tm
      have hmn : min S1.tm ls = by_ := HBS.out.symm
      have hkeep2 := Hat.out _ _ o6
      go_wp2
      go_region_held3 (fun w' => w'.cell? ⟨b, 3, none⟩ = some (.int .i64 S1.tm) ∧ w'.cell? ⟨g, so + k * 3 + 2, none⟩ = some (.int .i64 ls)) (go_keep) (first
        | (go_at_call 115; (with_reducible refine hlc.mono ?_); rintro e5 w5 ⟨rfl, o7, k7⟩; have q0 := (SfqK.iff.1 (o7.up 1)).cell 0; have q3 := (SfqK.iff.1 (o7.up 1)).cell 3; have ql := Hat.out _ _ o7))
      have o8 : Own w5 (SfqR b reb S1 :: slc 94 3 (some ⟨g, so, none⟩) S1.L.length c (flat tagC S1.L) :: R) := SfqR.iff.2 ⟨ab2, rb2, m2, rem2, hm2, Hold2.out, hur2, hokC, SfqK.iff.1 o7.swap⟩
      have K7 : Calm w w5 := K3.trans (k4.trans ⟨k7.os, k7.tape, k7.output⟩)
      clear ql q3 hkeep hkeep2 hmn hlc
      by_cases hcmp : by_ < reb
      · go_wp2
        go_ret
        have e1 : rebS reb ⟨setT ⟨x, y, nx⟩ S.L, S.old, tm1, S.aw⟩ = S1 := by rw [← HE1.out, HR.out, if_pos hcmp]
        rw [e1]
        exact ⟨rfl, o8.swap.drop, K7⟩
      · have hsub := sfqSub_spec by_ hrb.1 hrb.2.1 hrb.2.2 haw o8
        clear hrb
        go_wp2_with fail
        refine hsub.mono ?_
        rintro e6 w6 ⟨rfl, o9, k9⟩
        go_wp2
        go_ret
        have e1 : rebS reb ⟨setT ⟨x, y, nx⟩ S.L, S.old, tm1, S.aw⟩ = subS S1 by_ := by rw [← HE1.out, HR.out, if_neg (by omega)]
        rw [e1]
        exact ⟨rfl, o9.swap.drop, K7.trans k9⟩
    · rw [chargeR_err (f := x) hf (by rw [hfin]; exact her)]
      rw [hfin]
      have her' : (er != 0) = true := by simpa using her
      clear hfin hf
      go_enter Tryz.func94, Tryz.ntmps94
      go_wp2_with (go_at_call 117; refine (hfs _).mono ?_; rintro e2 w2 ⟨rfl, rfl⟩)
      go_ret
      exact ⟨rfl, o.more _, ⟨rfl, rfl, rfl⟩⟩
theorem sfqCharge_as {f len er : Int} {S' : St} (h : chargeR reb S f len = (er, S')) (haw : 0 ≤ S.aw ∧ S.aw ≤ 1152921504606846976) (o : Own w (SfqR b reb S :: R)) :
    Calls Tryz.prog 94 #[.pointer (some ⟨b, 0, none⟩), .int .i64 f, .int .i64 len] w (Ret (.int .i64 er) (SfqR b reb S' :: R) w) := by
  have := sfqCharge_spec f len haw o
  rw [h] at this
  exact this
end
end Go.Proofs.YtjpahfkchhnpoaaGreat

/- The generator of choices: each call of Next gives some number in its range, and changes its own block alone. -/
namespace Go.Proofs.YtjpahfkchhnpoaaGreat
open Go.RowKit
open SP

/-- A slice of integers that came in: nil, or a row of 'cap' cells of which the first 'len' are its elements. -/
def IsRow (k : IntKind) (w : World) (a : Option Addr) (len cap : Nat) (zs : List Int) : Prop :=
  (a = none ∧ len = 0 ∧ cap = 0 ∧ zs = []) ∨
  ∃ x, a = some x ∧ len ≤ cap ∧ cap ≤ maxLen ∧ zs.length = cap ∧ (∀ i, i < zs.length → w.cell? (x.add i) = some (.int k (zs.getD i 0))) ∧ ∀ n ∈ zs, (Lit.int k n).wf = true

theorem IsRow.at {k : IntKind} {w : World} {a : Option Addr} {len cap : Nat} {zs : List Int} (h : IsRow k w a len cap zs) {i : Nat} (hi : i < len) :
    ∃ sb so x, a = some ⟨sb, so, none⟩ ∧ w.cell? ⟨sb, so + i, none⟩ = some (.int k x) := by
  rcases h with ⟨_, h, _⟩ | ⟨⟨sb, so, sp⟩, rfl, h1, _, h2, hc, _⟩
  · omega
  · cases sp with
    | none =>
      have h3 := hc i (by omega)
      have e : (⟨sb, so, none⟩ : Addr).add i = ⟨sb, so + i, none⟩ := by unfold Addr.add; split <;> simp_all
      rw [e] at h3
      exact ⟨sb, so, _, rfl, h3⟩
    | some s =>
      have h3 := hc 0 (by omega)
      have e : (⟨sb, so, some s⟩ : Addr).add 0 = ⟨sb, so, some s⟩ := rfl
      rw [e] at h3
      unfold World.cell? at h3
      split at h3 <;> simp at h3

/-- The choices behind block b; at most N of them have been taken. -/
def Ch (W : World) (b N : Nat) : SP := ex fun (p : Option Addr × Nat × Nat × List Int × Int) =>
  st [pu (IsRow .i64 W p.1 p.2.1 p.2.2.1 p.2.2.2.1 ∧ 0 ≤ p.2.2.2.2 ∧ p.2.2.2.2 ≤ N), cel b 59 [.slice p.1 p.2.1 p.2.2.1, .int .i64 p.2.2.2.2]]

theorem Ch.open {W w : World} {b N : Nat} {R : List SP} (o : Own w (Ch W b N :: R)) :
    ∃ a len cap zs at_, IsRow .i64 W a len cap zs ∧ 0 ≤ at_ ∧ at_ ≤ (N : Int) ∧ Own w (cel b 59 [.slice a len cap, .int .i64 at_] :: R) := by
  obtain ⟨⟨a, len, cap, zs, at_⟩, h⟩ := Own.ex.1 o
  obtain ⟨⟨h1, h2, h3⟩, h4⟩ := Own.pu.1 (Own.st.1 h)
  exact ⟨a, len, cap, zs, at_, h1, h2, h3, h4⟩

theorem Ch.shut {W w : World} {b N : Nat} {R : List SP} {a : Option Addr} {len cap : Nat} {zs : List Int} {at_ : Int} (h1 : IsRow .i64 W a len cap zs) (h2 : 0 ≤ at_) (h3 : at_ ≤ (N : Int))
    (o : Own w (cel b 59 [.slice a len cap, .int .i64 at_] :: R)) : Own w (Ch W b N :: R) :=
  Own.ex.2 ⟨⟨a, len, cap, zs, at_⟩, Own.st.2 (Own.pu.2 ⟨⟨h1, h2, h3⟩, o⟩)⟩

def NextPost (W : World) (b N : Nat) (n : Int) (R : List SP) (w : World) (e : Ending) (w' : World) : Prop :=
  ∃ x : Int, 0 ≤ x ∧ x < n ∧ e = .returned (.int .i64 x) ∧ Own w' (Ch W b (N + 1) :: old W :: R) ∧ Calm w w'

theorem tmod_range {x n : Int} (h : 1 ≤ n) : -n < x.tmod n ∧ x.tmod n < n := by
  have h1 := Int.natAbs_tmod x n
  have h2 := Nat.mod_lt x.natAbs (show 0 < n.natAbs by omega)
  omega

set_option maxHeartbeats 800000 in
theorem next_spec (W : World) (b N : Nat) (n : Int) (R : List SP) (w : World) (hn : 1 ≤ n) (hn2 : n ≤ 4611686018427387904) (hN : (N : Int) ≤ 1000000000000)
    (o : Own w (Ch W b N :: old W :: R)) :
    Calls Tryz.prog 6 #[.pointer (some ⟨b, 0, none⟩), .int .i64 n] w (NextPost W b N n R w) := by
  obtain ⟨a, len, cap, zs, at_, hrow, h0, h1, o1⟩ := Ch.open o
  have c0 := o1.cell 0
  have c1 := o1.cell 1
  have hf := o1.frozen
  have hd0 : n ≠ 0 := by omega
  have fin : ∀ (m : Nat) (x : Int), 0 ≤ x → x < n → NextPost W b N n R w (.returned (.int .i64 x)) ((w.drewN m).setCell ⟨b, 1, none⟩ (.int .i64 (at_ + 1))) := by
    intro m x hx1 hx2
    exact ⟨x, hx1, hx2, rfl, Ch.shut hrow (by omega) (by omega) ((o1.drewN m).setCell 1 _), ⟨rfl, rfl, rfl⟩⟩
  have hl : (len : Int) ≤ 9223372036854775807 := by
    rcases hrow with ⟨_, rfl, _⟩ | ⟨_, _, h, h', _⟩
    · omega
    · unfold maxLen at h'; omega
  have hlc : len ≤ cap := by
    rcases hrow with ⟨_, rfl, rfl, _⟩ | ⟨_, _, h, h', _⟩ <;> omega
  by_cases hlt : at_ < (len : Int)
  · obtain ⟨sb, so, x, rfl, hx⟩ := hrow.at (i := at_.toNat) (by omega)
    have hx' := o1.swap.swap.drop
    have hc := o1.drop.old_cell hx
    have hr := tmod_range (x := x) hn
    go_enter Tryz.func6, Tryz.ntmps6
    go_wp2
    go_quiet (fail)
    go_wp2
    go_quiet (fail)
    go_wp2
    all_goals go_ret
    · exact fin _ _ (by omega) (by omega)
    · exact fin _ _ (by omega) (by omega)
  · have hr1 := Int.emod_nonneg (7 * at_ + 3) hd0
    have hr2 := Int.emod_lt_of_pos (7 * at_ + 3) (show 0 < n by omega)
    go_enter Tryz.func6, Tryz.ntmps6
    go_wp2
    go_quiet (fail)
    go_wp2
    go_ret
    exact fin _ _ hr1 hr2

set_option maxHeartbeats 800000 in
theorem genNew_spec {W w : World} {R : List SP} (a : Option Addr) (len cap : Nat) (zs : List Int) (hz : IsRow .i64 W a len cap zs) (o : Own w R) :
    Calls Tryz.prog 4 #[.slice a len cap] w fun e w' => ∃ b, e = .returned (.pointer (some ⟨b, 0, none⟩)) ∧ Own w' (Ch W b 0 :: R) ∧ Calm w w' := by
  go_enter Tryz.func4, Tryz.ntmps4
  go_wp2
  go_ret
  exact ⟨_, rfl, Ch.shut hz (Int.le_refl _) (by simp) (o.alloc (.cells #[.slice a len cap, .int .i64 0] 59)), ⟨rfl, rfl, rfl⟩⟩

end Go.Proofs.YtjpahfkchhnpoaaGreat

/- Lengths that are drawn; Eligible and Serve where they give no error. -/
namespace Go.Proofs.YtjpahfkchhnpoaaGreat
open Go.RowKit
open SP
section
variable {W w w' : World} {R : List SP} {b : Nat}
def lenL : List Int := [100, 1, 60, 1500, 4096, 100, 700]
def LenPost (W : World) (b N : Nat) (R : List SP) (w : World) (e : Ending) (w' : World) : Prop :=
  ∃ x : Int, 1 ≤ x ∧ x ≤ 4096 ∧ e = .returned (.int .i64 x) ∧ Own w' (Ch W b (N + 1) :: old W :: R) ∧ Calm w w'

set_option maxHeartbeats 800000 in
theorem length_spec (N : Nat) (hN : (N : Int) ≤ 900000000000) (o : Own w (Ch W b N :: old W :: R)) :
    Calls Tryz.prog 55 #[.pointer (some ⟨b, 0, none⟩)] w (LenPost W b N R w) := by
  have o1 : Own (w.alloc (.cells (lenL.map (Value.int .i64)).toArray 3)) (cel w.heap.size 3 (lenL.map (Value.int .i64)) :: Ch W b N :: old W :: R) := o.alloc _
  have o2 := (o1.up 2).up 2
  go_enter Tryz.func55, Tryz.ntmps55
  go_wp2_with fail
  refine (next_spec W b N 7 _ _ (by omega) (by omega) (by omega) o2).mono ?_
  rintro e2 w2 ⟨x, hx0, hx1, rfl, o3, k3⟩
  obtain ⟨j, rfl⟩ : ∃ j : Nat, x = (j : Int) := ⟨x.toNat, by omega⟩
  have hj : j < lenL.length := by show j < 7; omega
  have c := Own.cell (v := .int .i64 lenL[j]) (o3.up 2) j (by rw [List.getElem?_map, List.getElem?_eq_getElem hj]; rfl)
  have hr : 1 ≤ lenL[j] ∧ lenL[j] ≤ 4096 := by
    have : ∀ y ∈ lenL, 1 ≤ y ∧ y ≤ 4096 := by decide
    exact this _ (List.getElem_mem hj)
  generalize lenL[j] = y at *
  go_wp2
  go_ret
  exact ⟨y, hr.1, hr.2, rfl, (o3.up 2).drop, ⟨k3.os, k3.tape, k3.output⟩⟩

/-- Eligible, called with a list that stands in the text. -/
theorem eligible_ok {reb tm : Int} {el tg : List (Int × Int)} (a : Option Addr) (n c : Nat) (l : List (Int × Int)) (hn : n = l.length) (hn2 : n ≤ 1000) (hb : eligBad (-1) l = false)
    (o : Own w (slc 145 2 a n c (flat part l) :: OrderR b reb el tg tm :: R)) :
    Calls Tryz.prog 60 #[.pointer (some ⟨b, 0, none⟩), .slice a n c] w
      (Ret (.int .i64 0) (slc 145 2 a n c (flat part l) :: OrderR b reb (eligEl l []) (eligTg el tm l tg) tm :: R) w) :=
  (eligible_spec a n c l hn hn2 o).mono fun e w' h => by unfold EligRes at h; rw [hb] at h; exact h

theorem slc_new {e : TypeId} {size n : Nat} {vs : List Value} (o : Own w (cel b e vs :: R)) (h : vs.length = n * size) (hn : n ≤ 1000) : Own w (slc e size (some ⟨b, 0, none⟩) n n vs :: R) :=
  Own.slc.2 (.inr ⟨b, [], rfl, Nat.le_refl _, by unfold maxLen; omega, h, by simp, by rw [List.append_nil]; exact o⟩)

theorem serve_low {reb tm : Int} {el tg : List (Int × Int)} (f len : Int) (tg1 : List (Int × Int)) (tm1 : Int) (hk : KeyOk el) (hn : el.length ≤ 1000) (hu : Uniq tg) (hv : ∀ x ∈ tg, 0 ≤ x.2 ∧ x.2 ≤ 1099511627776) (ht : 0 ≤ tm ∧ tm ≤ 1099511627776)
    (h0 : servE el tg f len = 0) (h1 : servTg el tg f len = tg1) (h2 : servTm tg tm f = tm1) (h3 : servBy el tg tm f len < reb) (o : Own w (OrderR b reb el tg tm :: R)) :
    Calls Tryz.prog 95 #[.pointer (some ⟨b, 0, none⟩), .int .i64 f, .int .i64 len] w (Ret (.int .i64 0) (OrderR b reb el tg1 tm1 :: R) w) :=
  (serve_spec f len hk hn hu hv ht o).mono fun e w' h => by
    unfold ServPost at h
    rw [if_neg (by rw [h0]; simp), if_pos h3, h1, h2] at h
    exact h

end
end Go.Proofs.YtjpahfkchhnpoaaGreat

/- The state without flows; weights that are drawn. -/
namespace Go.Proofs.YtjpahfkchhnpoaaGreat
open Go.RowKit
open SP
section
variable {W w w' : World} {R : List SP} {b : Nat} {reb : Int} {S : St}
theorem Ch.upto {W w : World} {b N M : Nat} {R : List SP} (o : Own w (Ch W b N :: R)) (h : N ≤ M := by omega) : Own w (Ch W b M :: R) := by
  obtain ⟨a, len, cap, zs, at_, h1, h2, h3, h4⟩ := Ch.open o
  exact Ch.shut h1 h2 (by omega) h4

def wtL : List Int := [1, 2, 1, 3, 4, 16, 7, 1, 5]
def WtPost (W : World) (b N : Nat) (R : List SP) (w : World) (e : Ending) (w' : World) : Prop :=
  ∃ x : Int, 1 ≤ x ∧ x ≤ 16 ∧ e = .returned (.int .i64 x) ∧ Own w' (Ch W b (N + 1) :: old W :: R) ∧ Calm w w'

set_option maxHeartbeats 800000 in
theorem weight_spec (N : Nat) (hN : (N : Int) ≤ 900000000000) (o : Own w (Ch W b N :: old W :: R)) :
    Calls Tryz.prog 23 #[.pointer (some ⟨b, 0, none⟩)] w (WtPost W b N R w) := by
  have o1 : Own (w.alloc (.cells (wtL.map (Value.int .i64)).toArray 3)) (cel w.heap.size 3 (wtL.map (Value.int .i64)) :: Ch W b N :: old W :: R) := o.alloc _
  have o2 := (o1.up 2).up 2
  go_enter Tryz.func23, Tryz.ntmps23
  go_wp2_with fail
  refine (next_spec W b N 9 _ _ (by omega) (by omega) (by omega) o2).mono ?_
  rintro e2 w2 ⟨x, hx0, hx1, rfl, o3, k3⟩
  obtain ⟨j, rfl⟩ : ∃ j : Nat, x = (j : Int) := ⟨x.toNat, by omega⟩
  have hj : j < wtL.length := by show j < 9; omega
  have c := Own.cell (v := .int .i64 wtL[j]) (o3.up 2) j (by rw [List.getElem?_map, List.getElem?_eq_getElem hj]; rfl)
  have hr : 1 ≤ wtL[j] ∧ wtL[j] ≤ 16 := by
    have : ∀ y ∈ wtL, 1 ≤ y ∧ y ≤ 16 := by decide
    exact this _ (List.getElem_mem hj)
  generalize wtL[j] = y at *
  go_wp2
  go_ret
  exact ⟨y, hr.1, hr.2, rfl, (o3.up 2).drop, ⟨k3.os, k3.tape, k3.output⟩⟩

def St0 : St := ⟨[], fun _ => 0, 0, 0⟩
end
end Go.Proofs.YtjpahfkchhnpoaaGreat

/- What the walks of chapter 13 share: the sum of what was subtracted. -/
namespace Go.Proofs.YtjpahfkchhnpoaaGreat
open Go.RowKit
open SP
section
variable {W w w' : World} {R : List SP} {b : Nat} {reb : Int} {S : St}

theorem joinR_aw (S : St) (f w : Int) : (joinR S f w).2.aw = S.aw := by unfold joinR; split <;> rfl
theorem leaveR_aw (S : St) (f : Int) : (leaveR S f).2.aw = S.aw := by
  unfold leaveR leaveS; split
  · rfl
  · dsimp only; split <;> rfl
theorem chargeR_aw (r : Int) {S : St} (hok : StOk S) (f len : Int) : S.aw ≤ (chargeR r S f len).2.aw ∧ (chargeR r S f len).2.aw ≤ S.aw + 1099511627776 := by
  unfold chargeR
  split
  · simp only; omega
  · rename_i t ht
    split
    · simp only; omega
    · rename_i he
      have h1 := finF_ok (show (finF t.s len t.w).2 = 0 by omega)
      obtain ⟨hm, _⟩ := fget_some ht
      have hne : S.L ≠ [] := List.ne_nil_of_mem hm
      have hcr : 0 ≤ cst len t.w := by
        obtain ⟨_, h2, _, _⟩ := h1
        unfold badLW at h2
        have := cst_range (len := len) (wt := t.w) (by omega) (by omega) (by omega) (by omega)
        omega
      have h3 := hok.ch hm (nx := (finF t.s len t.w).1) (by omega)
      simp only
      unfold rebS
      split
      · show S.aw ≤ S.aw ∧ S.aw ≤ _; omega
      · have h4 := byS_rng h3 (setT_ne hne)
        have h5 := h3.tm
        show S.aw ≤ S.aw + _ ∧ S.aw + _ ≤ _
        omega

end
end Go.Proofs.YtjpahfkchhnpoaaGreat

/- Heads of flows: where a flow stands among them, and whether they fit. -/
namespace Go.Proofs.YtjpahfkchhnpoaaGreat
open Go.RowKit
open SP
section
variable {W w w' : World} {R : List SP}

def headC (h : Head) : List Value := [.int .i64 h.f, .int .i64 h.len, .bool h.good]
def headV (h : Head) : Value := .agg #[.int .i64 h.f, .int .i64 h.len, .bool h.good]
theorem headC_len (h : Head) : (headC h).length = 3 := rfl
/-- The heads that a slice at a holds, read behind Sp. -/
def HeadsAt (Sp : SP) (a : Option Addr) (H : List Head) : Prop := ∀ (w : World) (R : List SP), Own w (Sp :: R) → ∀ (i : Nat) (h : Head), H[i]? = some h →
  ∃ g, a = some ⟨g, 0, none⟩ ∧ w.cell? ⟨g, i * 3, none⟩ = some (.int .i64 h.f) ∧ w.cell? ⟨g, i * 3 + 1, none⟩ = some (.int .i64 h.len) ∧ w.cell? ⟨g, i * 3 + 2, none⟩ = some (.bool h.good)
theorem headsAt_slc {T : TypeId} (a : Option Addr) (n c : Nat) (H : List Head) (hn : n = H.length) : HeadsAt (slc T 3 a n c (flat headC H)) a H := by
  intro w R o i t ht
  have := (List.getElem?_eq_some_iff.1 ht).1
  obtain ⟨g, h, hc, hf, hg⟩ := o.slc_cell (by omega)
  refine ⟨g, h, ?_, ?_, ?_⟩
  · exact hc (i * 3 + 0) _ (flat_get headC_len H i 0 t ht (by omega))
  · exact hc (i * 3 + 1) _ (flat_get headC_len H i 1 t ht (by omega))
  · exact hc (i * 3 + 2) _ (flat_get headC_len H i 2 t ht (by omega))

/-- The place of a flow's head, or -1. -/
def idxH (f : Int) : Nat → List Head → Int
  | _, [] => -1
  | i, h :: l => if h.f = f then (i : Int) else idxH f (i + 1) l
theorem idxH_step {f : Int} {H : List Head} {i : Nat} {h : Head} (e : H[i]? = some h) : idxH f i (H.drop i) = if h.f = f then (i : Int) else idxH f (i + 1) (H.drop (i + 1)) := by
  obtain ⟨h1, h2⟩ := List.getElem?_eq_some_iff.1 e
  rw [List.drop_eq_getElem_cons h1, h2]; rfl

set_option maxHeartbeats 800000 in
set_option maxRecDepth 100000 in
theorem index1_spec (h : Head) {f : Int} {p : Nat} (o : Own w (cel p 3 [.int .i64 f] :: R)) :
    Calls Tryz.prog 93 #[headV h, .pointer (some ⟨p, 0, none⟩)] w (Ret (.bool (h.f == f)) (cel p 3 [.int .i64 f] :: R) w) := by
  unfold headV
  have c := o.cell 0
  have hl := o.celLt
  go_enter Tryz.func93, Tryz.ntmps93
  go_wp2
  go_ret
  exact ⟨rfl, (o.alloc _).drop, ⟨rfl, rfl, rfl⟩⟩

def CqIxRel (Sp : SP) (p : Nat) (f : Int) (H : List Head) (R : List SP) (w : World) (v : Value) (wr : World) : Prop :=
  ∃ i : Nat, v = .int .i64 (i : Int) ∧ i ≤ H.length ∧ idxH f 0 H = idxH f i (H.drop i) ∧ Own wr (cel p 3 [.int .i64 f] :: Sp :: R) ∧ Calm w wr
set_option maxHeartbeats 3200000 in
set_option maxRecDepth 100000 in
theorem indexFunc_spec {Sp : SP} {a : Option Addr} {n c p : Nat} {f : Int} {H : List Head} (h1 : HeadsAt Sp a H) (hn : n = H.length) (hl : n ≤ 1000) (o : Own w (cel p 3 [.int .i64 f] :: Sp :: R)) :
    Calls Tryz.prog 92 #[.slice a n c, .func (.func 93) #[] #[.pointer (some ⟨p, 0, none⟩)]] w (Ret (.int .i64 (idxH f 0 H)) (cel p 3 [.int .i64 f] :: Sp :: R) w) := by
  obtain ⟨X, hX⟩ : ∃ X, idxH f 0 H = X := ⟨_, rfl⟩
  have hT : CqIxRel Sp p f H R w (.int .i64 0) w := ⟨0, rfl, by omega, rfl, o, Calm.refl w⟩
  have Hn := Lib.hid hn
  have HX := Lib.hid hX
  rw [hX]
  clear hn hX
  go_enter Tryz.func92, Tryz.ntmps92
  go_wp2
  go_loopw [8] (fun v wr => CqIxRel Sp p f H R w v wr) (fun v _ => n - (Lib.intOf v).toNat)
  case atStart => exact hT
  case round =>
    clear hT
    obtain ⟨i, rfl, hi, hid, oR, kR⟩ := hrel
    have HI := Lib.hid hid
    clear hid
    by_cases hlt : i < n
    · obtain ⟨h, hh⟩ : ∃ h, H[i]? = some h := ⟨_, List.getElem?_eq_getElem (by have := Hn.out; omega)⟩
      obtain ⟨g, rfl, d0, d1, d2⟩ := h1 _ _ (oR.up 1) i _ hh
      have HST := Lib.hid (idxH_step (f := f) hh)
      clear hh
      have hc := index1_spec h oR
      by_cases he : h.f = f
      · have hb : (h.f == f) = true := by simpa using he
        rw [hb] at hc
        have hv : X = (i : Int) := by rw [← HX.out, HI.out, HST.out, if_pos he]
        have HV := Lib.hid hv
        clear he hv
        go_wp2_with fail
        refine hc.mono ?_
        rintro e1 w1 ⟨rfl, o1, k1⟩
        clear hc
        go_wp2
        go_ret
        exact ⟨by rw [HV.out]; rfl, o1, Calm.trans kR k1⟩
      · have hb : (h.f == f) = false := by simpa using he
        rw [hb] at hc
        have hv : idxH f 0 H = idxH f (i + 1) (H.drop (i + 1)) := by rw [HI.out, HST.out, if_neg he]
        have HV := Lib.hid hv
        clear he hv
        go_wp2_with fail
        refine hc.mono ?_
        rintro e1 w1 ⟨rfl, o1, k1⟩
        clear hc
        go_wp2
        go_roundw
        case rel => exact ⟨i + 1, by go_num, by have := Hn.out; omega, HV.out, o1, Calm.trans kR k1⟩
        case measure => simp [Lib.intOf]; omega
    · have hn := Hn.out
      have hv : X = -1 := by
        rw [← HX.out, HI.out, List.drop_eq_nil_of_le (by omega)]; rfl
      have HV := Lib.hid hv
      clear hv hn
      go_wp2
      go_ret
      exact ⟨by rw [HV.out]; rfl, oR, kR⟩

set_option maxHeartbeats 1600000 in
set_option maxRecDepth 100000 in
theorem cqIndex_spec {Sp : SP} {a : Option Addr} {n c : Nat} {f : Int} {H : List Head} (h1 : HeadsAt Sp a H) (hn : n = H.length) (hl : n ≤ 1000) (o : Own w (Sp :: R)) :
    Calls Tryz.prog 62 #[.slice a n c, .int .i64 f] w (Ret (.int .i64 (idxH f 0 H)) (Sp :: R) w) := by
  have oA : Own (w.alloc (.cells #[.int .i64 f] 3)) (cel w.heap.size 3 [.int .i64 f] :: Sp :: R) := o.alloc _
  have hi := indexFunc_spec (c := c) h1 hn hl oA
  generalize idxH f 0 H = X at *
  have HI := Lib.hid hi
  clear h1 hn hl hi o
  go_enter Tryz.func62, Tryz.ntmps62
  go_wp2_with fail
  refine HI.out.mono ?_
  rintro e1 w1 ⟨rfl, o1, k1⟩
  go_wp2
  go_ret
  exact ⟨rfl, o1.drop, ⟨k1.os, k1.tape, k1.output⟩⟩
end
end Go.Proofs.YtjpahfkchhnpoaaGreat

/- Whether heads fit the flows. -/
namespace Go.Proofs.YtjpahfkchhnpoaaGreat
open Go.RowKit
open SP
section
variable {W w w' : World} {R : List SP}

def fit1 (h : Head) (t : Tg) : Bool := h.f == t.f && (decide (1 ≤ h.len) && decide (h.len ≤ 4096))
def fitsL : List Head → List Tg → Bool
  | [], [] => true
  | h :: H, t :: L => fit1 h t && fitsL H L
  | _, _ => false
theorem fitsL_len : ∀ {H : List Head} {L : List Tg}, H.length ≠ L.length → fitsL H L = false
  | [], [], h => absurd rfl h
  | [], _ :: _, _ => rfl
  | _ :: _, [], _ => rfl
  | h :: H, t :: L, hl => by
    have := fitsL_len (H := H) (L := L) (by simpa using hl)
    simp [fitsL, this]
theorem fitsL_eq : ∀ (H : List Head) (L : List Tg), fitsL H L = fitsH L H
  | [], [] => by simp [fitsL, fitsH]
  | [], _ :: _ => by simp [fitsL, fitsH]
  | _ :: _, [] => by simp [fitsL, fitsH]
  | h :: H, t :: L => by
    have := fitsL_eq H L
    simp only [fitsL, this, fitsH, fit1, List.map_cons, List.all_cons, List.cons.injEq]
    by_cases h1 : h.f = t.f <;> by_cases h2 : H.map (·.f) = L.map (·.f) <;> by_cases h3 : 1 ≤ h.len <;> by_cases h4 : h.len ≤ 4096 <;> simp [h1, h2, h3, h4]
theorem fitsL_step {H : List Head} {L : List Tg} {i : Nat} {h : Head} {t : Tg} (e1 : H[i]? = some h) (e2 : L[i]? = some t) : fitsL (H.drop i) (L.drop i) = (fit1 h t && fitsL (H.drop (i + 1)) (L.drop (i + 1))) := by
  obtain ⟨h1, h2⟩ := List.getElem?_eq_some_iff.1 e1
  obtain ⟨g1, g2⟩ := List.getElem?_eq_some_iff.1 e2
  rw [List.drop_eq_getElem_cons h1, h2, List.drop_eq_getElem_cons g1, g2]; rfl

set_option maxHeartbeats 800000 in
set_option maxRecDepth 100000 in
theorem fits1_spec (h : Head) (t : Tg) (o : Own w R) :
    Calls Tryz.prog 86 #[headV h, tagV t] w (Ret (.bool (fit1 h t)) R w) := by
  unfold headV tagV
  by_cases h1 : h.f = t.f
  · by_cases h2 : 1 ≤ h.len
    · by_cases h3 : h.len ≤ 4096
      · have e : fit1 h t = true := by simp [fit1, h1, h2, h3]
        rw [e]; clear e
        go_enter Tryz.func86, Tryz.ntmps86
        go_wp2
        go_ret
        exact ⟨rfl, ((o.alloc _).drop.alloc _).drop, ⟨rfl, rfl, rfl⟩⟩
      · have e : fit1 h t = false := by simp [fit1, h3]
        rw [e]; clear e
        go_enter Tryz.func86, Tryz.ntmps86
        go_wp2
        go_ret
        exact ⟨rfl, ((o.alloc _).drop.alloc _).drop, ⟨rfl, rfl, rfl⟩⟩
    · have e : fit1 h t = false := by simp [fit1, h2]
      rw [e]; clear e
      go_enter Tryz.func86, Tryz.ntmps86
      go_wp2
      go_ret
      exact ⟨rfl, ((o.alloc _).drop.alloc _).drop, ⟨rfl, rfl, rfl⟩⟩
  · have e : fit1 h t = false := by simp [fit1, h1]
    have hb : (h.f == t.f) = false := by simpa using h1
    rw [e]; clear e
    go_enter Tryz.func86, Tryz.ntmps86
    go_wp2
    go_ret
    exact ⟨rfl, ((o.alloc _).drop.alloc _).drop, ⟨rfl, rfl, rfl⟩⟩

def FitRel (S1 S2 : SP) (H : List Head) (L : List Tg) (R : List SP) (w : World) (v : Value) (wr : World) : Prop :=
  ∃ i : Nat, v = .int .i64 (i : Int) ∧ i ≤ H.length ∧ fitsL H L = fitsL (H.drop i) (L.drop i) ∧ Own wr (S1 :: S2 :: R) ∧ Calm w wr
set_option maxHeartbeats 3200000 in
set_option maxRecDepth 100000 in
theorem equalFunc_spec {S1 S2 : SP} {a a' : Option Addr} {n c n' c' : Nat} {H : List Head} {L : List Tg} (h1 : HeadsAt S1 a H) (h2 : TagsAt S2 a' L) (hn : n = H.length) (hn' : n' = L.length) (hl : n ≤ 1000) (o : Own w (S1 :: S2 :: R)) :
    Calls Tryz.prog 85 #[.slice a n c, .slice a' n' c', .func (.func 86) #[] #[]] w (Ret (.bool (fitsL H L)) (S1 :: S2 :: R) w) := by
  obtain ⟨X, hX⟩ : ∃ X, fitsL H L = X := ⟨_, rfl⟩
  rw [hX]
  by_cases hne : n = n'
  · subst hne
    have hT : FitRel S1 S2 H L R w (.int .i64 0) w := ⟨0, rfl, by omega, rfl, o, Calm.refl w⟩
    have Hn := Lib.hid hn
    have Hn' := Lib.hid hn'
    have HX := Lib.hid hX
    clear hn hX hn'
    go_enter Tryz.func85, Tryz.ntmps85
    go_wp2
    go_loopw [17] (fun v wr => FitRel S1 S2 H L R w v wr) (fun v _ => n - (Lib.intOf v).toNat)
    case atStart => exact hT
    case round =>
      clear hT
      obtain ⟨i, rfl, hi, hid, oR, kR⟩ := hrel
      have HI := Lib.hid hid
      clear hid
      by_cases hlt : i < n
      · obtain ⟨h, hh⟩ : ∃ h, H[i]? = some h := ⟨_, List.getElem?_eq_getElem (by have := Hn.out; omega)⟩
        obtain ⟨t, ht⟩ : ∃ t, L[i]? = some t := ⟨_, List.getElem?_eq_getElem (by have := Hn'.out; omega)⟩
        obtain ⟨g, rfl, d0, d1, d2⟩ := h1 _ _ oR i _ hh
        obtain ⟨g', so, rfl, e0, e1, e2⟩ := h2 _ _ (oR.up 1) i _ ht
        have HST := Lib.hid (fitsL_step hh ht)
        have oA := (oR.alloc (.cells #[.int .i64 h.f, .int .i64 h.len, .bool h.good] 87)).drop
        obtain ⟨g2, so2, hq, f0, f1, f2⟩ := h2 _ _ (oA.up 1) i _ ht
        cases hq
        have oB := ((oR.alloc (.cells #[.int .i64 h.f, .int .i64 h.len, .bool h.good] 87)).drop.alloc (.cells #[.int .i64 t.f, .int .i64 t.w, .int .i64 t.s] 94)).drop
        have hc := fits1_spec h t oB
        clear hh ht
        by_cases he : fit1 h t = true
        · rw [he] at hc
          have hv : fitsL H L = fitsL (H.drop (i + 1)) (L.drop (i + 1)) := by rw [HI.out, HST.out, he]; rfl
          have HV := Lib.hid hv
          clear he hv
          go_wp2_with fail
          refine hc.mono ?_
          rintro e1 w1 ⟨rfl, o1, k1⟩
          clear hc
          go_wp2
          go_roundw
          case rel => exact ⟨i + 1, by go_num, by have := Hn.out; omega, HV.out, o1, Calm.trans kR ⟨k1.os, k1.tape, k1.output⟩⟩
          case measure => simp [Lib.intOf]; omega
        · rw [Bool.not_eq_true] at he
          rw [he] at hc
          have hv : X = false := by rw [← HX.out, HI.out, HST.out, he]; rfl
          have HV := Lib.hid hv
          clear he hv
          go_wp2_with fail
          refine hc.mono ?_
          rintro e1 w1 ⟨rfl, o1, k1⟩
          clear hc
          go_wp2
          go_ret
          exact ⟨by rw [HV.out]; rfl, o1, Calm.trans kR ⟨k1.os, k1.tape, k1.output⟩⟩
      · have hn := Hn.out
        have hn' := Hn'.out
        have hv : X = true := by
          rw [← HX.out, HI.out, List.drop_eq_nil_of_le (by omega), List.drop_eq_nil_of_le (by omega)]; rfl
        have HV := Lib.hid hv
        clear hv hn hn'
        go_wp2
        go_ret
        exact ⟨by rw [HV.out]; rfl, oR, kR⟩
  · have hv : X = false := by rw [← hX]; exact fitsL_len (by omega)
    have HV := Lib.hid hv
    clear hv hX hn hn'
    go_enter Tryz.func85, Tryz.ntmps85
    go_wp2
    go_ret
    exact ⟨by rw [HV.out]; rfl, o, Calm.refl w⟩
end
end Go.Proofs.YtjpahfkchhnpoaaGreat

/- The comparison of two products. -/
namespace Go.Proofs.YtjpahfkchhnpoaaGreat
open Go.RowKit
open SP
section
variable {W w w' : World} {R : List SP}

def cmpZ (x y : Int) : Int := if x < y then -1 else if y < x then 1 else 0
def orZ (x y : Int) : Int := if x ≠ 0 then x else y

theorem nanU_spec (x : Int) (w : World) : Calls Tryz.prog 156 #[.int .u64 x] w (fun e w' => e = .returned (.bool false) ∧ w = w') := by
  go_enter Tryz.func156, Tryz.ntmps156
  go_wp2
  go_ret
  simp
set_option maxHeartbeats 800000 in
set_option maxRecDepth 100000 in
theorem cmpU_spec (x y : Int) (w : World) : Calls Tryz.prog 140 #[.int .u64 x, .int .u64 y] w (IsRet (.int .i64 (cmpZ x y)) w) := by
  by_cases h1 : x < y
  · have e : cmpZ x y = -1 := if_pos h1
    rw [e]; clear e
    go_enter Tryz.func140, Tryz.ntmps140
    go_wp2_with (go_at_call 156; refine (nanU_spec _ _).mono ?_; rintro e w' ⟨rfl, rfl⟩)
    go_ret
    exact ⟨rfl, rfl⟩
  · by_cases h2 : y < x
    · have e : cmpZ x y = 1 := by unfold cmpZ; rw [if_neg h1, if_pos h2]
      rw [e]; clear e
      go_enter Tryz.func140, Tryz.ntmps140
      go_wp2_with (go_at_call 156; refine (nanU_spec _ _).mono ?_; rintro e w' ⟨rfl, rfl⟩)
      go_ret
      exact ⟨rfl, rfl⟩
    · have e : cmpZ x y = 0 := by unfold cmpZ; rw [if_neg h1, if_neg h2]
      rw [e]; clear e
      go_enter Tryz.func140, Tryz.ntmps140
      go_wp2_with (go_at_call 156; refine (nanU_spec _ _).mono ?_; rintro e w' ⟨rfl, rfl⟩)
      go_ret
      exact ⟨rfl, rfl⟩

def zOf : Value → Int
  | .int _ x => x
  | _ => 0
def OrRel (x y : Int) (i : Value) : Prop := i = .int .i64 0 ∨ (i = .int .i64 1 ∧ x = 0) ∨ (i = .int .i64 2 ∧ x = 0 ∧ y = 0)
set_option maxHeartbeats 800000 in
set_option maxRecDepth 100000 in
theorem or_spec (g : Nat) (x y : Int) (w : World) (h0 : w.cell? ⟨g, 0, none⟩ = some (.int .i64 x)) (h1 : w.cell? ⟨g, 1, none⟩ = some (.int .i64 y)) :
    Calls Tryz.prog 139 #[.slice (some ⟨g, 0, none⟩) 2 2] w (IsRet (.int .i64 (orZ x y)) w) := by
  go_enter Tryz.func139, Tryz.ntmps139
  go_wp2
  go_loop [8] (fun i => OrRel x y i) (fun i => 2 - (zOf i).toNat)
  case atStart => exact .inl rfl
  case round =>
    rcases hrel with rfl | ⟨rfl, rfl⟩ | ⟨rfl, rfl, rfl⟩
    · by_cases hx : x = 0
      · subst hx
        go_wp2
        go_round
        case rel => exact .inr (.inl ⟨rfl, rfl⟩)
        case measure => simp [zOf]
      · have hb : (x == 0) = false := by simpa using hx
        have hb' : (x != 0) = true := by simpa using hx
        go_wp2
        go_ret
        exact ⟨by unfold orZ; rw [if_pos hx]; rfl, rfl⟩
    · by_cases hx : y = 0
      · subst hx
        go_wp2
        go_round
        case rel => exact .inr (.inr ⟨rfl, rfl, rfl⟩)
        case measure => simp [zOf]
      · have hb : (y == 0) = false := by simpa using hx
        have hb' : (y != 0) = true := by simpa using hx
        go_wp2
        go_ret
        exact ⟨rfl, rfl⟩
    · go_wp2
      go_ret
      exact ⟨rfl, rfl⟩

set_option maxHeartbeats 800000 in
set_option maxRecDepth 100000 in
theorem wcomp_spec (x y : Int) (o : Own w R) :
    Calls Tryz.prog 119 #[.agg #[.int .u64 0, .int .u64 x], .agg #[.int .u64 0, .int .u64 y]] w (Ret (.int .i64 (cmpZ x y)) R w) := by
  go_enter Tryz.func119, Tryz.ntmps119
  go_wp2
  refine wp_region_tail 9 (by kernel_rfl) (by kernel_rfl) ?_
  simp only [List.take_succ_cons, List.take_zero, List.drop_succ_cons, List.drop_zero]
  repeat still_step
  still_call (IsRet.still (cmpU_spec _ _ _))
  repeat still_step
  refine wpStill_nil ?_
  go_wp2_with (go_at_call 140; refine (cmpU_spec _ _ _).mono ?_; rintro e w' ⟨rfl, rfl⟩)
  refine (or_spec (w.heap.size + 1 + 1) (cmpZ 0 0) (cmpZ x y) _ ?_ ?_).mono ?_
  · go_simp
  · go_simp
  rintro e w' ⟨rfl, rfl⟩
  go_wp2
  go_ret
  refine ⟨?_, ?_, ?_⟩
  · rfl
  · have := (((o.alloc (.cells #[.int .u64 0, .int .u64 x] 172)).drop.alloc (.cells #[.int .u64 0, .int .u64 y] 172)).drop.alloc (.cells #[.int .i64 (cmpZ 0 0), .int .i64 (cmpZ x y)] 3)).drop
    exact this
  · exact ⟨rfl, rfl, rfl⟩

theorem cross_spec (a b c d : Nat) (ha : a < 18446744073709551616) (hb : b < 18446744073709551616) (hc : c < 18446744073709551616) (hd : d < 18446744073709551616) (h1 : a * b < 9223372036854775808) (h2 : c * d < 9223372036854775808) (o : Own w R) :
    Calls Tryz.prog 96 #[.int .u64 (a : Int), .int .u64 (b : Int), .int .u64 (c : Int), .int .u64 (d : Int)] w (Ret (.int .i64 (cmpZ ((a * b : Nat) : Int) ((c * d : Nat) : Int))) R w) := by
  go_enter Tryz.func96, Tryz.ntmps96
  go_wp2_with fail
  refine (wideMul_spec a b ha hb h1 o).mono ?_
  rintro e1 w1 ⟨rfl, o1, k1⟩
  go_wp2_with fail
  refine (wideMul_spec c d hc hd h2 o1).mono ?_
  rintro e2 w2 ⟨rfl, o2, k2⟩
  go_wp2_with fail
  refine (wcomp_spec _ _ o2).mono ?_
  rintro e3 w3 ⟨rfl, o3, k3⟩
  go_wp2
  go_ret
  exact ⟨rfl, o3, Calm.trans k1 (Calm.trans k2 k3)⟩
end
end Go.Proofs.YtjpahfkchhnpoaaGreat

/- maps.Clone at int keys, and the copy of an order of comp. -/
namespace Go.Proofs.YtjpahfkchhnpoaaGreat
open Go.RowKit
open SP
section
variable {α : Type} {f : α → Value} {W w w' : World} {R : List SP} {b mb : Nat} {m : List (Int × α)} {reb tm : Int} {el tg : List (Int × Int)}

def ClonePost (f : α → Value) (mb : Nat) (m : List (Int × α)) (R : List SP) (w : World) (e : Ending) (w' : World) : Prop :=
  e = .returned (.map (some w.heap.size)) ∧ Own w' (mpI f w.heap.size m :: mpI f mb m :: R) ∧ Calm w w'

set_option maxHeartbeats 1600000 in
set_option maxRecDepth 100000 in
theorem cloneII_spec (o : Own w (mpI f mb m :: R)) : Calls Tryz.prog 89 #[.map (some mb)] w (ClonePost f mb m R w) := by
  obtain ⟨es, clock, h1, h2, h3, o1⟩ := Own.mpI.1 o
  have hb := o1.blk
  have hq := fun w => run_eql_map_nil_sl (P := Tryz.prog) w 113 _ _ (some mb) Tryz.underlying113
  have hfin : Own (w.alloc (.map es clock)) (mpI f w.heap.size m :: mpI f mb m :: R) := Own.mpI.2 ⟨es, clock, h1, h2, h3, o.alloc _⟩
  go_enter Tryz.func89, Tryz.ntmps89
  go_wp2
  rw [run_callFunc_extern Tryz.func114 (by kernel_rfl) (by kernel_rfl) (by kernel_rfl) (e := Extern.MapsClone.clone) (by kernel_rfl), run_maps_clone_sl w _ hb]
  simp only [Result.andThen]
  rw [Oper.upon_value]
  go_wp2
  rw [run_typeAssert_map_sl _ 113 _ _ _ _ Tryz.underlying113]
  simp only [Result.andThen]
  rw [Oper.upon_value]
  go_wp2
  go_ret
  exact ⟨rfl, hfin, ⟨rfl, rfl, rfl⟩⟩

set_option maxHeartbeats 1600000 in
set_option maxRecDepth 100000 in
theorem cloneIL_spec (o : Own w (mpI f mb m :: R)) : Calls Tryz.prog 88 #[.map (some mb)] w (ClonePost f mb m R w) := by
  obtain ⟨es, clock, h1, h2, h3, o1⟩ := Own.mpI.1 o
  have hb := o1.blk
  have hq := fun w => run_eql_map_nil_sl (P := Tryz.prog) w 107 _ _ (some mb) Tryz.underlying107
  have hfin : Own (w.alloc (.map es clock)) (mpI f w.heap.size m :: mpI f mb m :: R) := Own.mpI.2 ⟨es, clock, h1, h2, h3, o.alloc _⟩
  go_enter Tryz.func88, Tryz.ntmps88
  go_wp2
  rw [run_callFunc_extern Tryz.func114 (by kernel_rfl) (by kernel_rfl) (by kernel_rfl) (e := Extern.MapsClone.clone) (by kernel_rfl), run_maps_clone_sl w _ hb]
  simp only [Result.andThen]
  rw [Oper.upon_value]
  go_wp2
  rw [run_typeAssert_map_sl _ 107 _ _ _ _ Tryz.underlying107]
  simp only [Result.andThen]
  rw [Oper.upon_value]
  go_wp2
  go_ret
  exact ⟨rfl, hfin, ⟨rfl, rfl, rfl⟩⟩

def CopyPost (b : Nat) (reb tm : Int) (el tg : List (Int × Int)) (R : List SP) (w : World) (e : Ending) (w' : World) : Prop :=
  ∃ p, Ret (.pointer (some ⟨p, 0, none⟩)) (OrderR p reb el tg tm :: OrderR b reb el tg tm :: R) w e w'

set_option maxHeartbeats 3200000 in
set_option maxRecDepth 100000 in
theorem compCopy_spec (o : Own w (OrderR b reb el tg tm :: R)) : Calls Tryz.prog 58 #[.pointer (some ⟨b, 0, none⟩)] w (CopyPost b reb tm el tg R w) := by
  obtain ⟨eb, tb, o1⟩ := OrderR.iff.1 o
  have c0 := o1.cell 0
  have c1 := o1.cell 1
  have c2 := o1.cell 2
  have c3 := o1.cell 3
  have hlt := o1.celLt
  have oA := o1.alloc (.cells #[.int .i64 reb, .map (some eb), .map (some tb), .int .i64 tm] 115)
  have oAd : Own (w.alloc (.cells #[.int .i64 reb, .map (some eb), .map (some tb), .int .i64 tm] 115)).drew (mpI (Value.int .i64) eb el :: cel w.heap.size 115 [.int .i64 reb, .map (some eb), .map (some tb), .int .i64 tm] :: cel b 115 [.int .i64 reb, .map (some eb), .map (some tb), .int .i64 tm] :: mpI (Value.int .i64) tb tg :: R) := oA.drew.re [2, 0, 1, 3]
  have hsz : (w.alloc (.cells #[.int .i64 reb, .map (some eb), .map (some tb), .int .i64 tm] 115)).drew.heap.size = w.heap.size + 1 := by simp
  have HSZ := Lib.hid hsz
  clear hsz
  have q0 := (oA.up 1).cell 1
  have q1 := (oA.up 1).cell 2
  go_enter Tryz.func58, Tryz.ntmps58
  go_wp2
  go_region_held3 (fun w' => w'.cell? ⟨b, 1, none⟩ = some (.map (some eb)) ∧ w'.cell? ⟨b, 2, none⟩ = some (.map (some tb))) (go_keep) (first
    | (go_at_call 89; (with_reducible refine (cloneII_spec oAd).mono ?_); rintro e2 w2 ⟨rfl, o2, k2⟩; rw [HSZ.out] at o2; have x1 := (o2.up 3).cell 1; have x2 := (o2.up 3).cell 2; have o2b := o2.re [4, 0, 1, 2, 3])
    | (go_at_call 88; (with_reducible refine (cloneIL_spec o2b).mono ?_); rintro e3 w3 ⟨rfl, o3, k3⟩; have y1 := (o3.up 5).cell 1; have y2 := (o3.up 5).cell 2; have z1 := (o3.up 4).cell 1; have z2 := (o3.up 4).cell 2; have zf := (o3.up 4).frozen; have zl := (o3.up 4).celLt; have oS := (o3.up 4).setCell 1 (.map (some (w.heap.size + 1))); have s1 := (oS.up 5).cell 1; have s2 := (oS.up 5).cell 2; have s3 := oS.cell 2; have sf := oS.frozen; have sl := oS.celLt; have oS2 := oS.setCell 2 (.map (some w2.heap.size)); have t1 := (oS2.up 5).cell 1; have t2 := (oS2.up 5).cell 2))
  go_wp2
  go_ret
  have K := Calm.trans k2 k3
  refine ⟨w.heap.size, rfl, ?_, ⟨K.os, K.tape, K.output⟩⟩
  have oX := oS2.re [5, 4, 2, 0, 3, 1]
  have oY : Own _ (OrderR b reb el tg tm :: cel w.heap.size 115 [.int .i64 reb, .map (some (w.heap.size + 1)), .map (some w2.heap.size), .int .i64 tm] :: mpI (Value.int .i64) (w.heap.size + 1) el :: mpI (Value.int .i64) w2.heap.size tg :: R) := OrderR.iff.2 ⟨eb, tb, oX⟩
  exact OrderR.iff.2 ⟨_, _, oY.re [1, 2, 3, 0]⟩
end
end Go.Proofs.YtjpahfkchhnpoaaGreat

/- The copy of a reference of sfq. -/
namespace Go.Proofs.YtjpahfkchhnpoaaGreat
open Go.RowKit
open SP
section
variable {W w w' : World} {R : List SP} {b mb : Nat} {m : List (Int × Tg)} {reb : Int} {S : St}

set_option maxHeartbeats 1600000 in
set_option maxRecDepth 100000 in
theorem cloneIT_spec (o : Own w (mpI tagV mb m :: R)) : Calls Tryz.prog 87 #[.map (some mb)] w (ClonePost tagV mb m R w) := by
  obtain ⟨es, clock, h1, h2, h3, o1⟩ := Own.mpI.1 o
  have hb := o1.blk
  have hq := fun w => run_eql_map_nil_sl (P := Tryz.prog) w 106 _ _ (some mb) Tryz.underlying106
  have hfin : Own (w.alloc (.map es clock)) (mpI tagV w.heap.size m :: mpI tagV mb m :: R) := Own.mpI.2 ⟨es, clock, h1, h2, h3, o.alloc _⟩
  go_enter Tryz.func87, Tryz.ntmps87
  go_wp2
  rw [run_callFunc_extern Tryz.func114 (by kernel_rfl) (by kernel_rfl) (by kernel_rfl) (e := Extern.MapsClone.clone) (by kernel_rfl), run_maps_clone_sl w _ hb]
  simp only [Result.andThen]
  rw [Oper.upon_value]
  go_wp2
  rw [run_typeAssert_map_sl _ 106 _ _ _ _ Tryz.underlying106]
  simp only [Result.andThen]
  rw [Oper.upon_value]
  go_wp2
  go_ret
  exact ⟨rfl, hfin, ⟨rfl, rfl, rfl⟩⟩

def SfqCopyPost (b : Nat) (reb : Int) (S : St) (R : List SP) (w : World) (e : Ending) (w' : World) : Prop :=
  ∃ p, Ret (.pointer (some ⟨p, 0, none⟩)) (SfqR p reb S :: SfqR b reb S :: R) w e w'

set_option maxHeartbeats 3200000 in
set_option maxRecDepth 100000 in
theorem sfqCopyC_spec (o : Own w (SfqR b reb S :: R)) : Calls Tryz.prog 57 #[.pointer (some ⟨b, 0, none⟩)] w (SfqCopyPost b reb S R w) := by
  obtain ⟨ab, rb, m, rem, hm, hold, hur, hok, o1⟩ := SfqR.iff.1 o
  have Hold := Lib.hid hold
  clear hold
  have c0 := o1.cell 0
  have c1 := o1.cell 1
  have c2 := o1.cell 2
  have c3 := o1.cell 3
  have c4 := o1.cell 4
  have hlt := o1.celLt
  have oA := o1.alloc (.cells #[.int .i64 reb, .map (some ab), .map (some rb), .int .i64 S.tm, .int .i64 S.aw] 109)
  have oAd : Own (w.alloc (.cells #[.int .i64 reb, .map (some ab), .map (some rb), .int .i64 S.tm, .int .i64 S.aw] 109)).drew (mpI tagV ab m :: cel w.heap.size 109 [.int .i64 reb, .map (some ab), .map (some rb), .int .i64 S.tm, .int .i64 S.aw] :: cel b 109 [.int .i64 reb, .map (some ab), .map (some rb), .int .i64 S.tm, .int .i64 S.aw] :: mpI (Value.int .i64) rb rem :: R) := oA.drew.re [2, 0, 1, 3]
  have hsz : (w.alloc (.cells #[.int .i64 reb, .map (some ab), .map (some rb), .int .i64 S.tm, .int .i64 S.aw] 109)).drew.heap.size = w.heap.size + 1 := by simp
  have HSZ := Lib.hid hsz
  clear hsz
  have q0 := (oA.up 1).cell 1
  have q1 := (oA.up 1).cell 2
  go_enter Tryz.func57, Tryz.ntmps57
  go_wp2
  go_region_held3 (fun w' => w'.cell? ⟨b, 1, none⟩ = some (.map (some ab)) ∧ w'.cell? ⟨b, 2, none⟩ = some (.map (some rb))) (go_keep) (first
    | (go_at_call 87; (with_reducible refine (cloneIT_spec oAd).mono ?_); rintro e2 w2 ⟨rfl, o2, k2⟩; rw [HSZ.out] at o2; have x1 := (o2.up 3).cell 1; have x2 := (o2.up 3).cell 2; have o2b := o2.re [4, 0, 1, 2, 3])
    | (go_at_call 88; (with_reducible refine (cloneIL_spec o2b).mono ?_); rintro e3 w3 ⟨rfl, o3, k3⟩; have y1 := (o3.up 5).cell 1; have y2 := (o3.up 5).cell 2; have z1 := (o3.up 4).cell 1; have z2 := (o3.up 4).cell 2; have zf := (o3.up 4).frozen; have zl := (o3.up 4).celLt; have oS := (o3.up 4).setCell 1 (.map (some (w.heap.size + 1))); have s1 := (oS.up 5).cell 1; have s2 := (oS.up 5).cell 2; have s3 := oS.cell 2; have sf := oS.frozen; have sl := oS.celLt; have oS2 := oS.setCell 2 (.map (some w2.heap.size)); have t1 := (oS2.up 5).cell 1; have t2 := (oS2.up 5).cell 2))
  go_wp2
  go_ret
  have K := Calm.trans k2 k3
  refine ⟨w.heap.size, rfl, ?_, ⟨K.os, K.tape, K.output⟩⟩
  have oX := oS2.re [5, 4, 2, 0, 3, 1]
  have oY : Own _ (SfqR b reb S :: cel w.heap.size 109 [.int .i64 reb, .map (some (w.heap.size + 1)), .map (some w2.heap.size), .int .i64 S.tm, .int .i64 S.aw] :: mpI tagV (w.heap.size + 1) m :: mpI (Value.int .i64) w2.heap.size rem :: R) := SfqR.iff.2 ⟨ab, rb, m, rem, hm, Hold.out, hur, hok, oX⟩
  exact SfqR.iff.2 ⟨_, _, m, rem, hm, Hold.out, hur, hok, oY.re [1, 2, 3, 0]⟩
end
end Go.Proofs.YtjpahfkchhnpoaaGreat

/- The scheduler of cifq in memory; whether heads fit it; whether a flow leads. -/
namespace Go.Proofs.YtjpahfkchhnpoaaGreat
open Go.RowKit
open SP
section
variable {W w w' : World} {R : List SP} {b rp lp cp xp nb N : Nat} {num den reb : Int} {S : St} {D : List Tg}

/-- The struct of a scheduler. -/
abbrev CqC (b : Nat) (num den : Int) (rp lp cp xp nb : Nat) : SP := cel b 69 [.int .i64 num, .int .i64 den, .pointer (some ⟨rp, 0, none⟩), .pointer (some ⟨lp, 0, none⟩), .pointer (some ⟨cp, 0, none⟩), .pointer (some ⟨xp, 0, none⟩), .map (some nb)]

set_option maxHeartbeats 1600000 in
set_option maxRecDepth 100000 in
theorem fits_spec {S1 : SP} {a : Option Addr} {n c : Nat} {H : List Head} (h1 : HeadsAt S1 a H) (hn : n = H.length) (hl : n ≤ 1000) (o : Own w (CqC b num den rp lp cp xp nb :: SfqR rp reb S :: S1 :: R)) :
    Calls Tryz.prog 56 #[.pointer (some ⟨b, 0, none⟩), .slice a n c] w (Ret (.bool (fitsH S.L H)) (CqC b num den rp lp cp xp nb :: SfqR rp reb S :: S1 :: R) w) := by
  have c2 := o.cell 2
  have hlt := o.celLt
  rw [← fitsL_eq]
  obtain ⟨X, hX⟩ : ∃ X, fitsL H S.L = X := ⟨_, rfl⟩
  rw [hX]
  have HX := Lib.hid hX
  have Hn := Lib.hid hn
  clear hX hn
  go_enter Tryz.func56, Tryz.ntmps56
  go_wp2_with fail
  refine (sfqTags_spec (o.re [1, 0, 2])).mono ?_
  rintro e1 w1 ⟨a', c', rfl, o1, k1⟩
  have he := equalFunc_spec (c := c) (n' := S.L.length) (c' := c') h1 (tagsAt_slc a' S.L.length c' S.L rfl) Hn.out rfl hl (o1.re [3, 0, 1, 2])
  rw [HX.out] at he
  go_wp2_with fail
  refine he.mono ?_
  rintro e2 w2 ⟨rfl, o2, k2⟩
  clear he
  go_wp2
  go_ret
  exact ⟨rfl, (o2.re [1, 3, 2, 0]).drop, Calm.trans k1 k2⟩

theorem lagV_eq (D : List Tg) (f : Int) : ∃ z, lagV D f = .tuple #[.int .i64 (lagO D f), .bool z] := by
  unfold lagV lagO
  cases fget D f <;> exact ⟨_, rfl⟩

set_option maxHeartbeats 1600000 in
set_option maxRecDepth 100000 in
theorem leading_spec (f : Int) (o : Own w (CqC b num den rp lp cp xp nb :: LagR lp N D :: R)) :
    Calls Tryz.prog 64 #[.pointer (some ⟨b, 0, none⟩), .int .i64 f] w (Ret (.bool (decide (lagO D f < 0))) (CqC b num den rp lp cp xp nb :: LagR lp N D :: R) w) := by
  have c3 := o.cell 3
  have hlt := o.celLt
  obtain ⟨z, hz⟩ := lagV_eq D f
  have hc := lagLag_spec f (o.up 1)
  rw [hz] at hc
  clear hz
  generalize lagO D f = X at *
  go_enter Tryz.func64, Tryz.ntmps64
  go_wp2_with fail
  refine hc.mono ?_
  rintro e1 w1 ⟨rfl, o1, k1⟩
  clear hc
  go_wp2
  go_ret
  exact ⟨rfl, o1.up 1, k1⟩
end
end Go.Proofs.YtjpahfkchhnpoaaGreat

/- Whether a leading flow of cifq keeps its slot. -/
namespace Go.Proofs.YtjpahfkchhnpoaaGreat
open Go.RowKit
open SP
section
variable {W w w' : World} {R : List SP} {b rp lp cp xp nb N : Nat} {num den reb : Int} {S : St} {D : List Tg} {m : List (Int × (Int × Int))}

def cntV (x : Int × Int) : Value := .agg #[.int .i64 x.1, .int .i64 x.2]
theorem Tryz.zeroCnt (w : World) : (zeroValue 98).run Tryz.prog w = .ok (.agg #[.int .i64 0, .int .i64 0]) w := by kernel_rfl
theorem lookC (o : Own w (mpI cntV nb m :: R)) (k : Int) :
    (Instr.lookup 66 (.map (some nb)) (.int .i64 k) false).run Tryz.prog w = .ok (cntV (cntO m k)) w := by
  rw [run_lookup_mpI Tryz.underlying66 Tryz.underlying3 Tryz.zeroCnt o k false]
  unfold cntO
  cases mget m k <;> rfl
theorem cmpZ_le (x y : Int) : (cmpZ x y ≤ 0) = (x ≤ y) := by
  unfold cmpZ
  by_cases h1 : x < y
  · rw [if_pos h1]; simp; omega
  · by_cases h2 : y < x
    · rw [if_neg h1, if_pos h2]; simp; omega
    · rw [if_neg h1, if_neg h2]; simp; omega
theorem wrapU {x : Nat} (h : x < 9223372036854775808) : IntKind.u64.wrap (x : Int) = (x : Int) := by rw [IntKind.wrap_u64]; omega
theorem mul_lt' {x y : Nat} (hx : x < 1099511627776) (hy : y < 4194304) : x * y < 9223372036854775808 := by
  have h1 : x * y ≤ 1099511627776 * 4194304 := Nat.mul_le_mul (by omega) (by omega)
  omega

set_option maxHeartbeats 1600000 in
set_option maxRecDepth 100000 in
theorem keeps_spec {nu de cr cl : Nat} (f : Int) (hnu : nu < 4194304) (hde : de < 4194304) (hcr : cr < 1099511627776) (hcl : cl < 1099511627776) (hc : cntO m f = ((cr : Int), (cl : Int)))
    (o : Own w (CqC b (nu : Int) (de : Int) rp lp cp xp nb :: mpI cntV nb m :: R)) :
    Calls Tryz.prog 65 #[.pointer (some ⟨b, 0, none⟩), .int .i64 f] w (Ret (.bool (keepsO (nu : Int) (de : Int) (cntO m f))) (CqC b (nu : Int) (de : Int) rp lp cp xp nb :: mpI cntV nb m :: R) w) := by
  have hlk := lookC (o.up 1) f
  have c6 := o.cell 6
  have hlt := o.celLt
  have oA := o.alloc (.cells #[.int .i64 (cr : Int), .int .i64 (cl : Int)] 98)
  have oB := (oA.up 1)
  have d0 := oB.cell 0
  have d1 := oB.cell 1
  rw [hc] at hlk ⊢
  have w1 := wrapU (x := cl) (by omega)
  have w2 := wrapU (x := de) (by omega)
  have w3 := wrapU (x := nu) (by omega)
  have w4 := wrapU (x := cr) (by omega)
  have hq := fun W (o' : Own W (blk w.heap.size (.cells #[.int .i64 (cr : Int), .int .i64 (cl : Int)] 98) :: CqC b (nu : Int) (de : Int) rp lp cp xp nb :: mpI cntV nb m :: R)) => cross_spec cl de nu cr (by omega) (by omega) (by omega) (by omega) (mul_lt' hcl hde) (by rw [Nat.mul_comm]; exact mul_lt' hcr hnu) o'
  have hv : keepsO (nu : Int) (de : Int) ((cr : Int), (cl : Int)) = decide (cmpZ ((cl * de : Nat) : Int) ((nu * cr : Nat) : Int) ≤ 0) := by
    unfold keepsO
    rw [decide_eq_decide, cmpZ_le]
    push_cast
    exact Iff.rfl
  rw [hv]
  clear hv hc
  generalize cmpZ ((cl * de : Nat) : Int) ((nu * cr : Nat) : Int) = X at *
  unfold cntV at hlk
  go_enter Tryz.func65, Tryz.ntmps65
  go_wp2
  refine wp_region_tail 18 (by kernel_rfl) (by kernel_rfl) ?_
  simp only [List.take_succ_cons, List.take_zero, List.drop_succ_cons, List.drop_zero]
  repeat still_step
  refine wpStill_nil ?_
  go_wp2_with fail
  refine (hq _ oA.drew).mono ?_
  rintro e1 w5 ⟨rfl, o1, k1⟩
  go_wp2
  go_ret
  exact ⟨rfl, o1.drop, ⟨k1.os, k1.tape, k1.output⟩⟩
end
end Go.Proofs.YtjpahfkchhnpoaaGreat
