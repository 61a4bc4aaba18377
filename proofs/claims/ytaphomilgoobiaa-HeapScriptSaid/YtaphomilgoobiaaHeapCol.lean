/- slices.Values and slices.Collect at entries: what is collected are the slice's entries, in their order. -/
import Derived.Test.YtaphomilgoobiaaHeap
import Derived.Test.YtaphomilgoobiaaRe
import Derived.Shelf.SlIter.Collect
import Derived.RangeFuncGives
namespace Go.Proofs.Ytaphomilgoobiaa
open Go.RowKit Go.Shelf
open SP
attribute [local go_sem] Oper.semAt_some

theorem Own.putObj {w : World} {b : Nat} {x : Obj} {R : List SP} (o : Own w (SP.blk b x :: R)) (y : Obj) : Own (w.putObj b y) (SP.blk b y :: R) := o.setMap y

theorem wpListIn_append_slc {F : Fence} {nF : Nat} {P : Program} {w : World} {l : List SP} {t e : TypeId} {size bytes : Nat} {ops : Array Oper} {rest : List Oper} {op : Oper} {A : Act} {Q : Exit → Act → World → Prop} (hgd : op.guard = none) (s x : Operand)
    (hop : op.op = .call { callee := .builtin .append, args := #[s, x], argTypes := #[t, t] })
    (E : ElemT P t e size bytes) {a : Option Addr} {n cap : Nat} {xs : List Value} (hs : A.eval s = .slice a n cap) (o : Own w (SP.slc e size a n cap xs :: l))
    (ad : Addr) (m c : Nat) (news : List Value) (hx : A.eval x = .slice (some ad) m c) (hl : news.length = m * size) (hnews : ∀ j u, news[j]? = some u → w.cell? (ad.add j) = some u) (h1 : ∀ u ∈ news, u.oneCell' = true)
    (h63 : n + m ≤ maxLen) (hbytes : (n + m) * bytes ≤ 140737488355328)
    (h : ∀ a' cap' w', Own w' (SP.slc e size a' (n + m) cap' (xs ++ news) :: l) → Calm w w' → wpListIn F nF P ops Q rest (A.put op.dst (.slice a' (n + m) cap')) w') : wpListIn F nF P ops Q (op :: rest) A w := by
  refine wpListIn_plain hgd fun K hK => ?_
  obtain ⟨a', cap', w', hr, h2, h3⟩ := run_append_slc op.type E o ad m c news hl hnews h1 h63 hbytes
  unfold Oper.wpIn
  refine ⟨by simp [Oper.about, hop, resolve, Target.leads, Sem.run_pure], ?_⟩
  rw [Oper.semAt_plain F _ _ (by rw [hop]; intro c hc'; cases hc')]
  simp [execOp, hop, resolve, invoke, builtin, hs, hx, hr, Result.andThen]
  exact hK _ _ (h a' cap' w' h2 h3)

section
variable {W w w' : World} {R : List SP}

set_option maxRecDepth 100000 in
set_option maxHeartbeats 2000000 in
/-- The iterator: every entry is handed to yield, in order. -/
theorem values1_own (F : Fence) (n : Nat) (h40 : F.fn 40) (hro : F.round = none) (hn : 1 ≤ n) (l Bs : Nat) {a : Option Addr} {m c : Nat} {L : List (Int × Int)} (hm : m = L.length) (hm2 : m ≤ 1000000) (Q : List (Int × Int) → SP)
    (hY : ∀ pre x W R, pre.length < L.length → Own W (Q pre :: R) → YieldAt F (n - 1) Try.prog l #[.agg #[.int .i64 x.1, .int .i64 x.2]] W fun e W' => e = .returned (.bool true) ∧ Own W' (Q (pre ++ [x]) :: R) ∧ Calm W W')
    (o : Own W (Q [] :: cel Bs 38 [.slice a m c] :: slc 41 2 a m c (flat ent L) :: R)) :
    CallsIn F n Try.prog 40 #[.func (.yield l) #[] #[], .pointer (some ⟨Bs, 0, none⟩)] W fun e W' => (∃ v, e = .returned v) ∧ Own W' (Q L :: cel Bs 38 [.slice a m c] :: slc 41 2 a m c (flat ent L) :: R) ∧ Calm W W' := by
  have hbox := (o.up 1).cell 0
  have HM := Lib.hid hm
  clear hm
  refine callsIn_of_wp Try.func40 rfl h40 ?_ hro
  simp only [Try.ntmps40, List.size_toArray, List.length_cons, List.length_nil, Nat.reduceAdd, Nat.reduceSub, Array.replicate_succ, Array.replicate_zero, List.push_toArray, List.append_toArray, List.nil_append, List.cons_append]
  gi_wp2
  gi_loopw [7] (fun i wr => ∃ k : Nat, k ≤ m ∧ i = .int .i64 k ∧ Own wr (Q (L.take k) :: cel Bs 38 [.slice a m c] :: slc 41 2 a m c (flat ent L) :: R) ∧ Calm W wr)
    (fun i _ => m - (intOf i).toNat)
  case atStart => exact ⟨0, Nat.zero_le _, rfl, o, Calm.refl _⟩
  case round =>
    clear o hbox
    obtain ⟨k, hk, rfl, oR, kR⟩ := hrel
    by_cases hlt : k < m
    · obtain ⟨⟨x, y⟩, hx⟩ : ∃ x, L[k]? = some x := ⟨_, List.getElem?_eq_getElem (by rw [← HM.out]; exact hlt)⟩
      obtain ⟨g, hg, c0, c1, -, hgl⟩ := ent_cells (oR.up 2) hx (by omega)
      subst hg
      have o1 := (oR.alloc (.cells #[.int .i64 x, .int .i64 y] 41)).up 1
      obtain ⟨fn, tmps, assign, body, hy, hR⟩ := hY (L.take k) (x, y) _ _ (by rw [List.length_take, ← HM.out]; omega) o1
      dsimp only at hy
      gi_wp2
      refine hR.mono ?_
      rintro e W3 ⟨rfl, o3, k3⟩
      gi_wp2
      go_roundw
      case rel => exact ⟨k + 1, by omega, by simp, by rw [List.take_add_one, hx]; exact o3.re [1, 0, 2, 3] 1, kR.trans k3.al⟩
      case measure => simp [intOf]; omega
    · obtain rfl : k = m := by omega
      gi_wp2
      go_end0
      have hT : L.take k = L := by rw [HM.out]; exact List.take_length
      rw [hT] at oR
      exact ⟨⟨_, rfl⟩, oR, kR⟩

noncomputable def rfOf : Code → Option (Code × Code)
  | .rangeFunc _ _ a b => some (a, b)
  | .seq a b => match rfOf a with
    | some x => some x
    | none => rfOf b
  | .block _ c => rfOf c
  | _ => none
noncomputable def apA : Code := ((Try.f45.body.bind rfOf).getD (.skip, .skip)).1
noncomputable def apB : Code := ((Try.f45.body.bind rfOf).getD (.skip, .skip)).2
noncomputable def apRec (fn : FuncId) (sv : Value) (Bs D : Nat) (st : LoopState) : Loop :=
  { state := st, pending := none, fn := fn, tmps := #[.slice none 0 0, sv, .pointer (some ⟨Bs, 0, none⟩), undef, .slice none 0 0, undef, sv, undef, undef, undef, undef, undef, undef], params := #[7], assign := apA, body := apB, defers := D }
noncomputable def apQ (fn : FuncId) (sv : Value) (Bs l D : Nat) (pre : List (Int × Int)) : SP := ex fun (p : Option Addr × Nat) =>
  st [SP.blk l (.loop (apRec fn sv Bs D .ready)), SP.blk D (.deferred (some [])), cel Bs 38 [.slice p.1 pre.length p.2], slc 41 2 p.1 pre.length p.2 (flat ent pre)]
theorem apQ.iff {fn : FuncId} {sv : Value} {Bs l D : Nat} {pre : List (Int × Int)} : Own w (apQ fn sv Bs l D pre :: R) ↔ ∃ a c, Own w (SP.blk l (.loop (apRec fn sv Bs D .ready)) :: SP.blk D (.deferred (some [])) :: cel Bs 38 [.slice a pre.length c] :: slc 41 2 a pre.length c (flat ent pre) :: R) := by
  constructor
  · intro o
    obtain ⟨⟨a, c⟩, h⟩ := Own.ex.1 o
    exact ⟨a, c, Own.st.1 h⟩
  · rintro ⟨a, c, h⟩
    exact Own.ex.2 ⟨(a, c), Own.st.2 h⟩

set_option maxRecDepth 100000 in
set_option maxHeartbeats 4000000 in
theorem apYield_own (F : Fence) (m : Nat) (fn : FuncId) (hfn : F.fn fn) (sv : Value) (Bs l D : Nat) (pre : List (Int × Int)) (x : Int × Int) (hlen : pre.length < 1000000) (o : Own W (apQ fn sv Bs l D pre :: R)) :
    YieldAt F m Try.prog l #[.agg #[.int .i64 x.1, .int .i64 x.2]] W fun e W' => e = .returned (.bool true) ∧ Own W' (apQ fn sv Bs l D (pre ++ [x]) :: R) ∧ Calm W W' := by
  obtain ⟨a, c, o0⟩ := apQ.iff.1 o
  clear o
  refine ⟨fn, #[.slice none 0 0, sv, .pointer (some ⟨Bs, 0, none⟩), undef, .slice none 0 0, undef, sv, .agg #[.int .i64 x.1, .int .i64 x.2], undef, undef, undef, undef, undef], apA, apB, by simpa [apRec] using run_yield (P := Try.prog) (args := #[.agg #[.int .i64 x.1, .int .i64 x.2]]) o0.blk rfl, roundIn_of_wpIn hfn ?_⟩
  have oA := (o0.alloc (.cells #[.int .i64 x.1, .int .i64 x.2] 41)).re [1, 0, 2, 3, 4]
  have hbr : (Instr.beginRound l).run Try.prog (W.alloc (.cells #[.int .i64 x.1, .int .i64 x.2] 41)) = .ok () ((W.alloc (.cells #[.int .i64 x.1, .int .i64 x.2] 41)).putObj l (.loop (apRec fn sv Bs D .busy))) := run_beginRound (P := Try.prog) oA.blk rfl
  have oB := oA.putObj (.loop (apRec fn sv Bs D .busy))
  have kB : Calm W ((W.alloc (.cells #[.int .i64 x.1, .int .i64 x.2] 41)).putObj l (.loop (apRec fn sv Bs D .busy))) := ⟨rfl, rfl, rfl⟩
  clear oA
  have hlo := (oB.up 1).lt
  obtain ⟨W2, hW2⟩ : ∃ W2, W2 = (W.alloc (.cells #[.int .i64 x.1, .int .i64 x.2] 41)).putObj l (.loop (apRec fn sv Bs D .busy)) := ⟨_, rfl⟩
  rw [← hW2] at hbr oB kB hlo
  unfold apA
  simp only [Try.f45, rfOf, Option.bind_some, Option.getD_some]
  gi_wp2_with gi_round_op_a
  refine ⟨W2, hbr, ?_⟩
  clear hbr hW2
  obtain ⟨nb, hnb⟩ : ∃ nb, nb = W.heap.size := ⟨_, rfl⟩
  rw [← hnb] at oB hlo ⊢
  clear hnb
  have oN : Own W2 (cel nb 41 [.int .i64 x.1, .int .i64 x.2] :: _) := oB.up 1
  have n0 := oN.cell 0
  have n1 := oN.cell 1
  have b0 := (oB.up 3).cell 0
  have bl := (oB.up 3).celLt
  have oC := (oB.alloc (.cells #[.int .i64 x.1, .int .i64 x.2] 41)).re [5, 0, 1, 2, 3, 4]
  have hnw := Own.news (T := 41) (vs := [.int .i64 x.1, .int .i64 x.2]) (oB.alloc _)
  unfold apB
  simp only [Try.f45, rfOf, Option.bind_some, Option.getD_some]
  gi_wp2_with (first
    | (gi_at_builtin; refine wpListIn_append_slc rfl _ _ rfl Try.entT rfl oC ⟨W2.heap.size, 0, none⟩ 1 1 [.int .i64 x.1, .int .i64 x.2] rfl rfl hnw (by intro u hu; simp at hu; rcases hu with rfl | rfl <;> rfl) (by unfold maxLen; omega) (by omega) ?_; intro a' c' w3 o3 k3; have d0 := (o3.up 5).cell 0; have df := (o3.up 5).frozen; have dl := (o3.up 5).celLt)
    | gi_round_op_a)
  have oD : Own _ (SP.blk l (.loop (apRec fn sv Bs D .busy)) :: SP.blk D (.deferred (some [])) :: cel Bs 38 [.slice a' (pre.length + 1) c'] :: slc 41 2 a' (pre.length + 1) c' (flat ent pre ++ [.int .i64 x.1, .int .i64 x.2]) :: R) := ((o3.up 5).setCell 0 (.slice a' (pre.length + 1) c')).re [2, 4, 3, 5, 0, 1] 2
  refine ⟨_, _, run_endRound none oD.blk, rfl, apQ.iff.2 ⟨a', c', ?_⟩, kB.trans (k3.al.trans ⟨rfl, rfl, rfl⟩)⟩
  have hf : flat ent (pre ++ [x]) = flat ent pre ++ [.int .i64 x.1, .int .i64 x.2] := by simp [flat, ent]
  rw [hf, List.length_append]
  exact oD.putObj (.loop (apRec fn sv Bs D .ready))

set_option maxRecDepth 100000 in
set_option maxHeartbeats 4000000 in
/-- slices.AppendSeq(nil, slices.Values(s)). -/
theorem appendSeq_own (F : Fence) (n : Nat) (h45 : F.fn 45) (h40 : F.fn 40) (hro : F.round = none) (hn : 2 ≤ n) (Bv : Nat) {a : Option Addr} {m c : Nat} {L : List (Int × Int)} (hm : m = L.length) (hm2 : m ≤ 1000000)
    (o : Own W (cel Bv 38 [.slice a m c] :: slc 41 2 a m c (flat ent L) :: R)) :
    CallsIn F n Try.prog 45 #[.slice none 0 0, .func (.func 40) #[] #[.pointer (some ⟨Bv, 0, none⟩)]] W fun e W' => ∃ a' c', e = .returned (.slice a' L.length c') ∧ Own W' (slc 41 2 a' L.length c' (flat ent L) :: cel Bv 38 [.slice a m c] :: slc 41 2 a m c (flat ent L) :: R) ∧ Calm W W' := by
  have h1 : 1 ≤ n := by omega
  have eg : ∀ args w, (callFunc 40 args).run Try.prog w = .ok (.enter 40 args) w := enters_of Try.func40 (by kernel_rfl) rfl
  have HM := Lib.hid hm
  refine callsIn_of_wp_marks Try.func45 rfl h45 ?_ hro
  simp only [Try.ntmps45, List.size_toArray, List.length_cons, List.length_nil, Nat.reduceAdd, Nat.reduceSub, Array.replicate_succ, Array.replicate_zero, List.push_toArray, List.append_toArray, List.nil_append, List.cons_append]
  gi_wp2
  refine wpIn_rangeFunc ?_
  intro fn hfn
  rw [hro]
  have o0 := o.alloc (.cells #[.slice none 0 0] 38)
  have hs0 : (W.alloc (.cells #[.slice none 0 0] 38)).heap.size = W.heap.size + 1 := by simp
  obtain ⟨W0, hW0⟩ : ∃ W0, W.alloc (.cells #[.slice none 0 0] 38) = W0 := ⟨_, rfl⟩
  have k0 : Calm W W0 := by rw [← hW0]; exact ⟨rfl, rfl, rfl⟩
  rw [hW0] at o0 hs0 ⊢
  have o1 := ((o0.alloc (.deferred (some []))).alloc (.loop (apRec fn (.func (.func 40) #[] #[.pointer (some ⟨Bv, 0, none⟩)]) W.heap.size W0.heap.size .ready)))
  rw [World.size_alloc] at o1
  have o2 := o1.slc_nil (e := 41) (size := 2)
  have oQ := apQ.iff (fn := fn) (pre := []) |>.2 ⟨none, 0, o2.re [1, 2, 3, 0, 4, 5]⟩
  obtain ⟨W1, hW1⟩ : ∃ W1, (W0.alloc (.deferred (some []))).alloc (.loop (apRec fn (.func (.func 40) #[] #[.pointer (some ⟨Bv, 0, none⟩)]) W.heap.size W0.heap.size .ready)) = W1 := ⟨_, rfl⟩
  rw [hW1] at oQ
  have k1 : Calm W0 W1 := by rw [← hW1]; exact ⟨rfl, rfl, rfl⟩
  have hen := run_enterLoop_outer (P := Try.prog) (w := W0) fn #[.slice none 0 0, .func (.func 40) #[] #[.pointer (some ⟨Bv, 0, none⟩)], .pointer (some ⟨W.heap.size, 0, none⟩), undef, .slice none 0 0, undef, .func (.func 40) #[] #[.pointer (some ⟨Bv, 0, none⟩)], undef, undef, undef, undef, undef, undef] #[7] apA apB
  change _ = Result.ok _ ((W0.alloc (.deferred (some []))).alloc (.loop (apRec fn (.func (.func 40) #[] #[.pointer (some ⟨Bv, 0, none⟩)]) W.heap.size W0.heap.size .ready))) at hen
  rw [hW1] at hen
  refine ⟨W0.heap.size + 1, [{ target := .collected W0.heap.size, args := #[] }], W1, { target := .fn (.func 40) #[.pointer (some ⟨Bv, 0, none⟩)], args := #[.func (.yield (W0.heap.size + 1)) #[] #[]] }, W1, 40,
    #[.func (.yield (W0.heap.size + 1)) #[] #[]] ++ #[.pointer (some ⟨Bv, 0, none⟩)], W1, hen, ?_, ?_, ?_, fun _ => h1, ?_⟩
  · simp [resolve, go_sem]
  · intro f' hf'; simp [Target.leads] at hf'; subst hf'; exact h40
  · simp [invoke, go_sem, eg]
  · refine (values1_own F (n - 1) h40 hro (by omega) (W0.heap.size + 1) Bv HM.out hm2 (apQ fn (.func (.func 40) #[] #[.pointer (some ⟨Bv, 0, none⟩)]) W.heap.size (W0.heap.size + 1) W0.heap.size)
      (fun pre x V R hl o => apYield_own F (n - 1 - 1) fn hfn _ W.heap.size (W0.heap.size + 1) W0.heap.size pre x (by rw [HM.out] at hm2; omega) o) oQ).mono ?_
    rintro e W2 ⟨⟨v0, rfl⟩, o3, k3⟩
    obtain ⟨a', c', o4⟩ := apQ.iff.1 o3
    have hend : (Instr.endLoop (W0.heap.size + 1)).run Try.prog W2 = .ok none (W2.putObj (W0.heap.size + 1) (.loop (apRec fn (.func (.func 40) #[] #[.pointer (some ⟨Bv, 0, none⟩)]) W.heap.size W0.heap.size .exhausted))) := run_endLoop (P := Try.prog) o4.blk (by simp [apRec])
    have o5 := (o4.putObj (.loop (apRec fn (.func (.func 40) #[] #[.pointer (some ⟨Bv, 0, none⟩)]) W.heap.size W0.heap.size .exhausted))).re [1, 2, 3, 4, 5, 0]
    obtain ⟨W3, hW3⟩ : ∃ W3, W2.putObj (W0.heap.size + 1) (.loop (apRec fn (.func (.func 40) #[] #[.pointer (some ⟨Bv, 0, none⟩)]) W.heap.size W0.heap.size .exhausted)) = W3 := ⟨_, rfl⟩
    have k4 : Calm W2 W3 := by rw [← hW3]; exact ⟨rfl, rfl, rfl⟩
    rw [hW3] at hend o5
    have c0 := (o5.up 1).cell 0
    have cl := (o5.up 1).celLt
    clear hW3
    refine ⟨none, W3, hend, ?_⟩
    gi_wp2
    rw [← hs0]
    refine ⟨by simp, .inl ⟨_, _, rfl, run_takeDeferred o5.blk, ?_⟩⟩
    exact ⟨_, results_tmp rfl _ _ _, a', c', rfl, (o5.putObj (.deferred none)).re [0, 1, 5, 2, 3, 4] 3, k0.trans (k1.trans (k3.trans (k4.trans ⟨rfl, rfl, rfl⟩)))⟩

set_option maxHeartbeats 1000000 in
/-- slices.Collect(slices.Values(s)). -/
theorem collect_own (Bv : Nat) {a : Option Addr} {m c : Nat} {L : List (Int × Int)} (hm : m = L.length) (hm2 : m ≤ 1000000)
    (o : Own W (cel Bv 38 [.slice a m c] :: slc 41 2 a m c (flat ent L) :: R)) :
    Calls Try.prog 38 #[.func (.func 40) #[] #[.pointer (some ⟨Bv, 0, none⟩)]] W fun e W' => ∃ a' c', e = .returned (.slice a' L.length c') ∧ Own W' (slc 41 2 a' L.length c' (flat ent L) :: cel Bv 38 [.slice a m c] :: slc 41 2 a m c (flat ent L) :: R) ∧ Calm W W' := by
  have hap := callsIn_wide.1 (appendSeq_own Fence.wide 2 trivial trivial rfl (Nat.le_refl _) Bv hm hm2 o)
  go_enter Try.func38, Try.ntmps38
  go_wp2_with (go_at_call 45; refine hap.mono ?_; rintro e w' ⟨a', c', rfl, o1, k1⟩)
  go_ret
  exact ⟨a', c', rfl, o1, k1⟩
end
end Go.Proofs.Ytaphomilgoobiaa
