/- Texts that the law rests on, put together by a program. -/
import Derived.Test.YtjpahfkchhnpoaaGreatCifqScriptI
import Derived.Test.YtjpahfkchhnpoaaGreatCifqScriptL
/- The reference of cifq: the accounts. -/
namespace Go.Proofs.YtjpahfkchhnpoaaGreat
open Go.RowKit
open SP
section
variable {w w' : World} {R : List SP} {b rp lp cp xp N : Nat} {num den reb : Int} {P S : SP} {s : Cq} {g : KqG}

def KaRel (P0 : List SP) (L : List Tg) (s : Cq) (W : World) (v3 v4 : Value) (wr : World) : Prop :=
  ∃ (i : Nat) (a' : Option Addr) (c' : Nat), v4 = .int .i64 (i : Int) ∧ v3 = .slice a' i c' ∧ i ≤ L.length ∧
    Own wr (slc 40 10 a' i c' (flat (accC s) (L.take i)) :: P0) ∧ Calm W wr
def KaPost (P S : SP) (b : Nat) (num den reb : Int) (s : Cq) (g : KqG) (R : List SP) (w : World) (e : Ending) (w' : World) : Prop :=
  ∃ (a : Option Addr) (c : Nat), Ret (.slice a s.R.L.length c) (slc 40 10 a s.R.L.length c (flat (accC s) s.R.L) :: KqT P S b num den reb s g :: P :: S :: R) w e w'
theorem tag_at {el tg : List (Int × Int)} {tm now : Int} {tags : List Int} (h : CsRel el tg tm tags now) {q : Nat} (hq : q < 32) : tags[q]? = some (tget tg (q : Int)) := by
  have := h.tag (q : Int)
  rw [if_pos ⟨by omega, by omega⟩, Int.toNat_natCast] at this
  rw [this, List.getD_eq_getElem?_getD]
  obtain ⟨x, hx⟩ : ∃ x, tags[q]? = some x := ⟨_, List.getElem?_eq_getElem (by rw [h.len]; exact hq)⟩
  rw [hx]; rfl
set_option maxHeartbeats 6400000 in
set_option maxRecDepth 100000 in
theorem kqAcc_spec (h : KqRel N s g) (hD : NOk s.D) (hf : s.D.map (·.f) = s.R.L.map (·.f)) (o : Own w (KqT P S b num den reb s g :: P :: S :: R)) :
    Calls Tryz.prog 12 #[.pointer (some ⟨b, 0, none⟩)] w (KaPost P S b num den reb s g R w) := by
  obtain ⟨rp, lp, cp, xp, o1⟩ := KqT.iff.1 o
  have hlen := h.r.ok.ok.len
  have hT : KaRel (KqC b num den reb rp lp cp xp g.cs :: RefT P rp reb s.R.L g.O s.R.tm s.R.aw :: LedR P lp s.D :: RefR S cp reb s.C.el g.tC s.C.tm :: RefR S xp reb s.X.el g.tX s.X.tm :: P :: S :: R) s.R.L s w (.slice none 0 0) (.int .i64 0) w := ⟨0, none, 0, rfl, rfl, Nat.zero_le _, Own.slc_nil o1, Calm.refl w⟩
  have hDl : s.D.length = s.R.L.length := by have := congrArg List.length hf; simpa using this
  have HDL := Lib.hid hDl
  clear o1 o hDl
  go_enter Tryz.func12, Tryz.ntmps12
  go_wp2
  go_loopw [3, 4] (fun v3 v4 wr => KaRel (KqC b num den reb rp lp cp xp g.cs :: RefT P rp reb s.R.L g.O s.R.tm s.R.aw :: LedR P lp s.D :: RefR S cp reb s.C.el g.tC s.C.tm :: RefR S xp reb s.X.el g.tX s.X.tm :: P :: S :: R) s.R.L s w v3 v4 wr) (fun _ v _ => s.R.L.length - (Lib.intOf v).toNat)
  case atStart => exact hT
  case round =>
    clear hT
    obtain ⟨i, a', c', rfl, rfl, hi, oR, kR⟩ := hrel
    have b3 := kq_ptr 3 (oR.up 1) (.inl ⟨rfl, rfl⟩)
    obtain ⟨a1, c1', a2, c2, hpu, oRf⟩ := RefT.iff.1 (oR.up 2)
    have e1 := oRf.cell 1
    by_cases hlt : i < s.R.L.length
    · obtain ⟨t, ht⟩ : ∃ t, s.R.L[i]? = some t := ⟨_, List.getElem?_eq_getElem hlt⟩
      obtain ⟨d, hd⟩ : ∃ d, s.D[i]? = some d := ⟨_, List.getElem?_eq_getElem (by rw [HDL.out]; exact hlt)⟩
      have hdf : d.f = t.f := by
        have := congrArg (fun l => l[i]?) hf
        simp only [List.getElem?_map, hd, ht] at this
        exact Option.some.inj this
      have hdl : lagO s.D t.f = d.s := by
        unfold lagO
        rw [← hdf, fget_memN hD (List.mem_of_getElem? hd)]; rfl
      have hrt := h.r.ok.ok.rng t (List.mem_of_getElem? ht)
      obtain ⟨q, hq⟩ : ∃ q : Nat, t.f = (q : Int) := ⟨t.f.toNat, by omega⟩
      have hq32 : q < 32 := by omega
      have b4 := kq_ptr 4 (oR.up 1) (.inr (.inl ⟨rfl, rfl⟩))
      have b5 := kq_ptr 5 (oR.up 1) (.inr (.inr (.inl ⟨rfl, rfl⟩)))
      have b6 := kq_ptr 6 (oR.up 1) (.inr (.inr (.inr ⟨rfl, rfl⟩)))
      obtain ⟨g', so, rfl, t0, t1, t2⟩ := hpu.1.1 _ _ (oR.up 6) i _ ht
      obtain ⟨al, cl', hpl, oL⟩ := LedR.iff.1 (oRf.up 3)
      have l0 := oL.cell 0
      obtain ⟨gl, sl, rfl, u0, u1, u2⟩ := hpl.1.1 _ _ (oR.up 6) i _ hd
      obtain ⟨ac, cc, hc1, hc2, oC⟩ := RefR.iff.1 (oL.up 4)
      obtain ⟨ax, cx, hx1, hx2, oX⟩ := RefR.iff.1 (oC.up 5)
      obtain ⟨p, hp⟩ : ∃ p, g.cs[q]? = some p := ⟨_, List.getElem?_eq_getElem (by rw [h.cl]; exact hq32)⟩
      have hpc : cntO s.n t.f = p := by
        rw [hq, ← h.cn q hq32, List.getD_eq_getElem?_getD, hp]; rfl
      have k0 := Own.cell (oR.up 1) (7 + (q * 2 + 0)) (v := .int .i64 p.1) (by rw [kq_cnt hp (by omega)]; rfl)
      have k1 := Own.cell (oR.up 1) (7 + (q * 2 + 1)) (v := .int .i64 p.2) (by rw [kq_cnt hp (by omega)]; rfl)
      rw [Nat.add_zero] at k0
      rw [show 7 + (q * 2 + 1) = 7 + q * 2 + 1 by omega] at k1
      have hxt := tag_at h.x hq32
      have hct := tag_at h.c hq32
      have HALL := Lib.hid (fun (w : World) (R : List SP) (o : Own w (cel xp 105 (refCells reb ax s.X.el.length cx g.tX s.X.tm) :: cel cp 105 (refCells reb ac s.C.el.length cc g.tC s.C.tm) :: cel lp 78 [.slice (some ⟨gl, sl, none⟩) s.D.length cl'] :: cel rp 46 [.int .i64 reb, .slice (some ⟨g', so, none⟩) s.R.L.length c1', .slice a2 g.O.length c2, .int .i64 s.R.tm, .int .i64 s.R.aw] :: KqC b num den reb rp lp cp xp g.cs :: P :: S :: R)) => show (w.cell? ⟨b, 3, none⟩ = some (.pointer (some ⟨rp, 0, none⟩)) ∧ w.cell? ⟨rp, 1, none⟩ = some (.slice (some ⟨g', so, none⟩) s.R.L.length c1') ∧ w.cell? ⟨g', so + i * 3 + 1, none⟩ = some (.int .i64 t.w) ∧ w.cell? ⟨b, 4, none⟩ = some (.pointer (some ⟨lp, 0, none⟩)) ∧ w.cell? ⟨lp, 0, none⟩ = some (.slice (some ⟨gl, sl, none⟩) s.D.length cl') ∧ w.cell? ⟨gl, sl + i * 3 + 2, none⟩ = some (.int .i64 d.s) ∧ w.cell? ⟨g', so + i * 3 + 2, none⟩ = some (.int .i64 t.s) ∧ w.cell? ⟨b, 7 + q * 2, none⟩ = some (.int .i64 p.1) ∧ w.cell? ⟨b, 7 + q * 2 + 1, none⟩ = some (.int .i64 p.2) ∧ w.cell? ⟨b, 5, none⟩ = some (.pointer (some ⟨cp, 0, none⟩)) ∧ w.cell? ⟨cp, 2 + q, none⟩ = some (.int .i64 (tget s.C.tg (q : Int))) ∧ w.cell? ⟨b, 6, none⟩ = some (.pointer (some ⟨xp, 0, none⟩)) ∧ w.cell? ⟨xp, 2 + q, none⟩ = some (.int .i64 (tget s.X.tg (q : Int)))) from by
        obtain ⟨g2, so2, hg2, v0, v1, v2⟩ := hpu.1.1 _ _ (o.up 5) i _ ht
        cases hg2
        obtain ⟨g3, so3, hg3, w0, w1, w2⟩ := hpl.1.1 _ _ (o.up 5) i _ hd
        cases hg3
        have k0 := Own.cell (o.up 4) (7 + (q * 2 + 0)) (v := .int .i64 p.1) (by rw [kq_cnt hp (by omega)]; rfl)
        have k1 := Own.cell (o.up 4) (7 + (q * 2 + 1)) (v := .int .i64 p.2) (by rw [kq_cnt hp (by omega)]; rfl)
        rw [Nat.add_zero] at k0
        rw [show 7 + (q * 2 + 1) = 7 + q * 2 + 1 by omega] at k1
        exact ⟨kq_ptr 3 (o.up 4) (.inl ⟨rfl, rfl⟩), (o.up 3).cell 1, v1, kq_ptr 4 (o.up 4) (.inr (.inl ⟨rfl, rfl⟩)), (o.up 2).cell 0, w2, v2, k0, k1, kq_ptr 5 (o.up 4) (.inr (.inr (.inl ⟨rfl, rfl⟩))), (o.up 1).cell (2 + q) (refCells_tag hct), kq_ptr 6 (o.up 4) (.inr (.inr (.inr ⟨rfl, rfl⟩))), o.cell (2 + q) (refCells_tag hxt)⟩)
      obtain ⟨_, _, _, _, _, _, _, _, _, _, x0, _, x1⟩ := HALL.out _ _ (oX.re [0, 1, 2, 3, 5, 6, 7])
      have htk : s.R.L.take (i + 1) = s.R.L.take i ++ [t] := by rw [List.take_add_one, ht]; rfl
      have hac : accC s t = [.int .i64 (q : Int), .int .i64 t.w, .int .i64 d.s, .int .i64 t.s, .int .i64 p.1, .int .i64 p.2, .int .i64 (tget s.C.tg (q : Int)), .int .i64 (tget s.X.tg (q : Int)), .int .i64 0, .int .i64 0] := by
        unfold accC
        rw [hdl, hpc, hq]
      have HAC := Lib.hid (show flat (accC s) (s.R.L.take i) ++ [.int .i64 (q : Int), .int .i64 t.w, .int .i64 d.s, .int .i64 t.s, .int .i64 p.1, .int .i64 p.2, .int .i64 (tget s.C.tg (q : Int)), .int .i64 (tget s.X.tg (q : Int)), .int .i64 0, .int .i64 0] = flat (accC s) (s.R.L.take (i + 1)) from by
        rw [htk, flat_append, ← hac]; show _ = _ ++ (accC s t ++ []); rw [List.append_nil])
      rw [hq] at t0
      have HPU := Lib.hid hpu
      have HPL := Lib.hid hpl
      have HC := Lib.hid (And.intro hc1 hc2)
      have HX := Lib.hid (And.intro hx1 hx2)
      clear htk hac hpc hdl hdf hp hd ht hrt hq hpl hpu oL oC hc1 hc2 hx1 hx2 hxt hct
      obtain ⟨y1, y2⟩ := p
      dsimp only at k0 k1 HAC HALL
      generalize tget s.C.tg (q : Int) = z1 at *
      generalize tget s.X.tg (q : Int) = z2 at *
      obtain ⟨tf, tw, ts⟩ := t
      obtain ⟨df, dw, ds⟩ := d
      dsimp only at t0 t1 t2 u0 u1 u2 HAC HALL
      have oA := (oX.alloc (.cells #[.int .i64 (q : Int), .int .i64 tw, .int .i64 ds, .int .i64 ts, .int .i64 y1, .int .i64 y2, .int .i64 z1, .int .i64 z2, .int .i64 0, .int .i64 0] 40)).drew
      have hnw := Own.news (T := 40) oA
      have hi32 : i ≤ 32 := by omega
      have hiD : i < s.D.length := by rw [HDL.out]; exact hlt
      have hq1 : (q : Int) < 32 := by omega
      have hq0 : (0 : Int) ≤ (q : Int) := by omega
      have lb := (oX.up 5).celLt
      have lr := (oX.up 3).celLt
      have ll := (oX.up 2).celLt
      have lc := (oX.up 1).celLt
      have lx := oX.celLt
      go_upto_region 6 with fail
      go_region_held3 (fun w' => w'.cell? ⟨b, 3, none⟩ = some (.pointer (some ⟨rp, 0, none⟩)) ∧ w'.cell? ⟨rp, 1, none⟩ = some (.slice (some ⟨g', so, none⟩) s.R.L.length c1') ∧ w'.cell? ⟨g', so + i * 3 + 1, none⟩ = some (.int .i64 tw) ∧ w'.cell? ⟨b, 4, none⟩ = some (.pointer (some ⟨lp, 0, none⟩)) ∧ w'.cell? ⟨lp, 0, none⟩ = some (.slice (some ⟨gl, sl, none⟩) s.D.length cl') ∧ w'.cell? ⟨gl, sl + i * 3 + 2, none⟩ = some (.int .i64 ds) ∧ w'.cell? ⟨g', so + i * 3 + 2, none⟩ = some (.int .i64 ts) ∧ w'.cell? ⟨b, 7 + q * 2, none⟩ = some (.int .i64 y1) ∧ w'.cell? ⟨b, 7 + q * 2 + 1, none⟩ = some (.int .i64 y2) ∧ w'.cell? ⟨b, 5, none⟩ = some (.pointer (some ⟨cp, 0, none⟩)) ∧ w'.cell? ⟨cp, 2 + q, none⟩ = some (.int .i64 z1) ∧ w'.cell? ⟨b, 6, none⟩ = some (.pointer (some ⟨xp, 0, none⟩)) ∧ w'.cell? ⟨xp, 2 + q, none⟩ = some (.int .i64 z2)) (go_keep) (first
        | (refine step_append_src rfl _ _ rfl Tryz.accT rfl (oA.up 5) rfl ⟨_, _, rfl, rfl, by intro u hu; simp only [List.mem_cons, List.not_mem_nil, or_false] at hu; rcases hu with rfl | rfl | rfl | rfl | rfl | rfl | rfl | rfl | rfl | rfl <;> rfl, .inr ⟨_, rfl, hnw⟩⟩ (by unfold maxLen; omega) (by omega) ?_; intro aa cc5 w5 o5 k5; obtain ⟨m1, m2, m3, m4, m5, m6, m7, m8, m9, m10, m11, m12, m13⟩ := HALL.out _ _ (o5.re [0, 1] 2)))
      rw [HAC.out] at o5
      have K5 := (qcalm_drew (qcalm_alloc (x := .cells #[.int .i64 (q : Int), .int .i64 tw, .int .i64 ds, .int .i64 ts, .int .i64 y1, .int .i64 y2, .int .i64 z1, .int .i64 z2, .int .i64 0, .int .i64 0] 40) kR)).trans k5
      go_wp2
      go_roundw
      case rel =>
        have o6 := o5.re [1] 1
        have oX2 : Own _ (RefR S xp reb s.X.el g.tX s.X.tm :: _) := RefR.iff.2 ⟨_, _, HX.out.1, HX.out.2, o6.re [1]⟩
        have oC2 : Own _ (RefR S cp reb s.C.el g.tC s.C.tm :: _) := RefR.iff.2 ⟨_, _, HC.out.1, HC.out.2, oX2.re [2]⟩
        have oL2 : Own _ (LedR P lp s.D :: _) := LedR.iff.2 ⟨_, _, HPL.out, oC2.re [3]⟩
        have oT2 : Own _ (RefT P rp reb s.R.L g.O s.R.tm s.R.aw :: _) := RefT.iff.2 ⟨_, _, _, _, HPU.out, oL2.re [4]⟩
        exact ⟨i + 1, aa, cc5, by go_num, rfl, by omega, oT2.re [4, 5, 0, 1, 2, 3], K5⟩
      case measure => simp [Lib.intOf]; omega
    · have hin : i = s.R.L.length := by omega
      rw [hin, List.take_length] at oR
      have HIN := Lib.hid hin
      clear hpu oRf hin
      go_wp2
      go_ret
      refine ⟨a', c', by rw [← HIN.out]; rfl, ?_, kR⟩
      exact (KqT.iff.2 ⟨rp, lp, cp, xp, oR.re [1, 2, 3, 4, 5]⟩).re [1, 0]
end
end Go.Proofs.YtjpahfkchhnpoaaGreat
