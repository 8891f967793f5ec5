/- Parts of the proof, in this order: regions of stones; Regions of stones; The examples of the document, by the mirrors, plain; SameInts of the reference; sample, short, few, SameLists; Furrows in memory; slices.ContainsFunc of furrows; ValidPattern of stones; What a furrow cuts, step by step, plain. -/
import Derived.WalkMore
import Derived.Deep.LoopGhost
import Derived.Laws.MakeOwn
import Derived.Test.YtimmadkbkimonaaGreatDoorKPsx3
set_option linter.unusedSimpArgs false
set_option linter.unusedVariables false
open List renaming getElem_toArray → lq0, getElem_cons_succ → lq1, getElem_cons_zero → lq2, setIfInBounds_toArray → lq3, set_cons_zero → lq4, set_cons_succ → lq5
namespace Go.Proofs.YtimmadkbkimonaaGreatDoor
set_option linter.unusedSimpArgs false
set_option linter.unusedVariables false
open Go.RowKit

theorem zDin {F : Fence} (hF : Wide F) {n id : Nat} {P : Program} {ops : Array Oper} {a : Act} {w W : World} {Q : Exit → Act → World → Prop} (S : World → Prop) (hQ : ¬ LetsOut (NoPanic Q)) (hnd : noDefer ops.toList = true) (hS : S W)
    (h : S W → wpAnyH P .any ops (NoPanic Q) S ops.size (Array.replicate ops.size false) a W) (hW : w.drew = W := by assumption) (hm : P.follows .mixedOrders = true := by kernel_rfl) : (Code.region id ops true).wpIn F n P Q a w := by
  subst hW
  exact wpIn_mono (wpIn_region_any hm (wpAnyIn_of_wpAny hF hQ hnd _ _ _ _ (wpAny_of_held _ _ _ _ (h hS)))) NoPanic.imp
theorem wpList_qapp {P : Program} {ops : Array Oper} {rest : List Oper} {op : Oper} {a : Act} {w w' : World} {Q : Exit → Act → World → Prop} (hgd : op.guard = none) (s x : Operand) (t : TypeId) (ho : op.op = .call { callee := .builtin .append, args := #[s, x], argTypes := #[t, t] }) (v1 v2 v : Value)
    (hs : a.eval s = v1) (hx : a.eval x = v2) (hr : (Builtin.append_ #[t, t] op.type #[v1, v2]).run P w = .ok v w') (h : wpList P ops Q rest (a.put op.dst v) w') : wpList P ops Q (op :: rest) a w :=
  wpList_plain hgd fun _ hK => qappend s x t ho v1 v2 v hs hx hr (hK _ _ h)
structure OutAt (w : World) (ds : List Deferred) (p m b y : Nat) (f : FaceV) (a : Option Addr) (n i nm : Nat) (W : World) : Prop where
  bel : Below w.heap.size w W
  hp : W.heap[p]? = some (.cells (f.cells a n) 28 (0, 0))
  hm : W.heap[m]? = some (.cells #[.map (some b)] 115 (0, 0))
  hy : W.heap[y]? = some (.cells #[.int .i64 (regionsN f i).2] 3 (0, 0))
  mp : MapI W b nm (regionsN f i).1
  marks : Marks w.heap.size ds W
  num : nm + freeN f (regionsN f i).1 ≤ f.kinds.length
theorem OutAt.below {w W W' : World} {ds : List Deferred} {p m b y n i nm : Nat} {f : FaceV} {a : Option Addr} (h : OutAt w ds p m b y f a n i nm W) (hb : Below W.heap.size W W') : OutAt w ds p m b y f a n i nm W' :=
  ⟨h.bel.trans (hb.mono h.bel.size), qblk hb h.hp, qblk hb h.hm, qblk hb h.hy, h.mp.below hb, h.marks.below hb, h.num⟩
theorem regionsN_s (f : FaceV) (k : Nat) : regionsN f (k + 1) = regStepG (neighF f) f (regionsN f k) k := regionsN_succ _ _ _
theorem regionsN_le (f : FaceV) : ∀ k : Nat, 0 ≤ (regionsN f k).2 ∧ (regionsN f k).2 ≤ k
  | 0 => ⟨Int.le_refl _, Int.le_refl _⟩
  | k + 1 => by
    have := regionsN_le f k
    rw [regionsN_s]
    unfold regStepG
    split
    · omega
    · dsimp only; omega
def stF (f : FaceV) (i m : Int) (o : OfM) (ws ks : List Int) : OfM × List Int := ks.foldl (visitF f i m) (o, ws)
theorem stF_next (f : FaceV) (i m : Int) (o : OfM) (ws ks : List Int) (x : Int) : stF f i m o ws (ks ++ [x]) = visitF f i m (stF f i m o ws ks) x := by unfold stF; rw [List.foldl_append]; rfl
theorem flood_nil (nb : Int → List Int) (f : FaceV) (i m : Int) (o : OfM) : ∀ k, floodG nb f i m k (o, []) = o
  | 0 => rfl
  | k + 1 => rfl
theorem stF_len (f : FaceV) (i m : Int) : ∀ (ks : List Int) (o : OfM) (ws : List Int), (stF f i m o ws ks).2.length ≤ ws.length + ks.length
  | [], o, ws => Nat.le_refl _
  | x :: ks, o, ws => by
    have h1 : (visitF f i m (o, ws) x).2.length ≤ ws.length + 1 := by
      unfold visitF
      split
      · simp
      · exact Nat.le_succ _
    have h2 := stF_len f i m ks (visitF f i m (o, ws) x).1 (visitF f i m (o, ws) x).2
    have e : stF f i m o ws (x :: ks) = stF f i m (visitF f i m (o, ws) x).1 (visitF f i m (o, ws) x).2 ks := rfl
    rw [e, List.length_cons]
    omega
theorem flood_cons (nb : Int → List Int) (f : FaceV) (i m : Int) (o : OfM) (ws : List Int) (x : Int) (k : Nat) : floodG nb f i m (k + 1) (o, ws ++ [x]) = floodG nb f i m k ((nb x).foldl (visitF f i m) (o, ws)) := by
  have h1 : ((o, ws ++ [x]) : OfM × List Int).2.getLast? = some x := by simp
  have h2 : ((o, ws ++ [x]) : OfM × List Int).2.dropLast = ws := by simp
  conv => lhs; unfold floodG
  rw [h1, h2]
def FlCon (w : World) (ds : List Deferred) (p m b y c6 c9 : Nat) (f : FaceV) (a : Option Addr) (n : Nat) (i many : Int) (o : OfM) (ws : List Int) (g : Nat) (ks : List Int) (W : World) : Prop :=
  ∃ nm wa wc, FlAt w ds p m b y c6 c9 f a n i many nm (stF f i many o ws ks).1 (stF f i many o ws ks).2 wa wc W ∧ nm + freeN f (stF f i many o ws ks).1 ≤ f.kinds.length ∧ Value.ownBlock (.slice wa (stF f i many o ws ks).2.length wc) ≠ some g ∧ g < W.heap.size
theorem FlCon.put {w W : World} {ds : List Deferred} {p m b y c6 c9 n r : Nat} {f : FaceV} {a : Option Addr} {i many : Int} {o : OfM} {ws : List Int} {g : Nat} {ks : List Int} {ob : Obj} (h : FlCon w ds p m b y c6 c9 f a n i many o ws g ks W) (hl : ∃ l, W.heap[r]? = some (.loop l)) (hr : w.heap.size ≤ r) : FlCon w ds p m b y c6 c9 f a n i many o ws g ks (W.putObj r ob) := by
  obtain ⟨nm, wa, wc, h1, h2, h3, h4⟩ := h
  exact ⟨nm, wa, wc, h1.put hl hr, h2, h3, Nat.lt_of_lt_of_le h4 (grownBy_putObj' W r ob).size⟩
set_option maxHeartbeats 4000000 in
set_option maxRecDepth 100000 in
theorem regions_any (f : FaceV) (a : Option Addr) (n : Nat) (w : World) (hv : f.valid = true) (hr : RdI w a f.kinds.length n f.kinds) :
    Calls Tryz.prog 93 #[.agg (f.cells a n)] w fun e w' => (∃ b nm, e = .returned (.tuple #[.map (some b), .int .i64 (regionsF f).2]) ∧ MapI w' b nm (regionsF f).1) ∧ Below w.heap.size w w' := by
  have HR := Lib.hid (fun W (hb : Below w.heap.size w W) => hr.below hb)
  have HV := Lib.hid hv
  have IV := Lib.hid (FaceV.int hv)
  have LL := Lib.hid (FaceV.len_le hv)
  clear hr hv
  have AL := Lib.hid (al1 w (.cells (f.cells a n) 28))
  have hmm := @run_makeMap Tryz.prog
  refine (callsIn_wide (n := 4)).1 ?_
  refine callsIn_of_wp_marks Tryz.func93 rfl trivial ?_
  simp only [Tryz.ntmps93, List.size_toArray, List.length_cons, List.length_nil, Nat.reduceAdd, Nat.reduceSub, Array.replicate_succ, Array.replicate_zero, List.push_toArray, List.append_toArray, List.nil_append, List.cons_append]
  refine wpIn_wide.2 ?_
  go_upto_region 1 with fail
  obtain ⟨p, hp⟩ : ∃ p, Hid (w.heap.size = p) := ⟨_, Lib.hid rfl⟩
  rw [hp.out] at AL ⊢
  generalize (w.alloc (.cells (f.cells a n) 28)) = W0 at *
  have BF : Hid (Below w.heap.size w W0) := Lib.hid (by rw [hp.out]; exact AL.out.1)
  have XF : Hid (W0.heap[p]? = some (.cells (f.cells a n) 28 (0, 0))) := Lib.hid AL.out.2
  clear AL
  have c0 := qcell XF.out 0 (.int .i64 f.eye) rfl
  have c1 := qcell XF.out 1 (.int .i64 f.rings) rfl
  have c2 := qcell XF.out 2 (.int .i64 f.sectors) rfl
  have c3 := qcell XF.out 3 (.slice a f.kinds.length n) rfl
  go_step3
  go_upto_region 3 with fail
  clear c0 c1 c2 c3
  have AL := al3 W0 (.map #[] 0) (.cells #[.map (some W0.heap.size)] 115) (.cells #[.int .i64 0] 3)
  have MP := Lib.hid (((MapI.made W0).below (zB _ (.cells #[.map (some W0.heap.size)] 115))).below (zB _ (.cells #[.int .i64 0] 3)))
  have PB : Hid (p < W0.heap.size) := Lib.hid (qlt XF.out)
  have B0 := Lib.hid BF.out
  replace BF := Lib.hid (BF.out.trans (AL.1.mono BF.out.size))
  replace XF := Lib.hid (qblk AL.1 XF.out)
  have XM := Lib.hid AL.2.2.1
  have XY := Lib.hid AL.2.2.2
  clear AL
  obtain ⟨b, hb⟩ : ∃ b, Hid (W0.heap.size = b) := ⟨_, Lib.hid rfl⟩
  obtain ⟨m, hm⟩ : ∃ m, Hid (W0.heap.size + 1 = m) := ⟨_, Lib.hid rfl⟩
  obtain ⟨y, hy⟩ : ∃ y, Hid (W0.heap.size + 1 + 1 = y) := ⟨_, Lib.hid rfl⟩
  rw [show W0.heap.size + 2 = W0.heap.size + 1 + 1 from rfl] at XY
  rw [hy.out] at XY ⊢
  rw [hm.out] at XM ⊢
  rw [hb.out] at MP XM XF BF XY PB ⊢
  generalize ((W0.alloc (.map #[] 0)).alloc (.cells #[.map (some b)] 115)).alloc (.cells #[.int .i64 0] 3) = W1 at *
  have c3 := qcell XF.out 3 (.slice a f.kinds.length n) rfl
  go_step3
  go_wp2_with fail
  clear c3
  have GE : Hid (w.heap.size ≤ b ∧ w.heap.size ≤ y ∧ p < w.heap.size + 1 ∧ w.heap.size + 1 ≤ b ∧ b + 1 = m ∧ b + 2 = y) := Lib.hid (by have h1 := PB.out; have h2 := hb.out; have h3 := hm.out; have h4 := hy.out; have h5 := hp.out; omega)
  clear hmm
  have O0 : Hid (OutAt w [] p m b y f a n 0 0 W1) := Lib.hid ⟨BF.out, XF.out, XM.out, XY.out, MP.out, ⟨List.Pairwise.nil, fun d hd => by cases hd⟩, by rw [Nat.zero_add]; exact free_le _⟩
  clear BF XF XM XY MP B0
  refine wp_loop_ghost_k (fun k A W => ∃ (i nm : Nat), (k = f.kinds.length - i ∧ i ≤ f.kinds.length ∧ Hid (OutAt w A.defers p m b y f a n i nm W)) ∧ A.tmps = #[.agg (f.cells a n), .pointer (some ⟨p, 0, none⟩), .map none, .int .i64 0, .pointer (some ⟨m, 0, none⟩), .pointer (some ⟨y, 0, none⟩), A.tmps.getD 6 undef, A.tmps.getD 7 undef, A.tmps.getD 8 undef, A.tmps.getD 9 undef, A.tmps.getD 10 undef, A.tmps.getD 11 undef, A.tmps.getD 12 undef, A.tmps.getD 13 undef, .map (some b), .pointer (some ⟨p, 3, none⟩), .slice a f.kinds.length n, .int .i64 (f.kinds.length : Nat), .int .i64 (i : Nat), A.tmps.getD 19 undef, A.tmps.getD 20 undef, A.tmps.getD 21 undef, A.tmps.getD 22 undef, A.tmps.getD 23 undef, A.tmps.getD 24 undef, A.tmps.getD 25 undef, A.tmps.getD 26 undef, A.tmps.getD 27 undef, A.tmps.getD 28 undef, A.tmps.getD 29 undef, A.tmps.getD 30 undef, A.tmps.getD 31 undef, A.tmps.getD 32 undef, A.tmps.getD 33 undef, A.tmps.getD 34 undef, A.tmps.getD 35 undef, A.tmps.getD 36 undef, A.tmps.getD 37 undef, A.tmps.getD 38 undef, A.tmps.getD 39 undef, A.tmps.getD 40 undef, A.tmps.getD 41 undef, A.tmps.getD 42 undef, A.tmps.getD 43 undef, A.tmps.getD 44 undef, A.tmps.getD 45 undef, A.tmps.getD 46 undef, A.tmps.getD 47 undef, A.tmps.getD 48 undef, A.tmps.getD 49 undef, A.tmps.getD 50 undef, A.tmps.getD 51 undef, A.tmps.getD 52 undef, A.tmps.getD 53 undef, A.tmps.getD 54 undef, A.tmps.getD 55 undef, A.tmps.getD 56 undef, A.tmps.getD 57 undef, A.tmps.getD 58 undef, A.tmps.getD 59 undef, A.tmps.getD 60 undef, A.tmps.getD 61 undef, A.tmps.getD 62 undef, A.tmps.getD 63 undef, A.tmps.getD 64 undef, A.tmps.getD 65 undef, A.tmps.getD 66 undef, A.tmps.getD 67 undef, A.tmps.getD 68 undef, A.tmps.getD 69 undef, A.tmps.getD 70 undef, A.tmps.getD 71 undef, A.tmps.getD 72 undef, A.tmps.getD 73 undef, A.tmps.getD 74 undef, A.tmps.getD 75 undef, A.tmps.getD 76 undef, A.tmps.getD 77 undef, A.tmps.getD 78 undef, A.tmps.getD 79 undef, A.tmps.getD 80 undef, A.tmps.getD 81 undef, A.tmps.getD 82 undef, A.tmps.getD 83 undef, A.tmps.getD 84 undef, undef, undef]) f.kinds.length ?_ ?_
  · exact ⟨0, 0, ⟨rfl, Nat.zero_le _, O0⟩, rfl⟩
  intro gk A wr hinv
  obtain ⟨i, nm, ⟨rfl, hi, OA⟩, hA⟩ := hinv
  obtain ⟨T, ds⟩ := A
  dsimp only at hA OA
  obtain ⟨U, hU⟩ : ∃ U : Nat → Value, U = fun k => T.getD k undef := ⟨_, rfl⟩
  have hA2 : T = #[.agg (f.cells a n), .pointer (some ⟨p, 0, none⟩), .map none, .int .i64 0, .pointer (some ⟨m, 0, none⟩), .pointer (some ⟨y, 0, none⟩), U 6, U 7, U 8, U 9, U 10, U 11, U 12, U 13, .map (some b), .pointer (some ⟨p, 3, none⟩), .slice a f.kinds.length n, .int .i64 (f.kinds.length : Nat), .int .i64 (i : Nat), U 19, U 20, U 21, U 22, U 23, U 24, U 25, U 26, U 27, U 28, U 29, U 30, U 31, U 32, U 33, U 34, U 35, U 36, U 37, U 38, U 39, U 40, U 41, U 42, U 43, U 44, U 45, U 46, U 47, U 48, U 49, U 50, U 51, U 52, U 53, U 54, U 55, U 56, U 57, U 58, U 59, U 60, U 61, U 62, U 63, U 64, U 65, U 66, U 67, U 68, U 69, U 70, U 71, U 72, U 73, U 74, U 75, U 76, U 77, U 78, U 79, U 80, U 81, U 82, U 83, U 84, undef, undef] := by rw [hU]; exact hA
  clear hA hU
  subst hA2
  intro J K hJ hK
  clear O0
  dsimp only
  by_cases hil : i < f.kinds.length
  · have t0 : decide ((i : Int) < (f.kinds.length : Int)) = true := by simp; omega
    have I6 : Hid (I64q (i : Int)) := Lib.hid (by have := LL.out; unfold I64q; omega)
    have IL : Hid (i < f.kinds.length) := Lib.hid hil
    go_upto_region 6 with fail
    clear t0
    have AL := al1 wr (.cells #[.int .i64 (i : Int)] 3)
    have OB := Lib.hid (OA.out.below AL.1)
    have XI := Lib.hid AL.2
    obtain ⟨c6, h6⟩ : ∃ c6, Hid (wr.heap.size = c6) := ⟨_, Lib.hid rfl⟩
    have C6 : Hid (c6 ≠ y ∧ c6 ≠ b ∧ w.heap.size ≤ c6) := Lib.hid (by have h1 := qlt OA.out.hy; have h2 := OA.out.mp.lt; have h3 := h6.out; have h4 := OA.out.bel.size; omega)
    rw [h6.out] at XI ⊢
    clear AL OA
    generalize wr.alloc (.cells #[.int .i64 (i : Int)] 3) = V1 at *
    have hget := run_getok_q OB.out.mp Tryz.underlying115 I6.out
    have cm := qcell OB.out.hm 0 (.map (some b)) rfl
    have ci := qcell XI.out 0 (.int .i64 (i : Int)) rfl
    cases hs : (regionsN f i).1 (i : Int)
    case some r =>
      rw [hs] at hget
      dsimp only [Option.getD, Option.isSome] at hget
      have HS := Lib.hid hs
      clear hs
      have e1 : wrap64 ((i : Int) + 1) = (i : Int) + 1 := by have := LL.out; have := IL.out; unfold wrap64; omega
      go_wp2_with fail
      refine Handed.intro (f.kinds.length - (i + 1)) (by have := IL.out; omega) (hJ _ _ _ ?_)
      have ER : Hid (regionsN f (i + 1) = regionsN f i) := Lib.hid (by rw [regionsN_s]; unfold regStepG; rw [if_pos (by rw [HS.out]; rfl)])
      refine ⟨i + 1, nm, ⟨rfl, by have := IL.out; omega, ?_⟩, rfl⟩
      · have h := OB.out
        exact Lib.hid ⟨h.bel, h.hp, h.hm, by rw [ER.out]; exact h.hy, by rw [ER.out]; exact h.mp, h.marks, by rw [ER.out]; exact h.num⟩
    case none =>
      rw [hs] at hget
      dsimp only [Option.getD, Option.isSome] at hget
      have HS := Lib.hid hs
      clear hs
      obtain ⟨M, hM⟩ : ∃ M, Hid ((regionsN f i).2 = M) := ⟨_, Lib.hid rfl⟩
      obtain ⟨o0, ho0⟩ : ∃ o0, Hid ((regionsN f i).1 = o0) := ⟨_, Lib.hid rfl⟩
      have RK := Lib.hid (regionsN_spec HV.out i hi)
      have ML := Lib.hid (regionsN_le f i)
      rw [hM.out] at RK ML
      rw [ho0.out] at RK HS
      have MP0 := Lib.hid OB.out.mp
      have MY0 := Lib.hid OB.out.hy
      have NB0 := Lib.hid OB.out.num
      rw [ho0.out] at MP0 NB0
      rw [hM.out] at MY0
      have cy := qcell MY0.out 0 (.int .i64 M) rfl
      have HIN : Hid (InF f (i : Int)) := Lib.hid ⟨by omega, by have := IL.out; omega⟩
      go_upto_region 9 with (first
        | (refine wpList_put_q _ rfl _ _ _ 115 rfl Tryz.underlying115 b nm i M rfl MP0.out (by have h1 := NB0.out; have h2 := LL.out; unfold maxLen; omega) rfl I6.out rfl ?_; intro V2 hm2 hg2)
        | fail)
      clear hget cm ci cy
      obtain ⟨es, ck, hbb⟩ := MP0.out.blk
      have ne : ∀ {k : Nat} {A : Array Value} {t : TypeId} {fr : Nat × Nat}, V1.heap[k]? = some (.cells A t fr) → some k ≠ some b := fun hk e => by
        rw [Option.some.inj e, hbb] at hk
        cases hk
      have F2 := Lib.hid (show Below w.heap.size w V2 ∧ V2.heap[p]? = some (.cells (f.cells a n) 28 (0, 0)) ∧ V2.heap[m]? = some (.cells #[.map (some b)] 115 (0, 0)) ∧ V2.heap[y]? = some (.cells #[.int .i64 M] 3 (0, 0)) ∧ V2.heap[c6]? = some (.cells #[.int .i64 (i : Int)] 3 (0, 0)) ∧ Marks w.heap.size ds V2 ∧ MapI V2 b (nm + 1) (updM o0 i M) from
        ⟨qstep OB.out.bel hg2 GE.out.1, qgrown hg2 OB.out.hp (ne OB.out.hp), qgrown hg2 OB.out.hm (ne OB.out.hm), qgrown hg2 MY0.out (ne MY0.out), qgrown hg2 XI.out (ne XI.out), OB.out.marks.step hg2 (fun r e h1 => by cases e; rw [hbb] at h1; cases h1), hm2⟩)
      clear ne hbb hm2 hg2 MP0 MY0 XI OB
      have ci := qcell F2.out.2.2.2.2.1 0 (.int .i64 (i : Int)) rfl
      go_wp2_with fail
      clear ci
      have AL := al2 V2 (.cells #[.int .i64 (i : Int)] 3) (.cells #[.slice (some ⟨V2.heap.size, 0, none⟩) 1 1] 26)
      have OWL := World.ownsRow_lit (base := w.heap.size) (e := 3) (size := 1) V2 #[.int .i64 (i : Int)] 1 F2.out.1.size (by unfold maxLen; omega) rfl
      obtain ⟨c9, h9⟩ : ∃ c9, Hid (V2.heap.size + 1 = c9) := ⟨_, Lib.hid rfl⟩
      have XK := Lib.hid AL.2.2
      have FA := Lib.hid (show FlAt w ds p m b y c6 c9 f a n i M (nm + 1) (updM o0 i M) [(i : Int)] (some ⟨V2.heap.size, 0, none⟩) 1 ((V2.alloc (.cells #[.int .i64 (i : Int)] 3)).alloc (.cells #[.slice (some ⟨V2.heap.size, 0, none⟩) 1 1] 26)) from
        ⟨F2.out.1.trans (AL.1.mono F2.out.1.size), qblk AL.1 F2.out.2.1, qblk AL.1 F2.out.2.2.1, qblk AL.1 F2.out.2.2.2.1, qblk AL.1 F2.out.2.2.2.2.1, by rw [← h9.out]; exact XK.out, own_below OWL (zB _ _), F2.out.2.2.2.2.2.2.below AL.1,
         fun e => by have h1 := qlt F2.out.2.2.2.1; have := Option.some.inj e; simp only at this; omega, fun e => by have h1 := qlt F2.out.2.2.2.2.1; have := Option.some.inj e; simp only at this; omega, F2.out.2.2.2.2.2.1.below AL.1, ⟨GE.out.1, GE.out.2.1, by have h1 := F2.out.1.size; have h2 := h9.out; omega⟩⟩)
      rw [h9.out]
      clear AL OWL XK F2
      generalize (V2.alloc (.cells #[.int .i64 (i : Int)] 3)).alloc (.cells #[.slice (some ⟨V2.heap.size, 0, none⟩) 1 1] 26) = V3 at *
      generalize (some ⟨V2.heap.size, 0, none⟩ : Option Addr) = wa0 at *
      obtain ⟨T, hT⟩ : ∃ T, Hid (floodF f i M (f.kinds.length + 1) (updM o0 i M, [(i : Int)]) = T) := ⟨_, Lib.hid rfl⟩
      have HT := Lib.hid hT.out
      have FI := Lib.hid (FlI.start (f := f) RK.out.rg HIN.out HS.out (i := (i : Int)) (m := M))
      have FN := Lib.hid (free_upd (f := f) (m := M) HIN.out HS.out)
      refine wp_loop_ghost_k (fun k A W => ∃ (c9 nm : Nat) (o : OfM) (work : List Int) (wa : Option Addr) (wc : Nat), (Hid (FlAt w A.defers p m b y c6 c9 f a n i M nm o work wa wc W) ∧ Hid (FlI f o0 i M o work (fun _ => False)) ∧ Hid (floodF f i M k (o, work) = T) ∧ freeN f o + work.length ≤ k ∧ nm + freeN f o ≤ f.kinds.length ∧ k ≤ f.kinds.length + 1) ∧ A.tmps = #[.agg (f.cells a n), .pointer (some ⟨p, 0, none⟩), .map none, .int .i64 0, .pointer (some ⟨m, 0, none⟩), .pointer (some ⟨y, 0, none⟩), .pointer (some ⟨c6, 0, none⟩), A.tmps.getD 7 undef, A.tmps.getD 8 undef, .pointer (some ⟨c9, 0, none⟩), A.tmps.getD 10 undef, A.tmps.getD 11 undef, A.tmps.getD 12 undef, A.tmps.getD 13 undef, .map (some b), .pointer (some ⟨p, 3, none⟩), .slice a f.kinds.length n, .int .i64 (f.kinds.length : Nat), .int .i64 (i : Nat), A.tmps.getD 19 undef, A.tmps.getD 20 undef, A.tmps.getD 21 undef, A.tmps.getD 22 undef, A.tmps.getD 23 undef, A.tmps.getD 24 undef, A.tmps.getD 25 undef, A.tmps.getD 26 undef, A.tmps.getD 27 undef, A.tmps.getD 28 undef, A.tmps.getD 29 undef, A.tmps.getD 30 undef, A.tmps.getD 31 undef, A.tmps.getD 32 undef, A.tmps.getD 33 undef, A.tmps.getD 34 undef, A.tmps.getD 35 undef, A.tmps.getD 36 undef, A.tmps.getD 37 undef, A.tmps.getD 38 undef, A.tmps.getD 39 undef, A.tmps.getD 40 undef, A.tmps.getD 41 undef, A.tmps.getD 42 undef, A.tmps.getD 43 undef, A.tmps.getD 44 undef, A.tmps.getD 45 undef, A.tmps.getD 46 undef, A.tmps.getD 47 undef, A.tmps.getD 48 undef, A.tmps.getD 49 undef, A.tmps.getD 50 undef, A.tmps.getD 51 undef, A.tmps.getD 52 undef, A.tmps.getD 53 undef, A.tmps.getD 54 undef, A.tmps.getD 55 undef, A.tmps.getD 56 undef, A.tmps.getD 57 undef, A.tmps.getD 58 undef, A.tmps.getD 59 undef, A.tmps.getD 60 undef, A.tmps.getD 61 undef, A.tmps.getD 62 undef, A.tmps.getD 63 undef, A.tmps.getD 64 undef, A.tmps.getD 65 undef, A.tmps.getD 66 undef, A.tmps.getD 67 undef, A.tmps.getD 68 undef, A.tmps.getD 69 undef, A.tmps.getD 70 undef, A.tmps.getD 71 undef, A.tmps.getD 72 undef, A.tmps.getD 73 undef, A.tmps.getD 74 undef, A.tmps.getD 75 undef, A.tmps.getD 76 undef, A.tmps.getD 77 undef, A.tmps.getD 78 undef, A.tmps.getD 79 undef, A.tmps.getD 80 undef, A.tmps.getD 81 undef, A.tmps.getD 82 undef, A.tmps.getD 83 undef, A.tmps.getD 84 undef, undef, undef]) (f.kinds.length + 1) ?_ ?_
      · refine ⟨c9, nm + 1, updM o0 i M, [(i : Int)], wa0, 1, ⟨FA, FI, hT, ?_, ?_, Nat.le_refl _⟩, rfl⟩
        · have h1 := FN.out; have h2 := NB0.out; simp only [List.length_singleton]; omega
        · have h1 := FN.out; have h2 := NB0.out; omega
      intro gk2 A2 wr2 hinv2
      clear hT FA FI
      obtain ⟨c9, nm, o, work, wa, wc, ⟨FA, FI, FT, KM, NB, KB⟩, hA⟩ := hinv2
      obtain ⟨T2, ds⟩ := A2
      dsimp only at hA FA
      obtain ⟨U, hU⟩ : ∃ U : Nat → Value, U = fun k => T2.getD k undef := ⟨_, rfl⟩
      have hA2 : T2 = #[.agg (f.cells a n), .pointer (some ⟨p, 0, none⟩), .map none, .int .i64 0, .pointer (some ⟨m, 0, none⟩), .pointer (some ⟨y, 0, none⟩), .pointer (some ⟨c6, 0, none⟩), U 7, U 8, .pointer (some ⟨c9, 0, none⟩), U 10, U 11, U 12, U 13, .map (some b), .pointer (some ⟨p, 3, none⟩), .slice a f.kinds.length n, .int .i64 (f.kinds.length : Nat), .int .i64 (i : Nat), U 19, U 20, U 21, U 22, U 23, U 24, U 25, U 26, U 27, U 28, U 29, U 30, U 31, U 32, U 33, U 34, U 35, U 36, U 37, U 38, U 39, U 40, U 41, U 42, U 43, U 44, U 45, U 46, U 47, U 48, U 49, U 50, U 51, U 52, U 53, U 54, U 55, U 56, U 57, U 58, U 59, U 60, U 61, U 62, U 63, U 64, U 65, U 66, U 67, U 68, U 69, U 70, U 71, U 72, U 73, U 74, U 75, U 76, U 77, U 78, U 79, U 80, U 81, U 82, U 83, U 84, undef, undef] := by rw [hU]; exact hA
      clear hA hU
      subst hA2
      intro J2 K2 hJ2 hK2
      clear NB0 FN h9
      dsimp only
      rcases List.eq_nil_or_concat work with ew | ⟨ws, x, ew⟩
      · subst ew
        have ck := qcell FA.out.hk 0 (.slice wa 0 wc) rfl
        have cy := qcell FA.out.hy 0 (.int .i64 M) rfl
        have fz := qfroz FA.out.hy 0
        have e1 : wrap64 (M + 1) = M + 1 := by have h1 := ML.out; have := LL.out; have := IL.out; unfold wrap64; omega
        have e2 : wrap64 ((i : Int) + 1) = (i : Int) + 1 := by have := LL.out; have := IL.out; unfold wrap64; omega
        go_wp2_with fail
        have HG := qput_grown wr2 y 0 (.int .i64 (M + 1))
        have ER : Hid (regionsN f (i + 1) = (T, M + 1)) := Lib.hid (by
          rw [regionsN_s]
          unfold regStepG
          rw [if_neg (by rw [ho0.out, HS.out]; decide), ho0.out, hM.out]
          exact congrArg (fun x => (x, M + 1)) HT.out)
        have EO : Hid (o = T) := Lib.hid (by rw [← FT.out]; exact (flood_nil _ _ _ _ _ _).symm)
        refine Handed.intro (f.kinds.length - (i + 1)) (by have := IL.out; omega) (hJ _ _ _ ?_)
        refine ⟨i + 1, nm, ⟨rfl, by have := IL.out; omega, ?_⟩, rfl⟩
        · have h := FA.out
          have hyb : y ≠ b := by have := GE.out; omega
          refine Lib.hid ⟨qstep h.bel HG GE.out.2.1, qgrown HG h.hp (fun e => by have e3 := Option.some.inj e; have h1 := h.hp; rw [e3, h.hy] at h1; simp at h1), qgrown HG h.hm (fun e => by have e3 := Option.some.inj e; have := GE.out; omega), ?_, ?_, h.marks.step HG (fun r e h1 => by cases e; rw [h.hy] at h1; cases h1), ?_⟩
          · rw [qput_at h.hy 0 _, ER.out]; rfl
          · rw [ER.out, ← EO.out]
            exact h.mp.step HG (fun e => hyb e.symm)
          · rw [ER.out, ← EO.out]; exact NB
      · rw [List.concat_eq_append] at ew
        subst ew
        obtain ⟨-, g0, ewa, hcx, hwc⟩ := own_shrink FA.out.own
        subst ewa
        have el : (ws ++ [x]).length = ws.length + 1 := by simp
        have WB : Hid (ws.length + 1 ≤ 2305) := Lib.hid (by have := LL.out; omega)
        have HXI := Lib.hid (show InF f x ∧ Reach f i x by
          have hx := FI.out.wk x (List.mem_append_right _ (List.mem_singleton.2 rfl))
          rcases FI.out.new x M hx with h5 | h5
          · have := (RK.out.rg.inr x M h5).2.2; omega
          · exact h5.2.2)
        have ck := qcell FA.out.hk 0 (.slice (some ⟨g0, 0, none⟩) (ws ++ [x]).length wc) rfl
        rw [el] at ck
        have fz := qfroz FA.out.hk 0
        have KM2 := Lib.hid KM
        have NB2 := Lib.hid NB
        have KB2 := Lib.hid KB
        clear KM NB KB el
        have t1 : decide ((0 : Int) < (ws.length : Int) + 1) = true := decide_eq_true (by omega)
        have e5 : wrap64 (ws.length : Int) = ws.length := by have := WB.out; unfold wrap64; omega
        go_upto_region 13 with fail
        clear t1 e5 ck fz hcx
        have FP := Lib.hid FA.out.pop
        generalize wr2.setCell ⟨c9, 0, none⟩ (.slice (some ⟨g0, 0, none⟩) ws.length wc) = V4 at *
        go_wp2_with (first
          | (refine wpList_load_row rfl 28 _ rfl p rfl 28 (f.cells a n) (0, 0) _ FP.out.hp Tryz.underlying28 rfl (by exact qJF f a n) ?_)
          | fail)
        refine (neighbours_any f a n x V4).mono ?_
        rintro e V5 ⟨⟨pp, qq, rfl, hpp, hqq⟩, bb⟩
        have XP := Lib.hid hpp
        have XQ := Lib.hid hqq
        replace FP := Lib.hid (FP.out.below bb)
        clear hpp hqq bb FA
        go_wp2_with fail
        refine (wpIn_wide (n := 4)).1 ?_
        have VGE : Hid (w.heap.size ≤ V5.heap.size) := Lib.hid FP.out.bel.size
        have NN := Lib.hid (neigh_len HV.out x)
        obtain ⟨L, hL⟩ : ∃ L, Hid (neighF f x = L) := ⟨_, Lib.hid rfl⟩
        have LI : Hid (∀ z ∈ L, InF f z) := Lib.hid (fun z hz => by rw [← hL.out] at hz; exact (neigh_in HV.out HXI.out.1 hz).1)
        have N0 : Hid (∀ g W, V5.heap.size ≤ g → g < W.heap.size → Below V5.heap.size V5 W → FlCon w ds p m b y c6 c9 f a n i M o ws g [] W) := Lib.hid (fun g W h1 h2 hb => ⟨nm, some ⟨g0, 0, none⟩, wc, FP.out.below hb, NB2.out, fun e => by
          have h3 := (FP.out.own.lt _ rfl).2
          have := Option.some.inj e
          simp only at this h3
          omega, h2⟩)
        refine wp_range_own2 (n := 3) (σ := Nat × Nat × List Int × Int) (w := V5) (gf := 129) (lb := #[.pointer (some ⟨pp, 0, none⟩), .pointer (some ⟨qq, 0, none⟩)]) rfl (enters_of Tryz.func129 (by kernel_rfl) rfl)
          (fun s => #[.int .i64 s.2.2.2]) (fun _ => rfl) (fun s W => FlCon w ds p m b y c6 c9 f a n i M o ws s.1 s.2.2.1 W ∧ ItAt L s.1 s.2.1 W ∧ ∃ rest, L = s.2.2.1 ++ s.2.2.2 :: rest) (fun s W => FlCon w ds p m b y c6 c9 f a n i M o ws s.1 (s.2.2.1 ++ [s.2.2.2]) W ∧ ItAt L s.1 s.2.1 W)
          (fun s a₁ W => a₁ = { tmps := #[.agg (f.cells a n), .pointer (some ⟨p, 0, none⟩), .map none, .int .i64 0, .pointer (some ⟨m, 0, none⟩), .pointer (some ⟨y, 0, none⟩), .pointer (some ⟨c6, 0, none⟩), U 7, U 8, .pointer (some ⟨c9, 0, none⟩), .int .i64 x, .int .i64 s.2.2.2, U 12, U 13, .map (some b), .pointer (some ⟨p, 3, none⟩), .slice a f.kinds.length n, .int .i64 (f.kinds.length : Nat), .int .i64 (i : Nat), U 19, U 20, U 21, U 22, U 23, U 24, U 25, U 26, U 27, U 28, U 29, U 30, U 31, U 32, .slice (some ⟨g0, 0, none⟩) (ws.length + 1) wc, .int .i64 ((ws.length : Int) + 1), .bool true, .slice (some ⟨g0, 0, none⟩) (ws.length + 1) wc, .slice (some ⟨g0, 0, none⟩) (ws.length + 1) wc, .int .i64 ((ws.length : Int) + 1), .int .i64 (wrap64 (ws.length : Int)), .pointer (some ⟨g0, ws.length, none⟩), .int .i64 x, .slice (some ⟨g0, 0, none⟩) (ws.length + 1) wc, .slice (some ⟨g0, 0, none⟩) (ws.length + 1) wc, .int .i64 ((ws.length : Int) + 1), .int .i64 (wrap64 (ws.length : Int)), .slice (some ⟨g0, 0, none⟩) ws.length wc, .agg (f.cells a n), .int .i64 x, .func (.func 129) #[] #[.pointer (some ⟨pp, 0, none⟩), .pointer (some ⟨qq, 0, none⟩)], .int .i64 s.2.2.2, U 51, U 52, U 53, U 54, U 55, U 56, U 57, U 58, U 59, U 60, U 61, U 62, U 63, U 64, U 65, U 66, U 67, U 68, U 69, U 70, U 71, U 72, U 73, U 74, U 75, U 76, U 77, U 78, U 79, U 80, U 81, U 82, U 83, U 84, undef, undef], defers := [] } ∧ FlCon w ds p m b y c6 c9 f a n i M o ws s.1 s.2.2.1 W ∧ ItAt L s.1 s.2.1 W ∧ ∃ rest, L = s.2.2.1 ++ s.2.2.2 :: rest)
          (fun W => ∃ g, FlCon w ds p m b y c6 c9 f a n i M o ws g L W) ?hA' ?hB ?hD ?assign ?body ?iter ?done
        case hA' =>
          rintro s a₁ W ob ⟨rfl, h1, h2, h3⟩ hl
          exact ⟨rfl, h1.put hl (by have := VGE.out; omega), h2.put hl, h3⟩
        case hB =>
          rintro s W ob ⟨h1, h2⟩ hl
          exact ⟨h1.put hl (by have := VGE.out; omega), h2.put hl⟩
        case hD =>
          rintro W ob ⟨g, h1⟩ hl
          exact ⟨g, h1.put hl (by have := VGE.out; omega)⟩
        case assign =>
          rintro ⟨g, lc, ks, z⟩ W ⟨h1, h2, h3⟩
          have H1 := Lib.hid (And.intro h1 (And.intro h2 h3))
          clear h1 h2 h3
          dsimp only
          have hf : ∀ t : Array Value, (#[50].zip #[Value.int .i64 z]).foldl (fun t (p, v) => t.setIfInBounds p v) t = t.setIfInBounds 50 (.int .i64 z) := fun t => by simp
          rw [hf]
          simp only [List.setIfInBounds_toArray, List.set_cons_succ, List.set_cons_zero]
          clear hf
          refine wpIn_region_plain (qwide_round _) (qnot_lets (fun a w h => h)) ?hnd ?_
          case hnd => rfl
          go_wp2_with fail
          first | exact ⟨KeepsFrom.refl _ _, rfl, H1.out⟩ | exact ⟨KeepsFrom.refl _ _, H1.out⟩
        case body =>
          rintro ⟨g, lc, ks, z⟩ a₁ W ⟨rfl, h1, h2, rest, h3⟩
          have H2 := Lib.hid (show ItAt L g lc W from h2)
          replace h3 : L = ks ++ z :: rest := h3
          have HZ := Lib.hid (LI.out z (by rw [h3]; exact List.mem_append_right _ (List.mem_cons_self ..)))
          obtain ⟨zn, rfl⟩ : ∃ zn : Nat, z = zn := ⟨z.toNat, (Int.toNat_of_nonneg HZ.out.1).symm⟩
          have KL : Hid (ks.length < 4) := Lib.hid (by have := NN.out; rw [hL.out, h3, List.length_append, List.length_cons] at this; omega)
          obtain ⟨nm2, wa2, wc2, fa2, nb2, no2, gs2⟩ := h1
          have SL := Lib.hid (stF_len f i M ks o ws)
          have SN := Lib.hid (stF_next f i M o ws ks (zn : Int))
          obtain ⟨st, hst⟩ : ∃ st, Hid (stF f i M o ws ks = st) := ⟨_, Lib.hid rfl⟩
          dsimp only at fa2 nb2 no2 gs2
          rw [hst.out] at fa2 nb2 no2 SL SN
          obtain ⟨o2, wk⟩ := st
          dsimp only at fa2 nb2 no2 SL
          have FB := Lib.hid fa2
          have NB3 := Lib.hid nb2
          have NO2 := Lib.hid no2
          have GS2 := Lib.hid gs2
          clear h2 h3 fa2 nb2 no2 gs2
          have BT : Hid (stF f i M o ws (ks ++ [(zn : Int)]) = visitF f i M (o2, wk) zn) := SN
          dsimp only
          have ZB : Hid (I64q (zn : Int) ∧ zn < f.kinds.length) := Lib.hid (by have h1 := HZ.out; have h2 := LL.out; unfold InF at h1; unfold I64q; omega)
          apply wpIn_block
          refine wpIn_seq_k (fun K3 hK3 => ?_)
          refine wpIn_region_plain (qwide_round _) (qnot_lets (fun a w h => h)) ?hnd1 ?_
          case hnd1 => rfl
          have hget := run_getok_q FB.out.mp Tryz.underlying115 ZB.out.1
          have cm := qcell FB.out.hm 0 (.map (some b)) rfl
          obtain ⟨kb, hkb⟩ : ∃ kb, Hid ((o2 (zn : Int)).isSome = kb) := ⟨_, Lib.hid rfl⟩
          rw [hkb.out] at hget
          go_wp2_with fail
          clear hget cm
          refine wpIn_seq_k (fun K4 hK4 => ?_)
          have hd : Below W.heap.size W W.drew := (Below.refl _ _).drew
          replace FB := Lib.hid (FB.out.below hd)
          replace H2 := Lib.hid (H2.out.below hd)
          have KF := Lib.hid (show KeepsFrom V5.heap.size W W.drew from ⟨hd.size, fun k ob _ hk _ => qblk hd hk⟩)
          have GS3 : Hid (g < W.drew.heap.size) := Lib.hid (Nat.lt_of_lt_of_le GS2.out hd.size)
          clear hd GS2
          obtain ⟨W1, hW1⟩ : ∃ W1, W.drew = W1 := ⟨_, rfl⟩
          rw [hW1] at FB H2 KF GS3
          obtain ⟨b0, off, ha, _⟩ := (HR.out W1 FB.out.bel).get (FaceV.kat_at ZB.out.2)
          subst ha
          have RC : Hid (∀ j, j < f.kinds.length → ∀ W, Below w.heap.size w W → W.cell? ⟨b0, off + j, none⟩ = some (.int .i64 (f.kat j))) := Lib.hid (fun j hj W hb => by
            obtain ⟨b1, o1, e1, h1⟩ := (HR.out W hb).get (FaceV.kat_at hj)
            cases e1
            exact h1)
          refine zDin (qwide_round _) (fun W => Below w.heap.size w W ∧ W.heap[p]? = some (.cells (f.cells (some ⟨b0, off, none⟩) n) 28 (0, 0)) ∧ W.heap[c6]? = some (.cells #[.int .i64 (i : Int)] 3 (0, 0))) (qnot_lets (fun a w h => h)) rfl ⟨FB.out.bel, FB.out.hp, FB.out.hi⟩ (fun hHeld => ?_)
          clear hW1
          have FALSE : Hid (((o2 (zn : Int)).isNone && (landB f zn == landB f i)) = false → FlCon w ds p m b y c6 c9 f (some ⟨b0, off, none⟩) n i M o ws g (ks ++ [(zn : Int)]) W1) := Lib.hid (fun hv => by
            unfold FlCon
            rw [BT.out]
            unfold visitF
            rw [if_neg (by show ¬ ((o2 (zn : Int)).isNone && (landB f (zn : Int) == landB f (i : Int))) = true; rw [hv]; decide)]
            exact ⟨nm2, wa2, wc2, FB.out, NB3.out, NO2.out, GS3.out⟩)
          cases kb
          · obtain ⟨bx, hbx⟩ : ∃ bx, Hid ((f.kat zn == 0) = bx) := ⟨_, Lib.hid rfl⟩
            obtain ⟨by2, hby⟩ : ∃ bx, Hid ((f.kat i == 0) = bx) := ⟨_, Lib.hid rfl⟩
            have LZ : Hid (landB f (zn : Int) = bx ∧ landB f (i : Int) = by2) := Lib.hid (by
              unfold landB
              rw [Int.toNat_natCast, Int.toNat_natCast, ← hbx.out, ← hby.out]
              constructor
              · rw [Bool.eq_iff_iff]; simp
              · rw [Bool.eq_iff_iff]; simp)
            have ON : Hid (o2 (zn : Int) = none) := Lib.hid (by
              have h1 := hkb.out
              cases ho : o2 (zn : Int) with
              | none => rfl
              | some r => rw [ho] at h1; cases h1)
            have hzl : zn < f.kinds.length := ZB.out.2
            have hil2 : i < f.kinds.length := IL.out
            refine zW 0 rfl (.bool false) ?_
            refine zW 1 rfl (.bool true) ?_
            refine zW 2 rfl (.bool true) ?_
            refine zW 3 rfl (.pointer (some ⟨p, 3, none⟩)) ?_
            refine zS 4 rfl (.slice (some ⟨b0, off, none⟩) f.kinds.length n) (fun W hW => by have c := qcell hW.2.1 3 (.slice (some ⟨b0, off, none⟩) f.kinds.length n) rfl; go_simp) ?_
            refine zW 5 rfl (.int .i64 (zn : Int)) ?_
            refine zW 6 rfl (.pointer (some ⟨b0, off + zn, none⟩)) ?_
            refine zS 7 rfl (.int .i64 (f.kat zn)) (fun W hW => by have c := RC.out zn hzl W hW.1; go_simp) ?_
            refine zW 8 rfl (.bool bx) (hy := .inl ⟨by kernel_rfl, by intro W _; go_simp; exact hbx.out⟩) ?_
            refine zW 9 rfl (.pointer (some ⟨p, 3, none⟩)) ?_
            refine zS 10 rfl (.slice (some ⟨b0, off, none⟩) f.kinds.length n) (fun W hW => by have c := qcell hW.2.1 3 (.slice (some ⟨b0, off, none⟩) f.kinds.length n) rfl; go_simp) ?_
            refine zS 11 rfl (.int .i64 (i : Int)) (fun W hW => by have c := qcell hW.2.2 0 (.int .i64 (i : Int)) rfl; go_simp) ?_
            refine zW 12 rfl (.pointer (some ⟨b0, off + i, none⟩)) ?_
            refine zS 13 rfl (.int .i64 (f.kat i)) (fun W hW => by have c := RC.out i hil2 W hW.1; go_simp) ?_
            refine zW 14 rfl (.bool by2) (hy := .inl ⟨by kernel_rfl, by intro W _; go_simp; exact hby.out⟩) ?_
            refine zW 15 rfl (.bool (bx == by2)) ?_
            refine zW 16 rfl (.bool (bx == by2)) ?_
            refine zE ?_
            clear hHeld hzl hil2
            refine hK4 _ _ ?_
            cases hv : (bx == by2)
            · have DONE := Lib.hid (FALSE.out (by rw [LZ.out.1, LZ.out.2, hv]; simp))
              clear FALSE
              refine wpIn_cond_false rfl ?_
              refine wpIn_skip ?_
              exact ⟨KF.out, DONE.out, H2.out⟩
            · have EV : Hid (stF f i M o ws (ks ++ [(zn : Int)]) = (updM o2 zn M, wk ++ [(zn : Int)])) := Lib.hid (by
                rw [BT.out]
                unfold visitF
                rw [if_pos (by show ((o2 (zn : Int)).isNone && (landB f (zn : Int) == landB f (i : Int))) = true; rw [ON.out, LZ.out.1, LZ.out.2, hv]; rfl)])
              have FU := Lib.hid (free_upd (f := f) (m := M) HZ.out ON.out)
              have WK : Hid (wk.length ≤ 2310) := Lib.hid (by have h1 := SL.out; have h2 := WB.out; have h3 := KL.out; omega)
              clear FALSE hv
              refine wpIn_cond_true rfl ?_
              refine wpIn_seq_k (fun K5 hK5 => ?_)
              refine wpIn_region_plain (qwide_round _) (qnot_lets (fun a w h => h)) ?hnd2 ?_
              case hnd2 => rfl
              have cm := qcell FB.out.hm 0 (.map (some b)) rfl
              have cy := qcell FB.out.hy 0 (.int .i64 M) rfl
              go_wp2_with (first
                | (refine wpList_put_q _ rfl _ _ _ 115 rfl Tryz.underlying115 b nm2 zn M rfl FB.out.mp (by have h1 := NB3.out; have h2 := LL.out; unfold maxLen; omega) rfl ZB.out.1 rfl ?_; intro W5 hm5 hg5)
                | fail)
              clear cm cy
              obtain ⟨es, ckk, hbb⟩ := FB.out.mp.blk
              have BL : b < V5.heap.size := FP.out.mp.lt
              have FB5 := Lib.hid (FB.out.upd hg5 hm5)
              replace H2 := Lib.hid (show ItAt L g lc W5 from by
                obtain ⟨⟨cur, hcur⟩, _⟩ := H2.out
                exact H2.out.kept (fun ob hob => qgrown hg5 hob (fun e => by rw [Option.some.inj e, hbb] at hcur; cases hcur)))
              replace KF := Lib.hid (KF.out.trans (KeepsFrom.of_grownBy hg5 (fun j e => by cases e; exact BL)))
              replace GS3 := Lib.hid (Nat.lt_of_lt_of_le GS3.out hg5.size)
              clear FB hbb BL hm5 hg5
              first | refine hK5 _ _ ?_ | skip
              refine wpIn_region_plain (qwide_round _) (qnot_lets (fun a w h => h)) ?hnd3 ?_
              case hnd3 => rfl
              have bn := zB W5 (.cells #[.int .i64 (zn : Int)] 3)
              obtain ⟨a7, c7, V7, hrun, ho7, hk7, hb7, hap7, hg7⟩ := run_app_at (W5.alloc (.cells #[.int .i64 (zn : Int)] 3)) w.heap.size wa2 _ wc2 wk (own_below FB5.out.own bn) (some ⟨W5.heap.size, 0, none⟩) 1 1 [(zn : Int)] (by decide) (lit_int W5 zn) (by have := WK.out; omega) (Nat.le_trans FB5.out.bel.size bn.size)
              have FB6 := Lib.hid (FB5.out.below bn)
              have hcl := qcell FB5.out.hk 0 (.slice wa2 wk.length wc2) rfl
              have hk9 := hk7 _ _ FB6.out.hk (by simp)
              have hcl3 := qcell hk9 0 (.slice wa2 wk.length wc2) rfl
              have hfz := qfroz hk9 0
              have EL : Hid ((wk ++ [(zn : Int)]).length = wk.length + 1) := Lib.hid (by simp)
              have FC7 : Hid (FlAt w ds p m b y c6 c9 f (some ⟨b0, off, none⟩) n i M (nm2 + 1) (updM o2 zn M) (wk ++ [(zn : Int)]) a7 c7 (V7.setCell ⟨c9, 0, none⟩ (.slice a7 (wk.length + 1) c7))) := Lib.hid (by
                have := FB6.out.cell (work' := wk ++ [(zn : Int)]) (wa' := a7) (wc' := c7) hk7 (hb7 _ FB6.out.bel) (qgrown hg7 FB6.out.hy (fun e => FB6.out.ny e.symm)) (qgrown hg7 FB6.out.hi (fun e => FB6.out.ni e.symm)) (by rw [EL.out]; exact ho7) (by rw [EL.out]; exact (hap7.no y FB6.out.ny (qlt FB6.out.hy)).1) (by rw [EL.out]; exact (hap7.no c6 FB6.out.ni (qlt FB6.out.hi)).1)
                rw [EL.out] at this
                exact this)
              have HG := qput_grown V7 c9 0 (.slice a7 (wk.length + 1) c7)
              have GS6 : g < (W5.alloc (.cells #[.int .i64 (zn : Int)] 3)).heap.size := Nat.lt_of_lt_of_le GS3.out bn.size
              have NG7 := Lib.hid (hap7.no g NO2.out GS6)
              have H7 : Hid (ItAt L g lc (V7.setCell ⟨c9, 0, none⟩ (.slice a7 (wk.length + 1) c7))) := Lib.hid (by
                have h6 := H2.out.below bn
                have h7 : ItAt L g lc V7 := h6.kept (fun ob hob => qgrown hg7 hob (fun e => NO2.out e.symm))
                obtain ⟨cur, hcur⟩ := h7.1
                exact h7.kept (fun ob hob => qgrown HG hob (fun e => by rw [Option.some.inj e, hk9] at hcur; simp at hcur)))
              have KF7 : Hid (KeepsFrom V5.heap.size W (V7.setCell ⟨c9, 0, none⟩ (.slice a7 (wk.length + 1) c7))) := Lib.hid (KF.out.trans ⟨Nat.le_trans bn.size (Nat.le_trans hg7.size HG.size), fun k ob _ hk hno => by
                have h1 := qblk bn hk
                have h2 := hk7 k ob h1 (fun cur e => by rw [e] at hno; cases hno)
                exact qgrown HG h2 (fun e => by rw [Option.some.inj e, hk9] at h2; rw [← Option.some.inj h2] at hno; cases hno)⟩)
              have GS7 : Hid (g < (V7.setCell ⟨c9, 0, none⟩ (.slice a7 (wk.length + 1) c7)).heap.size) := Lib.hid (Nat.lt_of_lt_of_le NG7.out.2 HG.size)
              clear bn ho7 hk7 hb7 hap7 hg7 FB5 FB6 hk9 HG GS6 H2 KF GS3
              go_wp2_with (first
                | (refine wpList_qapp rfl _ _ _ rfl _ _ _ rfl rfl hrun ?_)
                | fail)
              refine ⟨KF7.out, ?_, H7.out⟩
              show FlCon w ds p m b y c6 c9 f (some ⟨b0, off, none⟩) n i M o ws g (ks ++ [(zn : Int)]) _
              unfold FlCon
              rw [EV.out]
              refine ⟨nm2 + 1, a7, c7, FC7.out, ?_, ?_, GS7.out⟩
              · show nm2 + 1 + freeN f (updM o2 (zn : Int) M) ≤ f.kinds.length
                have h1 := FU.out
                have h2 := NB3.out
                omega
              · rw [EL.out]; exact NG7.out.1
          · have DONE := Lib.hid (FALSE.out (by
              have h1 := hkb.out
              cases ho : o2 (zn : Int) with
              | none => rw [ho] at h1; cases h1
              | some r => rfl))
            clear FALSE
            refine zW 0 rfl (.bool true) ?_
            refine zW 1 rfl (.bool false) ?_
            refine zW 2 rfl (.bool false) ?_
            refine zW 3 rfl undef (hy := .inr ⟨by kernel_rfl, rfl⟩) ?_
            refine zW 4 rfl undef (hy := .inr ⟨by kernel_rfl, rfl⟩) ?_
            refine zW 5 rfl undef (hy := .inr ⟨by kernel_rfl, rfl⟩) ?_
            refine zW 6 rfl undef (hy := .inr ⟨by kernel_rfl, rfl⟩) ?_
            refine zW 7 rfl undef (hy := .inr ⟨by kernel_rfl, rfl⟩) ?_
            refine zW 8 rfl undef (hy := .inr ⟨by kernel_rfl, rfl⟩) ?_
            refine zW 9 rfl undef (hy := .inr ⟨by kernel_rfl, rfl⟩) ?_
            refine zW 10 rfl undef (hy := .inr ⟨by kernel_rfl, rfl⟩) ?_
            refine zW 11 rfl undef (hy := .inr ⟨by kernel_rfl, rfl⟩) ?_
            refine zW 12 rfl undef (hy := .inr ⟨by kernel_rfl, rfl⟩) ?_
            refine zW 13 rfl undef (hy := .inr ⟨by kernel_rfl, rfl⟩) ?_
            refine zW 14 rfl undef (hy := .inr ⟨by kernel_rfl, rfl⟩) ?_
            refine zW 15 rfl undef (hy := .inr ⟨by kernel_rfl, rfl⟩) ?_
            refine zW 16 rfl (.bool false) ?_
            refine zE ?_
            clear hHeld
            refine hK4 _ _ ?_
            refine wpIn_cond_false rfl ?_
            refine wpIn_skip ?_
            exact ⟨KF.out, DONE.out, H2.out⟩
        case iter =>
          intro rec hlr hY
          have hbb := ((Below.refl V5.heap.size V5).alloc (Nat.le_refl _) (.deferred (some []))).alloc (by simp) (.loop (rec .ready none))
          have hsz : V5.heap.size ≤ ((V5.alloc (.deferred (some []))).alloc (.loop (rec .ready none))).heap.size := hbb.size
          have := nbIter 3 V5.heap.size pp qq f a n x _ (qblk hbb XP.out) (qblk hbb XQ.out) HV.out HXI.out.1 (fun g ks W => FlCon w ds p m b y c6 c9 f a n i M o ws g ks W) (fun g W hg1 hg2 hb => N0.out g W (Nat.le_trans hsz hg1) hg2 (hbb.trans (hb.mono hsz))) rec hlr (fun g lc ks z rest W e hc hi hl => by
            rw [hL.out] at e hi
            refine (hY (g, lc, ks, z) W ⟨hc, hi, rest, e⟩ hl).mono ?_
            rintro e2 W' ⟨rfl, ⟨h1, h2⟩, h3⟩
            exact ⟨rfl, h1, by rw [hL.out]; exact h2, h3⟩)
          refine this.mono ?_
          rintro e W' ⟨h1, ⟨g, h2⟩, h3⟩
          rw [hL.out] at h2
          exact ⟨h1, ⟨g, h2⟩, h3⟩
        case done =>
          rintro W ⟨g, nm3, wa3, wc3, fa3, nb3, no3, gs3⟩ hD0
          obtain ⟨st, hst⟩ : ∃ st, Hid (stF f i M o ws L = st) := ⟨_, Lib.hid rfl⟩
          have POP := FlI.pop (nb := neighF f) (fun _ _ _ => Iff.rfl) RK.out.rg HV.out FI.out
          rw [hL.out] at POP
          have POP2 : FlI f o0 i M (stF f i M o ws L).1 (stF f i M o ws L).2 (fun _ => False) ∧ freeN f (stF f i M o ws L).1 + (stF f i M o ws L).2.length + 1 ≤ freeN f o + (ws ++ [x]).length := POP
          have FLE : Hid (∀ k, floodF f i M (k + 1) (o, ws ++ [x]) = floodF f i M k (stF f i M o ws L)) := Lib.hid (fun k => by
            have := flood_cons (neighF f) f i M o ws x k
            rw [hL.out] at this
            exact this)
          rw [hst.out] at fa3 nb3 POP2 FLE
          obtain ⟨o3, wk3⟩ := st
          dsimp only at fa3 nb3 POP2
          have FC := Lib.hid fa3
          have NB4 := Lib.hid nb3
          have PP := Lib.hid POP2
          have HD0 := Lib.hid hD0
          clear fa3 nb3 no3 gs3 hD0 POP POP2
          have ck := qcell FC.out.hk 0 (.slice wa3 wk3.length wc3) rfl
          go_wp2_with fail
          clear ck
          have AL := al1 W (.cells #[.slice wa3 wk3.length wc3] 26)
          refine Handed.intro (gk2 - 1) (by have := KM2.out; rw [List.length_append, List.length_singleton] at this; omega) (hJ2 _ _ _ ?_)
          refine ⟨W.heap.size, nm3, o3, wk3, wa3, wc3, ⟨?_, Lib.hid PP.out.1, ?_, ?_, NB4.out, by have := KB2.out; omega⟩, rfl⟩
          · have h := FC.out.below AL.1
            exact Lib.hid ⟨h.bel, h.hp, h.hm, h.hy, h.hi, AL.2, h.own, h.mp, h.ny, h.ni, Marks.add FP.out.marks (Nat.le_refl _) VGE.out h.marks (qblk AL.1 HD0.out), ⟨h.ge.1, h.ge.2.1, FC.out.bel.size⟩⟩
          · have h1 := FT.out
            have h2 := KM2.out
            rw [List.length_append, List.length_singleton] at h2
            obtain ⟨k, rfl⟩ : ∃ k, gk2 = k + 1 := ⟨gk2 - 1, by omega⟩
            rw [FLE.out k] at h1
            exact Lib.hid h1
          · have h1 := PP.out.2
            have h2 := KM2.out
            omega
  · have t0 : decide ((i : Int) < (f.kinds.length : Int)) = false := by simp; omega
    have e9 : i = f.kinds.length := by omega
    subst e9
    go_upto_region 23 with fail
    clear t0
    have hd : Below wr.heap.size wr wr.drew := (Below.refl _ _).drew
    have OB := Lib.hid (OA.out.below hd)
    clear hd OA
    refine zD (fun W => W.heap[m]? = some (.cells #[.map (some b)] 115 (0, 0)) ∧ W.heap[y]? = some (.cells #[.int .i64 (regionsN f f.kinds.length).2] 3 (0, 0))) ⟨OB.out.hm, OB.out.hy⟩ (fun hHeld => ?_)
    generalize wr.drew = V0 at *
    refine zS 0 rfl (.map (some b)) (fun W hW => by have c := qcell hW.1 0 (.map (some b)) rfl; go_simp) ?_
    refine zS 1 rfl (.int .i64 (regionsN f f.kinds.length).2) (fun W hW => by have c := qcell hW.2 0 (.int .i64 (regionsN f f.kinds.length).2) rfl; go_simp) ?_
    refine zW 2 rfl (.map (some b)) ?_
    refine zW 3 rfl (.int .i64 (regionsN f f.kinds.length).2) ?_
    refine zE ?_
    clear hHeld
    go_wp2_with fail
    try rw [Exit.noGoto_ret]
    refine leaves_marks w.heap.size (fun W => Below w.heap.size w W ∧ MapI W b nm (regionsF f).1) (fun W r hbr h hr => ⟨?_, ?_⟩) (fun W h => ⟨.tuple #[.map (some b), .int .i64 (regionsN f f.kinds.length).2], by kernel_rfl, ⟨b, nm, rfl, h.2⟩, h.1⟩) ds _ OB.out.marks ⟨OB.out.bel, OB.out.mp⟩
    · exact qstep h.1 (grownBy_putObj' W r _) hbr
    · refine h.2.step (grownBy_putObj' W r _) (fun e => ?_)
      obtain ⟨es, ck, hbb⟩ := h.2.blk
      rw [e, hr] at hbb
      cases hbb
end Go.Proofs.YtimmadkbkimonaaGreatDoor
namespace Go.Proofs.YtimmadkbkimonaaGreatDoor
set_option linter.unusedSimpArgs false
set_option linter.unusedVariables false
open Go.RowKit

structure RdLL (W : World) (a : Option Addr) (n c : Nat) (ls : List (List Int)) : Prop where
  len : ls.length = n
  le : n ≤ c
  max : c ≤ maxLen
  at_ : ∀ j l, ls[j]? = some l → ∃ R off aj cj, a = some ⟨R, off, none⟩ ∧ W.cell? ⟨R, off + j, none⟩ = some (.slice aj l.length cj) ∧ RdI W aj l.length cj l
theorem RdLL.below {W W' : World} {a : Option Addr} {n c : Nat} {ls : List (List Int)} (h : RdLL W a n c ls) (hb : Below W.heap.size W W') : RdLL W' a n c ls :=
  ⟨h.len, h.le, h.max, fun j l hj => by
    obtain ⟨R, off, aj, cj, e, h1, h2⟩ := h.at_ j l hj
    exact ⟨R, off, aj, cj, e, (hb.cell (p := ⟨R, off + j, none⟩) (World.block_lt_of_cell? W _ h1)).trans h1, h2.below hb⟩⟩
theorem RdLL.nil (W : World) : RdLL W none 0 0 [] := ⟨rfl, Nat.le_refl _, Nat.zero_le _, fun j l h => by simp at h⟩
theorem qob (a : Option Addr) (n c : Nat) : Value.ownBlock (.slice a n c) = Value.ownBlock (.slice a 0 0) := by cases a <;> rfl
def lsCells (q : Nat) (ls : Nat → List Int) (wa : Nat → Option Addr) (wc : Nat → Nat) : Array Value := ((List.range q).map fun j => Value.slice (wa j) (ls j).length (wc j)).toArray
theorem lsCells_at {q : Nat} {ls : Nat → List Int} {wa : Nat → Option Addr} {wc : Nat → Nat} {j : Nat} (h : j < q) : (lsCells q ls wa wc)[j]? = some (.slice (wa j) (ls j).length (wc j)) := by
  unfold lsCells
  rw [List.getElem?_toArray, List.getElem?_map, List.getElem?_range h]
  rfl
structure LsAt (w : World) (p R b : Nat) (f : FaceV) (a : Option Addr) (n nm : Nat) (o : OfM) (q : Nat) (ls : Nat → List Int) (wa : Nat → Option Addr) (wc : Nat → Nat) (W : World) : Prop where
  bel : Below w.heap.size w W
  hp : W.heap[p]? = some (.cells (f.cells a n) 28 (0, 0))
  mp : MapI W b nm o
  blk : W.heap[R]? = some (.cells (lsCells q ls wa wc) 26 (0, 0))
  own : ∀ j, j < q → W.ownsRow w.heap.size 3 1 (.slice (wa j) (ls j).length (wc j)) (ls j).length ((ls j).map intV)
  dis : ∀ j k, j < q → k < q → j ≠ k → ∀ g, Value.ownBlock (.slice (wa j) 0 0) = some g → Value.ownBlock (.slice (wa k) 0 0) ≠ some g
  ge : w.heap.size ≤ R
theorem LsAt.below {w W W' : World} {p R b n nm q : Nat} {f : FaceV} {a : Option Addr} {o : OfM} {ls : Nat → List Int} {wa : Nat → Option Addr} {wc : Nat → Nat} (h : LsAt w p R b f a n nm o q ls wa wc W) (hb : Below W.heap.size W W') : LsAt w p R b f a n nm o q ls wa wc W' :=
  ⟨h.bel.trans (hb.mono h.bel.size), qblk hb h.hp, h.mp.below hb, qblk hb h.blk, fun j hj => own_below (h.own j hj) hb, h.dis, h.ge⟩
theorem regAt_succ (f : FaceV) (o : OfM) (r : Int) (k : Nat) : regAt f o r (k + 1) = regAt f o r k ++ (if o (k : Int) = some r then [(k : Int)] else []) := by
  unfold regAt
  rw [List.range_succ, List.filterMap_append]
  congr 1
  by_cases h : o (k : Int) = some r
  · rw [if_pos h, List.filterMap_cons, if_pos h]; rfl
  · rw [if_neg h, List.filterMap_cons, if_neg h]; rfl
theorem regAt_len (f : FaceV) (o : OfM) (r : Int) (k : Nat) : (regAt f o r k).length ≤ k := by
  unfold regAt
  refine Nat.le_trans (List.length_filterMap_le _ _) ?_
  rw [List.length_range]
  exact Nat.le_refl _
theorem LsAt.push {w W V V7 : World} {p R b n nm q r k : Nat} {f : FaceV} {a : Option Addr} {o : OfM} {wa : Nat → Option Addr} {wc : Nat → Nat} {a7 : Option Addr} {c7 : Nat} (h : LsAt w p R b f a n nm o q (fun j => regAt f o j k) wa wc V) (hr : r < q) (ho : o (k : Int) = some (r : Int))
    (ho7 : V7.ownsRow w.heap.size 3 1 (.slice a7 ((regAt f o r k).length + 1) c7) ((regAt f o r k).length + 1) ((regAt f o r k ++ [(k : Int)]).map intV))
    (hk7 : ∀ (p : Nat) (ob : Obj), V.heap[p]? = some ob → (∀ cur, ob ≠ .cells cur 3 (0, 0)) → V7.heap[p]? = some ob) (hb7 : ∀ W, Below w.heap.size W V → Below w.heap.size W V7)
    (hap : AppK (.slice (wa r) (regAt f o r k).length (wc r)) (.slice a7 ((regAt f o r k).length + 1) c7) V V7) (hg7 : V.grownBy V7 (Value.ownBlock (.slice (wa r) (regAt f o r k).length (wc r)))) :
    LsAt w p R b f a n nm o q (fun j => regAt f o j ((k + 1 : Nat))) (fun j => if j = r then a7 else wa j) (fun j => if j = r then c7 else wc j) (V7.setCell ⟨R, r, none⟩ (.slice a7 ((regAt f o r k).length + 1) c7)) := by
  have hR := hk7 _ _ h.blk (by simp)
  have HG := qput_grown V7 R r (.slice a7 ((regAt f o r k).length + 1) c7)
  obtain ⟨es, ck, hbb⟩ := h.mp.blk
  have hb2 := hk7 _ _ hbb (by simp)
  have er : regAt f o (r : Int) (k + 1) = regAt f o r k ++ [(k : Int)] := by rw [regAt_succ, if_pos ho]
  have ne : ∀ j : Nat, j ≠ r → regAt f o (j : Int) (k + 1) = regAt f o j k := fun j hj => by
    rw [regAt_succ, if_neg (by rw [ho]; intro e; have := Option.some.inj e; omega), List.append_nil]
  have lt : ∀ j : Nat, j < q → ∀ g, Value.ownBlock (.slice (wa j) 0 0) = some g → g < V.heap.size := fun j hj g e => ((h.own j hj).lt g (by rw [qob]; exact e)).2
  refine ⟨qstep (hb7 _ h.bel) HG h.ge, qgrown HG (hk7 _ _ h.hp (by simp)) (fun e => ?_), (h.mp.of_block (by rw [hb2, hbb])).step HG (fun e => ?_), ?_, fun j hj => ?_, fun j k2 hj hk2 hjk g e => ?_, h.ge⟩
  · have h1 := hk7 _ _ h.hp (by simp)
    rw [Option.some.inj e, hR] at h1
    simp at h1
  · rw [e, hR] at hb2; cases hb2
  · rw [qput_at hR r _]
    congr 2
    unfold lsCells
    apply Array.ext_getElem?
    intro j
    rw [Array.getElem?_setIfInBounds]
    by_cases hj : j < q
    · rw [List.getElem?_toArray, List.getElem?_toArray, List.getElem?_map, List.getElem?_map, List.getElem?_range hj]
      by_cases e : r = j
      · subst e
        rw [if_pos rfl, if_pos (by simp; omega)]
        simp only [Option.map_some, if_true]
        rw [er, List.length_append]
        rfl
      · rw [if_neg e]
        simp only [Option.map_some]
        rw [if_neg (fun e2 => e e2.symm), if_neg (fun e2 => e e2.symm), ne j (fun e2 => e e2.symm)]
    · rw [if_neg (by omega), List.getElem?_toArray, List.getElem?_toArray, List.getElem?_eq_none (by simp; omega), List.getElem?_eq_none (by simp; omega)]
  · try dsimp only
    by_cases e : j = r
    · subst e
      rw [if_pos rfl, if_pos rfl, er, List.length_append]
      exact ho7.kept HG (.inr (qown_no ho7 hR (by simp)).symm)
    · rw [if_neg e, if_neg e, ne j e]
      have h1 := h.own j hj
      have h2 := h1.kept hg7 (by
        cases hoj : Value.ownBlock (.slice (wa j) 0 0) with
        | none => left; rw [qob]; exact hoj
        | some g =>
          right
          intro e2
          rw [qob (wa j), qob (wa r), hoj] at e2
          exact h.dis j r hj hr e g hoj e2.symm)
      exact h2.kept HG (.inr (qown_no h2 hR (by simp)).symm)
  · try dsimp only at e ⊢
    by_cases e1 : j = r
    · rw [if_pos e1] at e
      rw [if_neg (fun e2 => hjk (e1.trans e2.symm))]
      intro e3
      have h1 := hap.no g (by rw [qob]; exact fun e4 => h.dis k2 r hk2 hr (fun e5 => hjk (e1.trans e5.symm)) g e3 e4) (lt k2 hk2 g e3)
      rw [qob] at h1
      exact h1.1 e
    · rw [if_neg e1] at e
      by_cases e2 : k2 = r
      · rw [if_pos e2]
        have h1 := hap.no g (by rw [qob]; exact fun e4 => h.dis j r hj hr e1 g e e4) (lt j hj g e)
        rw [qob] at h1
        exact h1.1
      · rw [if_neg e2]
        exact h.dis j k2 hj hk2 hjk g e
theorem made_slices (n : Nat) : madeCells (Value.slice none 0 0).cells n = lsCells n (fun _ => []) (fun _ => none) (fun _ => 0) := by
  unfold madeCells lsCells
  apply Array.ext
  · simp
  · intro i h1 h2
    simp [Value.cells, Nat.mod_one]
theorem qinfoS : (Tryz.prog.info? 26).map (fun i => (i.zero, i.size, i.bytes)) = some (some (.slice none 0 0), 1, 24) := by kernel_rfl
theorem run_make_slices (n : Nat) (hn : n ≤ 1000000) (w : World) : (Instr.makeSlice 47 (.int .i64 (n : Int)) (.int .i64 (n : Int))).run Tryz.prog w = .ok (.slice (some ⟨w.heap.size, 0, none⟩) n n) (w.alloc (.cells (lsCells n (fun _ => []) (fun _ => none) (fun _ => 0)) 26)) := by
  obtain ⟨i, hi, hz0, hz1, hz2⟩ := info_parts qinfoS
  have h := run_make (P := Tryz.prog) w 47 26 i (.slice none 0 0) Tryz.underlying47 hi hz0 .i64 .i64 n n (by omega) (Int.le_refl _) (by rw [hz2]; omega) (by omega)
  simp only [Int.toNat_natCast, hz1, Nat.mul_one] at h
  rw [made_slices] at h
  exact h
set_option maxHeartbeats 4000000 in
set_option maxRecDepth 100000 in
theorem regionsP_any (f : FaceV) (a : Option Addr) (n : Nat) (w : World) (hr : RdI w a f.kinds.length n f.kinds) :
    Calls Tryz.prog 24 #[.agg (f.cells a n)] w fun e w' => (∃ oa oc, e = .returned (.tuple #[.slice oa (regionsP f).1.length oc, .int .i64 (regionsP f).2]) ∧ RdLL w' oa (regionsP f).1.length oc (regionsP f).1) ∧ Below w.heap.size w w' := by
  have AV := Lib.hid (fun W (hb : Below w.heap.size w W) => valid2_any f a n W (hr.below hb))
  have HR := Lib.hid (fun W (hb : Below w.heap.size w W) => hr.below hb)
  clear hr
  have AL := Lib.hid (al1 w (.cells (f.cells a n) 28))
  go_enter Tryz.func24, Tryz.ntmps24
  go_upto_region 1 with fail
  obtain ⟨p, hp⟩ : ∃ p, Hid (w.heap.size = p) := ⟨_, Lib.hid rfl⟩
  rw [hp.out] at AL ⊢
  generalize (w.alloc (.cells (f.cells a n) 28)) = W0 at *
  have BF : Hid (Below w.heap.size w W0) := Lib.hid (by rw [hp.out]; exact AL.out.1)
  have XF : Hid (W0.heap[p]? = some (.cells (f.cells a n) 28 (0, 0))) := Lib.hid AL.out.2
  clear AL
  have c0 := qcell XF.out 0 (.int .i64 f.eye) rfl
  have c1 := qcell XF.out 1 (.int .i64 f.rings) rfl
  have c2 := qcell XF.out 2 (.int .i64 f.sectors) rfl
  have c3 := qcell XF.out 3 (.slice a f.kinds.length n) rfl
  go_wp2_with (first
    | (refine wpList_load_row rfl 28 _ rfl p rfl 28 (f.cells a n) (0, 0) _ XF.out Tryz.underlying28 rfl (by exact (qJF f a n)) ?_)
    | fail)
  refine (AV.out W0 BF.out).mono ?_
  rintro e V1 ⟨rfl, b⟩
  clear c0 c1 c2 c3
  replace BF := Lib.hid (BF.out.trans (b.mono BF.out.size))
  replace XF := Lib.hid (qblk b XF.out)
  clear b
  have c0 := qcell XF.out 0 (.int .i64 f.eye) rfl
  have c1 := qcell XF.out 1 (.int .i64 f.rings) rfl
  have c2 := qcell XF.out 2 (.int .i64 f.sectors) rfl
  have c3 := qcell XF.out 3 (.slice a f.kinds.length n) rfl
  cases hv : f.valid
  · go_wp2_with (first
      | (refine wpList_load_row rfl 28 _ rfl p rfl 28 (f.cells a n) (0, 0) _ XF.out Tryz.underlying28 rfl (by exact (qJF f a n)) ?_)
      | fail)
    go_ret2
    unfold regionsP
    rw [if_neg (by rw [hv]; decide)]
    exact ⟨⟨none, 0, rfl, RdLL.nil _⟩, BF.out⟩
  · have HV := Lib.hid hv
    have LL := Lib.hid (FaceV.len_le hv)
    have RF := Lib.hid (regF hv)
    have ML := Lib.hid (regionsN_le f f.kinds.length)
    clear hv
    go_wp2_with (first
      | (refine wpList_load_row rfl 28 _ rfl p rfl 28 (f.cells a n) (0, 0) _ XF.out Tryz.underlying28 rfl (by exact (qJF f a n)) ?_)
      | fail)
    refine (regions_any f a n V1 HV.out (HR.out V1 BF.out)).mono ?_
    rintro e V2 ⟨⟨b, nm, rfl, mp⟩, bb⟩
    have MP := Lib.hid mp
    clear mp
    clear c0 c1 c2 c3
    replace BF := Lib.hid (BF.out.trans (bb.mono BF.out.size))
    replace XF := Lib.hid (qblk bb XF.out)
    clear bb
    have c0 := qcell XF.out 0 (.int .i64 f.eye) rfl
    have c1 := qcell XF.out 1 (.int .i64 f.rings) rfl
    have c2 := qcell XF.out 2 (.int .i64 f.sectors) rfl
    have c3 := qcell XF.out 3 (.slice a f.kinds.length n) rfl
    obtain ⟨q, hq⟩ : ∃ q : Nat, (regionsF f).2 = q := ⟨(regionsF f).2.toNat, (Int.toNat_of_nonneg RF.out.m0).symm⟩
    obtain ⟨o, ho⟩ : ∃ o, Hid ((regionsF f).1 = o) := ⟨_, Lib.hid rfl⟩
    have HQ : Hid ((regionsF f).2 = (q : Int)) := Lib.hid hq
    have QL : Hid (q ≤ 2304) := Lib.hid (by have h1 := ML.out.2; have h2 := LL.out; have h3 : (regionsN f f.kinds.length).2 = (q : Int) := hq; omega)
    rw [hq]
    rw [hq, ho.out] at RF
    rw [ho.out] at MP
    clear hq
    have hmk := run_make_slices q (by have := QL.out; omega) V2
    go_upto_region 5 with (first
      | (refine wpList_load_row rfl 28 _ rfl p rfl 28 (f.cells a n) (0, 0) _ XF.out Tryz.underlying28 rfl (by exact (qJF f a n)) ?_)
      | fail)
    clear c0 c1 c2 c3
    clear hmk
    have AL := al1 V2 (.cells (lsCells q (fun _ => []) (fun _ => none) (fun _ => 0)) 26)
    obtain ⟨R, hR⟩ : ∃ R, Hid (V2.heap.size = R) := ⟨_, Lib.hid rfl⟩
    have L0 := Lib.hid (show LsAt w p R b f a n nm o q (fun j => regAt f o j (0 : Nat)) (fun _ => none) (fun _ => 0) (V2.alloc (.cells (lsCells q (fun _ => []) (fun _ => none) (fun _ => 0)) 26)) from
      ⟨BF.out.trans (AL.1.mono BF.out.size), qblk AL.1 XF.out, MP.out.below AL.1, by rw [← hR.out]; exact AL.2, fun j _ => World.ownsRow_nil _ _ _ _, fun j k _ _ _ g e => (by cases e), by rw [← hR.out]; exact BF.out.size⟩)
    rw [hR.out]
    clear AL BF XF MP
    generalize V2.alloc (.cells (lsCells q (fun _ => []) (fun _ => none) (fun _ => 0)) 26) = V3 at *
    have c3 := qcell L0.out.hp 3 (.slice a f.kinds.length n) rfl
    go_wp2_with fail
    clear c3
    go_loopw [21] (fun v wr => ∃ (k : Nat) (wa : Nat → Option Addr) (wc : Nat → Nat), v = .int .i64 k ∧ k ≤ f.kinds.length ∧ Hid (LsAt w p R b f a n nm o q (fun j => regAt f o j k) wa wc wr)) (fun v _ => f.kinds.length - (intOf v).toNat)
    case atStart => exact ⟨0, _, _, rfl, Nat.zero_le _, L0⟩
    case round =>
      clear L0
      obtain ⟨k, wa, wc, rfl, hk, LA⟩ := hrel
      by_cases hkn : k < f.kinds.length
      · have t0 : decide ((k : Int) < (f.kinds.length : Int)) = true := by simp; omega
        have HK64 : Hid ((k : Int) + 1 ≤ 9223372036854775807) := Lib.hid (by have := LL.out; omega)
        have HKI : Hid (I64q (k : Int)) := Lib.hid (by have := LL.out; unfold I64q; omega)
        obtain ⟨r0, hr0⟩ := Option.isSome_iff_exists.1 (RF.out.dn k hkn)
        have hri := RF.out.rg.inr _ _ hr0
        obtain ⟨r, rfl⟩ : ∃ r : Nat, r0 = r := ⟨r0.toNat, (Int.toNat_of_nonneg hri.2.1).symm⟩
        have HO := Lib.hid hr0
        have HRQ : Hid (r < q) := Lib.hid (by omega)
        clear hr0 hri
        go_upto_region 8 with fail
        clear t0
        have hd : Below wr.heap.size wr wr.drew := (Below.refl _ _).drew
        replace LA := Lib.hid (LA.out.below hd)
        clear hd
        obtain ⟨V0, hV0⟩ : ∃ V0, wr.drew = V0 := ⟨_, rfl⟩
        rw [hV0] at LA
        have RL := Lib.hid (regAt_len f o r k)
        obtain ⟨l, hl⟩ : ∃ l, Hid (regAt f o (r : Int) k = l) := ⟨_, Lib.hid rfl⟩
        have hrq : r < q := HRQ.out
        refine bDq 14 (fun W => Below w.heap.size w W ∧ MapI W b nm o ∧ W.heap[R]? = some (.cells (lsCells q (fun j => regAt f o j k) wa wc) 26 (0, 0))) ⟨LA.out.bel, LA.out.mp, LA.out.blk⟩ (fun hHeld => ?_)
        clear hV0
        refine bW 0 rfl (.slice (some ⟨R, 0, none⟩) q q) ?_
        refine bW 1 rfl (.map (some b)) ?_
        refine bW 2 rfl (.int .i64 (k : Int)) ?_
        refine bS 3 rfl (.int .i64 (r : Int)) (fun W hW => by have c := run_get_q hW.2.1 Tryz.underlying115 HKI.out; rw [HO.out] at c; (try dsimp only [Option.getD] at c); go_simp) ?_
        refine bW 4 rfl (.slice (some ⟨R, 0, none⟩) q q) ?_
        refine bW 5 rfl (.map (some b)) ?_
        refine bW 6 rfl (.int .i64 (k : Int)) ?_
        refine bS 7 rfl (.int .i64 (r : Int)) (fun W hW => by have c := run_get_q hW.2.1 Tryz.underlying115 HKI.out; rw [HO.out] at c; (try dsimp only [Option.getD] at c); go_simp) ?_
        refine bW 8 rfl (.pointer (some ⟨R, r, none⟩)) ?_
        refine bS 9 rfl (.slice (wa r) l.length (wc r)) (fun W hW => by have c := qcell hW.2.2 r _ (lsCells_at hrq); (try dsimp only at c); rw [hl.out] at c; go_simp) ?_
        refine bW 10 rfl (.int .i64 (k : Int)) ?_
        refine bR 11 rfl (fun K hK => ?_)
        rw [if_pos (by kernel_rfl)]
        refine qbuild (w' := V0.alloc (.cells #[.int .i64 (k : Int)] 3)) (.slice (some ⟨V0.heap.size, 0, none⟩) 1 1) (by kernel_rfl) ?_
        have L5 := Lib.hid (lit_int V0 (k : Int))
        replace LA := Lib.hid (LA.out.below (zB V0 (.cells #[.int .i64 (k : Int)] 3)))
        obtain ⟨p5, hp5⟩ : ∃ z, Hid (V0.heap.size = z) := ⟨_, Lib.hid rfl⟩
        rw [hp5.out] at L5 ⊢
        generalize V0.alloc (.cells #[.int .i64 (k : Int)] 3) = V4 at *
        refine bK hK ⟨LA.out.bel, LA.out.mp, LA.out.blk⟩ (fun hHeld => ?_)
        clear hK K
        refine bR 12 rfl (fun K hK => ?_)
        rw [if_pos (by kernel_rfl)]
        have OWR := LA.out.own r hrq
        try dsimp only at OWR
        rw [hl.out] at OWR RL
        obtain ⟨a7, c7, V7, hrun, ho7, hk7, hb7, hap7, hg7⟩ := run_app_at V4 w.heap.size (wa r) _ (wc r) l OWR (some ⟨p5, 0, none⟩) 1 1 [(k : Int)] (by decide) L5.out (by have h1 := RL.out; have h2 := LL.out; omega) LA.out.bel.size
        refine qappend _ _ _ rfl _ _ _ rfl rfl hrun ?_
        clear hrun
        obtain ⟨es, ck, hbb⟩ := LA.out.mp.blk
        have hbb7 := hk7 _ _ hbb (by simp)
        have F7 := Lib.hid (show Below w.heap.size w V7 ∧ MapI V7 b nm o ∧ V7.heap[R]? = some (.cells (lsCells q (fun j => regAt f o j k) wa wc) 26 (0, 0)) from ⟨hb7 _ LA.out.bel, LA.out.mp.of_block (by rw [hbb7, hbb]), hk7 _ _ LA.out.blk (by simp)⟩)
        have LP : Hid (LsAt w p R b f a n nm o q (fun j => regAt f o j ((k + 1 : Nat))) (fun j => if j = r then a7 else wa j) (fun j => if j = r then c7 else wc j) (V7.setCell ⟨R, r, none⟩ (.slice a7 (l.length + 1) c7))) := Lib.hid (by
          rw [← hl.out] at ho7 hap7 hg7 ⊢
          exact LA.out.push (W := w) hrq HO.out ho7 hk7 hb7 hap7 hg7)
        clear ho7 hk7 hb7 hap7 hg7 hbb hbb7 OWR
        refine bK hK F7.out (fun hHeld => ?_)
        clear hK K
        refine bW 13 rfl (.pointer (some ⟨R, r, none⟩)) ?_
        refine bL rfl (fun K hK => ?_)
        have hce := qcell F7.out.2.2 r _ (lsCells_at hrq)
        have hfz := qfroz F7.out.2.2 r
        try dsimp only at hce
        go_simp
        refine hK.out _ _ ?_
        clear hK K hce hfz hHeld hrq
        refine bE ?_
        have hk64 := HK64.out
        go_wp2_with fail
        go_roundw
        case rel => exact ⟨k + 1, _, _, by simp, by omega, LP⟩
        case measure => simp [intOf]; omega
      · have t0 : decide ((k : Int) < (f.kinds.length : Int)) = false := by simp; omega
        have e : k = f.kinds.length := by omega
        subst e
        go_wp2_with fail
        go_ret2
        have e9 : regionsP f = (regListF f, 0) := by unfold regionsP; rw [if_pos HV.out]
        have e8 : (regListF f).length = q := by rw [regList_len, HQ.out, Int.toNat_natCast]
        rw [e9]
        try dsimp only
        refine ⟨⟨some ⟨R, 0, none⟩, q, (by rw [e8]; rfl), ⟨rfl, by rw [e8]; exact Nat.le_refl _, by have := QL.out; unfold maxLen; omega, fun j l hj => ?_⟩⟩, LA.out.bel⟩
        have hjq : j < q := by rw [← e8]; exact (List.getElem?_eq_some_iff.1 hj).1
        have hjl : l = regAt f o j f.kinds.length := by
          have := regList_at (f := f) (n := j) (by rw [HQ.out, Int.toNat_natCast]; exact hjq)
          rw [hj, ho.out] at this
          exact Option.some.inj this
        subst hjl
        have hc := qcell LA.out.blk j _ (lsCells_at hjq)
        refine ⟨R, 0, wa j, wc j, rfl, ?_, RdA.of_own (LA.out.own j hjq)⟩
        rw [Nat.zero_add]
        exact hc
end Go.Proofs.YtimmadkbkimonaaGreatDoor
namespace Go.Proofs.YtimmadkbkimonaaGreatDoor
set_option linter.unusedSimpArgs false
open Go.RowKit

def sampleF : FaceV := ⟨1, 2, 4, [0, 1, 0, 0, 0, 1, 2, 0]⟩
def sampleP : PatV := ⟨1, 3, 2, 3, [⟨0, 1, 1, 1, 1, 0⟩]⟩
theorem smp_area : areaP sampleF 0 = (19, 0) := by decide +kernel
theorem smp_regions : regionsP sampleF = ([[0, 2, 3, 4, 7], [1, 5, 6]], 0) := by decide +kernel
theorem smp_turn : turnP sampleF 1 = (⟨1, 2, 4, [0, 0, 1, 0, 0, 0, 1, 2]⟩, 0) := by decide +kernel
theorem smp_normal : normalP sampleF = (⟨1, 2, 4, [0, 0, 0, 1, 2, 0, 0, 1]⟩, 0) := by decide +kernel
theorem smp_dress : dressP sampleP = (⟨1, 3, 6, [0, 0, 0, 0, 0, 0, 0, 1, 0, 0, 1, 0, 1, 0, 0, 1, 0, 0]⟩, 0) := by decide +kernel
end Go.Proofs.YtimmadkbkimonaaGreatDoor
namespace Go.Proofs.YtimmadkbkimonaaGreatDoor
set_option linter.unusedSimpArgs false
open Go.RowKit

theorem sameInts_any (a : Option Addr) (n c : Nat) (l : List Int) (a' : Option Addr) (n' c' : Nat) (l' : List Int) (w : World) (hr : RdI w a n c l) (hr' : RdI w a' n' c' l') :
    Calls Tryz.prog 34 #[.slice a n c, .slice a' n' c'] w fun e w' => e = .returned (.bool (decide (l = l'))) ∧ ∃ q, w' = w.drewN q := by
  have hm := RdI.maxn hr
  have hl := Lib.hid hr.len
  have hl' := Lib.hid hr'.len
  by_cases hnn : n = n'
  · subst hnn
    have QF : Hid ((∀ j, j < n → l[j]?.getD 0 = l'[j]?.getD 0) → decide (l = l') = true) := Lib.hid (fun h => by rw [decide_eq_true_eq]; exact ilist_ext (by rw [hl.out, hl'.out]) (fun j hj => h j (by rw [hl.out] at hj; omega)))
    have QG : Hid (∀ j : Nat, l[j]?.getD 0 ≠ l'[j]?.getD 0 → decide (l = l') = false) := Lib.hid (fun j h => by rw [decide_eq_false_iff_not]; intro e; rw [e] at h; exact h rfl)
    generalize decide (l = l') = q at *
    go_enter Tryz.func34, Tryz.ntmps34
    go_wp2
    go_loopw [5] (fun i wr => ∃ k : Nat, k ≤ n ∧ i = .int .i64 k ∧ (∀ j, j < k → l[j]?.getD 0 = l'[j]?.getD 0) ∧ ∃ q, wr = w.drewN q) (fun i _ => n - (intOf i).toNat)
    case atStart => exact ⟨0, Nat.zero_le _, rfl, fun j hj => by omega, 0, rfl⟩
    case round =>
      obtain ⟨k, hk, rfl, hrl, q, rfl⟩ := hrel
      have HR := Lib.hid hrl; clear hrl
      by_cases hlt : k < n
      · obtain ⟨b, off, rfl, hc⟩ := hr.at (by omega)
        obtain ⟨b', off', rfl, hc'⟩ := hr'.at (by omega)
        have hx := hc k hlt
        have hx' := hc' k hlt
        clear hc hc' hr hr'
        have hk64 : (k : Int) ≤ 9223372036854775807 := by omega
        by_cases he : l[k]?.getD 0 = l'[k]?.getD 0
        · have hb := int_eq he
          have HE := Lib.hid he; clear he
          go_wp2
          go_quiet (fail)
          go_wp2
          go_roundw
          case rel => exact ⟨k + 1, by omega, by go_num, fun j hj => by
            rcases Nat.lt_succ_iff_lt_or_eq.1 hj with h | h
            · exact HR.out j h
            · rw [h]; exact HE.out, _, rfl⟩
          case measure => simp [intOf]; omega
        · have hb := int_ne he
          have HE := Lib.hid (QG.out k he); clear he
          go_wp2
          go_quiet (fail)
          go_wp2
          go_ret
          exact ⟨by rw [HE.out]; rfl, _, World.drewN_drewN _ _ _⟩
      · have HE := Lib.hid (QF.out (fun j hj => HR.out j (by omega)))
        go_wp2
        go_ret
        exact ⟨by rw [HE.out]; rfl, _, rfl⟩
  · have hb : (((n : Nat) : Int) != ((n' : Nat) : Int)) = true := by rw [bne_iff_ne]; omega
    have hm' := RdI.maxn hr'
    have HE : Hid (decide (l = l') = false) := Lib.hid (by rw [decide_eq_false_iff_not]; intro e; rw [e] at hl; exact hnn (hl.out.symm.trans hl'.out))
    clear hnn
    go_enter Tryz.func34, Tryz.ntmps34
    go_wp2
    go_ret
    exact ⟨by rw [HE.out]; rfl, 0, rfl⟩
end Go.Proofs.YtimmadkbkimonaaGreatDoor
namespace Go.Proofs.YtimmadkbkimonaaGreatDoor
set_option linter.unusedSimpArgs false
set_option linter.unusedVariables false
open Go.RowKit

set_option maxHeartbeats 4000000 in
set_option maxRecDepth 100000 in
theorem sample_any (w : World) : Calls Tryz.prog 64 #[] w fun e w' => (∃ a n, e = .returned (.agg (sampleF.cells a n)) ∧ FOwn w w' sampleF a n) ∧ Below w.heap.size w w' := by
  go_enter Tryz.func64, Tryz.ntmps64
  go_upto_region 1 with fail
  have AL := Lib.hid (al1 w (.cells #[.int .i64 0, .int .i64 0, .int .i64 0, .slice none 0 0] 28))
  obtain ⟨z, hz⟩ : ∃ x, Hid (w.heap.size = x) := ⟨_, Lib.hid rfl⟩
  rw [hz.out] at AL ⊢
  generalize w.alloc (.cells #[.int .i64 0, .int .i64 0, .int .i64 0, .slice none 0 0] 28) = W0 at *
  have BF : Hid (Below w.heap.size w W0) := Lib.hid (by rw [hz.out]; exact AL.out.1)
  have XZ := Lib.hid AL.out.2
  clear AL
  refine yB ?_
  refine yR (fun K hK => ?_)
  refine qbuild (w' := W0.alloc (.cells #[.int .i64 0, .int .i64 1, .int .i64 0, .int .i64 0, .int .i64 0, .int .i64 1, .int .i64 2, .int .i64 0] 3)) (.slice (some ⟨W0.heap.size, 0, none⟩) 8 8) (by kernel_rfl) ?_
  have AL := Lib.hid (al1 W0 (.cells #[.int .i64 0, .int .i64 1, .int .i64 0, .int .i64 0, .int .i64 0, .int .i64 1, .int .i64 2, .int .i64 0] 3))
  have OW : Hid ((W0.alloc (.cells #[.int .i64 0, .int .i64 1, .int .i64 0, .int .i64 0, .int .i64 0, .int .i64 1, .int .i64 2, .int .i64 0] 3)).ownsRow w.heap.size 3 1 (.slice (some ⟨W0.heap.size, 0, none⟩) 8 8) 8 (sampleF.kinds.map intV)) := Lib.hid ⟨rfl, .inr ⟨W0.heap.size, 8, _, rfl, BF.out.size, AL.out.2, Nat.le_refl _, by unfold maxLen; omega, rfl, rfl⟩⟩
  obtain ⟨g, hg⟩ : ∃ x, Hid (W0.heap.size = x) := ⟨_, Lib.hid rfl⟩
  replace BF := Lib.hid (BF.out.trans (AL.out.1.mono BF.out.size))
  replace XZ := Lib.hid (qblk AL.out.1 XZ.out)
  rw [hg.out] at OW ⊢
  clear AL
  generalize W0.alloc (.cells #[.int .i64 0, .int .i64 1, .int .i64 0, .int .i64 0, .int .i64 0, .int .i64 1, .int .i64 2, .int .i64 0] 3) = W1 at *
  refine yK hK ?_
  clear hK K
  refine yW (.agg (sampleF.cells (some ⟨g, 0, none⟩) 8)) ?_ (.inl ⟨by kernel_rfl, by intro W hW; rw [hW]; kernel_rfl⟩)
  refine yR (fun K hK => ?_)
  refine qstore 28 _ _ rfl z #[.int .i64 0, .int .i64 0, .int .i64 0, .slice none 0 0] (sampleF.cells (some ⟨g, 0, none⟩) 8) 28 rfl rfl XZ.out (by exact qJF sampleF (some ⟨g, 0, none⟩) 8) rfl (qone sampleF (some ⟨g, 0, none⟩) 8) ?_
  intro X h8 hg8 hs8
  replace BF := Lib.hid (qstep BF.out hg8 (by have h1 := hz.out; omega))
  replace OW := Lib.hid (OW.out.kept hg8 (.inr (qown_no OW.out XZ.out (by simp)).symm))
  replace XZ := Lib.hid h8
  clear h8 hg8 hs8
  refine yK hK ?_
  clear hK K
  refine yE ?_
  go_wp2_with fail
  (try simp only [Exit.inBlock, Exit.then])
  refine bodyPost_ret (results_cell_row rfl _ X z 28 (sampleF.cells (some ⟨g, 0, none⟩) 8) (0, 0) _ rfl XZ.out Tryz.underlying28 rfl (by exact qJF sampleF (some ⟨g, 0, none⟩) 8)) rfl ?_
  exact ⟨⟨some ⟨g, 0, none⟩, 8, rfl, OW.out⟩, BF.out⟩
set_option maxHeartbeats 4000000 in
set_option maxRecDepth 100000 in
theorem few_any (f : FaceV) (a : Option Addr) (n : Nat) (w : World) : Calls Tryz.prog 35 #[.agg (f.cells a n)] w fun e w' => e = .returned (.bool (decide (f.kinds.length ≤ 200))) ∧ Below w.heap.size w w' := by
  have AL := Lib.hid (al1 w (.cells (f.cells a n) 28))
  go_enter Tryz.func35, Tryz.ntmps35
  go_upto_region 1 with fail
  obtain ⟨p, hp⟩ : ∃ p, Hid (w.heap.size = p) := ⟨_, Lib.hid rfl⟩
  rw [hp.out] at AL ⊢
  generalize (w.alloc (.cells (f.cells a n) 28)) = W0 at *
  have BF : Hid (Below w.heap.size w W0) := Lib.hid (by rw [hp.out]; exact AL.out.1)
  have XF : Hid (W0.heap[p]? = some (.cells (f.cells a n) 28 (0, 0))) := Lib.hid AL.out.2
  clear AL
  have c0 := qcell XF.out 0 (.int .i64 f.eye) rfl
  have c1 := qcell XF.out 1 (.int .i64 f.rings) rfl
  have c2 := qcell XF.out 2 (.int .i64 f.sectors) rfl
  have c3 := qcell XF.out 3 (.slice a f.kinds.length n) rfl
  have t0 : decide ((f.kinds.length : Int) ≤ 200) = decide (f.kinds.length ≤ 200) := by rw [decide_eq_decide]; omega
  go_wp2_with (first
    | (refine wpList_load_row rfl 28 _ rfl p rfl 28 (f.cells a n) (0, 0) _ XF.out Tryz.underlying28 rfl (by exact (qJF f a n)) ?_)
    | fail)
  go_ret
  exact ⟨by first | rfl | (rw [← t0]; rfl), BF.out⟩
set_option maxHeartbeats 4000000 in
set_option maxRecDepth 100000 in
theorem sameLists_any (a : Option Addr) (n c : Nat) (ls : List (List Int)) (a' : Option Addr) (n' c' : Nat) (ls' : List (List Int)) (w : World) (hr : RdLL w a n c ls) (hr' : RdLL w a' n' c' ls') :
    Calls Tryz.prog 29 #[.slice a n c, .slice a' n' c'] w fun e w' => e = .returned (.bool (decide (ls = ls'))) ∧ Below w.heap.size w w' := by
  have hl := Lib.hid hr.len
  have hl' := Lib.hid hr'.len
  have hm : n ≤ 9223372036854775807 := by have h1 := hr.le; have h2 := hr.max; unfold maxLen at h2; omega
  have hm' : n' ≤ 9223372036854775807 := by have h1 := hr'.le; have h2 := hr'.max; unfold maxLen at h2; omega
  have HR := Lib.hid (fun W (hb : Below w.heap.size w W) => hr.below hb)
  have HR' := Lib.hid (fun W (hb : Below w.heap.size w W) => hr'.below hb)
  by_cases hnn : n = n'
  · subst hnn
    have QF : Hid ((∀ j, j < n → ls[j]? = ls'[j]?) → decide (ls = ls') = true) := Lib.hid (fun h => by
      rw [decide_eq_true_eq]
      apply List.ext_getElem?
      intro j
      rcases Nat.lt_or_ge j n with h1 | h1
      · exact h j h1
      · rw [List.getElem?_eq_none (by rw [hl.out]; exact h1), List.getElem?_eq_none (by rw [hl'.out]; exact h1)])
    have QG : Hid (∀ j : Nat, ls[j]? ≠ ls'[j]? → decide (ls = ls') = false) := Lib.hid (fun j h => by rw [decide_eq_false_iff_not]; intro e; rw [e] at h; exact h rfl)
    generalize decide (ls = ls') = q at *
    clear hr hr'
    go_enter Tryz.func29, Tryz.ntmps29
    go_wp2_with fail
    go_loopw [5] (fun i wr => ∃ k : Nat, k ≤ n ∧ i = .int .i64 k ∧ Hid (∀ j, j < k → ls[j]? = ls'[j]?) ∧ Hid (Below w.heap.size w wr)) (fun i _ => n - (intOf i).toNat)
    case atStart => exact ⟨0, Nat.zero_le _, rfl, Lib.hid (fun j hj => by omega), Lib.hid (Below.refl _ _)⟩
    case round =>
      obtain ⟨k, hk, rfl, HE, BF⟩ := hrel
      by_cases hlt : k < n
      · have t0 : decide ((k : Int) < (n : Int)) = true := by simp; omega
        have HK64 : Hid ((k : Int) + 1 ≤ 9223372036854775807) := Lib.hid (by omega)
        obtain ⟨l, hx⟩ : ∃ l, ls[k]? = some l := ⟨_, List.getElem?_eq_getElem (by rw [hl.out]; exact hlt)⟩
        obtain ⟨l', hx'⟩ : ∃ l, ls'[k]? = some l := ⟨_, List.getElem?_eq_getElem (by rw [hl'.out]; exact hlt)⟩
        obtain ⟨R, off, aj, cj, ha, hc, hrd⟩ := (HR.out wr BF.out).at_ k l hx
        obtain ⟨R', off', aj', cj', ha', hc', hrd'⟩ := (HR'.out wr BF.out).at_ k l' hx'
        subst ha
        subst ha'
        have GC := Lib.hid (show ∀ W, Below wr.heap.size wr W → W.cell? ⟨R, off + k, none⟩ = some (.slice aj l.length cj) ∧ RdI W aj l.length cj l from fun W hb => ⟨(hb.cell (p := ⟨R, off + k, none⟩) (World.block_lt_of_cell? wr _ hc)).trans hc, hrd.below hb⟩)
        have GC' := Lib.hid (show ∀ W, Below wr.heap.size wr W → W.cell? ⟨R', off' + k, none⟩ = some (.slice aj' l'.length cj') ∧ RdI W aj' l'.length cj' l' from fun W hb => ⟨(hb.cell (p := ⟨R', off' + k, none⟩) (World.block_lt_of_cell? wr _ hc')).trans hc', hrd'.below hb⟩)
        have LE : Hid (decide (l = l') = true → ls[k]? = ls'[k]?) := Lib.hid (fun h => by rw [hx, hx', of_decide_eq_true h])
        have LN : Hid (decide (l = l') = false → ls[k]? ≠ ls'[k]?) := Lib.hid (fun h e => by rw [hx, hx'] at e; exact of_decide_eq_false h (Option.some.inj e))
        clear hc hc' hrd hrd' hx hx'
        go_upto_region 6 with fail
        clear t0
        refine zD (fun W => Below wr.heap.size wr W) (Below.refl _ _).drew (fun hHeld => ?_)
        have BV := Lib.hid hHeld
        generalize wr.drew = V0 at *
        refine zW 0 rfl (.slice (some ⟨R, off, none⟩) n c) ?_
        refine zW 1 rfl (.int .i64 (k : Int)) ?_
        refine zW 2 rfl (.pointer (some ⟨R, off + k, none⟩)) ?_
        refine zS 3 rfl (.slice aj l.length cj) (fun W hW => by have c := (GC.out W hW).1; go_simp) ?_
        refine zW 4 rfl (.slice (some ⟨R', off', none⟩) n c') ?_
        refine zW 5 rfl (.int .i64 (k : Int)) ?_
        refine zW 6 rfl (.pointer (some ⟨R', off' + k, none⟩)) ?_
        refine zS 7 rfl (.slice aj' l'.length cj') (fun W hW => by have c := (GC'.out W hW).1; go_simp) ?_
        refine zR 8 rfl (fun K hK => ?_)
        go_simp
        refine (sameInts_any aj l.length cj l aj' l'.length cj' l' V0 (GC.out V0 BV.out).2 (GC'.out V0 BV.out).2).mono ?_
        rintro e V1 ⟨rfl, q9, rfl⟩
        replace BV := Lib.hid (BV.out.trans (Below.mono (show Below V0.heap.size V0 (V0.drewN q9) from ⟨rfl, rfl, rfl, Nat.le_refl _, fun _ _ => rfl⟩) BV.out.size))
        replace BF := Lib.hid (BF.out.trans (BV.out.mono BF.out.size))
        dsimp only
        refine zK hK BV.out (fun hHeld => ?_)
        clear hK K
        cases he : decide (l = l')
        · have HN := Lib.hid (QG.out k (LN.out he))
          refine zW 9 rfl (.bool true) ?_
          refine zE ?_
          go_wp2_with fail
          go_ret
          exact ⟨by rw [HN.out]; rfl, BF.out⟩
        · have HY := Lib.hid (LE.out he)
          refine zW 9 rfl (.bool false) ?_
          refine zE ?_
          go_upto_region 5 with fail
          have hk64 := HK64.out
          go_wp2_with fail
          go_roundw
          case rel => exact ⟨k + 1, by omega, by simp, Lib.hid (fun j hj => by
            rcases Nat.lt_succ_iff_lt_or_eq.1 hj with h | h
            · exact HE.out j h
            · rw [h]; exact HY.out), BF⟩
          case measure => simp [intOf]; omega
      · have t0 : decide ((k : Int) < (n : Int)) = false := by simp; omega
        have HY := Lib.hid (QF.out (fun j hj => HE.out j (by omega)))
        go_wp2_with fail
        go_ret
        exact ⟨by rw [HY.out]; rfl, BF.out⟩
  · have hb : (((n : Nat) : Int) != ((n' : Nat) : Int)) = true := by rw [bne_iff_ne]; omega
    have HE : Hid (decide (ls = ls') = false) := Lib.hid (by rw [decide_eq_false_iff_not]; intro e; rw [e] at hl; exact hnn (hl.out.symm.trans hl'.out))
    clear hnn hr hr'
    go_enter Tryz.func29, Tryz.ntmps29
    go_wp2_with fail
    go_ret
    exact ⟨by rw [HE.out]; rfl, Below.refl _ _⟩
end Go.Proofs.YtimmadkbkimonaaGreatDoor
namespace Go.Proofs.YtimmadkbkimonaaGreatDoor
set_option linter.unusedSimpArgs false
set_option linter.unusedVariables false
open Go.RowKit

def furA (x : FurV) : Array Value := #[.int .i64 x.at_, .int .i64 x.from_, .int .i64 x.lean, .int .i64 x.leans, .int .i64 x.steep, .int .i64 x.feather]
def fursV (l : List FurV) : List Value := l.flatMap fun x => [.int .i64 x.at_, .int .i64 x.from_, .int .i64 x.lean, .int .i64 x.leans, .int .i64 x.steep, .int .i64 x.feather]
theorem fursV_len : ∀ l : List FurV, (fursV l).length = l.length * 6
  | [] => rfl
  | x :: l => by
    have : fursV (x :: l) = [.int .i64 x.at_, .int .i64 x.from_, .int .i64 x.lean, .int .i64 x.leans, .int .i64 x.steep, .int .i64 x.feather] ++ fursV l := rfl
    rw [this, List.length_append, fursV_len l]
    simp
    omega
theorem fursV_at : ∀ (l : List FurV) (k : Nat) (x : FurV), l[k]? = some x → ∀ j, j < 6 → (fursV l)[k * 6 + j]? = (furA x)[j]?
  | [], k, x, h, _, _ => by simp at h
  | y :: l, 0, x, h, j, hj => by
    rw [List.getElem?_cons_zero] at h
    cases h
    have : fursV (y :: l) = [.int .i64 y.at_, .int .i64 y.from_, .int .i64 y.lean, .int .i64 y.leans, .int .i64 y.steep, .int .i64 y.feather] ++ fursV l := rfl
    rw [this, List.getElem?_append_left (by simp; omega), Nat.zero_mul, Nat.zero_add]
    unfold furA
    rw [List.getElem?_toArray]
  | y :: l, k + 1, x, h, j, hj => by
    rw [List.getElem?_cons_succ] at h
    have : fursV (y :: l) = [.int .i64 y.at_, .int .i64 y.from_, .int .i64 y.lean, .int .i64 y.leans, .int .i64 y.steep, .int .i64 y.feather] ++ fursV l := rfl
    rw [this, List.getElem?_append_right (by simp; omega), ← fursV_at l k x h j hj]
    congr 1
    simp
    omega
def RdFu (w : World) (a : Option Addr) (n c : Nat) (l : List FurV) : Prop := RdA w 6 a n c (fursV l)
theorem RdFu.len {w : World} {a : Option Addr} {n c : Nat} {l : List FurV} (h : RdFu w a n c l) : l.length = n := by have := RdA.len h; rw [fursV_len] at this; omega
theorem RdFu.below {w w' : World} {a : Option Addr} {n c : Nat} {l : List FurV} (h : RdFu w a n c l) (hb : Below w.heap.size w w') : RdFu w' a n c l := RdA.below h hb
theorem RdFu.get {W : World} {a : Option Addr} {n c : Nat} {l : List FurV} (h : RdFu W a n c l) {k : Nat} {x : FurV} (hk : l[k]? = some x) : ∃ b off, a = some ⟨b, off, none⟩ ∧
    W.cell? ⟨b, off + k * 6, none⟩ = some (.int .i64 x.at_) ∧ W.cell? ⟨b, off + k * 6 + 1, none⟩ = some (.int .i64 x.from_) ∧ W.cell? ⟨b, off + k * 6 + 2, none⟩ = some (.int .i64 x.lean) ∧ W.cell? ⟨b, off + k * 6 + 3, none⟩ = some (.int .i64 x.leans) ∧ W.cell? ⟨b, off + k * 6 + 4, none⟩ = some (.int .i64 x.steep) ∧ W.cell? ⟨b, off + k * 6 + 5, none⟩ = some (.int .i64 x.feather) := by
  have hq := (List.getElem?_eq_some_iff.1 hk).1
  have hl := h.len
  obtain ⟨b, off, rfl, hat⟩ := RdA.at h (by omega)
  have F := fun j hj v hv => hat (k * 6 + j) v ((fursV_at l k x hk j hj).trans hv)
  refine ⟨b, off, rfl, ?_, ?_, ?_, ?_, ?_, ?_⟩
  · exact F 0 (by omega) _ rfl
  · rw [Nat.add_assoc]; exact F 1 (by omega) _ rfl
  · rw [Nat.add_assoc]; exact F 2 (by omega) _ rfl
  · rw [Nat.add_assoc]; exact F 3 (by omega) _ rfl
  · rw [Nat.add_assoc]; exact F 4 (by omega) _ rfl
  · rw [Nat.add_assoc]; exact F 5 (by omega) _ rfl
def idxU (es : List FurV) (p : FurV → Bool) : Int := match es.findIdx? p with | some i => (i : Int) | none => -1
theorem idxU_at {es : List FurV} {p : FurV → Bool} {k : Nat} {x : FurV} (hx : es[k]? = some x) (hp : p x = true) (hb : ∀ j y, j < k → es[j]? = some y → p y = false) : idxU es p = k := by
  have : es.findIdx? p = some k := by
    rw [List.findIdx?_eq_some_iff_getElem]
    obtain ⟨h1, rfl⟩ := List.getElem?_eq_some_iff.1 hx
    exact ⟨h1, hp, fun j hj => by rw [hb j _ hj (List.getElem?_eq_getElem (by omega))]; decide⟩
  simp [idxU, this]
theorem idxU_none {es : List FurV} {p : FurV → Bool} (hb : ∀ j y, j < es.length → es[j]? = some y → p y = false) : idxU es p = -1 := by
  have : es.findIdx? p = none := by
    rw [List.findIdx?_eq_none_iff]
    intro x hx
    obtain ⟨j, h1, h2⟩ := List.getElem_of_mem hx
    exact hb j x h1 (by rw [List.getElem?_eq_getElem h1, h2])
  simp [idxU, this]
theorem idxU_any {es : List FurV} {p : FurV → Bool} : decide (0 ≤ idxU es p) = es.any p := by
  unfold idxU
  cases h : es.findIdx? p with
  | none =>
    rw [List.findIdx?_eq_none_iff] at h
    rw [List.any_eq_false.2 (fun x hx => by rw [h x hx]; decide)]
    rfl
  | some i =>
    obtain ⟨h1, h2, _⟩ := List.findIdx?_eq_some_iff_getElem.1 h
    rw [List.any_eq_true.2 ⟨_, List.getElem_mem h1, h2⟩]
    simp
set_option maxHeartbeats 4000000 in
set_option maxRecDepth 100000 in
theorem indexU_any (es : List FurV) (pred : FurV → Bool) (fn : Nat) (cv : Value) (hfn : ∀ (args : Array Value) (w : World), (callFunc fn args).run Tryz.prog w = .ok (.enter fn args) w)
    (a : Option Addr) (n c : Nat) (w : World) (hr : RdFu w a n c es)
    (hp : ∀ e ∈ es, ∀ W, Below w.heap.size w W → Calls Tryz.prog fn #[.agg (furA e), cv] W fun r W' => r = .returned (.bool (pred e)) ∧ Below W.heap.size W W') :
    Calls Tryz.prog 112 #[.slice a n c, .func (.func fn) #[] #[cv]] w fun e w' => e = .returned (.int .i64 (idxU es pred)) ∧ Below w.heap.size w w' := by
  have I6 : (Tryz.prog.info? 76).map (·.size) = some 6 := by kernel_rfl
  have hn63 : n ≤ 9223372036854775807 := RdA.maxn hr
  have HN : Hid (es.length = n) := Lib.hid hr.len
  have RE := Lib.hid (show ∀ W, Below w.heap.size w W → RdFu W a n c es from fun W h => hr.below h)
  have HPD := Lib.hid hp
  clear hr hp
  go_enter Tryz.func112, Tryz.ntmps112
  go_wp2_with fail
  go_loopw [5, 8] (fun _ i wr => ∃ k : Nat, i = .int .i64 k ∧ k ≤ n ∧ Hid (∀ j y, j < k → es[j]? = some y → pred y = false) ∧ Hid (Below w.heap.size w wr)) (fun _ i _ => n - (intOf i).toNat)
  case atStart => exact ⟨0, rfl, Nat.zero_le _, Lib.hid (fun j y h => by omega), Lib.hid (Below.refl _ _)⟩
  case round =>
    obtain ⟨k, rfl, hk, HB, B1⟩ := hrel
    by_cases hkn : k < n
    · have t0 : decide ((k : Int) < (n : Int)) = true := by simp; omega
      obtain ⟨x, Hx⟩ : ∃ x, es[k]? = some x := ⟨es[k]'(by rw [HN.out]; exact hkn), List.getElem?_eq_getElem (by rw [HN.out]; exact hkn)⟩
      obtain ⟨b, off, rfl, hk1, hk2, hk3, hk4, hk5, hk6⟩ := (RE.out _ B1.out).get Hx
      obtain ⟨o, ho⟩ : ∃ o, Hid (off + k * 6 = o) := ⟨_, Lib.hid rfl⟩
      rw [ho.out] at hk1 hk2 hk3 hk4 hk5 hk6
      have hi := fun W => qidx (W := W) (c := c) (b := b) Tryz.underlying22 I6 hkn ho.out
      have hk64 : (k : Int) + 1 ≤ 9223372036854775807 := by omega
      go_wp2_with fail
      refine (HPD.out x (List.mem_of_getElem? Hx) _ B1.out).mono ?_
      rintro e w2 ⟨rfl, b2⟩
      have B2 := Lib.hid (B1.out.trans (b2.mono B1.out.size))
      clear b2 hi t0 hk1 hk2 hk3 hk4 hk5 hk6
      cases hpx : pred x with
      | true =>
        go_wp2_with fail
        go_ret
        exact ⟨by rw [idxU_at Hx hpx HB.out]; rfl, B2.out⟩
      | false =>
        have HPX := Lib.hid hpx; clear hpx
        go_wp2_with fail
        go_roundw
        case rel => exact ⟨k + 1, by simp, by omega, Lib.hid (fun j y hj hy => by
          rcases Nat.lt_or_ge j k with h | h
          · exact HB.out j y h hy
          · have e : j = k := by omega
            subst e
            rw [Hx] at hy
            cases hy
            exact HPX.out), B2⟩
        case measure => simp [intOf]; omega
    · have t0 : decide ((k : Int) < (n : Int)) = false := by simp; omega
      go_wp2_with fail
      go_ret
      exact ⟨by rw [idxU_none (fun j y hj hy => HB.out j y (by have := HN.out; omega) hy)]; rfl, B1.out⟩
set_option maxHeartbeats 4000000 in
set_option maxRecDepth 100000 in
theorem containsU_any (es : List FurV) (pred : FurV → Bool) (fn : Nat) (cv : Value) (hfn : ∀ (args : Array Value) (w : World), (callFunc fn args).run Tryz.prog w = .ok (.enter fn args) w)
    (a : Option Addr) (n c : Nat) (w : World) (hr : RdFu w a n c es)
    (hp : ∀ e ∈ es, ∀ W, Below w.heap.size w W → Calls Tryz.prog fn #[.agg (furA e), cv] W fun r W' => r = .returned (.bool (pred e)) ∧ Below W.heap.size W W') :
    Calls Tryz.prog 70 #[.slice a n c, .func (.func fn) #[] #[cv]] w fun e w' => e = .returned (.bool (es.any pred)) ∧ Below w.heap.size w w' := by
  have HX := Lib.hid (indexU_any es pred fn cv hfn a n c w hr hp)
  clear hr hp hfn
  go_enter Tryz.func70, Tryz.ntmps70
  go_wp2_with fail
  refine HX.out.mono ?_
  rintro e w1 ⟨rfl, b1⟩
  have B1 := Lib.hid b1
  clear b1
  have hq := @idxU_any es pred
  go_wp2_with fail
  go_ret
  exact ⟨by first | rfl | (rw [← hq]; rfl), B1.out⟩
end Go.Proofs.YtimmadkbkimonaaGreatDoor
namespace Go.Proofs.YtimmadkbkimonaaGreatDoor
set_option linter.unusedSimpArgs false
set_option linter.unusedVariables false
open Go.RowKit

def patA (p : PatV) (fa : Option Addr) (fn : Nat) : Array Value := #[.int .i64 p.eye, .int .i64 p.rings, .int .i64 p.harps, .int .i64 p.wide, .slice fa p.furs.length fn]
theorem qJP (p : PatV) (fa : Option Addr) (fn : Nat) : (Tryz.prog.info? 24).map (·.size) = some (patA p fa fn).size := by kernel_rfl
theorem qJU (x : FurV) : (Tryz.prog.info? 76).map (·.size) = some (furA x).size := by kernel_rfl
set_option maxHeartbeats 4000000 in
set_option maxRecDepth 100000 in
theorem furB_any (p : PatV) (fa : Option Addr) (fn : Nat) (x : FurV) (P : Nat) (w : World) (hw : 1 ≤ p.wide ∧ p.wide ≤ 96) (hg : 1 ≤ p.rings ∧ p.rings ≤ 24) (hX : w.heap[P]? = some (.cells (patA p fa fn) 24 (0, 0))) :
    Calls Tryz.prog 71 #[.agg (furA x), .pointer (some ⟨P, 0, none⟩)] w fun e w' => e = .returned (.bool (!furB p x)) ∧ Below w.heap.size w w' := by
  have N0 : Hid (inB x.at_ 0 (p.wide - 1) = false → furB p x = false) := Lib.hid (fun h => by unfold furB; rw [h]; simp)
  have N1 : Hid (inB x.from_ 0 (p.rings - 1) = false → furB p x = false) := Lib.hid (fun h => by unfold furB; rw [h]; simp)
  have N2 : Hid (inB x.lean (-96) 96 = false → furB p x = false) := Lib.hid (fun h => by unfold furB; rw [h]; simp)
  have N3 : Hid (inB x.leans 1 96 = false → furB p x = false) := Lib.hid (fun h => by unfold furB; rw [h]; simp)
  have N4 : Hid (inB x.steep 1 p.wide = false → furB p x = false) := Lib.hid (fun h => by unfold furB; rw [h]; simp)
  have N5 : Hid (inB x.feather 0 p.wide = false → furB p x = false) := Lib.hid (fun h => by unfold furB; rw [h]; simp)
  have NY : Hid (inB x.at_ 0 (p.wide - 1) = true → inB x.from_ 0 (p.rings - 1) = true → inB x.lean (-96) 96 = true → inB x.leans 1 96 = true → inB x.steep 1 p.wide = true → inB x.feather 0 p.wide = true → furB p x = decide (x.steep + x.feather < p.wide)) := Lib.hid (fun h0 h1 h2 h3 h4 h5 => by unfold furB; rw [h0, h1, h2, h3, h4, h5]; simp)
  have WW := Lib.hid (show wrap64 (p.wide - 1) = p.wide - 1 by unfold wrap64; omega)
  have WR := Lib.hid (show wrap64 (p.rings - 1) = p.rings - 1 by unfold wrap64; omega)
  have HB := Lib.hid (And.intro hw hg)
  have XPP := Lib.hid (fun W (hb : Below w.heap.size w W) => qblk hb hX)
  clear hw hg hX
  have AL := Lib.hid (al1 w (.cells (furA x) 76))
  go_enter Tryz.func71, Tryz.ntmps71
  go_upto_region 1 with fail
  obtain ⟨q, hq⟩ : ∃ q, Hid (w.heap.size = q) := ⟨_, Lib.hid rfl⟩
  rw [hq.out] at AL ⊢
  generalize (w.alloc (.cells (furA x) 76)) = W0 at *
  have BF : Hid (Below w.heap.size w W0) := Lib.hid (by rw [hq.out]; exact AL.out.1)
  have XU : Hid (W0.heap[q]? = some (.cells (furA x) 76 (0, 0))) := Lib.hid AL.out.2
  clear AL
  have u0 := qcell XU.out 0 (.int .i64 x.at_) rfl
  have u1 := qcell XU.out 1 (.int .i64 x.from_) rfl
  have u2 := qcell XU.out 2 (.int .i64 x.lean) rfl
  have u3 := qcell XU.out 3 (.int .i64 x.leans) rfl
  have u4 := qcell XU.out 4 (.int .i64 x.steep) rfl
  have u5 := qcell XU.out 5 (.int .i64 x.feather) rfl
  have XP := Lib.hid (XPP.out W0 BF.out)
  have c1 := qcell XP.out 1 (.int .i64 p.rings) rfl
  have c3 := qcell XP.out 3 (.int .i64 p.wide) rfl
  have ww := WW.out
  have wr := WR.out
  refine yB ?_
  refine yW (.pointer (some ⟨q, 0, none⟩)) ?_
  refine yW (.int .i64 x.at_) ?_
  refine yW (.pointer (some ⟨P, 3, none⟩)) ?_
  refine yW (.int .i64 p.wide) ?_
  refine yW (.int .i64 (p.wide - 1)) ?_ (.inl ⟨by kernel_rfl, by intro W hW; rw [hW]; go_simp; exact (IntWalk.i64_left _).trans WW.out⟩)
  refine yR (fun K hK => ?_)
  go_simp
  refine (within_any x.at_ 0 (p.wide - 1) _).mono ?_
  rintro e V1 ⟨rfl, rfl⟩
  cases h0 : inB x.at_ 0 (p.wide - 1)
  · have HN := Lib.hid (N0.out h0)
    clear h0
    try dsimp only
    refine yK hK ?_
    clear hK K
    refine yM (.bool true) ?_
    refine yM (.bool true) ?_
    go_skip
    refine yM (.bool true) ?_
    refine yM (.bool true) ?_
    go_skip
    refine yM (.bool true) ?_
    refine yM (.bool true) ?_
    go_skip
    refine yM (.bool true) ?_
    refine yM (.bool true) ?_
    go_skip
    refine yM (.bool true) ?_
    refine yM (.bool true) ?_
    go_skip
    refine yM (.bool true) ?_
    refine yM (.bool true) ?_
    go_skip
    refine yM (.bool true) ?_
    refine yM (.bool true) ?_
    refine yE ?_
    go_wp2_with fail
    go_ret
    exact ⟨by rw [HN.out]; rfl, BF.out⟩
  · have H0 := Lib.hid h0
    clear h0
    try dsimp only
    refine yK hK ?_
    clear hK K
    refine yM (.bool false) ?_
    refine yM (.bool false) ?_
    refine yW (.pointer (some ⟨q, 1, none⟩)) ?_
    refine yW (.int .i64 x.from_) ?_
    refine yW (.pointer (some ⟨P, 1, none⟩)) ?_
    refine yW (.int .i64 p.rings) ?_
    refine yW (.int .i64 (p.rings - 1)) ?_ (.inl ⟨by kernel_rfl, by intro W hW; rw [hW]; go_simp; exact (IntWalk.i64_left _).trans WR.out⟩)
    refine yR (fun K hK => ?_)
    go_simp
    refine (within_any x.from_ 0 (p.rings - 1) _).mono ?_
    rintro e V2 ⟨rfl, rfl⟩
    cases h1 : inB x.from_ 0 (p.rings - 1)
    · have HN := Lib.hid (N1.out h1)
      clear h1
      try dsimp only
      refine yK hK ?_
      clear hK K
      refine yM (.bool true) ?_
      refine yM (.bool true) ?_
      refine yM (.bool true) ?_
      go_skip
      refine yM (.bool true) ?_
      refine yM (.bool true) ?_
      go_skip
      refine yM (.bool true) ?_
      refine yM (.bool true) ?_
      go_skip
      refine yM (.bool true) ?_
      refine yM (.bool true) ?_
      go_skip
      refine yM (.bool true) ?_
      refine yM (.bool true) ?_
      go_skip
      refine yM (.bool true) ?_
      refine yM (.bool true) ?_
      refine yE ?_
      go_wp2_with fail
      go_ret
      exact ⟨by rw [HN.out]; rfl, BF.out⟩
    · have H1 := Lib.hid h1
      clear h1
      try dsimp only
      refine yK hK ?_
      clear hK K
      refine yM (.bool false) ?_
      refine yM (.bool false) ?_
      refine yM (.bool false) ?_
      refine yW (.pointer (some ⟨q, 2, none⟩)) ?_
      refine yW (.int .i64 x.lean) ?_
      refine yR (fun K hK => ?_)
      go_simp
      refine (within_any x.lean (-96) 96 _).mono ?_
      rintro e V3 ⟨rfl, rfl⟩
      cases h2 : inB x.lean (-96) 96
      · have HN := Lib.hid (N2.out h2)
        clear h2
        try dsimp only
        refine yK hK ?_
        clear hK K
        refine yM (.bool true) ?_
        refine yM (.bool true) ?_
        refine yM (.bool true) ?_
        go_skip
        refine yM (.bool true) ?_
        refine yM (.bool true) ?_
        go_skip
        refine yM (.bool true) ?_
        refine yM (.bool true) ?_
        go_skip
        refine yM (.bool true) ?_
        refine yM (.bool true) ?_
        go_skip
        refine yM (.bool true) ?_
        refine yM (.bool true) ?_
        refine yE ?_
        go_wp2_with fail
        go_ret
        exact ⟨by rw [HN.out]; rfl, BF.out⟩
      · have H2 := Lib.hid h2
        clear h2
        try dsimp only
        refine yK hK ?_
        clear hK K
        refine yM (.bool false) ?_
        refine yM (.bool false) ?_
        refine yM (.bool false) ?_
        refine yW (.pointer (some ⟨q, 3, none⟩)) ?_
        refine yW (.int .i64 x.leans) ?_
        refine yR (fun K hK => ?_)
        go_simp
        refine (within_any x.leans 1 96 _).mono ?_
        rintro e V4 ⟨rfl, rfl⟩
        cases h3 : inB x.leans 1 96
        · have HN := Lib.hid (N3.out h3)
          clear h3
          try dsimp only
          refine yK hK ?_
          clear hK K
          refine yM (.bool true) ?_
          refine yM (.bool true) ?_
          refine yM (.bool true) ?_
          go_skip
          refine yM (.bool true) ?_
          refine yM (.bool true) ?_
          go_skip
          refine yM (.bool true) ?_
          refine yM (.bool true) ?_
          go_skip
          refine yM (.bool true) ?_
          refine yM (.bool true) ?_
          refine yE ?_
          go_wp2_with fail
          go_ret
          exact ⟨by rw [HN.out]; rfl, BF.out⟩
        · have H3 := Lib.hid h3
          clear h3
          try dsimp only
          refine yK hK ?_
          clear hK K
          refine yM (.bool false) ?_
          refine yM (.bool false) ?_
          refine yM (.bool false) ?_
          refine yW (.pointer (some ⟨q, 4, none⟩)) ?_
          refine yW (.int .i64 x.steep) ?_
          refine yW (.pointer (some ⟨P, 3, none⟩)) ?_
          refine yW (.int .i64 p.wide) ?_
          refine yR (fun K hK => ?_)
          go_simp
          refine (within_any x.steep 1 p.wide _).mono ?_
          rintro e V5 ⟨rfl, rfl⟩
          cases h4 : inB x.steep 1 p.wide
          · have HN := Lib.hid (N4.out h4)
            clear h4
            try dsimp only
            refine yK hK ?_
            clear hK K
            refine yM (.bool true) ?_
            refine yM (.bool true) ?_
            refine yM (.bool true) ?_
            go_skip
            refine yM (.bool true) ?_
            refine yM (.bool true) ?_
            go_skip
            refine yM (.bool true) ?_
            refine yM (.bool true) ?_
            refine yE ?_
            go_wp2_with fail
            go_ret
            exact ⟨by rw [HN.out]; rfl, BF.out⟩
          · have H4 := Lib.hid h4
            clear h4
            try dsimp only
            refine yK hK ?_
            clear hK K
            refine yM (.bool false) ?_
            refine yM (.bool false) ?_
            refine yM (.bool false) ?_
            refine yW (.pointer (some ⟨q, 5, none⟩)) ?_
            refine yW (.int .i64 x.feather) ?_
            refine yW (.pointer (some ⟨P, 3, none⟩)) ?_
            refine yW (.int .i64 p.wide) ?_
            refine yR (fun K hK => ?_)
            go_simp
            refine (within_any x.feather 0 p.wide _).mono ?_
            rintro e V6 ⟨rfl, rfl⟩
            cases h5 : inB x.feather 0 p.wide
            · have HN := Lib.hid (N5.out h5)
              clear h5
              try dsimp only
              refine yK hK ?_
              clear hK K
              refine yM (.bool true) ?_
              refine yM (.bool true) ?_
              refine yM (.bool true) ?_
              go_skip
              refine yM (.bool true) ?_
              refine yM (.bool true) ?_
              refine yE ?_
              go_wp2_with fail
              go_ret
              exact ⟨by rw [HN.out]; rfl, BF.out⟩
            · have H5 := Lib.hid h5
              clear h5
              try dsimp only
              refine yK hK ?_
              clear hK K
              refine yM (.bool false) ?_
              refine yM (.bool false) ?_
              refine yM (.bool false) ?_
              refine yW (.pointer (some ⟨q, 4, none⟩)) ?_
              refine yW (.int .i64 x.steep) ?_
              refine yW (.pointer (some ⟨q, 5, none⟩)) ?_
              refine yW (.int .i64 x.feather) ?_
              have ws : wrap64 (x.steep + x.feather) = x.steep + x.feather := by
                have h4 := inB_true.1 H4.out
                have h5 := inB_true.1 H5.out
                have := HB.out
                unfold wrap64
                omega
              have HY := Lib.hid (NY.out H0.out H1.out H2.out H3.out H4.out H5.out)
              refine yW (.int .i64 (x.steep + x.feather)) ?_ (.inl ⟨by kernel_rfl, by intro W hW; rw [hW]; go_simp; exact (IntWalk.i64_left _).trans ws⟩)
              refine yW (.pointer (some ⟨P, 3, none⟩)) ?_
              refine yW (.int .i64 p.wide) ?_
              cases hs : decide (p.wide ≤ x.steep + x.feather)
              · have HN : Hid (furB p x = true) := Lib.hid (by rw [HY.out, decide_eq_true_eq]; have := of_decide_eq_false hs; omega)
                refine yW (.bool false) ?_
                refine yM (.bool false) ?_
                refine yM (.bool false) ?_
                refine yE ?_
                go_wp2_with fail
                go_ret
                exact ⟨by rw [HN.out]; rfl, BF.out⟩
              · have HN : Hid (furB p x = false) := Lib.hid (by rw [HY.out, decide_eq_false_iff_not]; have := of_decide_eq_true hs; omega)
                refine yW (.bool true) ?_
                refine yM (.bool true) ?_
                refine yM (.bool true) ?_
                refine yE ?_
                go_wp2_with fail
                go_ret
                exact ⟨by rw [HN.out]; rfl, BF.out⟩
set_option maxHeartbeats 4000000 in
set_option maxRecDepth 100000 in
theorem validP_any (p : PatV) (fa : Option Addr) (fn : Nat) (w : World) (hr : RdFu w fa p.furs.length fn p.furs) :
    Calls Tryz.prog 14 #[.agg (patA p fa fn)] w fun e w' => e = .returned (.bool p.valid) ∧ Below w.heap.size w w' := by
  have N0 : Hid (inB p.eye 1 16 = false → p.valid = false) := Lib.hid (fun h => by unfold PatV.valid; rw [h]; simp)
  have N1 : Hid (inB p.rings 1 24 = false → p.valid = false) := Lib.hid (fun h => by unfold PatV.valid; rw [h]; simp)
  have N2 : Hid (inB p.harps 1 96 = false → p.valid = false) := Lib.hid (fun h => by unfold PatV.valid; rw [h]; simp)
  have N3 : Hid (inB p.wide 1 96 = false → p.valid = false) := Lib.hid (fun h => by unfold PatV.valid; rw [h]; simp)
  have N4 : Hid (inB (p.harps * p.wide) 2 96 = false → p.valid = false) := Lib.hid (fun h => by unfold PatV.valid; rw [h]; simp)
  have N5 : Hid (¬ p.furs.length ≤ 16 → p.valid = false) := Lib.hid (fun h => by unfold PatV.valid; rw [decide_eq_false h]; simp)
  have NY : Hid (inB p.eye 1 16 = true → inB p.rings 1 24 = true → inB p.harps 1 96 = true → inB p.wide 1 96 = true → inB (p.harps * p.wide) 2 96 = true → p.furs.length ≤ 16 → p.valid = !(p.furs.any fun x => !furB p x)) := Lib.hid (fun h0 h1 h2 h3 h4 h5 => by unfold PatV.valid; rw [h0, h1, h2, h3, h4, decide_eq_true h5]; simp [List.all_eq_not_any_not])
  have HR := Lib.hid (fun W (hb : Below w.heap.size w W) => hr.below hb)
  clear hr
  have VFN := Lib.hid (show ∀ (args : Array Value) (w : World), (callFunc 71 args).run Tryz.prog w = .ok (.enter 71 args) w from fun args w => by kernel_rfl)
  have AL := Lib.hid (al1 w (.cells (patA p fa fn) 24))
  go_enter Tryz.func14, Tryz.ntmps14
  go_upto_region 1 with fail
  obtain ⟨q, hq⟩ : ∃ q, Hid (w.heap.size = q) := ⟨_, Lib.hid rfl⟩
  rw [hq.out] at AL ⊢
  generalize (w.alloc (.cells (patA p fa fn) 24)) = W0 at *
  have BF : Hid (Below w.heap.size w W0) := Lib.hid (by rw [hq.out]; exact AL.out.1)
  have XP : Hid (W0.heap[q]? = some (.cells (patA p fa fn) 24 (0, 0))) := Lib.hid AL.out.2
  clear AL
  have c0 := qcell XP.out 0 (.int .i64 p.eye) rfl
  have c1 := qcell XP.out 1 (.int .i64 p.rings) rfl
  have c2 := qcell XP.out 2 (.int .i64 p.harps) rfl
  have c3 := qcell XP.out 3 (.int .i64 p.wide) rfl
  have c4 := qcell XP.out 4 (.slice fa p.furs.length fn) rfl
  go_wp2_with (first
    | (refine wpList_load_row rfl 24 _ rfl q rfl 24 (patA p fa fn) (0, 0) _ XP.out Tryz.underlying24 rfl (by exact (qJP p fa fn)) ?_)
    | fail)
  refine (within_any p.eye 1 16 _).mono ?_
  rintro e V1 ⟨rfl, rfl⟩
  cases h0 : inB p.eye 1 16
  · have HN := Lib.hid (N0.out h0)
    clear h0
    go_wp2_with (first
      | (refine wpList_load_row rfl 24 _ rfl q rfl 24 (patA p fa fn) (0, 0) _ XP.out Tryz.underlying24 rfl (by exact (qJP p fa fn)) ?_)
      | fail)
    go_ret
    exact ⟨by rw [HN.out]; rfl, BF.out⟩
  have H0 := Lib.hid h0
  clear h0
  go_wp2_with (first
    | (refine wpList_load_row rfl 24 _ rfl q rfl 24 (patA p fa fn) (0, 0) _ XP.out Tryz.underlying24 rfl (by exact (qJP p fa fn)) ?_)
    | fail)
  refine (within_any p.rings 1 24 _).mono ?_
  rintro e V2 ⟨rfl, rfl⟩
  cases h1 : inB p.rings 1 24
  · have HN := Lib.hid (N1.out h1)
    clear h1
    go_wp2_with (first
      | (refine wpList_load_row rfl 24 _ rfl q rfl 24 (patA p fa fn) (0, 0) _ XP.out Tryz.underlying24 rfl (by exact (qJP p fa fn)) ?_)
      | fail)
    go_ret
    exact ⟨by rw [HN.out]; rfl, BF.out⟩
  have H1 := Lib.hid h1
  clear h1
  go_wp2_with (first
    | (refine wpList_load_row rfl 24 _ rfl q rfl 24 (patA p fa fn) (0, 0) _ XP.out Tryz.underlying24 rfl (by exact (qJP p fa fn)) ?_)
    | fail)
  refine (within_any p.harps 1 96 _).mono ?_
  rintro e V3 ⟨rfl, rfl⟩
  cases h2 : inB p.harps 1 96
  · have HN := Lib.hid (N2.out h2)
    clear h2
    go_wp2_with (first
      | (refine wpList_load_row rfl 24 _ rfl q rfl 24 (patA p fa fn) (0, 0) _ XP.out Tryz.underlying24 rfl (by exact (qJP p fa fn)) ?_)
      | fail)
    go_ret
    exact ⟨by rw [HN.out]; rfl, BF.out⟩
  have H2 := Lib.hid h2
  clear h2
  go_wp2_with (first
    | (refine wpList_load_row rfl 24 _ rfl q rfl 24 (patA p fa fn) (0, 0) _ XP.out Tryz.underlying24 rfl (by exact (qJP p fa fn)) ?_)
    | fail)
  refine (within_any p.wide 1 96 _).mono ?_
  rintro e V4 ⟨rfl, rfl⟩
  cases h3 : inB p.wide 1 96
  · have HN := Lib.hid (N3.out h3)
    clear h3
    go_wp2_with (first
      | (refine wpList_load_row rfl 24 _ rfl q rfl 24 (patA p fa fn) (0, 0) _ XP.out Tryz.underlying24 rfl (by exact (qJP p fa fn)) ?_)
      | fail)
    go_ret
    exact ⟨by rw [HN.out]; rfl, BF.out⟩
  have H3 := Lib.hid h3
  clear h3
  have ws : wrap64 (p.harps * p.wide) = p.harps * p.wide := by
    have h2 := inB_true.1 H2.out
    have h3 := inB_true.1 H3.out
    have h5 : p.harps * p.wide ≤ 96 * 96 := Int.mul_le_mul (by omega) (by omega) (by omega) (by omega)
    have h6 := Int.mul_nonneg (show 0 ≤ p.harps by omega) (show 0 ≤ p.wide by omega)
    unfold wrap64
    omega
  go_wp2_with (first
    | (refine wpList_load_row rfl 24 _ rfl q rfl 24 (patA p fa fn) (0, 0) _ XP.out Tryz.underlying24 rfl (by exact (qJP p fa fn)) ?_)
    | fail)
  refine (within_any (p.harps * p.wide) 2 96 _).mono ?_
  rintro e V5 ⟨rfl, rfl⟩
  cases h4 : inB (p.harps * p.wide) 2 96
  · have HN := Lib.hid (N4.out h4)
    clear h4
    go_wp2_with (first
      | (refine wpList_load_row rfl 24 _ rfl q rfl 24 (patA p fa fn) (0, 0) _ XP.out Tryz.underlying24 rfl (by exact (qJP p fa fn)) ?_)
      | fail)
    go_ret
    exact ⟨by rw [HN.out]; rfl, BF.out⟩
  have H4 := Lib.hid h4
  clear h4
  cases h5 : decide ((16 : Int) < (p.furs.length : Int))
  case true =>
    have HN := Lib.hid (N5.out (by have := of_decide_eq_true h5; omega))
    go_wp2_with (first
      | (refine wpList_load_row rfl 24 _ rfl q rfl 24 (patA p fa fn) (0, 0) _ XP.out Tryz.underlying24 rfl (by exact (qJP p fa fn)) ?_)
      | fail)
    go_ret
    exact ⟨by rw [HN.out]; rfl, BF.out⟩
  have HY := Lib.hid (NY.out H0.out H1.out H2.out H3.out H4.out (by have := of_decide_eq_false h5; omega))
  have HW := Lib.hid (And.intro (inB_true.1 H3.out) (inB_true.1 H1.out))
  clear N0 N1 N2 N3 N4 N5 NY
  go_wp2_with (first
    | (refine wpList_load_row rfl 24 _ rfl q rfl 24 (patA p fa fn) (0, 0) _ XP.out Tryz.underlying24 rfl (by exact (qJP p fa fn)) ?_)
    | fail)
  refine (containsU_any p.furs (fun x => !furB p x) 71 (.pointer (some ⟨q, 0, none⟩)) VFN.out fa p.furs.length fn _ (HR.out _ BF.out) (fun x _ W hb => furB_any p fa fn x q W HW.out.1 HW.out.2 (qblk hb XP.out))).mono ?_
  rintro e V9 ⟨rfl, b⟩
  replace BF := Lib.hid (BF.out.trans (b.mono BF.out.size))
  clear b
  go_wp2_with fail
  go_ret
  exact ⟨by rw [HY.out]; rfl, BF.out⟩
end Go.Proofs.YtimmadkbkimonaaGreatDoor
namespace Go.Proofs.YtimmadkbkimonaaGreatDoor
set_option linter.unusedSimpArgs false
set_option linter.unusedVariables false
open Go.RowKit

theorem floor_eq (a b : Int) (hb : 0 < b) : Int.tdiv (a - around a b) b = a / b := by
  unfold around
  have h := Int.mul_ediv_add_emod a b
  rw [show a - a % b = b * (a / b) by omega]
  exact Int.mul_tdiv_cancel_left _ (by omega)
def cutK (f : FaceV) (x : FurV) (ring first : Int) (l : List Int) (k : Nat) : List Int := ((List.range k).map fun (n : Nat) => (indexF f ring (first + x.at_ + leanF f.rings x ring + n), if (n : Int) < x.steep then (1 : Int) else 2)).foldl putE l
theorem cutK_succ (f : FaceV) (x : FurV) (ring first : Int) (l : List Int) (k : Nat) : cutK f x ring first l (k + 1) = putE (cutK f x ring first l k) (indexF f ring (first + x.at_ + leanF f.rings x ring + k), if (k : Int) < x.steep then (1 : Int) else 2) := by
  unfold cutK
  rw [List.range_succ, List.map_append, List.foldl_append]
  rfl
theorem putE_ok {f : FaceV} {l : List Int} {e : Int × Int} (h : ({ f with kinds := l } : FaceV).valid = true) (he : e.2 = 1 ∨ e.2 = 2) : ({ f with kinds := putE l e } : FaceV).valid = true := by
  obtain ⟨h1, h2, h3, h4, h5⟩ := FaceV.valid_iff.1 h
  refine FaceV.valid_iff.2 ⟨h1, h2, h3, ?_, fun k hk => ?_⟩
  · show ((putE l e).length : Int) = _
    rw [putE_len]
    exact h4
  · have hk2 : k ∈ putE l e := hk
    unfold putE at hk2
    split at hk2
    · rcases List.mem_or_eq_of_mem_set hk2 with h | h
      · exact h5 k h
      · omega
    · exact h5 k hk2
theorem cutK_ok {f : FaceV} {x : FurV} {ring first : Int} {l : List Int} (h : ({ f with kinds := l } : FaceV).valid = true) : ∀ k, ({ f with kinds := cutK f x ring first l k } : FaceV).valid = true
  | 0 => h
  | k + 1 => by
    rw [cutK_succ]
    refine putE_ok (cutK_ok h k) ?_
    dsimp only
    split
    · exact .inl rfl
    · exact .inr rfl
def ringK (f : FaceV) (p : PatV) (x : FurV) (ring : Int) (l : List Int) (h : Nat) : List Int := ((List.range h).flatMap fun (h : Nat) => cutE f x ring (h * p.wide)).foldl putE l
theorem ringK_succ (f : FaceV) (p : PatV) (x : FurV) (ring : Int) (l : List Int) (h : Nat) : ringK f p x ring l (h + 1) = cutK f x ring (h * p.wide) (ringK f p x ring l h) (wideF x) := by
  unfold ringK
  rw [List.range_succ, List.flatMap_append, List.foldl_append, List.flatMap_singleton]
  rfl
theorem ringK_ok {f : FaceV} {p : PatV} {x : FurV} {ring : Int} {l : List Int} (h : ({ f with kinds := l } : FaceV).valid = true) : ∀ k, ({ f with kinds := ringK f p x ring l k } : FaceV).valid = true
  | 0 => h
  | k + 1 => by rw [ringK_succ]; exact cutK_ok (ringK_ok h k) _
theorem ringK_len (f : FaceV) (p : PatV) (x : FurV) (ring : Int) (l : List Int) (k : Nat) : (ringK f p x ring l k).length = l.length := putE_lens _ _
def furK (f : FaceV) (p : PatV) (x : FurV) (l : List Int) (k : Nat) : List Int := ((List.range k).flatMap fun (k : Nat) => ringE f p x (x.from_ + k)).foldl putE l
theorem furK_succ (f : FaceV) (p : PatV) (x : FurV) (l : List Int) (k : Nat) : furK f p x l (k + 1) = ringK f p x (x.from_ + k) (furK f p x l k) p.harps.toNat := by
  unfold furK
  rw [List.range_succ, List.flatMap_append, List.foldl_append, List.flatMap_singleton]
  rfl
theorem furK_ok {f : FaceV} {p : PatV} {x : FurV} {l : List Int} (h : ({ f with kinds := l } : FaceV).valid = true) : ∀ k, ({ f with kinds := furK f p x l k } : FaceV).valid = true
  | 0 => h
  | k + 1 => by rw [furK_succ]; exact ringK_ok (furK_ok h k) _
theorem furK_len (f : FaceV) (p : PatV) (x : FurV) (l : List Int) (k : Nat) : (furK f p x l k).length = l.length := putE_lens _ _
def patK (p : PatV) (k : Nat) : List Int := (p.furs.take k).foldl (fun l x => (furE (patF p) p x).foldl putE l) (patF p).kinds
theorem patK_succ (p : PatV) {k : Nat} {x : FurV} (h : p.furs[k]? = some x) : patK p (k + 1) = furK (patF p) p x (patK p k) (p.rings - x.from_).toNat := by
  unfold patK
  rw [List.take_add_one, h, List.foldl_append]
  rfl
theorem patK_all (p : PatV) : ({ patF p with kinds := patK p p.furs.length } : FaceV) = dressF p := by
  unfold patK dressF
  rw [List.take_length]
theorem patK_ok {p : PatV} (hp : p.valid = true) : ∀ k, ({ patF p with kinds := patK p k } : FaceV).valid = true
  | 0 => patF_valid hp
  | k + 1 => by
    rcases Nat.lt_or_ge k p.furs.length with h | h
    · rw [patK_succ p (List.getElem?_eq_getElem h)]
      exact furK_ok (patK_ok hp k) _
    · have : patK p (k + 1) = patK p k := by unfold patK; rw [List.take_of_length_le (by omega), List.take_of_length_le h]
      rw [this]
      exact patK_ok hp k
theorem patK_len (p : PatV) : ∀ k, (patK p k).length = (patF p).kinds.length
  | 0 => rfl
  | k + 1 => by
    rcases Nat.lt_or_ge k p.furs.length with h | h
    · rw [patK_succ p (List.getElem?_eq_getElem h), furK_len, patK_len p k]
    · have : patK p (k + 1) = patK p k := by unfold patK; rw [List.take_of_length_le (by omega), List.take_of_length_le h]
      rw [this, patK_len p k]
theorem lean_bound {p : PatV} (hp : p.valid = true) {x : FurV} (hx : x ∈ p.furs) {ring : Int} (hr : 0 ≤ ring ∧ ring ≤ p.rings - 1) : -2304 ≤ (p.rings - 1 - ring) * x.lean ∧ (p.rings - 1 - ring) * x.lean ≤ 2304 := by
  obtain ⟨⟨_, h2, _⟩, hf⟩ := PatV.valid_iff.1 hp
  obtain ⟨_, _, h3, _⟩ := hf x hx
  have a1 : (p.rings - 1 - ring) * x.lean ≤ 24 * 96 := by
    rcases Int.le_total 0 x.lean with h | h
    · exact Int.mul_le_mul (by omega) h3.2 h (by omega)
    · have := Int.mul_nonpos_of_nonneg_of_nonpos (show 0 ≤ p.rings - 1 - ring by omega) h; omega
  have a2 : (p.rings - 1 - ring) * (-x.lean) ≤ 24 * 96 := by
    rcases Int.le_total 0 (-x.lean) with h | h
    · exact Int.mul_le_mul (by omega) (by omega) h (by omega)
    · have := Int.mul_nonpos_of_nonneg_of_nonpos (show 0 ≤ p.rings - 1 - ring by omega) h; omega
  rw [Int.mul_neg] at a2
  omega
end Go.Proofs.YtimmadkbkimonaaGreatDoor
