/- Parts of the proof, in this order: Which registers are right, in the program: its closures, ContainsFunc; Which registers are right, in the program: right itself; The turns of a heap, in the program: Passes; Which cells strokes cover, in the program: covers. The plain law of it; How often strokes cover each cell of a ring, in the program: StrokesOn. -/
import Derived.Laws.MakeOwn
import Derived.Test.YtpjiakgfegnmcaaGreatKPhu7
set_option linter.unusedSimpArgs false
set_option linter.unusedVariables false
open List renaming getElem_toArray → lq0, getElem_cons_succ → lq1, getElem_cons_zero → lq2, setIfInBounds_toArray → lq3, set_cons_zero → lq4, set_cons_succ → lq5
namespace Go.Proofs.YtpjiakgfegnmcaaGreat
set_option linter.unusedSimpArgs false
open Go.RowKit

set_option maxHeartbeats 4000000 in
set_option maxRecDepth 100000 in
theorem indexF_any2 (es : List EvV) (pred : EvV → Bool) (fn : Nat) (lb : Array Value) (hfn : ∀ (args : Array Value) (w : World), (callFunc fn args).run Tryz.prog w = .ok (.enter fn args) w)
    (a : Option Addr) (n c : Nat) (w : World) (hr : RdEs w a n c es)
    (hp : ∀ e ∈ es, ∀ W, Below w.heap.size w W → Calls Tryz.prog fn (#[.agg (evA e)] ++ lb) W fun r W' => r = .returned (.bool (pred e)) ∧ Below W.heap.size W W') :
    Calls Tryz.prog 45 #[.slice a n c, .func (.func fn) #[] lb] w fun e w' => e = .returned (.int .i64 (idxI es pred)) ∧ Below w.heap.size w w' := by
  have I21 : (Tryz.prog.info? 53).map (·.size) = some 21 := by kernel_rfl
  have hn63 := hr.maxn
  have HN := Lib.hid hr.1
  have RE := Lib.hid (show ∀ W, Below w.heap.size w W → RdEs W a n c es from fun W h => hr.below h)
  have HPD := Lib.hid hp
  clear hr hp
  go_enter Tryz.func45, Tryz.ntmps45
  go_wp2_with fail
  go_loopw [5, 8] (fun _ i wr => ∃ k : Nat, i = .int .i64 k ∧ k ≤ n ∧ Hid (∀ j y, j < k → es[j]? = some y → pred y = false) ∧ Hid (Below w.heap.size w wr)) (fun _ i _ => n - (intOf i).toNat)
  case atStart => exact ⟨0, rfl, Nat.zero_le _, Lib.hid (fun j y h => by omega), Lib.hid (Below.refl _ _)⟩
  case round =>
    obtain ⟨k, rfl, hk, HB, B1⟩ := hrel
    by_cases hkn : k < n
    · have t0 : decide ((k : Int) < (n : Int)) = true := by simp; omega
      obtain ⟨b, off, rfl, hat⟩ := (RE.out _ B1.out).at (show 0 < n by omega)
      obtain ⟨x, Hx⟩ : ∃ x, es[k]? = some x := ⟨es[k]'(by rw [HN.out]; exact hkn), List.getElem?_eq_getElem (by rw [HN.out]; exact hkn)⟩
      have HR := Lib.hid (hat k x Hx)
      obtain ⟨o, ho⟩ : ∃ o, Hid (off + k * 21 = o) := ⟨_, Lib.hid rfl⟩
      rw [ho.out] at HR
      have hi := fun W => idx_off (W := W) (c := c) (b := b) Tryz.underlying24 I21 hkn ho.out
      have hk64 : (k : Int) + 1 ≤ 9223372036854775807 := by omega
      clear hat
      go_wp2_with (refine wpList_load_mid rfl 53 _ rfl b o rfl x.cells _ HR.out Tryz.underlying53 rfl (by exact I21) ?_)
      refine (HPD.out x (List.mem_of_getElem? Hx) _ B1.out).mono ?_
      rintro e w2 ⟨rfl, b2⟩
      have B2 := Lib.hid (B1.out.trans (b2.mono B1.out.size))
      clear b2 hi t0
      cases hpx : pred x with
      | true =>
        go_wp2_with fail
        go_ret
        exact ⟨by rw [idxI_at Hx hpx HB.out]; rfl, B2.out⟩
      | false =>
        have HPX := Lib.hid hpx; clear hpx
        go_wp2_with fail
        go_roundw
        case rel => exact ⟨k + 1, by simp, by omega, Lib.hid (fun j y hj hy => by
          rcases Nat.lt_or_ge j k with h | h
          · exact HB.out j y h hy
          · have e : j = k := by omega
            subst e
            rw [Hx] at hy
            cases hy
            exact HPX.out), B2⟩
        case measure => simp [intOf]; omega
    · have t0 : decide ((k : Int) < (n : Int)) = false := by simp; omega
      go_wp2_with fail
      go_ret
      exact ⟨by rw [idxI_none (fun j y hj hy => HB.out j y (by have := HN.out; omega) hy)]; rfl, B1.out⟩

set_option maxHeartbeats 4000000 in
set_option maxRecDepth 100000 in
theorem isHeap_any (e : EvV) (w : World) : Calls Tryz.prog 88 #[.agg (evA e)] w fun r w' => r = .returned (.bool (e.x.n.kind == 1)) ∧ Below w.heap.size w w' := by
  have B := Lib.hid ((Below.refl w.heap.size w).alloc (Nat.le_refl _) (.cells (evA e) 53))
  have hl := heap_last w (.cells (evA e) 53)
  have c6 := cell_of hl 6 (.int .i64 e.x.n.kind) rfl
  clear hl
  go_enter Tryz.func88, Tryz.ntmps88
  go_wp2_with fail
  go_ret
  exact ⟨rfl, B.out⟩
theorem containsF_any (es : List EvV) (pred : EvV → Bool) (fn : Nat) (lb : Array Value) (hfn : ∀ (args : Array Value) (w : World), (callFunc fn args).run Tryz.prog w = .ok (.enter fn args) w)
    (a : Option Addr) (n c : Nat) (w : World) (hr : RdEs w a n c es)
    (hp : ∀ e ∈ es, ∀ W, Below w.heap.size w W → Calls Tryz.prog fn (#[.agg (evA e)] ++ lb) W fun r W' => r = .returned (.bool (pred e)) ∧ Below W.heap.size W W') :
    Calls Tryz.prog 89 #[.slice a n c, .func (.func fn) #[] lb] w fun e w' => e = .returned (.bool (es.any pred)) ∧ Below w.heap.size w w' := by
  have HI := Lib.hid (indexF_any2 es pred fn lb hfn a n c w hr hp)
  clear hp hfn hr
  go_enter Tryz.func89, Tryz.ntmps89
  go_wp2_with fail
  refine HI.out.mono ?_
  rintro r w1 ⟨rfl, hb⟩
  have HB := Lib.hid hb
  clear hb HI
  obtain ⟨k, hk⟩ : ∃ k, Hid (idxI es pred = k) := ⟨_, Lib.hid rfl⟩
  rw [hk.out]
  have HA : Hid (decide ((0 : Int) ≤ k) = es.any pred) := Lib.hid (by
    rw [← hk.out, idxI]
    cases h : es.findIdx? pred with
    | none =>
      rw [List.findIdx?_eq_none_iff] at h
      have : es.any pred = false := by rw [List.any_eq_false]; intro x hx; rw [h x hx]; simp
      rw [this]; rfl
    | some i =>
      have h1 := List.findIdx?_eq_some_iff_getElem.1 h
      obtain ⟨h2, h3, _⟩ := h1
      have : es.any pred = true := List.any_eq_true.2 ⟨es[i], List.getElem_mem h2, h3⟩
      rw [this]; simp)
  obtain ⟨q, hq⟩ : ∃ q, Hid (es.any pred = q) := ⟨_, Lib.hid rfl⟩
  rw [hq.out] at HA
  have t0 := HA.out
  clear HA
  cases q with
  | true =>
    go_wp2_with fail
    go_ret
    exact ⟨by rw [hq.out]; rfl, HB.out⟩
  | false =>
    go_wp2_with fail
    go_ret
    exact ⟨by rw [hq.out]; rfl, HB.out⟩
def badE (hs : List EvV) (e : EvV) : Bool := e.x.n.kind == 1 || (e.x.n.kind == 2 && decide (idxI hs (isNm e.x.n.refH e.x.n.refN) < 0))
theorem badE_fn (args : Array Value) (w : World) : (callFunc 90 args).run Tryz.prog w = .ok (.enter 90 args) w := by kernel_rfl
def fIsHeap : Value := .func (.func 88) #[] #[]
set_option maxHeartbeats 4000000 in
set_option maxRecDepth 100000 in
theorem badE_any (e : EvV) (hs : List EvV) (ha : Option Addr) (hn hc : Nat) (v1 v2 : Value) (pr pf : Nat) (w : World) (hr : RdEs w ha hn hc hs) (hp : w.heap[pr]? = some (.cells #[.slice ha hn hc, v1, v2] 27 (0, 0))) (hf : w.heap[pf]? = some (.cells #[fIsHeap] 81 (0, 0))) :
    Calls Tryz.prog 90 #[.agg (evA e), .pointer (some ⟨pr, 0, none⟩), .pointer (some ⟨pf, 0, none⟩)] w fun r w' => r = .returned (.bool (badE hs e)) ∧ Below w.heap.size w w' := by
  have I21 := Lib.hid (show ∀ (x : EvV), (Tryz.prog.info? 53).map (·.size) = some (evA x).size from fun x => by kernel_rfl)
  have B := Lib.hid ((Below.refl w.heap.size w).alloc (Nat.le_refl _) (.cells (evA e) 53))
  have CT := Lib.hid (heap_last w (.cells (evA e) 53))
  have RE := Lib.hid (hr.below B.out)
  have HP := Lib.hid (below_blk B.out hp)
  have HF := Lib.hid (below_blk B.out hf)
  clear hr hp hf
  go_enter Tryz.func90, Tryz.ntmps90
  go_upto_region 1 with fail
  obtain ⟨p3, hp3⟩ : ∃ p3, Hid (w.heap.size = p3) := ⟨_, Lib.hid rfl⟩
  rw [hp3.out] at CT ⊢
  generalize w.alloc (.cells (evA e) 53) = W1 at *
  have h0 := cell_of HP.out 0 (.slice ha hn hc) rfl
  have h1 := cell_of HP.out 1 v1 rfl
  have h2 := cell_of HP.out 2 v2 rfl
  have e1 := cell_of CT.out 18 (.int .i64 e.x.n.refH) rfl
  have e2 := cell_of CT.out 19 (.int .i64 e.x.n.refN) rfl
  obtain ⟨i0, e0, hv, hp1, hp2⟩ := heapOfV_parts hs e.x.n.refH e.x.n.refN
  have HV := Lib.hid hv
  have HP1 := Lib.hid hp1
  have HP2 := Lib.hid hp2
  clear hv hp1 hp2
  go_wp2_with fail
  refine (heapOf_any hs ha hn hc _ _ e.x.n.refH e.x.n.refN _ RE.out).mono ?_
  rintro r W3 ⟨rfl, b3⟩
  rw [HV.out]
  replace B := Lib.hid (B.out.trans (b3.mono B.out.size))
  replace CT := Lib.hid (below_blk b3 CT.out)
  replace HF := Lib.hid (below_blk b3 HF.out)
  clear b3 h0 h1 h2 e1 e2
  dsimp only
  have f0 := cell_of HF.out 0 fIsHeap rfl
  unfold fIsHeap at f0
  go_upto_region 2 with fail
  have ARM : True := trivial
  by_cases hk1 : e.x.n.kind = 1
  · have t1 : (e.x.n.kind == 1) = true := by simp [hk1]
    have hbe : badE hs e = true := by simp [badE, hk1]
    have HK := Lib.hid hk1; clear hk1
    have HBE := Lib.hid hbe; clear hbe
    go_wp2_with (first
      | (go_at_call 88
         refine (isHeap_any e _).mono ?_
         rintro r W4 ⟨rfl, b4⟩
         rw [t1]
         replace B := Lib.hid (B.out.trans (b4.mono B.out.size))
         replace CT := Lib.hid (below_blk b4 CT.out)
         clear b4
         dsimp only)
      | (refine wpList_load_row rfl 53 _ rfl p3 rfl 53 (evA e) (0, 0) _ CT.out Tryz.underlying53 rfl (I21.out _) ?_)
      | fail)
    go_ret
    exact ⟨by rw [HBE.out]; rfl, B.out⟩
  · have t1 : (e.x.n.kind == 1) = false := by simp [hk1]
    by_cases hk2 : e.x.n.kind = 2
    · have t2 : (e.x.n.kind == 2) = true := by simp [hk2]
      by_cases hlt : idxI hs (isNm e.x.n.refH e.x.n.refN) < 0
      · have h3 : e0 = 3 := HP1.out hlt
        subst h3
        have hbe : badE hs e = true := by simp [badE, hk2, hlt]
        have HK := Lib.hid (And.intro hk1 (And.intro hk2 hlt)); clear hk1 hk2 hlt
        have HBE := Lib.hid hbe; clear hbe
        go_wp2_with (first
          | (go_at_call 88
             refine (isHeap_any e _).mono ?_
             rintro r W4 ⟨rfl, b4⟩
             rw [t1]
             replace B := Lib.hid (B.out.trans (b4.mono B.out.size))
             replace CT := Lib.hid (below_blk b4 CT.out)
             have c6 := cell_of CT.out 6 (.int .i64 e.x.n.kind) rfl
             clear b4
             dsimp only)
          | (refine wpList_load_row rfl 53 _ rfl p3 rfl 53 (evA e) (0, 0) _ CT.out Tryz.underlying53 rfl (I21.out _) ?_)
          | fail)
        go_ret
        exact ⟨by rw [HBE.out]; rfl, B.out⟩
      · have h3 : e0 = 0 := HP2.out (by omega)
        subst h3
        have hbe : badE hs e = false := by simp only [badE, t1, t2]; simp; omega
        have HK := Lib.hid (And.intro hk1 (And.intro hk2 hlt)); clear hk1 hk2 hlt
        have HBE := Lib.hid hbe; clear hbe
        go_wp2_with (first
          | (go_at_call 88
             refine (isHeap_any e _).mono ?_
             rintro r W4 ⟨rfl, b4⟩
             rw [t1]
             replace B := Lib.hid (B.out.trans (b4.mono B.out.size))
             replace CT := Lib.hid (below_blk b4 CT.out)
             have c6 := cell_of CT.out 6 (.int .i64 e.x.n.kind) rfl
             clear b4
             dsimp only)
          | (refine wpList_load_row rfl 53 _ rfl p3 rfl 53 (evA e) (0, 0) _ CT.out Tryz.underlying53 rfl (I21.out _) ?_)
          | fail)
        go_ret
        exact ⟨by rw [HBE.out]; rfl, B.out⟩
    · have t2 : (e.x.n.kind == 2) = false := by simp [hk2]
      have hbe : badE hs e = false := by simp [badE, hk1, hk2]
      have HK := Lib.hid (And.intro hk1 hk2); clear hk1 hk2
      have HBE := Lib.hid hbe; clear hbe
      go_wp2_with (first
        | (go_at_call 88
           refine (isHeap_any e _).mono ?_
           rintro r W4 ⟨rfl, b4⟩
           rw [t1]
           replace B := Lib.hid (B.out.trans (b4.mono B.out.size))
           replace CT := Lib.hid (below_blk b4 CT.out)
           have c6 := cell_of CT.out 6 (.int .i64 e.x.n.kind) rfl
           clear b4
           dsimp only)
        | (refine wpList_load_row rfl 53 _ rfl p3 rfl 53 (evA e) (0, 0) _ CT.out Tryz.underlying53 rfl (I21.out _) ?_)
        | fail)
      go_ret
      exact ⟨by rw [HBE.out]; rfl, B.out⟩
end Go.Proofs.YtpjiakgfegnmcaaGreat
namespace Go.Proofs.YtpjiakgfegnmcaaGreat
set_option linter.unusedSimpArgs false
open Go.RowKit

def seenF (ks : List Nm) : Nm → Option Unit := fun a => if a ∈ ks then some () else none
def encT : Unit → Value := fun _ => .bool true
theorem seenF_nil : seenF [] = fun _ => none := by funext a; simp [seenF]
theorem seenF_snoc (ks : List Nm) (k : Nm) : updF (seenF ks) k () = seenF (ks ++ [k]) := by
  funext a
  by_cases h1 : a = k <;> by_cases h2 : a ∈ ks <;> simp [updF, seenF, h1, h2]
def goodE (f : FrV) (ks : List Nm) (e : EvV) : Bool := doneB e.x.n && (formedB f e.x.n && (decide (e.x.nm = e.nm) && !decide (e.nm ∈ ks)))
def goodAll (f : FrV) : List Nm → List EvV → Bool
  | _, [] => true
  | ks, e :: l => goodE f ks e && goodAll f (ks ++ [e.nm]) l
theorem goodAll_append (f : FrV) : ∀ (l m : List EvV) (ks : List Nm), goodAll f ks (l ++ m) = (goodAll f ks l && goodAll f (ks ++ l.map EvV.nm) m)
  | [], m, ks => by simp [goodAll]
  | e :: l, m, ks => by simp [goodAll, goodAll_append f l m, Bool.and_assoc, List.append_assoc]
theorem goodAll_step {f : FrV} {l : List EvV} {k : Nat} {x : EvV} (hx : l[k]? = some x) (h : goodAll f [] (l.take k) = true) (hg : goodE f ((l.take k).map EvV.nm) x = true) : goodAll f [] (l.take (k + 1)) = true := by
  rw [take_snoc hx, goodAll_append, h]
  rw [List.map_take] at hg
  simp [goodAll, hg]
theorem goodAll_bad {f : FrV} {l : List EvV} {k : Nat} {x : EvV} (hx : l[k]? = some x) (hg : goodE f ((l.take k).map EvV.nm) x = false) : goodAll f [] l = false := by
  have h1 : l = l.take k ++ x :: l.drop (k + 1) := by
    have hk := (List.getElem?_eq_some_iff.1 hx).1
    have h2 : l.drop k = x :: l.drop (k + 1) := by
      rw [List.drop_eq_getElem_cons hk, (List.getElem?_eq_some_iff.1 hx).2]
    rw [← h2, List.take_append_drop]
  rw [h1, goodAll_append]
  rw [List.map_take] at hg
  simp [goodAll, hg]
def regOkB (f : FrV) (hs es : List EvV) : Bool := decide (hs.length ≤ 8) && (decide (es.length ≤ 400) && (goodAll f [] (hs ++ es) && (hs.all (fun e => e.x.n.kind == 1) && !es.any (badE hs))))
theorem formed_nm {f : FrV} {n : NoteV} (h : formedB f n = true) : nmOk (n.house, n.num) := by
  simp only [formedB, rightNameB, Bool.and_eq_true, inB_true] at h
  obtain ⟨_, ⟨h1, h2⟩, _⟩ := h
  exact ⟨by unfold I64; omega, by unfold I64; omega⟩
theorem ev_note {W : World} {p : Nat} {e : EvV} {t : TypeId} (h : W.heap[p]? = some (.cells (evA e) t (0, 0))) : W.rangeAt p 2 (e.x.n.cells e.x.sa e.x.sc) := by
  intro j v hv
  have h1 : (evA e)[2 + j]? = some v := by
    rw [evA, List.getElem?_toArray, EvV.cells, List.getElem?_append_right (by simp)]
    simpa using hv
  simp [World.cell?, h, h1]
theorem quiet_load_note {C : World → Prop} {w : World} {o : Oper} {a : Act} (x : Operand) (ho : o.op = .load 51 x) (p off : Nat) (hx : a.eval x = .pointer (some ⟨p, off, none⟩)) (n : NoteV) (sa : Option Addr) (sc : Nat)
    (h : w.rangeAt p off (n.cells sa sc)) : o.quietAt Tryz.prog a C w (.agg (noteA n sa sc)) := by
  unfold Oper.quietAt execOp
  simp only [ho, hx, Instr.loadAt, Instr.sureAddr, Sem.run_bind, Sem.run_pure, Result.andThen_ok, run_loadVar_mid w p off 51 (n.cells sa sc) _ h Tryz.underlying51 rfl (size43 n sa sc)]
  exact ⟨rfl, rfl⟩
theorem zero_bool (w : World) : (zeroValue 4).run Tryz.prog w = .ok (.bool false) w := by kernel_rfl
theorem run_seen {w : World} {b n : Nat} {ks : List Nm} (hmap : MapF encT w b n (seenF ks)) (h m : Int) (hk : nmOk (h, m)) :
    (Instr.lookup 120 (.map (some b)) (.agg #[.int .i64 h, .int .i64 m]) false).run Tryz.prog w = .ok (.bool (decide ((h, m) ∈ ks))) w := by
  obtain ⟨D, h1, h2⟩ := hmap
  obtain ⟨v, ps, h3, h4⟩ := h1.lookup nm_keyed Tryz.underlying120 (zero_bool w) (zd := .held (.bool false)) (zp := []) rfl (keyOf_nm (h, m) hk)
  simp only [heldR, Option.some.injEq, Prod.mk.injEq] at h4
  refine h3.trans ?_
  by_cases hin : (h, m) ∈ ks
  · have hf : seenF ks (h, m) = some () := by simp [seenF, hin]
    rw [h2.val (h, m) () hf] at h4
    have := h4.1
    simp only [DataW.held.injEq] at this
    rw [this]; simp [encT, hin]
  · have hf : seenF ks (h, m) = none := by simp [seenF, hin]
    rw [Maps.atKey_of_not_has (by rw [h2.has (h, m) hk, hf]; rfl)] at h4
    have := h4.1
    simp only [DataW.held.injEq] at this
    rw [this]; simp [hin]
theorem run_build_evs (w : World) (v0 v1 : Value) (h0 : v0.oneCell' = true) (h1 : v1.oneCell' = true) :
    (Instr.buildSlice 148 2 #[(0, v0), (1, v1)]).run Tryz.prog w = .ok (.slice (some ⟨w.heap.size, 0, none⟩) 2 2) (w.alloc (.cells #[v0, v1] 24)) := by
  cases v0 <;> simp [Value.oneCell'] at h0 <;> cases v1 <;> simp [Value.oneCell'] at h1 <;> kernel_rfl
theorem cell_same {W W' : World} {b : Nat} {es : Array MapEntry} {ck : Nat} (hs : Same (fun q => q = b) W W') (hb : W.heap[b]? = some (.map es ck)) {d : Addr} {v : Value} (h : W.cell? d = some v) : W'.cell? d = some v := by
  have hlt : d.block < W.heap.size := World.block_lt_of_cell? W _ h
  by_cases e : d.block = b
  · simp [World.cell?, e, hb] at h
  · rw [← h]
    simp only [World.cell?, hs.block d.block hlt e]
theorem RdEs.same {W W' : World} {b : Nat} {es : Array MapEntry} {ck : Nat} {a : Option Addr} {n c : Nat} {l : List EvV} (h : RdEs W a n c l) (hs : Same (fun q => q = b) W W') (hb : W.heap[b]? = some (.map es ck)) : RdEs W' a n c l := by
  refine ⟨h.1, h.2.1, h.2.2.1, h.2.2.2.imp id ?_⟩
  rintro ⟨b', off, rfl, h4⟩
  exact ⟨b', off, rfl, fun i x hx j v hv => cell_same hs hb (h4 i x hx j v hv)⟩
theorem RdA.same {W W' : World} {b k : Nat} {es : Array MapEntry} {ck : Nat} {a : Option Addr} {n c : Nat} {l : List Value} (h : RdA W k a n c l) (hs : Same (fun q => q = b) W W') (hb : W.heap[b]? = some (.map es ck)) : RdA W' k a n c l := by
  refine ⟨h.1, h.2.1, h.2.2.1, h.2.2.2.imp id ?_⟩
  rintro ⟨b', off, rfl, h4⟩
  exact ⟨b', off, rfl, fun i x hx => cell_same hs hb (h4 i x hx)⟩
theorem same_blk {S : Nat → Prop} {W W' : World} {p : Nat} {o : Obj} (hs : Same S W W') (h : W.heap[p]? = some o) (hp : ¬ S p) : W'.heap[p]? = some o := (hs.block p (blk_lt h) hp).trans h
theorem evs_ok {W W' : World} {l : List EvV} (h : ∀ e ∈ l, e.x.ok W) (hb : Below W.heap.size W W') : ∀ e ∈ l, e.x.ok W' := fun e he => (h e he).below hb

set_option maxHeartbeats 16000000 in
set_option maxRecDepth 100000 in
theorem regOk_any (f : FrV) (hs es : List EvV) (ha : Option Addr) (hn hc : Nat) (ea : Option Addr) (en ec : Nat) (v3 : Value) (w : World) (hv : f.valid = true)
    (h1 : RdA w 21 ha hn hc (evCells hs)) (h2 : RdA w 21 ea en ec (evCells es)) (hok : ∀ e ∈ hs ++ es, e.x.ok w) :
    Calls Tryz.prog 51 #[f.val, .agg #[.slice ha hn hc, .slice ea en ec, v3]] w fun e w' => e = .returned (.bool (regOkB f hs es)) ∧ Below w.heap.size w w' := by
  have hvl : f.val = .agg #[.int .i64 f.rings, .int .i64 f.sectors, .int .i64 f.wide] := rfl
  have HVL := Lib.hid hvl
  rw [hvl]; clear hvl
  have I43 := Lib.hid (show ∀ (m : NoteV) (a : Option Addr) (c : Nat), (Tryz.prog.info? 51).map (·.size) = some (noteA m a c).size from fun m a c => by kernel_rfl)
  have I21 := Lib.hid (show ∀ (x : EvV), (Tryz.prog.info? 53).map (·.size) = some (evA x).size from fun x => by kernel_rfl)
  have J21 : (Tryz.prog.info? 53).map (·.size) = some 21 := by kernel_rfl
  have LH : Hid (hs.length = hn) := Lib.hid (by have := h1.len; rw [evCells_len] at this; omega)
  have LE : Hid (es.length = en) := Lib.hid (by have := h2.len; rw [evCells_len] at this; omega)
  have B0 := Lib.hid (((Below.refl w.heap.size w).alloc (Nat.le_refl _) (.cells #[.int .i64 f.rings, .int .i64 f.sectors, .int .i64 f.wide] 85)).alloc (by simp) (.cells #[.slice ha hn hc, .slice ea en ec, v3] 27))
  have F0 := Lib.hid (heap_before _ (.cells #[.slice ha hn hc, .slice ea en ec, v3] 27) _ _ (heap_last w (.cells #[.int .i64 f.rings, .int .i64 f.sectors, .int .i64 f.wide] 85)))
  have P0 := Lib.hid (heap_at (w.alloc (.cells #[.int .i64 f.rings, .int .i64 f.sectors, .int .i64 f.wide] 85)) (.cells #[.slice ha hn hc, .slice ea en ec, v3] 27) (w.heap.size + 1) (by simp))
  have R1 := Lib.hid (h1.below B0.out)
  have R2 := Lib.hid (h2.below B0.out)
  have OK := Lib.hid (evs_ok hok B0.out)
  have HV := Lib.hid hv
  clear h1 h2 hok hv
  go_enter Tryz.func51, Tryz.ntmps51
  go_upto_region 1 with fail
  obtain ⟨pF, hpF⟩ : ∃ pF, Hid (w.heap.size = pF) := ⟨_, Lib.hid rfl⟩
  obtain ⟨pR, hpR⟩ : ∃ pR, Hid (w.heap.size + 1 = pR) := ⟨_, Lib.hid rfl⟩
  have HPF : Hid (pF < pR) := Lib.hid (by have := hpF.out; have := hpR.out; omega)
  rw [hpR.out, hpF.out]
  rw [hpF.out] at F0
  rw [hpR.out] at P0
  generalize (w.alloc (.cells #[.int .i64 f.rings, .int .i64 f.sectors, .int .i64 f.wide] 85)).alloc (.cells #[.slice ha hn hc, .slice ea en ec, v3] 27) = W1 at *
  have c0 := cell_of P0.out 0 (.slice ha hn hc) rfl
  have c1 := cell_of P0.out 1 (.slice ea en ec) rfl
  by_cases h8 : hn ≤ 8
  · have t8 : decide ((8 : Int) < (hn : Int)) = false := by simp; omega
    by_cases h4 : en ≤ 400
    · have t4 : decide ((400 : Int) < (en : Int)) = false := by simp; omega
      have HNE := Lib.hid (And.intro h8 h4); clear h8 h4
      have hmm := @run_makeMap Tryz.prog
      obtain ⟨N, hN⟩ : ∃ N, Hid (hn + en = N) := ⟨_, Lib.hid rfl⟩
      go_upto_region 4 with fail
      clear hmm c0 c1 t8 t4
      have BM := Lib.hid (show Below W1.heap.size W1 (W1.alloc (.map #[] 0)) from (Below.refl W1.heap.size W1).alloc (Nat.le_refl _) (.map #[] 0))
      have M2 := Lib.hid (MapF.made (enc := encT) W1)
      have B2 := Lib.hid (B0.out.trans (BM.out.mono B0.out.size))
      obtain ⟨b, hb⟩ : ∃ b, Hid (W1.heap.size = b) := ⟨_, Lib.hid rfl⟩
      have HFb : Hid (pF < b) := Lib.hid (by rw [← hb.out]; exact blk_lt F0.out)
      have HRb : Hid (pR < b) := Lib.hid (by rw [← hb.out]; exact blk_lt P0.out)
      have HBW : Hid (w.heap.size ≤ b) := Lib.hid (by rw [← hb.out]; exact B0.out.size)
      replace F0 := Lib.hid (below_blk BM.out F0.out)
      replace P0 := Lib.hid (below_blk BM.out P0.out)
      replace R1 := Lib.hid (R1.out.below BM.out)
      replace R2 := Lib.hid (R2.out.below BM.out)
      replace OK := Lib.hid (evs_ok OK.out BM.out)
      rw [hb.out] at M2 ⊢
      clear BM B0
      generalize W1.alloc (.map #[] 0) = W2 at *
      have c0 := cell_of P0.out 0 (.slice ha hn hc) rfl
      have c1 := cell_of P0.out 1 (.slice ea en ec) rfl
      have hbs := run_build_evs W2 (.slice ha hn hc) (.slice ea en ec) rfl rfl
      have BG := Lib.hid (show Below W2.heap.size W2 (W2.alloc (.cells #[.slice ha hn hc, .slice ea en ec] 24)) from (Below.refl W2.heap.size W2).alloc (Nat.le_refl _) _)
      have G2 := Lib.hid (heap_last W2 (.cells #[.slice ha hn hc, .slice ea en ec] 24))
      go_wp2_with (first
        | (go_at_call 87
           refine (catEv_any _ ha hn hc ea en ec hs es _ G2.out (R1.out.below BG.out) (R2.out.below BG.out) (by have := HNE.out; omega)).mono ?_
           rintro e w3 ⟨a, c, rfl, ho3, b3⟩
           rw [hN.out] at ho3 ⊢
           have O3 := Lib.hid ho3
           have B3 := Lib.hid (BG.out.trans (b3.mono BG.out.size))
           clear ho3 b3
           dsimp only)
        | fail)
      clear hbs c0 c1
      have HB3 := Lib.hid (B2.out.trans (B3.out.mono B2.out.size))
      have M3 := Lib.hid (M2.out.below B3.out)
      have F3 := Lib.hid (below_blk B3.out F0.out)
      have P3 := Lib.hid (below_blk B3.out P0.out)
      have E3 := Lib.hid (RdEs.of_rd (RdA.of_own O3.out))
      have H3 := Lib.hid (R1.out.below B3.out)
      have D3 := Lib.hid (R2.out.below B3.out)
      have OK3 := Lib.hid (evs_ok OK.out B3.out)
      obtain ⟨mes, mck, hmb⟩ := M3.out.blk
      have HMB := Lib.hid hmb; clear hmb
      clear B2 M2 O3 G2 BG B3 R1 R2 OK F0 P0
      obtain ⟨all, hall⟩ : ∃ all, Hid (hs ++ es = all) := ⟨_, Lib.hid rfl⟩
      rw [hall.out] at E3 OK3
      have HN : Hid (N ≤ 408) := Lib.hid (by rw [← hN.out]; have := HNE.out; omega)
      have GB : Hid (∀ k x, all[k]? = some x → goodE f ((all.take k).map EvV.nm) x = false → regOkB f hs es = false) := Lib.hid (fun k x hx hg => by rw [regOkB, hall.out, goodAll_bad hx hg]; simp)
      have BS : Hid (∀ wr, Same (fun q => q = b) w3 wr → Below w.heap.size w wr) := Lib.hid (fun wr h => h.below HB3.out HB3.out.size (fun k e => by rw [e]; exact HBW.out))
      have ES : Hid (∀ wr, Same (fun q => q = b) w3 wr → RdEs wr a N c all) := Lib.hid (fun wr h => E3.out.same h HMB.out)
      have OS : Hid (∀ wr, Same (fun q => q = b) w3 wr → ∀ e ∈ all, e.x.ok wr) := Lib.hid (fun wr h e he => (OK3.out e he).same h HMB.out)
      have FS : Hid (∀ wr, Same (fun q => q = b) w3 wr → wr.heap[pF]? = some (.cells #[.int .i64 f.rings, .int .i64 f.sectors, .int .i64 f.wide] 85 (0, 0))) := Lib.hid (fun wr h => same_blk h F3.out (fun e => by have := HFb.out; omega))
      go_loopw [29] (fun i wr => ∃ k : Nat, i = .int .i64 k ∧ k ≤ N ∧ Hid (Same (fun q => q = b) w3 wr) ∧ Hid (MapF encT wr b k (seenF ((all.take k).map EvV.nm))) ∧ Hid (goodAll f [] (all.take k) = true)) (fun i _ => N - (intOf i).toNat)
      case atStart => exact ⟨0, rfl, Nat.zero_le _, Lib.hid (Same.refl _ _), Lib.hid (by simpa [seenF_nil] using M3.out), Lib.hid rfl⟩
      case round =>
        obtain ⟨k, rfl, hk, HS, HM, HG⟩ := hrel
        by_cases hlt : k < N
        · have t0 : decide ((k : Int) < (N : Int)) = true := by simp; omega
          obtain ⟨x, Hx⟩ : ∃ x, all[k]? = some x := ⟨all[k]'(by rw [E3.out.1]; exact hlt), List.getElem?_eq_getElem (by rw [E3.out.1]; exact hlt)⟩
          have HX := Lib.hid Hx
          obtain ⟨bs, off, ha0, hat⟩ := (ES.out wr HS.out).at (by omega)
          subst ha0
          have HRA := Lib.hid (hat k x Hx)
          have HOK := Lib.hid (OS.out wr HS.out x (List.mem_of_getElem? Hx))
          clear hat Hx
          obtain ⟨o, ho⟩ : ∃ o, Hid (off + k * 21 = o) := ⟨_, Lib.hid rfl⟩
          rw [ho.out] at HRA
          have hi := fun W => idx_off (W := W) (c := c) (b := bs) Tryz.underlying24 J21 hlt ho.out
          go_upto_region 7 with (first
            | (refine wpList_load_mid rfl 53 _ rfl bs o rfl x.cells _ HRA.out Tryz.underlying53 rfl (by exact J21) ?_)
            | (refine wpList_alloc_ev rfl rfl ?_)
            | (refine wpList_store_newp wr rfl 53 _ _ rfl wr.heap.size rfl _ (evA x) rfl rfl (I21.out _) rfl (evA_all x) ?_)
            | fail)
          clear hi t0
          have hbt : Below wr.heap.size wr (wr.alloc (.cells (evA x) 53)) := (Below.refl _ _).alloc (Nat.le_refl _) _
          have XT := Lib.hid (heap_last wr (.cells (evA x) 53))
          have FT := Lib.hid (below_blk hbt (FS.out wr HS.out))
          have MT := Lib.hid (HM.out.below hbt)
          have OT := Lib.hid (HOK.out.below hbt)
          have ST := Lib.hid (HS.out.trans (Same.of_below hbt))
          clear hbt
          obtain ⟨p7, hp7⟩ : ∃ p7, Hid (wr.heap.size = p7) := ⟨_, Lib.hid rfl⟩
          have HNE7 : Hid (p7 ≠ b) := Lib.hid (by rw [← hp7.out]; have := HM.out.lt; omega)
          rw [hp7.out] at XT ⊢
          generalize wr.alloc (.cells (evA x) 53) = wt at *
          have hC0 : Below wt.heap.size wt wt.drew := (Below.refl _ _).drew
          have LX := Lib.hid (show ∀ w0, Below wt.heap.size wt w0 → w0.heap[p7]? = some (.cells (evA x) 53 (0, 0)) from fun w0 h => below_blk h XT.out)
          have LF := Lib.hid (show ∀ w0, Below wt.heap.size wt w0 → w0.heap[pF]? = some (.cells #[.int .i64 f.rings, .int .i64 f.sectors, .int .i64 f.wide] 85 (0, 0)) from fun w0 h => below_blk h FT.out)
          have GBX := Lib.hid (GB.out k x HX.out)
          have hk64 : (k : Int) + 1 ≤ 9223372036854775807 := by have := HN.out; omega
          obtain ⟨ks, hks⟩ : ∃ ks, Hid ((all.take k).map EvV.nm = ks) := ⟨_, Lib.hid rfl⟩
          rw [hks.out] at MT GBX
          simp only [Act.put, lq3, lq4, lq5]
          refine wp_region_quiet (C := fun w' : World => Below wt.heap.size wt w') (by kernel_rfl) (by kernel_rfl) hC0 ?_
          show wpQuiet _ _ _ _ (_ :: _) _
          go_big_quiet_want
          refine ⟨.pointer (some ⟨p7, 2, none⟩), fun w0 hC => ?_, ?_⟩
          · clear hC
            go_simp
          simp only [Act.put, lq3, lq4, lq5]
          go_big_quiet_on
          go_big_quiet_want
          refine ⟨.agg (noteA x.x.n x.x.sa x.x.sc), fun w0 hC => quiet_load_note (.tmp 33) rfl p7 2 rfl x.x.n x.x.sa x.x.sc (ev_note (LX.out w0 hC)), ?_⟩
          simp only [Act.put, lq3, lq4, lq5]
          go_big_quiet_on
          go_big_quiet_want
          refine ⟨.bool (doneB x.x.n), fun w0 hC => ?_, ?_⟩
          · go_simp
            refine (done_any x.x.n x.x.sa x.x.sc w0).mono ?_
            rintro e w1 ⟨rfl, b1⟩
            exact ⟨rfl, hC.trans (b1.mono hC.size)⟩
          simp only [Act.put, lq3, lq4, lq5]
          go_big_quiet_on
          cases hd : doneB x.x.n
          · have GR := Lib.hid (GBX.out (by simp [goodE, hd]))
            go_big_quiet_want
            refine ⟨.bool true, fun w0 hC => ?_, ?_⟩
            · clear hC
              go_simp
            simp only [Act.put, lq3, lq4, lq5]
            go_big_quiet_on
            go_big_quiet_want
            go_big_quiet_op
            go_big_quiet_on
            go_big_quiet_skip
            go_big_quiet_skip
            go_big_quiet_skip
            go_big_quiet_skip
            go_big_quiet_skip
            go_big_quiet_want
            refine ⟨.bool true, fun w0 hC => ?_, ?_⟩
            · clear hC
              go_simp
            simp only [Act.put, lq3, lq4, lq5]
            go_big_quiet_on
            go_big_quiet_want
            go_big_quiet_op
            go_big_quiet_on
            go_big_quiet_skip
            go_big_quiet_skip
            go_big_quiet_skip
            go_big_quiet_skip
            go_big_quiet_skip
            go_big_quiet_skip
            go_big_quiet_want
            refine ⟨.bool true, fun w0 hC => ?_, ?_⟩
            · clear hC
              go_simp
            simp only [Act.put, lq3, lq4, lq5]
            go_big_quiet_on
            go_big_quiet_want
            go_big_quiet_op
            go_big_quiet_on
            go_big_quiet_skip
            go_big_quiet_skip
            go_big_quiet_skip
            go_big_quiet_skip
            go_big_quiet_want
            refine ⟨.bool true, fun w0 hC => ?_, ?_⟩
            · clear hC
              go_simp
            simp only [Act.put, lq3, lq4, lq5]
            go_big_quiet_on
            refine wpQuiet_nil ?_
            intro w' hC
            go_wp2_with fail
            go_ret
            exact ⟨by rw [GR.out]; rfl, BS.out _ (ST.out.trans (Same.of_below hC))⟩
          · have HD := Lib.hid hd; clear hd
            go_big_quiet_want
            refine ⟨.bool false, fun w0 hC => ?_, ?_⟩
            · clear hC
              go_simp
            simp only [Act.put, lq3, lq4, lq5]
            go_big_quiet_on
            go_big_quiet_want
            go_big_quiet_op
            go_big_quiet_on
            go_big_quiet_want
            refine ⟨.agg #[.int .i64 f.rings, .int .i64 f.sectors, .int .i64 f.wide], fun w0 hC => ?_, ?_⟩
            · have c0 := cell_of (LF.out w0 hC) 0 (.int .i64 f.rings) rfl
              have c1 := cell_of (LF.out w0 hC) 1 (.int .i64 f.sectors) rfl
              have c2 := cell_of (LF.out w0 hC) 2 (.int .i64 f.wide) rfl
              clear hC
              go_simp
            simp only [Act.put, lq3, lq4, lq5]
            go_big_quiet_on
            go_big_quiet_want
            refine ⟨.pointer (some ⟨p7, 2, none⟩), fun w0 hC => ?_, ?_⟩
            · clear hC
              go_simp
            simp only [Act.put, lq3, lq4, lq5]
            go_big_quiet_on
            go_big_quiet_want
            refine ⟨.agg (noteA x.x.n x.x.sa x.x.sc), fun w0 hC => quiet_load_note (.tmp 39) rfl p7 2 rfl x.x.n x.x.sa x.x.sc (ev_note (LX.out w0 hC)), ?_⟩
            simp only [Act.put, lq3, lq4, lq5]
            go_big_quiet_on
            go_big_quiet_want
            refine ⟨.bool (formedB f x.x.n), fun w0 hC => ?_, ?_⟩
            · go_simp
              refine (HVL.out ▸ formed_any f x.x.n x.x.sa x.x.sc w0 HV.out (OT.out.below hC)).mono ?_
              rintro e w1 ⟨rfl, b1⟩
              exact ⟨rfl, hC.trans (b1.mono hC.size)⟩
            simp only [Act.put, lq3, lq4, lq5]
            go_big_quiet_on
            cases hf : formedB f x.x.n
            · have GR := Lib.hid (GBX.out (by simp [goodE, hf]))
              go_big_quiet_want
              refine ⟨.bool true, fun w0 hC => ?_, ?_⟩
              · clear hC
                go_simp
              simp only [Act.put, lq3, lq4, lq5]
              go_big_quiet_on
              go_big_quiet_want
              refine ⟨.bool true, fun w0 hC => ?_, ?_⟩
              · clear hC
                go_simp
              simp only [Act.put, lq3, lq4, lq5]
              go_big_quiet_on
              go_big_quiet_want
              go_big_quiet_op
              go_big_quiet_on
              go_big_quiet_skip
              go_big_quiet_skip
              go_big_quiet_skip
              go_big_quiet_skip
              go_big_quiet_skip
              go_big_quiet_skip
              go_big_quiet_want
              refine ⟨.bool true, fun w0 hC => ?_, ?_⟩
              · clear hC
                go_simp
              simp only [Act.put, lq3, lq4, lq5]
              go_big_quiet_on
              go_big_quiet_want
              go_big_quiet_op
              go_big_quiet_on
              go_big_quiet_skip
              go_big_quiet_skip
              go_big_quiet_skip
              go_big_quiet_skip
              go_big_quiet_want
              refine ⟨.bool true, fun w0 hC => ?_, ?_⟩
              · clear hC
                go_simp
              simp only [Act.put, lq3, lq4, lq5]
              go_big_quiet_on
              refine wpQuiet_nil ?_
              intro w' hC
              go_wp2_with fail
              go_ret
              exact ⟨by rw [GR.out]; rfl, BS.out _ (ST.out.trans (Same.of_below hC))⟩
            · have HF := Lib.hid hf; clear hf
              go_big_quiet_want
              refine ⟨.bool false, fun w0 hC => ?_, ?_⟩
              · clear hC
                go_simp
              simp only [Act.put, lq3, lq4, lq5]
              go_big_quiet_on
              go_big_quiet_want
              refine ⟨.bool false, fun w0 hC => ?_, ?_⟩
              · clear hC
                go_simp
              simp only [Act.put, lq3, lq4, lq5]
              go_big_quiet_on
              go_big_quiet_want
              go_big_quiet_op
              go_big_quiet_on
              go_big_quiet_want
              refine ⟨.pointer (some ⟨p7, 2, none⟩), fun w0 hC => ?_, ?_⟩
              · clear hC
                go_simp
              simp only [Act.put, lq3, lq4, lq5]
              go_big_quiet_on
              go_big_quiet_want
              refine ⟨.agg (noteA x.x.n x.x.sa x.x.sc), fun w0 hC => quiet_load_note (.tmp 45) rfl p7 2 rfl x.x.n x.x.sa x.x.sc (ev_note (LX.out w0 hC)), ?_⟩
              simp only [Act.put, lq3, lq4, lq5]
              go_big_quiet_on
              go_big_quiet_want
              refine ⟨.agg #[.int .i64 x.x.n.house, .int .i64 x.x.n.num], fun w0 hC => ?_, ?_⟩
              · go_simp
                refine (nameOf_any x.x.n x.x.sa x.x.sc w0).mono ?_
                rintro e w1 ⟨rfl, b1⟩
                exact ⟨rfl, hC.trans (b1.mono hC.size)⟩
              simp only [Act.put, lq3, lq4, lq5]
              go_big_quiet_on
              go_big_quiet_want
              refine ⟨.pointer (some ⟨p7, 0, none⟩), fun w0 hC => ?_, ?_⟩
              · clear hC
                go_simp
              simp only [Act.put, lq3, lq4, lq5]
              go_big_quiet_on
              go_big_quiet_want
              refine ⟨.agg #[.int .i64 x.nm.1, .int .i64 x.nm.2], fun w0 hC => ?_, ?_⟩
              · have c0 := cell_of (LX.out w0 hC) 0 (.int .i64 x.nm.1) rfl
                have c1 := cell_of (LX.out w0 hC) 1 (.int .i64 x.nm.2) rfl
                clear hC
                go_simp
              simp only [Act.put, lq3, lq4, lq5]
              go_big_quiet_on
              cases hn : decide (x.x.nm = x.nm)
              · have GR := Lib.hid (GBX.out (by simp only [goodE, hn]; simp))
                have hnn : ¬ (x.x.n.house = x.nm.1 ∧ x.x.n.num = x.nm.2) := fun h => by
                  have h1 : ¬ x.x.nm = x.nm := of_decide_eq_false hn
                  exact h1 (Prod.ext h.1 h.2)
                have HNN := Lib.hid hnn; clear hnn hn
                go_big_quiet_want
                refine ⟨.bool true, fun w0 hC => ?_, ?_⟩
                · clear hC
                  have h0 := HNN.out
                  by_cases h1 : x.x.n.house = x.nm.1 <;> by_cases h2 : x.x.n.num = x.nm.2
                  · exact absurd ⟨h1, h2⟩ h0
                  all_goals (go_simp; try simp [h1, h2])
                simp only [Act.put, lq3, lq4, lq5]
                go_big_quiet_on
                go_big_quiet_want
                refine ⟨.bool true, fun w0 hC => ?_, ?_⟩
                · clear hC
                  go_simp
                simp only [Act.put, lq3, lq4, lq5]
                go_big_quiet_on
                go_big_quiet_want
                go_big_quiet_op
                go_big_quiet_on
                go_big_quiet_skip
                go_big_quiet_skip
                go_big_quiet_skip
                go_big_quiet_skip
                go_big_quiet_want
                refine ⟨.bool true, fun w0 hC => ?_, ?_⟩
                · clear hC
                  go_simp
                simp only [Act.put, lq3, lq4, lq5]
                go_big_quiet_on
                refine wpQuiet_nil ?_
                intro w' hC
                go_wp2_with fail
                go_ret
                exact ⟨by rw [GR.out]; rfl, BS.out _ (ST.out.trans (Same.of_below hC))⟩
              · have hne : x.x.n.house = x.nm.1 ∧ x.x.n.num = x.nm.2 := by
                  have h1 : x.x.nm = x.nm := of_decide_eq_true hn
                  exact ⟨congrArg Prod.fst h1, congrArg Prod.snd h1⟩
                have HNN := Lib.hid hne; clear hne
                have HN' := Lib.hid hn; clear hn
                have NOK : Hid (nmOk x.nm) := Lib.hid (by have := formed_nm HF.out; rw [HNN.out.1, HNN.out.2] at this; exact this)
                go_big_quiet_want
                refine ⟨.bool false, fun w0 hC => ?_, ?_⟩
                · clear hC
                  have h0 := HNN.out
                  go_simp
                  try simp [h0.1, h0.2]
                simp only [Act.put, lq3, lq4, lq5]
                go_big_quiet_on
                go_big_quiet_want
                refine ⟨.bool false, fun w0 hC => ?_, ?_⟩
                · clear hC
                  go_simp
                simp only [Act.put, lq3, lq4, lq5]
                go_big_quiet_on
                go_big_quiet_want
                go_big_quiet_op
                go_big_quiet_on
                go_big_quiet_want
                go_big_quiet_op
                go_big_quiet_on
                go_big_quiet_want
                refine ⟨.pointer (some ⟨p7, 0, none⟩), fun w0 hC => ?_, ?_⟩
                · clear hC
                  go_simp
                simp only [Act.put, lq3, lq4, lq5]
                go_big_quiet_on
                go_big_quiet_want
                refine ⟨.agg #[.int .i64 x.nm.1, .int .i64 x.nm.2], fun w0 hC => ?_, ?_⟩
                · have c0 := cell_of (LX.out w0 hC) 0 (.int .i64 x.nm.1) rfl
                  have c1 := cell_of (LX.out w0 hC) 1 (.int .i64 x.nm.2) rfl
                  clear hC
                  go_simp
                simp only [Act.put, lq3, lq4, lq5]
                go_big_quiet_on
                go_big_quiet_want
                refine ⟨.bool (decide (x.nm ∈ ks)), fun w0 hC => ?_, ?_⟩
                · have hl := run_seen (MT.out.below hC) x.nm.1 x.nm.2 NOK.out
                  clear hC
                  go_simp
                simp only [Act.put, lq3, lq4, lq5]
                go_big_quiet_on
                cases hq : decide (x.nm ∈ ks)
                · have HQ := Lib.hid hq; clear hq
                  go_big_quiet_want
                  refine ⟨.bool false, fun w0 hC => ?_, ?_⟩
                  · clear hC
                    go_simp
                  simp only [Act.put, lq3, lq4, lq5]
                  go_big_quiet_on
                  refine wpQuiet_nil ?_
                  intro w' hC
                  have M2 := Lib.hid (MT.out.below hC)
                  have X2 := Lib.hid (below_blk hC XT.out)
                  have S2 := Lib.hid (ST.out.trans (Same.of_below hC))
                  have HP2 : Hid (wt.heap.size ≤ w'.heap.size) := Lib.hid hC.size
                  clear hC
                  have c0 := cell_of X2.out 0 (.int .i64 x.nm.1) rfl
                  have c1 := cell_of X2.out 1 (.int .i64 x.nm.2) rfl
                  obtain ⟨v2, hrun, hm2, ht2⟩ := run_put_nm (t := 120) M2.out (by have := HN.out; unfold maxLen; omega) Tryz.underlying120 x.nm.1 x.nm.2 NOK.out ()
                  have HM2 := Lib.hid hm2
                  have S3 := Lib.hid (S2.out.trans (Same.of_grown ht2.grown (fun q e => (Option.some.inj e).symm)))
                  clear hm2 ht2
                  unfold encT at hrun
                  go_wp2_with fail
                  go_roundw
                  case rel => exact ⟨k + 1, by go_num, by omega, S3, Lib.hid (by rw [take_snoc HX.out, List.map_append, hks.out]; have := HM2.out; rw [seenF_snoc] at this; exact this), Lib.hid (goodAll_step HX.out HG.out (by rw [hks.out]; simp [goodE, HD.out, HF.out, HN'.out, HQ.out]))⟩
                  case measure => simp [intOf]; omega
                · have GR := Lib.hid (GBX.out (by simp only [goodE, hq]; simp))
                  clear hq
                  go_big_quiet_want
                  refine ⟨.bool true, fun w0 hC => ?_, ?_⟩
                  · clear hC
                    go_simp
                  simp only [Act.put, lq3, lq4, lq5]
                  go_big_quiet_on
                  refine wpQuiet_nil ?_
                  intro w' hC
                  go_wp2_with fail
                  go_ret
                  exact ⟨by rw [GR.out]; rfl, BS.out _ (ST.out.trans (Same.of_below hC))⟩
        · have hkn : k = N := by omega
          subst hkn
          have t0 : decide ((k : Int) < (k : Int)) = false := by simp
          have HGA : Hid (goodAll f [] (hs ++ es) = true) := Lib.hid (by rw [hall.out]; have := HG.out; rwa [List.take_of_length_le (by rw [E3.out.1]; exact Nat.le_refl _)] at this)
          have P4 := Lib.hid (same_blk HS.out P3.out (fun e => by have := HRb.out; omega))
          have B4 := Lib.hid (BS.out wr HS.out)
          have H4 : Hid (RdA wr 21 ha hn hc (evCells hs)) := Lib.hid (H3.out.same HS.out HMB.out)
          have D4 : Hid (RdA wr 21 ea en ec (evCells es)) := Lib.hid (D3.out.same HS.out HMB.out)
          clear HS HM HG OS FS ES BS GB E3 OK3 F3 P3 H3 D3 M3 HB3
          have HGF : Hid (regOkB f hs es = (hs.all (fun e => e.x.n.kind == 1) && !es.any (badE hs))) := Lib.hid (by have h1 := HNE.out; rw [regOkB, HGA.out, LH.out, LE.out]; simp [h1.1, h1.2])
          clear HGA
          have hmf : ∀ (fn : Fn) (first cap : Array Value) (w : World), (Instr.makeFunc fn first cap).run Tryz.prog w = .ok (.func fn first cap) w := fun _ _ _ _ => rfl
          go_upto_region 12 with fail
          have hbt : Below wr.heap.size wr (wr.alloc (.cells #[fIsHeap] 81)) := (Below.refl _ _).alloc (Nat.le_refl _) _
          have CF := Lib.hid (heap_last wr (.cells #[fIsHeap] 81))
          have P5 := Lib.hid (below_blk hbt P4.out)
          have B5 := Lib.hid (B4.out.trans (hbt.mono B4.out.size))
          have H5 := Lib.hid (RdEs.of_rd (H4.out.below hbt))
          have D5 := Lib.hid (RdEs.of_rd (D4.out.below hbt))
          clear hbt P4 B4 H4 D4 t0
          change Code.wp _ _ _ _ (wr.alloc (.cells #[fIsHeap] 81))
          obtain ⟨pI, hpI⟩ : ∃ pI, Hid (wr.heap.size = pI) := ⟨_, Lib.hid rfl⟩
          rw [hpI.out] at CF ⊢
          generalize wr.alloc (.cells #[fIsHeap] 81) = W5 at *
          have c0 := cell_of P5.out 0 (.slice ha hn hc) rfl
          go_wp2_with fail
          clear c0
          go_loopw [65] (fun i wr => ∃ k : Nat, i = .int .i64 k ∧ k ≤ hn ∧ Hid (Below W5.heap.size W5 wr) ∧ Hid (∀ j y, j < k → hs[j]? = some y → (y.x.n.kind == 1) = true)) (fun i _ => hn - (intOf i).toNat)
          case atStart => exact ⟨0, rfl, Nat.zero_le _, Lib.hid (Below.refl _ _), Lib.hid (fun j y h => by omega)⟩
          case round =>
            obtain ⟨i, rfl, hi, HS, HA⟩ := hrel
            have P6 := Lib.hid (below_blk HS.out P5.out)
            have C6 := Lib.hid (below_blk HS.out CF.out)
            have B6 := Lib.hid (B5.out.trans (HS.out.mono B5.out.size))
            by_cases hlt : i < hn
            · have t0 : decide ((i : Int) < (hn : Int)) = true := by simp; omega
              obtain ⟨x, Hx⟩ : ∃ x, hs[i]? = some x := ⟨hs[i]'(by rw [LH.out]; exact hlt), List.getElem?_eq_getElem (by rw [LH.out]; exact hlt)⟩
              have HX := Lib.hid Hx
              obtain ⟨bs, off, ha0, hat⟩ := (H5.out.below HS.out).at (by omega)
              subst ha0
              have HRA := Lib.hid (hat i x Hx)
              clear hat Hx
              obtain ⟨o, ho⟩ : ∃ o, Hid (off + i * 21 = o) := ⟨_, Lib.hid rfl⟩
              rw [ho.out] at HRA
              have hix := fun W => idx_off (W := W) (c := hc) (b := bs) Tryz.underlying24 J21 hlt ho.out
              go_upto_region 15 with (first
                | (refine wpList_load_mid rfl 53 _ rfl bs o rfl x.cells _ HRA.out Tryz.underlying53 rfl (by exact J21) ?_)
                | (refine wpList_alloc_ev rfl rfl ?_)
                | (refine wpList_store_newp _ rfl 53 _ _ rfl _ rfl _ (evA x) rfl rfl (I21.out _) rfl (evA_all x) ?_)
                | fail)
              clear hix t0
              simp only [Act.put, lq3, lq4, lq5]
              have hbt : Below wr.heap.size wr (wr.alloc (.cells (evA x) 53)) := (Below.refl _ _).alloc (Nat.le_refl _) _
              have XT := Lib.hid (heap_last wr (.cells (evA x) 53))
              have I7 := Lib.hid (below_blk hbt C6.out)
              have S7 := Lib.hid (HS.out.trans (hbt.mono HS.out.size))
              clear hbt P6 C6 HS HRA
              obtain ⟨p10, hp10⟩ : ∃ p10, Hid (wr.heap.size = p10) := ⟨_, Lib.hid rfl⟩
              rw [hp10.out] at XT ⊢
              generalize wr.alloc (.cells (evA x) 53) = W7 at *
              have f0 := cell_of I7.out 0 fIsHeap rfl
              unfold fIsHeap at f0
              have hi64 : (i : Int) + 1 ≤ 9223372036854775807 := by have := HNE.out; omega
              cases hkb : (x.x.n.kind == 1) with
              | true =>
                go_wp2_with (first
                  | (go_at_call 88
                     refine (isHeap_any x _).mono ?_
                     rintro r W8 ⟨rfl, b8⟩
                     rw [hkb]
                     have S8 := Lib.hid (S7.out.trans (b8.mono S7.out.size))
                     clear b8
                     dsimp only)
                  | (refine wpList_load_row rfl 53 _ rfl p10 rfl 53 (evA x) (0, 0) _ XT.out Tryz.underlying53 rfl (I21.out _) ?_)
                  | fail)
                have HKB := Lib.hid hkb; clear hkb
                go_roundw
                case rel => exact ⟨i + 1, by go_num, by omega, S8, Lib.hid (fun j y hj hy => by
                  rcases Nat.lt_or_ge j i with h | h
                  · exact HA.out j y h hy
                  · have e : j = i := by omega
                    subst e
                    rw [HX.out] at hy
                    cases hy
                    exact HKB.out)⟩
                case measure => simp [intOf]; omega
              | false =>
                have GR : Hid (regOkB f hs es = false) := Lib.hid (by
                  rw [HGF.out]
                  have h1 : hs.all (fun e => e.x.n.kind == 1) = false := by
                    rw [List.all_eq_false]
                    exact ⟨x, List.mem_of_getElem? HX.out, by rw [hkb]; simp⟩
                  rw [h1, Bool.false_and])
                go_wp2_with (first
                  | (go_at_call 88
                     refine (isHeap_any x _).mono ?_
                     rintro r W8 ⟨rfl, b8⟩
                     rw [hkb]
                     have S8 := Lib.hid (S7.out.trans (b8.mono S7.out.size))
                     clear b8
                     dsimp only)
                  | (refine wpList_load_row rfl 53 _ rfl p10 rfl 53 (evA x) (0, 0) _ XT.out Tryz.underlying53 rfl (I21.out _) ?_)
                  | fail)
                go_ret
                exact ⟨by rw [GR.out]; rfl, B5.out.trans (S8.out.mono B5.out.size)⟩
            · have t0 : decide ((i : Int) < (hn : Int)) = false := by simp; omega
              have GR : Hid (regOkB f hs es = !es.any (badE hs)) := Lib.hid (by
                rw [HGF.out]
                have h1 : hs.all (fun e => e.x.n.kind == 1) = true := by
                  rw [List.all_eq_true]
                  intro y hy
                  obtain ⟨j, hj⟩ := List.getElem?_of_mem hy
                  have hjl := (List.getElem?_eq_some_iff.1 hj).1
                  exact HA.out j y (by have := LH.out; omega) hj
                rw [h1, Bool.true_and])
              have c1 := cell_of P6.out 1 (.slice ea en ec) rfl
              have hfn : ∀ (args : Array Value) (w : World), (callFunc 90 args).run Tryz.prog w = .ok (.enter 90 args) w := badE_fn
              have HC := Lib.hid (containsF_any es (badE hs) 90 #[.pointer (some ⟨pR, 0, none⟩), .pointer (some ⟨pI, 0, none⟩)] badE_fn ea en ec wr (D5.out.below HS.out)
                (fun e he W hb => badE_any e hs ha hn hc (.slice ea en ec) v3 pR pI W ((H5.out.below HS.out).below hb) (below_blk hb P6.out) (below_blk hb C6.out)))
              obtain ⟨q, hq⟩ : ∃ q, Hid (es.any (badE hs) = q) := ⟨_, Lib.hid rfl⟩
              rw [hq.out] at HC GR
              clear hfn
              go_wp2_with (first
                | (go_at_call 89
                   refine HC.out.mono ?_
                   rintro r W8 ⟨rfl, b8⟩
                   have S8 := Lib.hid (HS.out.trans (b8.mono HS.out.size))
                   clear b8
                   dsimp only)
                | fail)
              go_ret
              exact ⟨by rw [GR.out]; rfl, B5.out.trans (S8.out.mono B5.out.size)⟩
    · have t4 : decide ((400 : Int) < (en : Int)) = true := by simp; omega
      have GR : Hid (regOkB f hs es = false) := Lib.hid (by rw [regOkB, LE.out]; simp [h4])
      clear h4
      go_wp2_with fail
      go_ret
      exact ⟨by rw [GR.out]; rfl, B0.out⟩
  · have t8 : decide ((8 : Int) < (hn : Int)) = true := by simp; omega
    have GR : Hid (regOkB f hs es = false) := Lib.hid (by rw [regOkB, LH.out]; simp [h8])
    clear h8
    go_wp2_with fail
    go_ret
    exact ⟨by rw [GR.out]; rfl, B0.out⟩
end Go.Proofs.YtpjiakgfegnmcaaGreat
namespace Go.Proofs.YtpjiakgfegnmcaaGreat
set_option linter.unusedSimpArgs false
open Go.RowKit

theorem evCells_take (l : List EvV) (k : Nat) : (evCells l).take (k * 21) = evCells (l.take k) := by
  rw [evCells, evCells]
  induction l generalizing k with
  | nil => simp
  | cons e l ih =>
    cases k with
    | zero => simp
    | succ k =>
      simp only [List.map_cons, List.flatten_cons, List.take_succ_cons]
      rw [List.take_append, show (k + 1) * 21 = k * 21 + 21 by omega, List.take_of_length_le (by show 21 ≤ _; omega), show k * 21 + 21 - e.cells.length = k * 21 from by show k * 21 + 21 - 21 = _; omega, ih]
def passOne (a : Nm) (e : EvV) : Bool := e.x.n.kind == 2 && (decide ((e.x.n.refH, e.x.n.refN) = a) && inB e.x.n.turns 1 10000)
def passSum (a : Nm) (l : List EvV) : Int := l.foldl (fun n e => if passOne a e = true then n + e.x.n.turns else n) 0
theorem passSum_snoc (a : Nm) (l : List EvV) (e : EvV) : passSum a (l ++ [e]) = if passOne a e = true then passSum a l + e.x.n.turns else passSum a l := by simp [passSum, List.foldl_append]
theorem passSum_bnd (a : Nm) (l : List EvV) : 0 ≤ passSum a l ∧ passSum a l ≤ l.length * 10000 := by
  have h : ∀ (l : List EvV) (z : Int), z ≤ l.foldl (fun n e => if passOne a e = true then n + e.x.n.turns else n) z ∧ l.foldl (fun n e => if passOne a e = true then n + e.x.n.turns else n) z ≤ z + l.length * 10000 := by
    intro l
    induction l with
    | nil => intro z; simp
    | cons e l ih =>
      intro z
      have h1 := ih (if passOne a e = true then z + e.x.n.turns else z)
      simp only [List.foldl_cons, List.length_cons]
      by_cases hp : passOne a e = true
      · have h2 : 1 ≤ e.x.n.turns ∧ e.x.n.turns ≤ 10000 := by
          simp only [passOne, Bool.and_eq_true] at hp
          exact inB_true.1 hp.2.2
        rw [if_pos hp] at h1 ⊢
        omega
      · rw [if_neg hp] at h1 ⊢
        omega
  have := h l 0
  simp only [passSum]
  omega
def passesV (hs es : List EvV) (k : Int) : Int × Int := if 0 ≤ k then (match hs[k.toNat]? with | some h => (passSum h.nm (es.take 400), 0) | none => (0, 3)) else (0, 3)

set_option maxHeartbeats 16000000 in
set_option maxRecDepth 100000 in
theorem passes_any (hs es : List EvV) (ha : Option Addr) (hn hc : Nat) (ea : Option Addr) (en ec : Nat) (v3 : Value) (z : Int) (w : World)
    (h1 : RdEs w ha hn hc hs) (h2 : RdA w 21 ea en ec (evCells es)) :
    Calls Tryz.prog 14 #[.agg #[.slice ha hn hc, .slice ea en ec, v3], .int .i64 z] w fun e w' => e = .returned (.tuple #[.int .i64 (passesV hs es z).1, .int .i64 (passesV hs es z).2]) ∧ Below w.heap.size w w' := by
  have I21 := Lib.hid (show ∀ (x : EvV), (Tryz.prog.info? 53).map (·.size) = some (evA x).size from fun x => by kernel_rfl)
  have J21 : (Tryz.prog.info? 53).map (·.size) = some 21 := by kernel_rfl
  have LH : Hid (hs.length = hn) := Lib.hid h1.1
  have LE : Hid (es.length = en) := Lib.hid (by have := h2.len; rw [evCells_len] at this; omega)
  have B0 := Lib.hid ((Below.refl w.heap.size w).alloc (Nat.le_refl _) (.cells #[.slice ha hn hc, .slice ea en ec, v3] 27))
  have P0 := Lib.hid (heap_last w (.cells #[.slice ha hn hc, .slice ea en ec, v3] 27))
  have R1 := Lib.hid (h1.below B0.out)
  have R2 := Lib.hid (h2.below B0.out)
  have hm1 := h1.maxn
  have hm2 := h2.maxn
  clear h1 h2
  go_enter Tryz.func14, Tryz.ntmps14
  go_upto_region 1 with fail
  obtain ⟨pR, hpR⟩ : ∃ pR, Hid (w.heap.size = pR) := ⟨_, Lib.hid rfl⟩
  rw [hpR.out] at P0 ⊢
  generalize w.alloc (.cells #[.slice ha hn hc, .slice ea en ec, v3] 27) = W1 at *
  have c0 := cell_of P0.out 0 (.slice ha hn hc) rfl
  have c1 := cell_of P0.out 1 (.slice ea en ec) rfl
  go_wp2_with fail
  refine (hin_any z 0 (hn - 1) _).mono ?_
  rintro e w' ⟨rfl, rfl⟩
  by_cases hz : 0 ≤ z ∧ z < hn
  · obtain ⟨k, rfl⟩ : ∃ k : Nat, z = k := ⟨z.toNat, by omega⟩
    have hkn : k < hn := by omega
    obtain ⟨h, Hh⟩ : ∃ h, hs[k]? = some h := ⟨hs[k]'(by rw [LH.out]; exact hkn), List.getElem?_eq_getElem (by rw [LH.out]; exact hkn)⟩
    have HV : Hid (passesV hs es k = (passSum h.nm (es.take 400), 0)) := Lib.hid (by simp [passesV, Hh])
    have hin : inB (k : Int) 0 ((hn : Int) - 1) = true := inB_true.2 (by omega)
    rw [hin]
    clear hin
    obtain ⟨hb, ho, rfl, hat⟩ := R1.out.at (by omega)
    have HHA := Lib.hid (hat k h Hh)
    clear hat Hh
    obtain ⟨oh, hoh⟩ : ∃ oh, Hid (ho + k * 21 = oh) := ⟨_, Lib.hid rfl⟩
    rw [hoh.out] at HHA
    have HIX := Lib.hid (fun W => idx_off (W := W) (c := hc) (b := hb) Tryz.underlying24 J21 hkn hoh.out)
    obtain ⟨M, hM⟩ : ∃ M, Hid (min en 400 = M) := ⟨_, Lib.hid rfl⟩
    have HME : Hid (M ≤ en) := Lib.hid (by rw [← hM.out]; omega)
    have ET : Hid (es.take 400 = es.take M) := Lib.hid (by
      rw [← hM.out]; have := LE.out
      rcases Nat.le_total en 400 with h | h
      · rw [Nat.min_eq_left h, List.take_of_length_le (by omega), List.take_of_length_le (by omega)]
      · rw [Nat.min_eq_right h])
    rw [ET.out] at HV
    obtain ⟨all, hall⟩ : ∃ all, Hid (es.take M = all) := ⟨_, Lib.hid rfl⟩
    have HAL : Hid (all.length = M) := Lib.hid (by rw [← hall.out, List.length_take]; have := LE.out; have := HME.out; omega)
    have HM4 : Hid (M ≤ 400) := Lib.hid (by rw [← hM.out]; omega)
    rw [hall.out] at HV
    have hmin : (min (en : Int) 400) = (M : Int) := by have := hM.out; omega
    obtain ⟨iE, hiE, hz0, hz1, hz2⟩ := info_parts infoEv
    have HIE := Lib.hid (And.intro hiE hz1)
    clear hiE hz0 hz1 hz2 hz
    go_upto_region 4 with fail
    go_wp2_with (first
      | (refine wpList_slice_rd _ rfl _ none _ 24 rfl 53 iE 21 Tryz.underlying24 HIE.out.1 HIE.out.2 ea en ec _ rfl R2.out 0 M (.inl ⟨rfl, rfl⟩) (.inr ⟨_, .i64, rfl, rfl⟩) (Nat.zero_le _) HME.out ?_
         intro a' hsl
         rw [Nat.zero_mul, List.drop_zero, Nat.sub_zero, Nat.sub_zero, evCells_take, hall.out] at hsl
         have E1 := Lib.hid (RdEs.of_rd hsl)
         clear hsl
         rw [Nat.sub_zero, Nat.sub_zero])
      | fail)
    clear hmin c0 c1
    have GB : Hid (∀ q x, all[q]? = some x → ∀ r, (if passOne h.nm x = true then passSum h.nm (all.take q) + x.x.n.turns else passSum h.nm (all.take q)) = r → passSum h.nm (all.take (q + 1)) = r) := Lib.hid (fun q x hx r hr => by rw [take_snoc hx, passSum_snoc]; exact hr)
    go_loopw [6, 24] (fun s i wr => ∃ q : Nat, i = .int .i64 q ∧ q ≤ M ∧ s = .int .i64 (passSum h.nm (all.take q)) ∧ Hid (Below W1.heap.size W1 wr)) (fun _ i _ => M - (intOf i).toNat)
    case atStart => exact ⟨0, rfl, Nat.zero_le _, rfl, Lib.hid (Below.refl _ _)⟩
    case round =>
      obtain ⟨q, rfl, hq, rfl, HS⟩ := hrel
      have P6 := Lib.hid (below_blk HS.out P0.out)
      have H6 := Lib.hid (rangeAt_below HHA.out HS.out)
      obtain ⟨z, hz⟩ : ∃ z, Hid (passSum h.nm (all.take q) = z) := ⟨_, Lib.hid rfl⟩
      have HZ : Hid (0 ≤ z ∧ z ≤ 4000000) := Lib.hid (by
        rw [← hz.out]
        have h1 := passSum_bnd h.nm (all.take q)
        have h2 : (all.take q).length ≤ 400 := by rw [List.length_take]; have := HM4.out; have := HAL.out; omega
        omega)
      rw [hz.out]
      by_cases hlt : q < M
      · have t0 : decide ((q : Int) < (M : Int)) = true := by simp; omega
        obtain ⟨x, Hx⟩ : ∃ x, all[q]? = some x := ⟨all[q]'(by rw [HAL.out]; exact hlt), List.getElem?_eq_getElem (by rw [HAL.out]; exact hlt)⟩
        have GBX := Lib.hid (GB.out q x Hx)
        rw [hz.out] at GBX
        obtain ⟨bs, off, ha0, hat⟩ := (E1.out.below HS.out).at (by omega)
        subst ha0
        have HRA := Lib.hid (hat q x Hx)
        clear hat Hx
        obtain ⟨o, hoo⟩ : ∃ o, Hid (off + q * 21 = o) := ⟨_, Lib.hid rfl⟩
        rw [hoo.out] at HRA
        have hix := fun W => idx_off (W := W) (c := ec) (b := bs) Tryz.underlying24 J21 hlt hoo.out
        go_upto_region 7 with (first
          | (refine wpList_load_mid rfl 53 _ rfl bs o rfl x.cells _ HRA.out Tryz.underlying53 rfl (by exact J21) ?_)
          | (refine wpList_alloc_ev rfl rfl ?_)
          | (refine wpList_store_newp _ rfl 53 _ _ rfl _ rfl _ (evA x) rfl rfl (I21.out _) rfl (evA_all x) ?_)
          | fail)
        clear hix t0
        simp only [Act.put, lq3, lq4, lq5]
        have hbt : Below wr.heap.size wr (wr.alloc (.cells (evA x) 53)) := (Below.refl _ _).alloc (Nat.le_refl _) _
        have XT := Lib.hid (heap_last wr (.cells (evA x) 53))
        have S7 := Lib.hid (HS.out.trans (hbt.mono HS.out.size))
        have P7 := Lib.hid (below_blk hbt P6.out)
        have H7 := Lib.hid (rangeAt_below H6.out hbt)
        clear hbt P6 H6 HS HRA
        obtain ⟨p8, hp8⟩ : ∃ p8, Hid (wr.heap.size = p8) := ⟨_, Lib.hid rfl⟩
        rw [hp8.out] at XT ⊢
        generalize wr.alloc (.cells (evA x) 53) = wt at *
        have hq64 : (q : Int) + 1 ≤ 9223372036854775807 := by have := HM4.out; omega
        have hC0 : Below wt.heap.size wt wt.drew := (Below.refl _ _).drew
        have LX := Lib.hid (show ∀ w0, Below wt.heap.size wt w0 → w0.heap[p8]? = some (.cells (evA x) 53 (0, 0)) from fun w0 h => below_blk h XT.out)
        have LR := Lib.hid (show ∀ w0, Below wt.heap.size wt w0 → w0.heap[pR]? = some (.cells #[.slice (some ⟨hb, ho, none⟩) hn hc, .slice ea en ec, v3] 27 (0, 0)) from fun w0 h => below_blk h P7.out)
        have LB := Lib.hid (show ∀ w0, Below wt.heap.size wt w0 → w0.rangeAt hb oh h.cells from fun w0 hw => rangeAt_below H7.out hw)
        refine wp_region_quiet (C := fun w' : World => Below wt.heap.size wt w') (by kernel_rfl) (by kernel_rfl) hC0 ?_
        show wpQuiet _ _ _ _ (_ :: _) _
        go_big_quiet_want
        refine ⟨.pointer (some ⟨p8, 2, none⟩), fun w0 hC => ?_, ?_⟩
        · clear hC
          go_simp
        simp only [Act.put, lq3, lq4, lq5]
        go_big_quiet_on
        go_big_quiet_want
        refine ⟨.pointer (some ⟨p8, 6, none⟩), fun w0 hC => ?_, ?_⟩
        · clear hC
          go_simp
        simp only [Act.put, lq3, lq4, lq5]
        go_big_quiet_on
        go_big_quiet_want
        refine ⟨.int .i64 x.x.n.kind, fun w0 hC => ?_, ?_⟩
        · have c6 := cell_of (LX.out w0 hC) 6 (.int .i64 x.x.n.kind) rfl
          clear hC
          go_simp
        simp only [Act.put, lq3, lq4, lq5]
        go_big_quiet_on
        go_big_quiet_want
        refine ⟨.bool (x.x.n.kind == 2), fun w0 hC => ?_, ?_⟩
        · clear hC
          go_simp
        simp only [Act.put, lq3, lq4, lq5]
        go_big_quiet_on
        cases hk : (x.x.n.kind == 2)
        · have GR := Lib.hid (GBX.out z (by simp [passOne, hk]))
          go_big_quiet_want
          go_big_quiet_op
          go_big_quiet_on
          go_big_quiet_skip
          go_big_quiet_skip
          go_big_quiet_skip
          go_big_quiet_skip
          go_big_quiet_skip
          go_big_quiet_skip
          go_big_quiet_skip
          go_big_quiet_skip
          go_big_quiet_skip
          go_big_quiet_skip
          go_big_quiet_want
          refine ⟨.bool false, fun w0 hC => ?_, ?_⟩
          · clear hC
            go_simp
          simp only [Act.put, lq3, lq4, lq5]
          go_big_quiet_on
          go_big_quiet_want
          go_big_quiet_op
          go_big_quiet_on
          go_big_quiet_skip
          go_big_quiet_skip
          go_big_quiet_skip
          go_big_quiet_skip
          go_big_quiet_want
          refine ⟨.bool false, fun w0 hC => ?_, ?_⟩
          · clear hC
            go_simp
          simp only [Act.put, lq3, lq4, lq5]
          go_big_quiet_on
          refine wpQuiet_nil ?_
          intro w' hC
          have S8 := Lib.hid (S7.out.trans (hC.mono S7.out.size))
          clear hC
          go_wp2_with fail
          go_roundw
          case rel => exact ⟨q + 1, by go_num, by omega, by rw [GR.out], S8⟩
          case measure => simp [intOf]; omega
        · have HK := Lib.hid hk; clear hk
          go_big_quiet_want
          go_big_quiet_op
          go_big_quiet_on
          go_big_quiet_want
          refine ⟨.pointer (some ⟨p8, 2, none⟩), fun w0 hC => ?_, ?_⟩
          · clear hC
            go_simp
          simp only [Act.put, lq3, lq4, lq5]
          go_big_quiet_on
          go_big_quiet_want
          refine ⟨.pointer (some ⟨p8, 18, none⟩), fun w0 hC => ?_, ?_⟩
          · clear hC
            go_simp
          simp only [Act.put, lq3, lq4, lq5]
          go_big_quiet_on
          go_big_quiet_want
          refine ⟨.agg #[.int .i64 x.x.n.refH, .int .i64 x.x.n.refN], fun w0 hC => ?_, ?_⟩
          · have c18 := cell_of (LX.out w0 hC) 18 (.int .i64 x.x.n.refH) rfl
            have c19 := cell_of (LX.out w0 hC) 19 (.int .i64 x.x.n.refN) rfl
            clear hC
            go_simp
          simp only [Act.put, lq3, lq4, lq5]
          go_big_quiet_on
          go_big_quiet_want
          refine ⟨.pointer (some ⟨pR, 0, none⟩), fun w0 hC => ?_, ?_⟩
          · clear hC
            go_simp
          simp only [Act.put, lq3, lq4, lq5]
          go_big_quiet_on
          go_big_quiet_want
          refine ⟨.slice (some ⟨hb, ho, none⟩) hn hc, fun w0 hC => ?_, ?_⟩
          · have c0 := cell_of (LR.out w0 hC) 0 (.slice (some ⟨hb, ho, none⟩) hn hc) rfl
            clear hC
            go_simp
          simp only [Act.put, lq3, lq4, lq5]
          go_big_quiet_on
          go_big_quiet_want
          go_big_quiet_op
          go_big_quiet_on
          go_big_quiet_want
          refine ⟨.pointer (some ⟨hb, oh, none⟩), fun w0 hC => ?_, ?_⟩
          · have hix := HIX.out w0
            clear hC
            go_simp
          simp only [Act.put, lq3, lq4, lq5]
          go_big_quiet_on
          go_big_quiet_want
          refine ⟨.pointer (some ⟨hb, oh, none⟩), fun w0 hC => ?_, ?_⟩
          · clear hC
            go_simp
          simp only [Act.put, lq3, lq4, lq5]
          go_big_quiet_on
          go_big_quiet_want
          refine ⟨.agg #[.int .i64 h.nm.1, .int .i64 h.nm.2], fun w0 hC => ?_, ?_⟩
          · have c0 := LB.out w0 hC 0 (.int .i64 h.nm.1) rfl
            have c1 := LB.out w0 hC 1 (.int .i64 h.nm.2) rfl
            simp only [Nat.add_zero] at c0
            clear hC
            go_simp
          simp only [Act.put, lq3, lq4, lq5]
          go_big_quiet_on
          go_big_quiet_want
          refine ⟨.bool (decide (x.x.n.refH = h.nm.1 ∧ x.x.n.refN = h.nm.2)), fun w0 hC => ?_, ?_⟩
          · clear hC
            go_simp
            try (by_cases h1 : x.x.n.refH = h.nm.1 <;> by_cases h2 : x.x.n.refN = h.nm.2 <;> simp [h1, h2])
          simp only [Act.put, lq3, lq4, lq5]
          go_big_quiet_on
          cases hr : decide (x.x.n.refH = h.nm.1 ∧ x.x.n.refN = h.nm.2)
          · have GR := Lib.hid (GBX.out z (by
              have h1 : ¬ (x.x.n.refH, x.x.n.refN) = h.nm := fun e => of_decide_eq_false hr ⟨congrArg Prod.fst e, congrArg Prod.snd e⟩
              simp [passOne, h1]))
            go_big_quiet_want
            refine ⟨.bool false, fun w0 hC => ?_, ?_⟩
            · clear hC
              go_simp
            simp only [Act.put, lq3, lq4, lq5]
            go_big_quiet_on
            go_big_quiet_want
            go_big_quiet_op
            go_big_quiet_on
            go_big_quiet_skip
            go_big_quiet_skip
            go_big_quiet_skip
            go_big_quiet_skip
            go_big_quiet_want
            refine ⟨.bool false, fun w0 hC => ?_, ?_⟩
            · clear hC
              go_simp
            simp only [Act.put, lq3, lq4, lq5]
            go_big_quiet_on
            refine wpQuiet_nil ?_
            intro w' hC
            have S8 := Lib.hid (S7.out.trans (hC.mono S7.out.size))
            clear hC
            go_wp2_with fail
            go_roundw
            case rel => exact ⟨q + 1, by go_num, by omega, by rw [GR.out], S8⟩
            case measure => simp [intOf]; omega
          · have HR : Hid ((x.x.n.refH, x.x.n.refN) = h.nm) := Lib.hid (Prod.ext (of_decide_eq_true hr).1 (of_decide_eq_true hr).2)
            clear hr
            go_big_quiet_want
            refine ⟨.bool true, fun w0 hC => ?_, ?_⟩
            · clear hC
              go_simp
            simp only [Act.put, lq3, lq4, lq5]
            go_big_quiet_on
            go_big_quiet_want
            go_big_quiet_op
            go_big_quiet_on
            go_big_quiet_want
            refine ⟨.pointer (some ⟨p8, 2, none⟩), fun w0 hC => ?_, ?_⟩
            · clear hC
              go_simp
            simp only [Act.put, lq3, lq4, lq5]
            go_big_quiet_on
            go_big_quiet_want
            refine ⟨.pointer (some ⟨p8, 9, none⟩), fun w0 hC => ?_, ?_⟩
            · clear hC
              go_simp
            simp only [Act.put, lq3, lq4, lq5]
            go_big_quiet_on
            go_big_quiet_want
            refine ⟨.int .i64 x.x.n.turns, fun w0 hC => ?_, ?_⟩
            · have c9 := cell_of (LX.out w0 hC) 9 (.int .i64 x.x.n.turns) rfl
              clear hC
              go_simp
            simp only [Act.put, lq3, lq4, lq5]
            go_big_quiet_on
            go_big_quiet_want
            refine ⟨.bool (inB x.x.n.turns 1 10000), fun w0 hC => ?_, ?_⟩
            · go_simp
              refine (hin_any x.x.n.turns 1 10000 w0).mono ?_
              rintro e w1 ⟨rfl, rfl⟩
              exact ⟨rfl, hC⟩
            simp only [Act.put, lq3, lq4, lq5]
            go_big_quiet_on
            cases hi : inB x.x.n.turns 1 10000
            · have GR := Lib.hid (GBX.out z (by simp [passOne, hi]))
              go_big_quiet_want
              refine ⟨.bool false, fun w0 hC => ?_, ?_⟩
              · clear hC
                go_simp
              simp only [Act.put, lq3, lq4, lq5]
              go_big_quiet_on
              refine wpQuiet_nil ?_
              intro w' hC
              have S8 := Lib.hid (S7.out.trans (hC.mono S7.out.size))
              clear hC
              go_wp2_with fail
              go_roundw
              case rel => exact ⟨q + 1, by go_num, by omega, by rw [GR.out], S8⟩
              case measure => simp [intOf]; omega
            · have GR := Lib.hid (GBX.out (z + x.x.n.turns) (by simp [passOne, hi, HK.out, HR.out]))
              have HT := Lib.hid (inB_true.1 hi)
              clear hi
              go_big_quiet_want
              refine ⟨.bool true, fun w0 hC => ?_, ?_⟩
              · clear hC
                go_simp
              simp only [Act.put, lq3, lq4, lq5]
              go_big_quiet_on
              refine wpQuiet_nil ?_
              intro w' hC
              have S8 := Lib.hid (S7.out.trans (hC.mono S7.out.size))
              have hc9 := cell_of (LX.out w' hC) 9 (.int .i64 x.x.n.turns) rfl
              have hzb := HZ.out
              have htb := HT.out
              clear hC
              go_wp2_with fail
              go_roundw
              case rel => exact ⟨q + 1, by go_num, by omega, by rw [GR.out], S8⟩
              case measure => simp [intOf]; omega
      · have hqm : q = M := by omega
        subst hqm
        have t0 : decide ((q : Int) < (q : Int)) = false := by simp
        have HE : Hid (passSum h.nm all = z) := Lib.hid (by rw [← hz.out, List.take_of_length_le (by rw [HAL.out]; exact Nat.le_refl _)])
        have B6 := Lib.hid (B0.out.trans (HS.out.mono B0.out.size))
        go_wp2_with fail
        go_ret2
        exact ⟨by rw [HV.out, HE.out]; rfl, B6.out⟩
  · have HV : Hid (passesV hs es z = (0, 3)) := Lib.hid (by
      unfold passesV
      by_cases h0 : 0 ≤ z
      · rw [if_pos h0]
        have : hs[z.toNat]? = none := List.getElem?_eq_none (by rw [LH.out]; omega)
        rw [this]
      · rw [if_neg h0])
    have hin : inB z 0 ((hn : Int) - 1) = false := inB_false.2 (by omega)
    rw [hin]
    clear hin hz
    go_wp2_with fail
    go_ret2
    exact ⟨by rw [HV.out]; rfl, B0.out⟩
end Go.Proofs.YtpjiakgfegnmcaaGreat
namespace Go.Proofs.YtpjiakgfegnmcaaGreat
set_option linter.unusedSimpArgs false
open Go.RowKit

theorem same_set1 (w : World) (p o : Nat) (v : Value) : Same (fun k => k = p) w (w.setCell ⟨p, o, none⟩ v) := Same.of_grown (setCell_grown w p o v) (fun k e => by cases e; rfl)
def addTo (T : List Int) (s e : Nat) : List Int := T.mapIdx fun i v => if s ≤ i ∧ i < e then v + 1 else v
theorem addTo_len (T : List Int) (s e : Nat) : (addTo T s e).length = T.length := by simp [addTo]
theorem addTo_at (T : List Int) (s e i : Nat) : (addTo T s e)[i]? = (T[i]?).map fun v => if s ≤ i ∧ i < e then v + 1 else v := by simp [addTo]
theorem addTo_none (T : List Int) (s : Nat) : addTo T s s = T := by
  apply List.ext_getElem?
  intro i
  rw [addTo_at]
  cases T[i]? with
  | none => rfl
  | some v => simp; intro h1 h2; omega
theorem addTo_step (T : List Int) (s e : Nat) (hse : s ≤ e) (v : Int) (hv : T[e]? = some v) : (addTo T s e).set e (v + 1) = addTo T s (e + 1) := by
  apply List.ext_getElem?
  intro i
  rw [List.getElem?_set, addTo_at, addTo_at, addTo_len]
  have hlt := (List.getElem?_eq_some_iff.1 hv).1
  by_cases he : e = i
  · subst he
    rw [if_pos rfl, if_pos hlt, hv]
    simp [hse]
  · rw [if_neg he]
    cases T[i]? with
    | none => rfl
    | some u =>
      simp only [Option.map_some, Option.some.injEq]
      by_cases h1 : s ≤ i ∧ i < e
      · rw [if_pos h1, if_pos ⟨h1.1, by omega⟩]
      · rw [if_neg h1, if_neg (fun h => h1 ⟨h.1, by omega⟩)]
def coverL (off wd : Nat) (T : List Int) (l : List Int) : List Int := l.foldl (fun T s => addTo T (off + s.toNat) (off + s.toNat + wd)) T
theorem coverL_snoc (off wd : Nat) (T l : List Int) (s : Int) : coverL off wd T (l ++ [s]) = addTo (coverL off wd T l) (off + s.toNat) (off + s.toNat + wd) := by simp [coverL, List.foldl_append]
theorem coverL_len (off wd : Nat) : ∀ (l T : List Int), (coverL off wd T l).length = T.length
  | [], _ => rfl
  | s :: l, T => by
    have := coverL_len off wd l (addTo T (off + s.toNat) (off + s.toNat + wd))
    rw [addTo_len] at this
    exact this
theorem addTo_bnd {T : List Int} {B : Int} (h : ∀ v ∈ T, 0 ≤ v ∧ v ≤ B) (s e : Nat) : ∀ v ∈ addTo T s e, 0 ≤ v ∧ v ≤ B + 1 := by
  intro v hv
  obtain ⟨i, hi⟩ := List.getElem?_of_mem hv
  rw [addTo_at] at hi
  cases hu : T[i]? with
  | none => simp [hu] at hi
  | some u =>
    have hb := h u (List.mem_of_getElem? hu)
    simp only [hu, Option.map_some, Option.some.injEq] at hi
    subst hi
    split <;> omega
theorem coverL_bnd (off wd : Nat) : ∀ (l T : List Int) (B : Int), (∀ v ∈ T, 0 ≤ v ∧ v ≤ B) → ∀ v ∈ coverL off wd T l, 0 ≤ v ∧ v ≤ B + l.length
  | [], T, B, h, v, hv => by have := h v hv; simp; omega
  | s :: l, T, B, h, v, hv => by
    have := coverL_bnd off wd l _ _ (addTo_bnd h (off + s.toNat) (off + s.toNat + wd)) v hv
    simp only [List.length_cons]
    omega

def TAt (w : World) (b : Nat) (T : List Int) : Prop := w.heap[b]? = some (.cells (T.map intV).toArray 3 (0, 0))
theorem TAt.at {w : World} {b : Nat} {T : List Int} (h : TAt w b T) {i : Nat} {v : Int} (hv : T[i]? = some v) : w.cell? ⟨b, i, none⟩ = some (.int .i64 v) := cell_of h i _ (by simp [hv, intV])
theorem TAt.set {w : World} {b : Nat} {T : List Int} (h : TAt w b T) (i : Nat) (v : Int) : TAt (w.setCell ⟨b, i, none⟩ (.int .i64 v)) b (T.set i v) := by
  unfold TAt at *
  have hb := blk_lt h
  simp only [World.setCell, Array.getElem?_modify, h]
  simp [intV, List.map_set]
theorem TAt.free {w : World} {b : Nat} {T : List Int} (h : TAt w b T) (i : Nat) : w.frozen? ⟨b, i, none⟩ = false := by
  unfold TAt at h
  simp [World.frozen?, h]
theorem RdI.ne {S : Nat → Prop} {W W' : World} {a : Option Addr} {n c : Nat} {l : List Int} (h : RdI W a n c l) (hs : Same S W W') (hne : ∀ x off, a = some ⟨x, off, none⟩ → ¬ S x) : RdI W' a n c l := by
  refine ⟨h.1, h.2.1, h.2.2.1, h.2.2.2.imp id ?_⟩
  rintro ⟨b', off, rfl, h4⟩
  refine ⟨b', off, rfl, fun i x hx => ?_⟩
  have h5 := h4 i x hx
  rw [← h5]
  simp only [World.cell?, hs.block b' (World.block_lt_of_cell? W _ h5) (hne b' off rfl)]

set_option maxHeartbeats 8000000 in
set_option maxRecDepth 100000 in
theorem covers_any (r s : Int) (wd : Nat) (b off N c : Nat) (T l : List Int) (sa : Option Addr) (sc : Nat) (B : Int) (w : World) (hT : TAt w b T) (hN : off + N ≤ T.length) (hr : RdI w sa l.length sc l) (hsb : ∀ x o, sa = some ⟨x, o, none⟩ → x ≠ b)
    (hl : ∀ x ∈ l, 0 ≤ x ∧ x + wd ≤ N) (hB : ∀ v ∈ T, 0 ≤ v ∧ v ≤ B) (hBl : B + l.length ≤ 1000000000000) (hNb : N ≤ 1000000) :
    Calls Tryz.prog 52 #[.agg #[.int .i64 r, .int .i64 s, .int .i64 wd], .slice (some ⟨b, off, none⟩) N c, .slice sa l.length sc] w fun e w' => e = .returned (.tuple #[]) ∧ TAt w' b (coverL off wd T l) ∧ Same (fun k => k = b) w w' := by
  have hb0 : Below w.heap.size w (w.alloc (.cells #[.int .i64 r, .int .i64 s, .int .i64 wd] 85)) := (Below.refl _ _).alloc (Nat.le_refl _) _
  have hF := heap_last w (.cells #[.int .i64 r, .int .i64 s, .int .i64 wd] 85)
  have T0 : Hid (TAt (w.alloc (.cells #[.int .i64 r, .int .i64 s, .int .i64 wd] 85)) b T) := Lib.hid (below_blk hb0 hT)
  have R0 := Lib.hid (hr.below hb0)
  have S0 := Lib.hid (Same.of_below (S := fun k => k = b) hb0)
  have FN : Hid (w.heap.size ≠ b) := Lib.hid (by have := blk_lt hT; omega)
  have HN := Lib.hid hN; have HSB := Lib.hid hsb; have HL := Lib.hid hl; have HB := Lib.hid hB; have HBL := Lib.hid hBl; have HNB := Lib.hid hNb
  have hm := hr.maxn
  clear hT hr hN hsb hl hB hBl hNb hb0
  go_enter Tryz.func52, Tryz.ntmps52
  go_upto_region 1 with fail
  have F0 := Lib.hid hF; clear hF
  obtain ⟨p, hp⟩ : ∃ p, Hid (w.heap.size = p) := ⟨_, Lib.hid rfl⟩
  rw [hp.out] at F0 FN ⊢
  generalize w.alloc (.cells #[.int .i64 r, .int .i64 s, .int .i64 wd] 85) = W1 at *
  have FS : Hid (∀ wr, Same (fun k => k = b) W1 wr → wr.heap[p]? = some (.cells #[.int .i64 r, .int .i64 s, .int .i64 wd] 85 (0, 0))) := Lib.hid (fun wr h => (h.block p (blk_lt F0.out) FN.out).trans F0.out)
  have RS : Hid (∀ wr, Same (fun k => k = b) W1 wr → RdI wr sa l.length sc l) := Lib.hid (fun wr h => R0.out.ne h (fun x o e => HSB.out x o e))
  go_wp2_with fail
  go_loopw [7, 8, 11] (fun _ _ i wr => ∃ k : Nat, i = .int .i64 k ∧ k ≤ l.length ∧ Hid (TAt wr b (coverL off wd T (l.take k))) ∧ Hid (Same (fun k => k = b) W1 wr)) (fun _ _ i _ => l.length - (intOf i).toNat)
  case atStart => exact ⟨0, rfl, Nat.zero_le _, Lib.hid (by simpa [coverL] using T0.out), Lib.hid (Same.refl _ _)⟩
  case round =>
    obtain ⟨k, rfl, hk, HT, HS⟩ := hrel
    by_cases hlt : k < l.length
    · have t0 : decide ((k : Int) < (l.length : Int)) = true := by simp; omega
      obtain ⟨x, Hx⟩ : ∃ x, l[k]? = some x := ⟨l[k], List.getElem?_eq_getElem hlt⟩
      have HX := Lib.hid Hx
      obtain ⟨bs, so, ha0, hat⟩ := (RS.out wr HS.out).at (by omega)
      have hx0 := hat k hlt
      rw [Hx, Option.getD_some] at hx0
      have hxl := HL.out x (List.mem_of_getElem? Hx)
      clear hat Hx
      obtain ⟨j0, hj0⟩ : ∃ j0 : Nat, x = j0 := ⟨x.toNat, by omega⟩
      subst hj0
      have hxN : j0 + wd ≤ N := by omega
      have TK : Hid (∀ v ∈ coverL off wd T (l.take k), 0 ≤ v ∧ v ≤ 1000000000000 - 1) := Lib.hid (fun v hv => by have := coverL_bnd off wd (l.take k) T B HB.out v hv; rw [List.length_take] at this; have := HBL.out; omega)
      have TL : Hid ((coverL off wd T (l.take k)).length = T.length) := Lib.hid (coverL_len _ _ _ _)
      have HSN : Hid (coverL off wd T (l.take (k + 1)) = addTo (coverL off wd T (l.take k)) (off + j0) (off + j0 + wd)) := Lib.hid (by rw [take_snoc HX.out, coverL_snoc]; rfl)
      obtain ⟨U, hU⟩ : ∃ U, Hid (coverL off wd T (l.take k) = U) := ⟨_, Lib.hid rfl⟩
      rw [hU.out] at TK TL HT HSN
      rw [ha0]
      clear hxl
      have HNx := Lib.hid hxN
      have HX0 := Lib.hid hx0
      have hNb := HNB.out
      go_upto_region 4 with fail
      clear hx0 t0
      go_wp2_with fail
      go_loopw [8] (fun i wr => ∃ j : Nat, i = .int .i64 j ∧ j0 ≤ j ∧ j ≤ j0 + wd ∧ Hid (TAt wr b (addTo U (off + j0) (off + j))) ∧ Hid (Same (fun k => k = b) W1 wr)) (fun i _ => j0 + wd - (intOf i).toNat)
      case atStart => exact ⟨j0, rfl, Nat.le_refl _, by omega, Lib.hid (by rw [addTo_none]; exact HT.out), HS⟩
      case round =>
        obtain ⟨j, rfl, hj1, hj2, HTj, HSj⟩ := hrel
        have F2 := cell_of (FS.out _ HSj.out) 2 (.int .i64 wd) rfl
        have hs1 : (j0 : Int) + (wd : Int) ≤ 9223372036854775807 := by omega
        by_cases hj : j < j0 + wd
        · have t1 : decide ((j : Int) < (j0 : Int) + (wd : Int)) = true := by simp; omega
          obtain ⟨v, hv⟩ : ∃ v, U[off + j]? = some v := ⟨U[off + j]'(by rw [TL.out]; have := HN.out; omega), List.getElem?_eq_getElem (by rw [TL.out]; have := HN.out; omega)⟩
          have hvb := TK.out v (List.mem_of_getElem? hv)
          have hva : (addTo U (off + j0) (off + j))[off + j]? = some v := by
            rw [addTo_at, hv]; simp
          have hc := HTj.out.at hva
          have hfz := HTj.out.free (off + j)
          have TN : Hid (TAt (wr.setCell ⟨b, off + j, none⟩ (.int .i64 (v + 1))) b (addTo U (off + j0) (off + (j + 1)))) := Lib.hid (by
            have := HTj.out.set (off + j) (v + 1)
            rwa [addTo_step U (off + j0) (off + j) (by omega) v hv] at this)
          have SN := Lib.hid (HSj.out.trans (same_set1 wr b (off + j) (.int .i64 (v + 1))))
          have hjN : j < N := by omega
          clear hv hva hj2
          go_wp2_with fail
          go_roundw
          case rel => exact ⟨j + 1, by go_num, by omega, by omega, TN, SN⟩
          case measure => simp [intOf]; omega
        · have hje : j = j0 + wd := by omega
          subst hje
          have t1 : decide (((j0 + wd : Nat) : Int) < (j0 : Int) + (wd : Int)) = false := by simp
          have TN : Hid (TAt wr b (coverL off wd T (l.take (k + 1)))) := Lib.hid (by rw [HSN.out, Nat.add_assoc]; exact HTj.out)
          go_wp2_with fail
          go_roundw
          case rel => exact ⟨k + 1, by go_num, by omega, TN, HSj⟩
          case measure => simp [intOf]; omega
    · have hkn : k = l.length := by omega
      have TN : Hid (TAt wr b (coverL off wd T l)) := Lib.hid (by have := HT.out; rwa [hkn, List.take_length] at this)
      have SN := Lib.hid (S0.out.trans HS.out)
      have t0 : decide ((k : Int) < (l.length : Int)) = false := by simp; omega
      go_wp2_with fail
      go_end0
      exact ⟨rfl, TN.out, SN.out⟩
end Go.Proofs.YtpjiakgfegnmcaaGreat
namespace Go.Proofs.YtpjiakgfegnmcaaGreat
set_option linter.unusedSimpArgs false
open Go.RowKit

theorem made_ints (n : Nat) : madeCells (Value.int .i64 0).cells n = ((List.replicate n (0 : Int)).map intV).toArray := by
  unfold madeCells
  apply Array.ext
  · simp
  · intro i h1 h2
    simp [Value.cells, intV, Nat.mod_one]
theorem run_make_ints (n : Nat) (hn : n ≤ 1000000) (w : World) : (Instr.makeSlice 38 (.int .i64 (n : Int)) (.int .i64 (n : Int))).run Tryz.prog w = .ok (.slice (some ⟨w.heap.size, 0, none⟩) n n) (w.alloc (.cells ((List.replicate n (0 : Int)).map intV).toArray 3)) := by
  obtain ⟨i, hi, hz0, hz1, hz2⟩ := info_parts infoInt
  have h := run_make (P := Tryz.prog) w 38 3 i (.int .i64 0) Tryz.underlying38 hi hz0 .i64 .i64 n n (by omega) (Int.le_refl _) (by rw [hz2]; omega) (by omega)
  simp only [Int.toNat_natCast, hz1, Nat.mul_one] at h
  rw [made_ints] at h
  exact h
def sonIs (st rg : Int) (e : EvV) : Bool := e.x.n.kind == 4 && (e.x.n.stone == st && e.x.n.ring == rg)
def sonOne (wd : Nat) (st rg : Int) (T : List Int) (e : EvV) : List Int := if sonIs st rg e = true then coverL 0 wd T e.x.n.strokes else T
def sonL (wd : Nat) (st rg : Int) (es : List EvV) (T : List Int) : List Int := es.foldl (sonOne wd st rg) T
theorem sonL_snoc (wd : Nat) (st rg : Int) (es : List EvV) (e : EvV) (T : List Int) : sonL wd st rg (es ++ [e]) T = sonOne wd st rg (sonL wd st rg es T) e := by simp [sonL, List.foldl_append]
theorem sonL_len (wd : Nat) (st rg : Int) : ∀ (es : List EvV) (T : List Int), (sonL wd st rg es T).length = T.length
  | [], _ => rfl
  | e :: es, T => by
    have h := sonL_len wd st rg es (sonOne wd st rg T e)
    have h2 : (sonOne wd st rg T e).length = T.length := by unfold sonOne; split <;> simp [coverL_len]
    rw [h2] at h
    exact h
theorem sonL_bnd (wd : Nat) (st rg : Int) : ∀ (es : List EvV) (T : List Int) (B : Int), (∀ e ∈ es, e.x.n.kind = 4 → e.x.n.strokes.length ≤ 200) → (∀ v ∈ T, 0 ≤ v ∧ v ≤ B) → ∀ v ∈ sonL wd st rg es T, 0 ≤ v ∧ v ≤ B + 200 * es.length
  | [], T, B, _, h, v, hv => by have := h v hv; simp; omega
  | e :: es, T, B, hl, h, v, hv => by
    have h2 : ∀ v ∈ sonOne wd st rg T e, 0 ≤ v ∧ v ≤ B + 200 := by
      intro u hu
      unfold sonOne at hu
      split at hu
      · rename_i hs
        have hk : e.x.n.kind = 4 := by simp only [sonIs, Bool.and_eq_true, beq_iff_eq] at hs; exact hs.1
        have h3 := coverL_bnd 0 wd e.x.n.strokes T B h u hu
        have h4 := hl e (List.mem_cons_self ..) hk
        omega
      · have := h u hu; omega
    have h5 := sonL_bnd wd st rg es _ (B + 200) (fun x hx => hl x (List.mem_cons_of_mem _ hx)) h2 v hv
    simp only [List.length_cons]
    omega
def sonV (f : FrV) (hs es : List EvV) (st rg : Int) : Option (List Int) := if (f.valid && (regOkB f hs es && (inB st 0 1 && inB rg 0 (f.rings - 1)))) = true then some (sonL f.wide.toNat st rg es (List.replicate f.sectors.toNat 0)) else none
theorem formed_strokes {f : FrV} {n : NoteV} (h : formedB f n = true) (hk : n.kind = 4) : strokesB (f.sectors - f.wide) n.strokes = true := by
  simp only [formedB, Bool.and_eq_true] at h
  have h1 := h.1
  simp only [okB, hk, saidB] at h1
  simp at h1
  exact h1.2.2
theorem strokesB_parts {m : Int} {l : List Int} (h : strokesB m l = true) : l.length ≤ 200 ∧ ∀ x ∈ l, 0 ≤ x ∧ x ≤ m := by
  simp only [strokesB, Bool.and_eq_true, decide_eq_true_eq, inB_true] at h
  refine ⟨by omega, fun x hx => ?_⟩
  obtain ⟨i, hi⟩ := List.getElem?_of_mem hx
  have hlt := (List.getElem?_eq_some_iff.1 hi).1
  have h1 := (h.1 i hlt).1
  rw [hi, Option.getD_some] at h1
  exact inB_true.1 h1
theorem goodAll_mem {f : FrV} : ∀ {l : List EvV} {ks : List Nm}, goodAll f ks l = true → ∀ e ∈ l, formedB f e.x.n = true ∧ e.x.nm = e.nm ∧ doneB e.x.n = true
  | [], _, _, e, he => by cases he
  | x :: l, ks, h, e, he => by
    simp only [goodAll, Bool.and_eq_true] at h
    rcases List.mem_cons.1 he with rfl | he
    · have h1 := h.1
      simp only [goodE, Bool.and_eq_true, decide_eq_true_eq] at h1
      exact ⟨h1.2.1, h1.2.2.1, h1.1⟩
    · exact goodAll_mem h.2 e he
theorem regOk_mem {f : FrV} {hs es : List EvV} (h : regOkB f hs es = true) : hs.length ≤ 8 ∧ es.length ≤ 400 ∧ ∀ e ∈ hs ++ es, formedB f e.x.n = true ∧ e.x.nm = e.nm ∧ doneB e.x.n = true := by
  simp only [regOkB, Bool.and_eq_true, decide_eq_true_eq] at h
  exact ⟨h.1, h.2.1, goodAll_mem h.2.2.1⟩
def SonEnd (o : Option (List Int)) (w : World) (e : Ending) (w' : World) : Prop := match o with
  | none => e = .returned (.tuple #[.slice none 0 0, .int .i64 1])
  | some T => ∃ b, e = .returned (.tuple #[.slice (some ⟨b, 0, none⟩) T.length T.length, .int .i64 0]) ∧ TAt w' b T ∧ w.heap.size ≤ b

set_option maxHeartbeats 16000000 in
set_option maxRecDepth 100000 in
theorem strokesOn_any (f : FrV) (hs es : List EvV) (ha : Option Addr) (hn hc : Nat) (ea : Option Addr) (en ec : Nat) (v3 : Value) (st rg : Int) (w : World)
    (h1 : RdA w 21 ha hn hc (evCells hs)) (h2 : RdA w 21 ea en ec (evCells es)) (hok : ∀ e ∈ hs ++ es, e.x.ok w) :
    Calls Tryz.prog 16 #[f.val, .agg #[.slice ha hn hc, .slice ea en ec, v3], .int .i64 st, .int .i64 rg] w fun e w' => SonEnd (sonV f hs es st rg) w e w' ∧ Below w.heap.size w w' := by
  have hvl : f.val = .agg #[.int .i64 f.rings, .int .i64 f.sectors, .int .i64 f.wide] := rfl
  have HVL := Lib.hid hvl
  have RGK := Lib.hid (fun (W : World) (hv : f.valid = true) a b c => regOk_any f hs es ha hn hc ea en ec v3 W hv a b c)
  rw [hvl] at RGK ⊢; clear hvl
  have I21 := Lib.hid (show ∀ (x : EvV), (Tryz.prog.info? 53).map (·.size) = some (evA x).size from fun x => by kernel_rfl)
  have I43 := Lib.hid (show ∀ (m : NoteV) (a : Option Addr) (c : Nat), (Tryz.prog.info? 51).map (·.size) = some (noteA m a c).size from fun m a c => by kernel_rfl)
  have J21 : (Tryz.prog.info? 53).map (·.size) = some 21 := by kernel_rfl
  have LE : Hid (es.length = en) := Lib.hid (by have := h2.len; rw [evCells_len] at this; omega)
  have B0 := Lib.hid (((Below.refl w.heap.size w).alloc (Nat.le_refl _) (.cells #[.int .i64 f.rings, .int .i64 f.sectors, .int .i64 f.wide] 23)).alloc (by simp) (.cells #[.slice ha hn hc, .slice ea en ec, v3] 27))
  have F0 := Lib.hid (heap_before _ (.cells #[.slice ha hn hc, .slice ea en ec, v3] 27) _ _ (heap_last w (.cells #[.int .i64 f.rings, .int .i64 f.sectors, .int .i64 f.wide] 23)))
  have P0 := Lib.hid (heap_at (w.alloc (.cells #[.int .i64 f.rings, .int .i64 f.sectors, .int .i64 f.wide] 23)) (.cells #[.slice ha hn hc, .slice ea en ec, v3] 27) (w.heap.size + 1) (by simp))
  have R0 := Lib.hid (h1.below B0.out)
  have R9 := Lib.hid (h2.below B0.out)
  have OK0 := Lib.hid (evs_ok hok B0.out)
  clear h1 h2 hok
  go_enter Tryz.func16, Tryz.ntmps16
  go_upto_region 1 with fail
  obtain ⟨pF, hpF⟩ : ∃ pF, Hid (w.heap.size = pF) := ⟨_, Lib.hid rfl⟩
  obtain ⟨pR, hpR⟩ : ∃ pR, Hid (w.heap.size + 1 = pR) := ⟨_, Lib.hid rfl⟩
  rw [hpR.out, hpF.out]
  rw [hpF.out] at F0
  rw [hpR.out] at P0
  generalize (w.alloc (.cells #[.int .i64 f.rings, .int .i64 f.sectors, .int .i64 f.wide] 23)).alloc (.cells #[.slice ha hn hc, .slice ea en ec, v3] 27) = W0 at *
  have f0 := cell_of F0.out 0 (.int .i64 f.rings) rfl
  have f1 := cell_of F0.out 1 (.int .i64 f.sectors) rfl
  have f2 := cell_of F0.out 2 (.int .i64 f.wide) rfl
  have hbt : Below W0.heap.size W0 (W0.alloc (.cells #[.int .i64 f.rings, .int .i64 f.sectors, .int .i64 f.wide] 85)) := (Below.refl _ _).alloc (Nat.le_refl _) _
  have X1 := Lib.hid (heap_last W0 (.cells #[.int .i64 f.rings, .int .i64 f.sectors, .int .i64 f.wide] 85))
  have B1 := Lib.hid (B0.out.trans (hbt.mono B0.out.size))
  have F1 := Lib.hid (below_blk hbt F0.out)
  have P1 := Lib.hid (below_blk hbt P0.out)
  have R1 := Lib.hid (R0.out.below hbt)
  have R2 := Lib.hid (R9.out.below hbt)
  have OK := Lib.hid (evs_ok OK0.out hbt)
  clear hbt R0 R9 OK0 P0 B0
  go_upto_region 2 with fail
  clear f0 f1 f2
  obtain ⟨p10, hp10⟩ : ∃ p10, Hid (W0.heap.size = p10) := ⟨_, Lib.hid rfl⟩
  rw [hp10.out] at X1 ⊢
  generalize W0.alloc (.cells #[.int .i64 f.rings, .int .i64 f.sectors, .int .i64 f.wide] 85) = W1 at *
  have x0 := cell_of X1.out 0 (.int .i64 f.rings) rfl
  have x1 := cell_of X1.out 1 (.int .i64 f.sectors) rfl
  have x2 := cell_of X1.out 2 (.int .i64 f.wide) rfl
  have p0 := cell_of P1.out 0 (.slice ha hn hc) rfl
  have p1 := cell_of P1.out 1 (.slice ea en ec) rfl
  have p2 := cell_of P1.out 2 v3 rfl
  cases hv : f.valid
  · have GR : Hid (sonV f hs es st rg = none) := Lib.hid (by unfold sonV; rw [if_neg]; simp [hv])
    have HV := Lib.hid hv; have HVV := HV; clear hv
    go_wp2_with (first
      | (go_at_call 50
         refine (valid_any f.rings f.sectors f.wide _).mono ?_
         rintro e W2 ⟨rfl, b2⟩
         rw [HVV.out]
         replace B1 := Lib.hid (B1.out.trans (b2.mono B1.out.size))
         replace X1 := Lib.hid (below_blk b2 X1.out)
         replace P1 := Lib.hid (below_blk b2 P1.out)
         replace F1 := Lib.hid (below_blk b2 F1.out)
         replace R1 := Lib.hid (R1.out.below b2)
         replace R2 := Lib.hid (R2.out.below b2)
         replace OK := Lib.hid (evs_ok OK.out b2)
         clear b2 x0 x1 x2 p0 p1 p2
         have x0 := cell_of X1.out 0 (.int .i64 f.rings) rfl
         have x1 := cell_of X1.out 1 (.int .i64 f.sectors) rfl
         have x2 := cell_of X1.out 2 (.int .i64 f.wide) rfl
         have p0 := cell_of P1.out 0 (.slice ha hn hc) rfl
         have p1 := cell_of P1.out 1 (.slice ea en ec) rfl
         have p2 := cell_of P1.out 2 v3 rfl
         dsimp only)
      | (go_at_call 51
         refine (RGK.out _ HV.out R1.out R2.out OK.out).mono ?_
         rintro e W3 ⟨rfl, b3⟩
         rw [HRR.out]
         replace B1 := Lib.hid (B1.out.trans (b3.mono B1.out.size))
         replace X1 := Lib.hid (below_blk b3 X1.out)
         replace P1 := Lib.hid (below_blk b3 P1.out)
         replace F1 := Lib.hid (below_blk b3 F1.out)
         replace R1 := Lib.hid (R1.out.below b3)
         replace R2 := Lib.hid (R2.out.below b3)
         replace OK := Lib.hid (evs_ok OK.out b3)
         clear b3 x0 x1 x2 p0 p1 p2
         have g0 := cell_of F1.out 0 (.int .i64 f.rings) rfl
         dsimp only)
      | (go_at_call 48
         refine (hin_any _ _ _ _).mono ?_
         rintro e W3 ⟨rfl, rfl⟩
         first | rw [HST.out] | rw [HRG.out]
         dsimp only)
      | fail)
    go_ret2
    rw [GR.out]
    exact ⟨rfl, B1.out⟩
  · have HV := Lib.hid hv; have HVV := HV; clear hv
    cases hrr : regOkB f hs es
    · have GR : Hid (sonV f hs es st rg = none) := Lib.hid (by unfold sonV; rw [if_neg]; simp [hrr])
      have HRR := Lib.hid hrr; clear hrr
      go_wp2_with (first
        | (go_at_call 50
           refine (valid_any f.rings f.sectors f.wide _).mono ?_
           rintro e W2 ⟨rfl, b2⟩
           rw [HVV.out]
           replace B1 := Lib.hid (B1.out.trans (b2.mono B1.out.size))
           replace X1 := Lib.hid (below_blk b2 X1.out)
           replace P1 := Lib.hid (below_blk b2 P1.out)
           replace F1 := Lib.hid (below_blk b2 F1.out)
           replace R1 := Lib.hid (R1.out.below b2)
           replace R2 := Lib.hid (R2.out.below b2)
           replace OK := Lib.hid (evs_ok OK.out b2)
           clear b2 x0 x1 x2 p0 p1 p2
           have x0 := cell_of X1.out 0 (.int .i64 f.rings) rfl
           have x1 := cell_of X1.out 1 (.int .i64 f.sectors) rfl
           have x2 := cell_of X1.out 2 (.int .i64 f.wide) rfl
           have p0 := cell_of P1.out 0 (.slice ha hn hc) rfl
           have p1 := cell_of P1.out 1 (.slice ea en ec) rfl
           have p2 := cell_of P1.out 2 v3 rfl
           dsimp only)
        | (go_at_call 51
           refine (RGK.out _ HV.out R1.out R2.out OK.out).mono ?_
           rintro e W3 ⟨rfl, b3⟩
           rw [HRR.out]
           replace B1 := Lib.hid (B1.out.trans (b3.mono B1.out.size))
           replace X1 := Lib.hid (below_blk b3 X1.out)
           replace P1 := Lib.hid (below_blk b3 P1.out)
           replace F1 := Lib.hid (below_blk b3 F1.out)
           replace R1 := Lib.hid (R1.out.below b3)
           replace R2 := Lib.hid (R2.out.below b3)
           replace OK := Lib.hid (evs_ok OK.out b3)
           clear b3 x0 x1 x2 p0 p1 p2
           have g0 := cell_of F1.out 0 (.int .i64 f.rings) rfl
           dsimp only)
        | (go_at_call 48
           refine (hin_any _ _ _ _).mono ?_
           rintro e W3 ⟨rfl, rfl⟩
           first | rw [HST.out] | rw [HRG.out]
           dsimp only)
        | fail)
      go_ret2
      rw [GR.out]
      exact ⟨rfl, B1.out⟩
    · have HRR := Lib.hid hrr; clear hrr
      cases hst : inB st 0 1
      · have GR : Hid (sonV f hs es st rg = none) := Lib.hid (by unfold sonV; rw [if_neg]; simp [hst])
        have HST := Lib.hid hst; clear hst
        go_wp2_with (first
          | (go_at_call 50
             refine (valid_any f.rings f.sectors f.wide _).mono ?_
             rintro e W2 ⟨rfl, b2⟩
             rw [HVV.out]
             replace B1 := Lib.hid (B1.out.trans (b2.mono B1.out.size))
             replace X1 := Lib.hid (below_blk b2 X1.out)
             replace P1 := Lib.hid (below_blk b2 P1.out)
             replace F1 := Lib.hid (below_blk b2 F1.out)
             replace R1 := Lib.hid (R1.out.below b2)
             replace R2 := Lib.hid (R2.out.below b2)
             replace OK := Lib.hid (evs_ok OK.out b2)
             clear b2 x0 x1 x2 p0 p1 p2
             have x0 := cell_of X1.out 0 (.int .i64 f.rings) rfl
             have x1 := cell_of X1.out 1 (.int .i64 f.sectors) rfl
             have x2 := cell_of X1.out 2 (.int .i64 f.wide) rfl
             have p0 := cell_of P1.out 0 (.slice ha hn hc) rfl
             have p1 := cell_of P1.out 1 (.slice ea en ec) rfl
             have p2 := cell_of P1.out 2 v3 rfl
             dsimp only)
          | (go_at_call 51
             refine (RGK.out _ HV.out R1.out R2.out OK.out).mono ?_
             rintro e W3 ⟨rfl, b3⟩
             rw [HRR.out]
             replace B1 := Lib.hid (B1.out.trans (b3.mono B1.out.size))
             replace X1 := Lib.hid (below_blk b3 X1.out)
             replace P1 := Lib.hid (below_blk b3 P1.out)
             replace F1 := Lib.hid (below_blk b3 F1.out)
             replace R1 := Lib.hid (R1.out.below b3)
             replace R2 := Lib.hid (R2.out.below b3)
             replace OK := Lib.hid (evs_ok OK.out b3)
             clear b3 x0 x1 x2 p0 p1 p2
             have g0 := cell_of F1.out 0 (.int .i64 f.rings) rfl
             dsimp only)
          | (go_at_call 48
             refine (hin_any _ _ _ _).mono ?_
             rintro e W3 ⟨rfl, rfl⟩
             first | rw [HST.out] | rw [HRG.out]
             dsimp only)
          | fail)
        go_ret2
        rw [GR.out]
        exact ⟨rfl, B1.out⟩
      · have HST := Lib.hid hst; clear hst
        have hfv : (1 ≤ f.rings ∧ f.rings ≤ 24) ∧ (2 ≤ f.sectors ∧ f.sectors ≤ 96) ∧ (1 ≤ f.wide ∧ f.wide ≤ f.sectors) := by
          have h := HV.out
          simp only [FrV.valid, Bool.and_eq_true, inB_true] at h
          exact ⟨h.1, h.2.1, h.2.2⟩
        have HFV := Lib.hid hfv; clear hfv
        have hr1 := HFV.out.1.1
        have hr2 := HFV.out.1.2
        cases hrg : inB rg 0 (f.rings - 1)
        · have GR : Hid (sonV f hs es st rg = none) := Lib.hid (by unfold sonV; rw [if_neg]; simp [hrg])
          have HRG := Lib.hid hrg; clear hrg
          go_wp2_with (first
            | (go_at_call 50
               refine (valid_any f.rings f.sectors f.wide _).mono ?_
               rintro e W2 ⟨rfl, b2⟩
               rw [HVV.out]
               replace B1 := Lib.hid (B1.out.trans (b2.mono B1.out.size))
               replace X1 := Lib.hid (below_blk b2 X1.out)
               replace P1 := Lib.hid (below_blk b2 P1.out)
               replace F1 := Lib.hid (below_blk b2 F1.out)
               replace R1 := Lib.hid (R1.out.below b2)
               replace R2 := Lib.hid (R2.out.below b2)
               replace OK := Lib.hid (evs_ok OK.out b2)
               clear b2 x0 x1 x2 p0 p1 p2
               have x0 := cell_of X1.out 0 (.int .i64 f.rings) rfl
               have x1 := cell_of X1.out 1 (.int .i64 f.sectors) rfl
               have x2 := cell_of X1.out 2 (.int .i64 f.wide) rfl
               have p0 := cell_of P1.out 0 (.slice ha hn hc) rfl
               have p1 := cell_of P1.out 1 (.slice ea en ec) rfl
               have p2 := cell_of P1.out 2 v3 rfl
               dsimp only)
            | (go_at_call 51
               refine (RGK.out _ HV.out R1.out R2.out OK.out).mono ?_
               rintro e W3 ⟨rfl, b3⟩
               rw [HRR.out]
               replace B1 := Lib.hid (B1.out.trans (b3.mono B1.out.size))
               replace X1 := Lib.hid (below_blk b3 X1.out)
               replace P1 := Lib.hid (below_blk b3 P1.out)
               replace F1 := Lib.hid (below_blk b3 F1.out)
               replace R1 := Lib.hid (R1.out.below b3)
               replace R2 := Lib.hid (R2.out.below b3)
               replace OK := Lib.hid (evs_ok OK.out b3)
               clear b3 x0 x1 x2 p0 p1 p2
               have g0 := cell_of F1.out 0 (.int .i64 f.rings) rfl
               dsimp only)
            | (go_at_call 48
               refine (hin_any _ _ _ _).mono ?_
               rintro e W3 ⟨rfl, rfl⟩
               first | rw [HST.out] | rw [HRG.out]
               dsimp only)
            | fail)
          go_ret2
          rw [GR.out]
          exact ⟨rfl, B1.out⟩
        · have HRG := Lib.hid hrg; clear hrg
          have HSN : Hid (sonV f hs es st rg = some (sonL f.wide.toNat st rg es (List.replicate f.sectors.toNat 0))) := Lib.hid (by unfold sonV; rw [if_pos]; rw [HV.out, HRR.out, HST.out, HRG.out]; rfl)
          have HMEM := Lib.hid (regOk_mem HRR.out)
          go_upto_region 4 with (first
            | (go_at_call 50
               refine (valid_any f.rings f.sectors f.wide _).mono ?_
               rintro e W2 ⟨rfl, b2⟩
               rw [HVV.out]
               replace B1 := Lib.hid (B1.out.trans (b2.mono B1.out.size))
               replace X1 := Lib.hid (below_blk b2 X1.out)
               replace P1 := Lib.hid (below_blk b2 P1.out)
               replace F1 := Lib.hid (below_blk b2 F1.out)
               replace R1 := Lib.hid (R1.out.below b2)
               replace R2 := Lib.hid (R2.out.below b2)
               replace OK := Lib.hid (evs_ok OK.out b2)
               clear b2 x0 x1 x2 p0 p1 p2
               have x0 := cell_of X1.out 0 (.int .i64 f.rings) rfl
               have x1 := cell_of X1.out 1 (.int .i64 f.sectors) rfl
               have x2 := cell_of X1.out 2 (.int .i64 f.wide) rfl
               have p0 := cell_of P1.out 0 (.slice ha hn hc) rfl
               have p1 := cell_of P1.out 1 (.slice ea en ec) rfl
               have p2 := cell_of P1.out 2 v3 rfl
               dsimp only)
            | (go_at_call 51
               refine (RGK.out _ HV.out R1.out R2.out OK.out).mono ?_
               rintro e W3 ⟨rfl, b3⟩
               rw [HRR.out]
               replace B1 := Lib.hid (B1.out.trans (b3.mono B1.out.size))
               replace X1 := Lib.hid (below_blk b3 X1.out)
               replace P1 := Lib.hid (below_blk b3 P1.out)
               replace F1 := Lib.hid (below_blk b3 F1.out)
               replace R1 := Lib.hid (R1.out.below b3)
               replace R2 := Lib.hid (R2.out.below b3)
               replace OK := Lib.hid (evs_ok OK.out b3)
               clear b3 x0 x1 x2 p0 p1 p2
               have g0 := cell_of F1.out 0 (.int .i64 f.rings) rfl
               dsimp only)
            | (go_at_call 48
               refine (hin_any _ _ _ _).mono ?_
               rintro e W3 ⟨rfl, rfl⟩
               first | rw [HST.out] | rw [HRG.out]
               dsimp only)
            | fail)
          have g1 := cell_of F1.out 1 (.int .i64 f.sectors) rfl
          obtain ⟨sn, hsn⟩ : ∃ sn : Nat, Hid (f.sectors = sn) := ⟨f.sectors.toNat, Lib.hid (by have := HFV.out; omega)⟩
          obtain ⟨wd, hwd⟩ : ∃ wd : Nat, Hid (f.wide = wd) := ⟨f.wide.toNat, Lib.hid (by have := HFV.out; omega)⟩
          have HSW : Hid (sn ≤ 96 ∧ 1 ≤ wd ∧ wd ≤ sn) := Lib.hid (by have := HFV.out; have := hsn.out; have := hwd.out; omega)
          clear g0 hr1 hr2
          rw [hsn.out] at g1 X1
          rw [hwd.out] at X1
          rw [hsn.out, hwd.out] at HSN ⊢
          rw [Int.toNat_natCast, Int.toNat_natCast] at HSN
          obtain ⟨T0, hT0⟩ : ∃ T0, Hid (List.replicate sn (0 : Int) = T0) := ⟨_, Lib.hid rfl⟩
          have hmk := fun W => run_make_ints sn (by have := HSW.out; omega) W
          rw [hT0.out] at hmk HSN
          have TL0 : Hid (T0.length = sn) := Lib.hid (by rw [← hT0.out]; simp)
          have TB0 : Hid (∀ v ∈ T0, 0 ≤ v ∧ v ≤ 0) := Lib.hid (fun v hv => by rw [← hT0.out] at hv; have := List.eq_of_mem_replicate hv; omega)
          go_upto_region 5 with fail
          clear hmk
          obtain ⟨b, hb⟩ : ∃ b, Hid (W3.heap.size = b) := ⟨_, Lib.hid rfl⟩
          have hbt : Below W3.heap.size W3 (W3.alloc (.cells (T0.map intV).toArray 3)) := (Below.refl _ _).alloc (Nat.le_refl _) _
          have TT : Hid (TAt (W3.alloc (.cells (T0.map intV).toArray 3)) b T0) := Lib.hid (heap_at W3 _ b hb.out)
          have X4 := Lib.hid (below_blk hbt X1.out)
          have P4 := Lib.hid (below_blk hbt P1.out)
          have B4 := Lib.hid (B1.out.trans (hbt.mono B1.out.size))
          have E4 := Lib.hid (RdEs.of_rd (R2.out.below hbt))
          have OK4 := Lib.hid (evs_ok OK.out hbt)
          have HXB : Hid (p10 ≠ b) := Lib.hid (by rw [← hb.out]; have := blk_lt X1.out; omega)
          have HBW : Hid (w.heap.size ≤ b) := Lib.hid (by rw [← hb.out]; exact B1.out.size)
          have NB : Hid (∀ e ∈ hs ++ es, 0 < e.x.n.strokes.length → ∀ x o, e.x.sa = some ⟨x, o, none⟩ → x ≠ b) := Lib.hid (fun e he h0 x o ha' => by
            obtain ⟨x', o', h1, h2⟩ := (show RdI W3 e.x.sa e.x.n.strokes.length e.x.sc e.x.n.strokes from OK.out e he).at h0
            have h3 := World.block_lt_of_cell? W3 _ (h2 0 h0)
            rw [ha'] at h1
            cases h1
            simp only at h3
            have := hb.out
            omega)
          have ENB : Hid (∀ (x : Nat) o, ea = some ⟨x, o, none⟩ → 0 < en → x ≠ b) := Lib.hid (fun x o ha' h0 => by
            obtain ⟨x', o', h1, h2⟩ := (RdEs.of_rd R2.out).at h0
            have h4 : 0 < es.length := by rw [LE.out]; exact h0
            have h3 := World.block_lt_of_cell? W3 _ (h2 0 _ (List.getElem?_eq_getElem h4) 0 _ rfl)
            rw [ha'] at h1
            cases h1
            simp only at h3
            have := hb.out
            omega)
          rw [hb.out]
          clear hbt X1 P1 F1 R1 R2 OK B1
          generalize W3.alloc (.cells (T0.map intV).toArray 3) = W5 at *
          have c1 := cell_of P4.out 1 (.slice ea en ec) rfl
          go_wp2_with fail
          clear c1
          have XS : Hid (∀ wr, Same (fun k => k = b) W5 wr → wr.heap[p10]? = some (.cells #[.int .i64 f.rings, .int .i64 sn, .int .i64 wd] 85 (0, 0))) := Lib.hid (fun wr h => same_blk h X4.out HXB.out)
          have BS : Hid (∀ wr, Same (fun k => k = b) W5 wr → Below w.heap.size w wr) := Lib.hid (fun wr h => h.below B4.out B4.out.size (fun k e => by rw [e]; exact HBW.out))
          have KL : Hid (∀ e ∈ es, e.x.n.kind = 4 → e.x.n.strokes.length ≤ 200) := Lib.hid (fun e he hk => (strokesB_parts (formed_strokes (HMEM.out.2.2 e (List.mem_append_right _ he)).1 hk)).1)
          go_loopw [45] (fun i wr => ∃ k : Nat, i = .int .i64 k ∧ k ≤ en ∧ Hid (TAt wr b (sonL wd st rg (es.take k) T0)) ∧ Hid (Same (fun k => k = b) W5 wr)) (fun i _ => en - (intOf i).toNat)
          case atStart => exact ⟨0, rfl, Nat.zero_le _, TT, Lib.hid (Same.refl _ _)⟩
          case round =>
            obtain ⟨k, rfl, hk, HT, HS⟩ := hrel
            by_cases hlt : k < en
            · have t0 : decide ((k : Int) < (en : Int)) = true := by simp; omega
              obtain ⟨x, Hx⟩ : ∃ x, es[k]? = some x := ⟨es[k]'(by rw [LE.out]; exact hlt), List.getElem?_eq_getElem (by rw [LE.out]; exact hlt)⟩
              have HX := Lib.hid Hx
              obtain ⟨bs, off, ha0, hat⟩ := E4.out.at (by omega)
              subst ha0
              have HRA := Lib.hid (show wr.rangeAt bs (off + k * 21) x.cells from fun j v hv => by
                have h5 := hat k x Hx j v hv
                rw [← h5]
                simp only [World.cell?, HS.out.block bs (World.block_lt_of_cell? W5 _ h5) (ENB.out bs off rfl (by omega))])
              have HMX := Lib.hid (List.mem_of_getElem? Hx)
              clear hat Hx
              obtain ⟨o, hoo⟩ : ∃ o, Hid (off + k * 21 = o) := ⟨_, Lib.hid rfl⟩
              rw [hoo.out] at HRA
              have hix := fun W => idx_off (W := W) (c := ec) (b := bs) Tryz.underlying24 J21 hlt hoo.out
              go_upto_region 8 with (first
                | (refine wpList_load_mid rfl 53 _ rfl bs o rfl x.cells _ HRA.out Tryz.underlying53 rfl (by exact J21) ?_)
                | (refine wpList_alloc_ev rfl rfl ?_)
                | (refine wpList_store_newp _ rfl 53 _ _ rfl _ rfl _ (evA x) rfl rfl (I21.out _) rfl (evA_all x) ?_)
                | fail)
              clear hix t0
              simp only [Act.put, lq3, lq4, lq5]
              have hbt : Below wr.heap.size wr (wr.alloc (.cells (evA x) 53)) := (Below.refl _ _).alloc (Nat.le_refl _) _
              have XT := Lib.hid (heap_last wr (.cells (evA x) 53))
              have T7 : Hid (TAt (wr.alloc (.cells (evA x) 53)) b (sonL wd st rg (es.take k) T0)) := Lib.hid (below_blk hbt HT.out)
              have S7 := Lib.hid (HS.out.trans (Same.of_below hbt))
              clear hbt HT HS HRA
              obtain ⟨p13, hp13⟩ : ∃ p13, Hid (wr.heap.size = p13) := ⟨_, Lib.hid rfl⟩
              rw [hp13.out] at XT ⊢
              generalize wr.alloc (.cells (evA x) 53) = W7 at *
              go_upto_region 9 with (first
                | (refine wpList_load_mid rfl 51 _ rfl p13 2 rfl (x.x.n.cells x.x.sa x.x.sc) _ (ev_note XT.out) Tryz.underlying51 rfl (size43 x.x.n x.x.sa x.x.sc) ?_)
                | (refine wpList_store_newp _ rfl 51 _ _ rfl _ rfl _ (noteA x.x.n x.x.sa x.x.sc) rfl rfl (I43.out _ _ _) rfl (noteA_one _ _ _) ?_)
                | fail)
              try simp only [Act.put, lq3, lq4, lq5]
              have hbt : Below W7.heap.size W7 (W7.alloc (.cells (noteA x.x.n x.x.sa x.x.sc) 51)) := (Below.refl _ _).alloc (Nat.le_refl _) _
              have NT := Lib.hid (heap_last W7 (.cells (noteA x.x.n x.x.sa x.x.sc) 51))
              have T8 : Hid (TAt (W7.alloc (.cells (noteA x.x.n x.x.sa x.x.sc) 51)) b (sonL wd st rg (es.take k) T0)) := Lib.hid (below_blk hbt T7.out)
              have S8 := Lib.hid (S7.out.trans (Same.of_below hbt))
              clear hbt T7 S7 XT
              obtain ⟨p14, hp14⟩ : ∃ p14, Hid (W7.heap.size = p14) := ⟨_, Lib.hid rfl⟩
              rw [hp14.out] at NT ⊢
              generalize W7.alloc (.cells (noteA x.x.n x.x.sa x.x.sc) 51) = W8 at *
              have d4 := cell_of NT.out 4 (.int .i64 x.x.n.kind) rfl
              have d5 := cell_of NT.out 5 (.int .i64 x.x.n.stone) rfl
              have d14 := cell_of NT.out 14 (.int .i64 x.x.n.ring) rfl
              have d15 := cell_of NT.out 15 (.slice x.x.sa x.x.n.strokes.length x.x.sc) rfl
              have hk64 : (k : Int) + 1 ≤ 9223372036854775807 := by have := HMEM.out.2.1; have := LE.out; omega
              obtain ⟨U, hU⟩ : ∃ U, Hid (sonL wd st rg (es.take k) T0 = U) := ⟨_, Lib.hid rfl⟩
              have SN : Hid (sonL wd st rg (es.take (k + 1)) T0 = sonOne wd st rg U x) := Lib.hid (by rw [take_snoc HX.out, sonL_snoc, hU.out])
              have UB : Hid (∀ v ∈ U, 0 ≤ v ∧ v ≤ 80000) := Lib.hid (by
                rw [← hU.out]
                intro v hv
                have h1 := sonL_bnd wd st rg (es.take k) T0 0 (fun e he => KL.out e (List.mem_of_mem_take he)) TB0.out v hv
                have h2 : (es.take k).length ≤ 400 := by rw [List.length_take]; have := HMEM.out.2.1; omega
                omega)
              have UL : Hid (U.length = sn) := Lib.hid (by rw [← hU.out, sonL_len, TL0.out])
              rw [hU.out] at T8
              clear hU
              cases hs4 : (x.x.n.kind == 4)
              · have SE : Hid (sonL wd st rg (es.take (k + 1)) T0 = U) := Lib.hid (by rw [SN.out, sonOne, if_neg]; simp [sonIs, hs4])
                go_wp2_with fail
                go_roundw
                case rel => exact ⟨k + 1, by go_num, by omega, Lib.hid (by rw [SE.out]; exact T8.out), S8⟩
                case measure => simp [intOf]; omega
              · cases hs5 : (x.x.n.stone == st)
                · have SE : Hid (sonL wd st rg (es.take (k + 1)) T0 = U) := Lib.hid (by rw [SN.out, sonOne, if_neg]; simp [sonIs, hs5])
                  go_wp2_with fail
                  go_roundw
                  case rel => exact ⟨k + 1, by go_num, by omega, Lib.hid (by rw [SE.out]; exact T8.out), S8⟩
                  case measure => simp [intOf]; omega
                · cases hs6 : (x.x.n.ring == rg)
                  · have SE : Hid (sonL wd st rg (es.take (k + 1)) T0 = U) := Lib.hid (by rw [SN.out, sonOne, if_neg]; simp [sonIs, hs6])
                    go_wp2_with fail
                    go_roundw
                    case rel => exact ⟨k + 1, by go_num, by omega, Lib.hid (by rw [SE.out]; exact T8.out), S8⟩
                    case measure => simp [intOf]; omega
                  · have SE : Hid (sonL wd st rg (es.take (k + 1)) T0 = coverL 0 wd U x.x.n.strokes) := Lib.hid (by rw [SN.out, sonOne, if_pos]; simp [sonIs, hs4, hs5, hs6])
                    have HSP : Hid (x.x.n.strokes.length ≤ 200 ∧ ∀ y ∈ x.x.n.strokes, 0 ≤ y ∧ y ≤ (sn : Int) - wd) := Lib.hid (by
                      have h1 := strokesB_parts (formed_strokes (HMEM.out.2.2 x (List.mem_append_right _ HMX.out)).1 (by simpa using hs4))
                      rw [hsn.out, hwd.out] at h1
                      exact h1)
                    have HSL : Hid (0 < x.x.n.strokes.length) := Lib.hid (by
                      have h1 := formed_strokes (HMEM.out.2.2 x (List.mem_append_right _ HMX.out)).1 (by simpa using hs4)
                      simp only [strokesB, Bool.and_eq_true, inB_true] at h1
                      omega)
                    have X8 := Lib.hid (XS.out _ S8.out)
                    have x0 := cell_of X8.out 0 (.int .i64 f.rings) rfl
                    have x1 := cell_of X8.out 1 (.int .i64 sn) rfl
                    have x2 := cell_of X8.out 2 (.int .i64 wd) rfl
                    have NBX := Lib.hid (NB.out x (List.mem_append_right _ HMX.out) HSL.out)
                    have RX := Lib.hid (show RdI W8 x.x.sa x.x.n.strokes.length x.x.sc x.x.n.strokes from RdI.ne (OK4.out x (List.mem_append_right _ HMX.out)) S8.out (fun y o' e => NBX.out y o' e))
                    go_wp2_with (first
                      | (go_at_call 52
                         refine (covers_any f.rings sn wd b 0 sn sn U x.x.n.strokes x.x.sa x.x.sc 80000 W8 T8.out (by have := UL.out; omega) RX.out NBX.out (fun y hy => by have := HSP.out.2 y hy; have := HSW.out; omega) UB.out (by have := HSP.out.1; omega) (by have := HSW.out; omega)).mono ?_
                         rintro e W9 ⟨rfl, t9, s9⟩
                         have T9 := Lib.hid t9
                         have S9 := Lib.hid (S8.out.trans s9)
                         clear t9 s9
                         dsimp only)
                      | fail)
                    go_roundw
                    case rel => exact ⟨k + 1, by go_num, by omega, Lib.hid (by rw [SE.out]; exact T9.out), S9⟩
                    case measure => simp [intOf]; omega
            · have t0 : decide ((k : Int) < (en : Int)) = false := by simp; omega
              have TE : Hid (TAt wr b (sonL wd st rg es T0)) := Lib.hid (by have := HT.out; rwa [List.take_of_length_le (by have := LE.out; omega)] at this)
              have LL : Hid ((sonL wd st rg es T0).length = sn) := Lib.hid (by rw [sonL_len, TL0.out])
              have BE := Lib.hid (BS.out wr HS.out)
              go_wp2_with fail
              go_ret2
              rw [HSN.out]
              exact ⟨⟨b, by rw [LL.out]; rfl, TE.out, HBW.out⟩, BE.out⟩
end Go.Proofs.YtpjiakgfegnmcaaGreat
