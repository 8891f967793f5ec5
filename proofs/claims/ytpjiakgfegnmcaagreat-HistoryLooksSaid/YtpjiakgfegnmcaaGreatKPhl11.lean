/- The given row HistoryLooks, proved: whatever the input, true, and the input reads as it did. -/
import Derived.Test.YtpjiakgfegnmcaaGreatKPhl10
set_option linter.unusedSimpArgs false
set_option linter.unusedVariables false
namespace Go.Proofs.YtpjiakgfegnmcaaGreat
set_option linter.unusedSimpArgs false
open Go.RowKit

/-- What stands through HistoryLooks. -/
structure HlAt (w W : World) (pF pR pA : Nat) (f : FrV) (x : AskV) (ha : Option Addr) (hn hc : Nat) (ea : Option Addr) (en ec : Nat) (ca : Option Addr) (cn cc : Nat) (hs es : List EvV) : Prop where
  bel : Below w.heap.size w W
  fr : W.heap[pF]? = some (.cells #[.int .i64 f.rings, .int .i64 f.sectors, .int .i64 f.wide] 23 (0, 0))
  rg : W.heap[pR]? = some (.cells #[.slice ha hn hc, .slice ea en ec, .slice ca cn cc] 27 (0, 0))
  ak : W.heap[pA]? = some (.cells #[.int .i64 x.day, .int .i64 x.clock, .int .i64 x.stone, .int .i64 x.ring, .int .i64 x.heap, .int .i64 x.rh, .int .i64 x.rn] 31 (0, 0))
  r1 : RdA W 21 ha hn hc (evCells hs)
  r2 : RdA W 21 ea en ec (evCells es)
  ok : ∀ e ∈ hs ++ es, e.x.ok W
theorem HlAt.below {w W W' : World} {pF pR pA : Nat} {f : FrV} {x : AskV} {ha : Option Addr} {hn hc : Nat} {ea : Option Addr} {en ec : Nat} {ca : Option Addr} {cn cc : Nat} {hs es : List EvV} (h : HlAt w W pF pR pA f x ha hn hc ea en ec ca cn cc hs es) (hb : Below W.heap.size W W') : HlAt w W' pF pR pA f x ha hn hc ea en ec ca cn cc hs es :=
  ⟨h.bel.trans (hb.mono h.bel.size), below_blk hb h.fr, below_blk hb h.rg, below_blk hb h.ak, h.r1.below hb, h.r2.below hb, evs_ok h.ok hb⟩
theorem TAt.rd {w : World} {b : Nat} {T : List Int} (h : TAt w b T) (hm : T.length ≤ 1000000) : RdI w (some ⟨b, 0, none⟩) T.length T.length T :=
  ⟨by simp, Nat.le_refl _, by unfold maxLen; omega, .inr ⟨b, 0, rfl, fun i x hx => by rw [Nat.zero_add]; exact cell_of h i x (by simpa using hx)⟩⟩
theorem sonV_len {f : FrV} {hs es : List EvV} {st rg : Int} {T : List Int} (h : sonV f hs es st rg = some T) : T.length ≤ 96 := by
  unfold sonV at h
  split at h
  · rename_i hv
    rw [Bool.and_eq_true] at hv
    have h1 := hv.1
    simp only [FrV.valid, Bool.and_eq_true, inB_true] at h1
    cases h
    rw [sonL_len, List.length_replicate]
    omega
  · cases h

set_option maxHeartbeats 16000000 in
set_option maxRecDepth 100000 in
theorem hlooks_any (f : FrV) (hs es : List EvV) (ha : Option Addr) (hn hc : Nat) (ea : Option Addr) (en ec : Nat) (ca : Option Addr) (cn cc : Nat) (x : AskV) (w : World)
    (h1 : RdEs w ha hn hc hs) (h2 : RdEs w ea en ec es) (hok : ∀ e ∈ hs ++ es, e.x.ok w) :
    Calls Tryz.prog 3 #[f.val, .agg #[.slice ha hn hc, .slice ea en ec, .slice ca cn cc], .agg x.cells] w fun e w' => e = .returned (.bool true) ∧ Below w.heap.size w w' := by
  have hvl : f.val = .agg #[.int .i64 f.rings, .int .i64 f.sectors, .int .i64 f.wide] := rfl
  have hxl : x.cells = #[.int .i64 x.day, .int .i64 x.clock, .int .i64 x.stone, .int .i64 x.ring, .int .i64 x.heap, .int .i64 x.rh, .int .i64 x.rn] := rfl
  have SO := Lib.hid (fun (W : World) a b c => strokesOn_any f hs es ha hn hc ea en ec (.slice ca cn cc) x.stone x.ring W a b c)
  have RSO := Lib.hid (fun (W : World) a b c => rstrokesOn_any f hs es ha hn hc ea en ec (.slice ca cn cc) x.stone x.ring W a b c)
  rw [hvl] at SO RSO ⊢; rw [hxl]; clear hvl hxl
  have B0 : Below w.heap.size w (((w.alloc (.cells #[.int .i64 f.rings, .int .i64 f.sectors, .int .i64 f.wide] 23)).alloc (.cells #[.slice ha hn hc, .slice ea en ec, .slice ca cn cc] 27)).alloc (.cells #[.int .i64 x.day, .int .i64 x.clock, .int .i64 x.stone, .int .i64 x.ring, .int .i64 x.heap, .int .i64 x.rh, .int .i64 x.rn] 31)) :=
    (((Below.refl w.heap.size w).alloc (Nat.le_refl _) (.cells #[.int .i64 f.rings, .int .i64 f.sectors, .int .i64 f.wide] 23)).alloc (by simp) (.cells #[.slice ha hn hc, .slice ea en ec, .slice ca cn cc] 27)).alloc (by simp; omega) _
  have ST : Hid (HlAt w (((w.alloc (.cells #[.int .i64 f.rings, .int .i64 f.sectors, .int .i64 f.wide] 23)).alloc (.cells #[.slice ha hn hc, .slice ea en ec, .slice ca cn cc] 27)).alloc (.cells #[.int .i64 x.day, .int .i64 x.clock, .int .i64 x.stone, .int .i64 x.ring, .int .i64 x.heap, .int .i64 x.rh, .int .i64 x.rn] 31)) w.heap.size (w.heap.size + 1) (w.heap.size + 1 + 1) f x ha hn hc ea en ec ca cn cc hs es) := Lib.hid
    ⟨B0, heap_before _ _ _ _ (heap_before _ _ _ _ (heap_last w (.cells #[.int .i64 f.rings, .int .i64 f.sectors, .int .i64 f.wide] 23))), heap_before _ _ _ _ (heap_at (w.alloc (.cells #[.int .i64 f.rings, .int .i64 f.sectors, .int .i64 f.wide] 23)) (.cells #[.slice ha hn hc, .slice ea en ec, .slice ca cn cc] 27) (w.heap.size + 1) (by simp)),
      heap_at ((w.alloc (.cells #[.int .i64 f.rings, .int .i64 f.sectors, .int .i64 f.wide] 23)).alloc (.cells #[.slice ha hn hc, .slice ea en ec, .slice ca cn cc] 27)) (.cells #[.int .i64 x.day, .int .i64 x.clock, .int .i64 x.stone, .int .i64 x.ring, .int .i64 x.heap, .int .i64 x.rh, .int .i64 x.rn] 31) (w.heap.size + 1 + 1) (by simp), h1.to_rd.below B0, h2.to_rd.below B0, evs_ok hok B0⟩
  clear B0 h1 h2 hok
  go_enter Tryz.func3, Tryz.ntmps3
  go_upto_region 1 with fail
  obtain ⟨pF, hpF⟩ : ∃ p, Hid (w.heap.size = p) := ⟨_, Lib.hid rfl⟩
  obtain ⟨pR, hpR⟩ : ∃ p, Hid (w.heap.size + 1 = p) := ⟨_, Lib.hid rfl⟩
  obtain ⟨pA, hpA⟩ : ∃ p, Hid (w.heap.size + 1 + 1 = p) := ⟨_, Lib.hid rfl⟩
  rw [hpA.out, hpR.out, hpF.out] at ST ⊢
  generalize ((w.alloc (.cells #[.int .i64 f.rings, .int .i64 f.sectors, .int .i64 f.wide] 23)).alloc (.cells #[.slice ha hn hc, .slice ea en ec, .slice ca cn cc] 27)).alloc (.cells #[.int .i64 x.day, .int .i64 x.clock, .int .i64 x.stone, .int .i64 x.ring, .int .i64 x.heap, .int .i64 x.rh, .int .i64 x.rn] 31) = W0 at *
  go_wp2_with fail
  refine (hawake_any _).mono ?_
  rintro e W1 ⟨rfl, hb⟩
  replace ST := Lib.hid (ST.out.below hb)
  clear hb
  have g0 := cell_of ST.out.rg 0 (.slice ha hn hc) rfl
  have g1 := cell_of ST.out.rg 1 (.slice ea en ec) rfl
  have g2 := cell_of ST.out.rg 2 (.slice ca cn cc) rfl
  go_wp2_with fail
  refine (brief_any hs es ha hn hc ea en ec ca cn cc W1 (RdEs.of_rd ST.out.r1) (RdEs.of_rd ST.out.r2)).mono ?_
  rintro e W2 ⟨⟨q, rfl⟩, hb⟩
  replace ST := Lib.hid (ST.out.below hb)
  clear hb
  clear g0 g1 g2
  cases q
  · go_wp2_with fail
    go_ret
    exact ⟨rfl, ST.out.bel⟩
  · obtain ⟨i0, e0, hv, _, _⟩ := heapOfV_parts hs x.rh x.rn
    have HV := Lib.hid hv; clear hv
    obtain ⟨n0, hn0⟩ : ∃ z, Hid ((passesV hs es x.heap).1 = z) := ⟨_, Lib.hid rfl⟩
    obtain ⟨m0, hm0⟩ : ∃ z, Hid ((passesV hs es x.heap).2 = z) := ⟨_, Lib.hid rfl⟩
    have PA := Lib.hid (fun (W : World) a b => passes_any hs es ha hn hc ea en ec (.slice ca cn cc) x.heap W a b)
    have RPA := Lib.hid (fun (W : World) a b => rpasses_any hs es ha hn hc ea en ec (.slice ca cn cc) x.heap W a b)
    rw [hn0.out, hm0.out] at PA RPA
    go_upto_region 4 with fail
    have g0 := cell_of ST.out.rg 0 (.slice ha hn hc) rfl
    have g1 := cell_of ST.out.rg 1 (.slice ea en ec) rfl
    have g2 := cell_of ST.out.rg 2 (.slice ca cn cc) rfl
    have a5 := cell_of ST.out.ak 5 (.int .i64 x.rh) rfl
    have a6 := cell_of ST.out.ak 6 (.int .i64 x.rn) rfl
    go_upto_region 5 with (first
      | (go_at_call 12
         refine (heapOf_any hs ha hn hc _ _ x.rh x.rn _ (RdEs.of_rd ST.out.r1)).mono ?_
         rintro r W3 ⟨rfl, hb⟩
         rw [HV.out]
         replace ST := Lib.hid (ST.out.below hb)
         clear hb
         dsimp only)
      | fail)
    clear g0 g1 g2 a5 a6
    have g0 := cell_of ST.out.rg 0 (.slice ha hn hc) rfl
    have g1 := cell_of ST.out.rg 1 (.slice ea en ec) rfl
    have g2 := cell_of ST.out.rg 2 (.slice ca cn cc) rfl
    have a5 := cell_of ST.out.ak 5 (.int .i64 x.rh) rfl
    have a6 := cell_of ST.out.ak 6 (.int .i64 x.rn) rfl
    go_upto_region 6 with (first
      | (go_at_call 13
         refine (rheapOf_any hs ha hn hc _ _ x.rh x.rn _ (RdEs.of_rd ST.out.r1)).mono ?_
         rintro r W4 ⟨rfl, hb⟩
         rw [HV.out]
         replace ST := Lib.hid (ST.out.below hb)
         clear hb
         dsimp only)
      | fail)
    clear g0 g1 g2 a5 a6
    have g0 := cell_of ST.out.rg 0 (.slice ha hn hc) rfl
    have g1 := cell_of ST.out.rg 1 (.slice ea en ec) rfl
    have g2 := cell_of ST.out.rg 2 (.slice ca cn cc) rfl
    have a4 := cell_of ST.out.ak 4 (.int .i64 x.heap) rfl
    go_upto_region 7 with (first
      | (go_at_call 14
         refine (PA.out _ (RdEs.of_rd ST.out.r1) ST.out.r2).mono ?_
         rintro r W5 ⟨rfl, hb⟩
         replace ST := Lib.hid (ST.out.below hb)
         clear hb
         dsimp only)
      | fail)
    clear g0 g1 g2 a4
    have g0 := cell_of ST.out.rg 0 (.slice ha hn hc) rfl
    have g1 := cell_of ST.out.rg 1 (.slice ea en ec) rfl
    have g2 := cell_of ST.out.rg 2 (.slice ca cn cc) rfl
    have a4 := cell_of ST.out.ak 4 (.int .i64 x.heap) rfl
    go_upto_region 8 with (first
      | (go_at_call 15
         refine (RPA.out _ (RdEs.of_rd ST.out.r1) ST.out.r2).mono ?_
         rintro r W6 ⟨rfl, hb⟩
         replace ST := Lib.hid (ST.out.below hb)
         clear hb
         dsimp only)
      | fail)
    clear g0 g1 g2 a4
    cases hsv : sonV f hs es x.stone x.ring
    · have HSV := Lib.hid hsv; clear hsv
      rw [HSV.out] at SO RSO
      have f0 := cell_of ST.out.fr 0 (.int .i64 f.rings) rfl
      have f1 := cell_of ST.out.fr 1 (.int .i64 f.sectors) rfl
      have f2 := cell_of ST.out.fr 2 (.int .i64 f.wide) rfl
      have g0 := cell_of ST.out.rg 0 (.slice ha hn hc) rfl
      have g1 := cell_of ST.out.rg 1 (.slice ea en ec) rfl
      have g2 := cell_of ST.out.rg 2 (.slice ca cn cc) rfl
      have a2 := cell_of ST.out.ak 2 (.int .i64 x.stone) rfl
      have a3 := cell_of ST.out.ak 3 (.int .i64 x.ring) rfl
      go_upto_region 9 with (first
        | (go_at_call 16
           refine (SO.out _ ST.out.r1 ST.out.r2 ST.out.ok).mono ?_
           rintro r W7 ⟨hE, hb⟩
           have hE : r = .returned (.tuple #[.slice none 0 0, .int .i64 1]) := hE
           subst hE
           replace ST := Lib.hid (ST.out.below hb)
           clear hb
           dsimp only)
        | fail)
      clear f0 f1 f2 g0 g1 g2 a2 a3
      have f0 := cell_of ST.out.fr 0 (.int .i64 f.rings) rfl
      have f1 := cell_of ST.out.fr 1 (.int .i64 f.sectors) rfl
      have f2 := cell_of ST.out.fr 2 (.int .i64 f.wide) rfl
      have g0 := cell_of ST.out.rg 0 (.slice ha hn hc) rfl
      have g1 := cell_of ST.out.rg 1 (.slice ea en ec) rfl
      have g2 := cell_of ST.out.rg 2 (.slice ca cn cc) rfl
      have a2 := cell_of ST.out.ak 2 (.int .i64 x.stone) rfl
      have a3 := cell_of ST.out.ak 3 (.int .i64 x.ring) rfl
      go_upto_region 10 with (first
        | (go_at_call 17
           refine (RSO.out _ ST.out.r1 ST.out.r2 ST.out.ok).mono ?_
           rintro r W8 ⟨hE, hb⟩
           have hE : r = .returned (.tuple #[.slice none 0 0, .int .i64 1]) := hE
           subst hE
           replace ST := Lib.hid (ST.out.below hb)
           clear hb
           dsimp only)
        | fail)
      clear f0 f1 f2 g0 g1 g2 a2 a3
      go_wp2_with (first
        | (go_at_call 18
           refine (sameInts_any none 0 0 [] none 0 0 [] _ (RdA.nil _ 1) (RdA.nil _ 1)).mono ?_
           rintro r W9 ⟨rfl, q9, hw9⟩
           have B9 : Hid (Below w.heap.size w W9) := Lib.hid (by rw [hw9]; exact below_drewN ST.out.bel q9)
           clear hw9
           rw [decide_eq_true rfl]
           dsimp only)
        | fail)
      go_ret
      exact ⟨rfl, B9.out⟩
    · rename_i T
      have HTL := Lib.hid (sonV_len hsv)
      have HSV := Lib.hid hsv; clear hsv
      rw [HSV.out] at SO RSO
      have f0 := cell_of ST.out.fr 0 (.int .i64 f.rings) rfl
      have f1 := cell_of ST.out.fr 1 (.int .i64 f.sectors) rfl
      have f2 := cell_of ST.out.fr 2 (.int .i64 f.wide) rfl
      have g0 := cell_of ST.out.rg 0 (.slice ha hn hc) rfl
      have g1 := cell_of ST.out.rg 1 (.slice ea en ec) rfl
      have g2 := cell_of ST.out.rg 2 (.slice ca cn cc) rfl
      have a2 := cell_of ST.out.ak 2 (.int .i64 x.stone) rfl
      have a3 := cell_of ST.out.ak 3 (.int .i64 x.ring) rfl
      go_upto_region 9 with (first
        | (go_at_call 16
           refine (SO.out _ ST.out.r1 ST.out.r2 ST.out.ok).mono ?_
           rintro r W7 ⟨⟨b1, rfl, ht, _⟩, hb⟩
           have T7 := Lib.hid ht
           clear ht
           replace ST := Lib.hid (ST.out.below hb)
           clear hb
           dsimp only)
        | fail)
      clear f0 f1 f2 g0 g1 g2 a2 a3
      have f0 := cell_of ST.out.fr 0 (.int .i64 f.rings) rfl
      have f1 := cell_of ST.out.fr 1 (.int .i64 f.sectors) rfl
      have f2 := cell_of ST.out.fr 2 (.int .i64 f.wide) rfl
      have g0 := cell_of ST.out.rg 0 (.slice ha hn hc) rfl
      have g1 := cell_of ST.out.rg 1 (.slice ea en ec) rfl
      have g2 := cell_of ST.out.rg 2 (.slice ca cn cc) rfl
      have a2 := cell_of ST.out.ak 2 (.int .i64 x.stone) rfl
      have a3 := cell_of ST.out.ak 3 (.int .i64 x.ring) rfl
      go_upto_region 10 with (first
        | (go_at_call 17
           refine (RSO.out _ ST.out.r1 ST.out.r2 ST.out.ok).mono ?_
           rintro r W8 ⟨⟨b2, rfl, ht, _⟩, hb⟩
           have T8 := Lib.hid ht
           have T78 : Hid (TAt W8 b1 T) := Lib.hid (below_blk hb T7.out)
           clear ht
           replace ST := Lib.hid (ST.out.below hb)
           clear hb
           dsimp only)
        | fail)
      clear f0 f1 f2 g0 g1 g2 a2 a3
      go_wp2_with (first
        | (go_at_call 18
           refine (sameInts_any _ _ _ T _ _ _ T _ (T78.out.rd (by have := HTL.out; omega)) (T8.out.rd (by have := HTL.out; omega))).mono ?_
           rintro r W9 ⟨rfl, q9, hw9⟩
           have B9 : Hid (Below w.heap.size w W9) := Lib.hid (by rw [hw9]; exact below_drewN ST.out.bel q9)
           clear hw9
           rw [decide_eq_true rfl]
           dsimp only)
        | fail)
      go_ret
      exact ⟨rfl, B9.out⟩
end Go.Proofs.YtpjiakgfegnmcaaGreat
namespace Go.Proofs.YtpjiakgfegnmcaaGreat
open Go.ChangeShapes Go.WideShapes Go.ChangeAt Go.RowKit

set_option maxRecDepth 100000 in
theorem historyLooks_lifted (os : Os) (started : os.Started) (H : Type) (enc : TypeId × Value → H) :
    ReturnsInHanded {} Tryz.checked os 3 .any (Rows.historyLooksSpec.pre6 enc Tryz.prog Tryz.f3 Rows.historyLooksRow.domain false) (Rows.historyLooksSpec.post enc Tryz.prog Tryz.f3 false true false false) := by
  refine returnsInHanded_of_change (C := Tryz.checked) Tryz.own started (by kernel_rfl) Tryz.func3
    (ChangeSpec.witness6 (enc := enc) (C := Tryz.checked) false ⟨#[], #[.agg #[.int .i64 0, .int .i64 0, .int .i64 0], .agg #[.slice none 0 0, .slice none 0 0, .slice none 0 0], .agg #[.int .i64 0, .int .i64 0, .int .i64 0, .int .i64 0, .int .i64 0, .int .i64 0, .int .i64 0]], []⟩ 8 (by kernel_rfl) (by kernel_rfl) (by kernel_rfl) (by kernel_rfl)) ?_
  intro W base args ds gs before hval0 hW hcnd _
  have hval : ∀ (j : Nat) t v, Tryz.f3.params[j]? = some t → args[j]? = some v → Value.okWide Tryz.prog W .any base t v := hval0
  have hW' := hW
  obtain ⟨p, q, hA0, hV, rfl, hfz, hnd⟩ := hW
  have hA : DataW.TrodAll enc Tryz.prog W 0 (fun _ => true) true Tryz.f3.params.toList args.toList ds p := hA0
  have hA1 := hA
  rw [Tryz.params3] at hA hval
  obtain ⟨v0, v1, v2, d0, d1, d2, p0, p1, p2, rfl, rfl, rfl, h0, h1, h2⟩ := trodAll_three hA
  obtain ⟨rfl, rfl⟩ := trodVars_none hV
  obtain ⟨f, rfl⟩ := hopen_frame (hval 0 23 v0 rfl rfl) h0
  obtain ⟨ha, hn, hc, hs, ea, en, ec, es, ca, cn, cc, rfl, r1, r2, r3⟩ := open_reg (hval 1 27 v1 rfl rfl) h1
  obtain ⟨x, rfl, _⟩ := open_ask (hval 2 31 v2 rfl rfl) h2
  clear hA0 hval0
  simp only [List.append_nil] at hW'
  refine (hlooks_any f hs es ha hn hc ea en ec ca cn cc x W r1 r2 (fun e he => (r3 e he).1)).mono fun e W' ⟨he, hb⟩ => ?_
  subst he
  exact ⟨_, rfl, post_of_law Tryz.laidOut Tryz.underlying4 rfl (by kernel_rfl) (by kernel_rfl) hW' hA1 rfl hb⟩

theorem historyLooks_holds : Rows.HistoryLooksSaid :=
  OpenClaim.holds_of_wide 3 Tryz.f3 rfl rfl rfl rfl rfl rfl rfl ⟨rfl, rfl, rfl, rfl, rfl⟩ rfl rfl rfl rfl rfl (by kernel_rfl) Tryz.func3 (by kernel_rfl)
    (of_decide_eq_true (by kernel_rfl)) (by unfold Func.isWrapper; first | (rw [if_pos (by decide +kernel)]; kernel_rfl) | (rw [if_neg (by decide +kernel)]; exact ⟨rfl, rfl⟩))
    (fun os started H enc _ => historyLooks_lifted os started H enc)
#print axioms historyLooks_holds
end Go.Proofs.YtpjiakgfegnmcaaGreat
