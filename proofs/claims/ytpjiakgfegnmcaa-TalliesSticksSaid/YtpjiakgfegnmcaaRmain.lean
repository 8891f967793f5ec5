/- The statement TalliesSticks: it says true for every argument. -/
import Derived.Test.YtpjiakgfegnmcaaRops
import Derived.Test.YtpjiakgfegnmcaaAwake
namespace Go.Proofs.Ytpjiakgfegnmcaa
open Go.RowKit

theorem same_yes2 (a : Option Addr) (n c : Nat) (ls : List (List UInt8)) (a' : Option Addr) (n' c' : Nat) (ls' : List (List UInt8)) (w : World) (hr : RdBB w a n c ls) (hr' : RdBB w a' n' c' ls') (h : ls = ls') :
    Calls Try.prog 13 #[.slice a n c, .slice a' n' c'] w fun e w' => e = .returned (.bool true) ∧ ∃ q, w' = w.drewN q := by
  refine (sameBytes_any _ _ _ _ _ _ _ _ _ hr hr').mono ?_
  rintro e w' ⟨b, rfl, hb, hq⟩
  rw [hb.2 h]
  exact ⟨rfl, hq⟩

section
variable {w w1 w2 : World} {p q B : Nat} {F F1 G G2 : Nat → Prop} {s s' : SSt}
theorem pair1 (hF : PS w p F s) (hG : RS w q G s) (hd : ∀ k, F k → ¬ G k) (hB : ∀ k, F k → B ≤ k) (hBw : B ≤ w.heap.size) (S1 : Same F w w1) (f1 : ∀ k, F1 k → F k ∨ w.heap.size ≤ k) : RS w1 q G s ∧ (∀ k, F1 k → ¬ G k) ∧ (∀ k, F1 k → B ≤ k) := by
  refine ⟨hG.same S1 hd, fun k h1 h2 => ?_, fun k h1 => ?_⟩
  · rcases f1 k h1 with h | h
    · exact hd k h h2
    · have := hG.lt k h2; omega
  · rcases f1 k h1 with h | h
    · exact hB k h
    · omega
theorem pair2 (hF : PS w1 p F1 s') (hd : ∀ k, F1 k → ¬ G k) (hB : ∀ k, G k → B ≤ k) (hBw : B ≤ w1.heap.size) (S2 : Same G w1 w2) (g2 : ∀ k, G2 k → G k ∨ w1.heap.size ≤ k) : PS w2 p F1 s' ∧ (∀ k, F1 k → ¬ G2 k) ∧ (∀ k, G2 k → B ≤ k) := by
  refine ⟨hF.same S2 (fun k h1 h2 => hd k h2 h1), fun k h1 h2 => ?_, fun k h1 => ?_⟩
  · rcases g2 k h2 with h | h
    · exact hd k h1 h
    · have := hF.lt k h1; omega
  · rcases g2 k h1 with h | h
    · exact hB k h
    · omega
theorem same_into (h : Same F w w1) (hB : ∀ k, F k → B ≤ k) {w0 : World} (hb : Below B w0 w) (hBw : B ≤ w.heap.size) : Below B w0 w1 := h.below hb hBw hB
end

theorem p_tallies {w : World} {p : Nat} {F : Nat → Prop} {s : SSt} (h : PS w p F s) : Calls Try.prog 25 #[.pointer (some ⟨p, 0, none⟩)] w fun e w' => ∃ oa oc, e = .returned (.slice oa (joinOf (s.SD ++ s.SP) (s.FD ++ s.FP)).length oc) ∧ OwnBB w' w.heap.size oa (joinOf (s.SD ++ s.SP) (s.FD ++ s.FP)).length oc (joinOf (s.SD ++ s.SP) (s.FD ++ s.FP)) ∧ Below w.heap.size w w' := talliesOf_any w p F _ _ _ _ h
theorem r_tallies {w : World} {p : Nat} {G : Nat → Prop} {s : SSt} (h : RS w p G s) (hb : s.SD.length + s.SP.length ≤ 16777216 ∧ s.FD.length + s.FP.length ≤ 16777216) : Calls Try.prog 26 #[.pointer (some ⟨p, 0, none⟩)] w fun e w' => ∃ oa oc, e = .returned (.slice oa (joinOf (s.SD ++ s.SP) (s.FD ++ s.FP)).length oc) ∧ OwnBB w' w.heap.size oa (joinOf (s.SD ++ s.SP) (s.FD ++ s.FP)).length oc (joinOf (s.SD ++ s.SP) (s.FD ++ s.FP)) ∧ Below w.heap.size w w' := by
  obtain ⟨_, _, _, _, h⟩ := h
  exact rtallies_any h hb.1 hb.2
theorem r_sizes {w : World} {p : Nat} {G : Nat → Prop} {s : SSt} (h : RS w p G s) : Calls Try.prog 24 #[.pointer (some ⟨p, 0, none⟩)] w fun e w' => e = .returned (.tuple #[.int .i64 s.SD.length, .int .i64 s.SP.length, .int .i64 s.FD.length, .int .i64 s.FP.length]) ∧ ∃ q, w' = w.drewN q := by
  obtain ⟨_, _, _, _, h⟩ := h
  exact rsizes_any h
theorem r_new (w : World) : RS (w.alloc (.cells #[.slice none 0 0, .slice none 0 0, .slice none 0 0, .slice none 0 0] 53)) w.heap.size (fun k => k = w.heap.size) ⟨[], [], [], []⟩ :=
  ⟨_, _, _, _, ⟨heap_alloc_new w _, SlB.nil _, SlB.nil _, SlB.nil _, SlB.nil _, fun k => by simp [Value.ownBlock]⟩⟩

set_option maxHeartbeats 4000000 in
set_option maxRecDepth 100000 in
theorem tsticks_any (w : World) (a : Option Addr) (n c : Nat) (l : List OpV) (hr : RdOps w a n c l) :
    Calls Try.prog 5 #[.slice a n c] w fun e w' => e = .returned (.bool true) ∧ Below w.heap.size w w' := by
  have hm := hr.maxn
  go_enter Try.func5, Try.ntmps5
  go_wp2_with fail
  refine (awake_any w).mono ?_
  rintro e w1 ⟨rfl, b1⟩
  have hr1 := hr.below b1
  have B1 := Lib.hid b1; clear b1
  have HR := Lib.hid hr; clear hr
  have Z1 := B1.out.size
  go_upto_region 4 with fail
  go_loop [4, 5] (fun z i => ∃ (k : Nat) (x : Int), k ≤ n ∧ i = .int .i64 k ∧ z = .int .i64 x) (fun _ i => n - (intOf i).toNat)
  case atStart => exact ⟨0, 0, Nat.zero_le _, rfl, rfl⟩
  case round =>
    obtain ⟨k, x, hk, rfl, rfl⟩ := hrel
    by_cases hlt : k < n
    · obtain ⟨b, off, rfl, hc⟩ := hr1.at (by omega)
      obtain ⟨cs, ba, bc, _, _, hcs, _, hc1, _⟩ := hc k hlt
      have h1 := hcs 1 _ hc1
      clear hr1 hc hcs hc1
      go_wp2
      go_round
      case rel => exact ⟨k + 1, _, by omega, by go_num, rfl⟩
      case measure => simp [intOf]; omega
    · by_cases g1 : n ≤ 60 ∧ x ≤ 20000
      · have t1 : decide ((60 : Int) < (n : Int)) = false := by simp; omega
        have t2 : decide ((20000 : Int) < x) = false := by simp; omega
        have G1 := Lib.hid g1; clear g1 hr1
        go_wp2_with fail
        refine (newStick_any w1).mono ?_
        rintro e w2 ⟨rfl, hS, b2⟩
        have hP : PS w2 w1.heap.size (fun k => k = w1.heap.size) ⟨[], [], [], []⟩ := hS
        have hlt2 : w1.heap.size < w2.heap.size := Stk.lt hS _ rfl
        have B2 := Lib.hid (B1.out.trans (b2.mono B1.out.size))
        have hR := r_new w2
        have b3 : Below w2.heap.size w2 (w2.alloc (.cells #[.slice none 0 0, .slice none 0 0, .slice none 0 0, .slice none 0 0] 53)) := (Below.refl _ _).alloc (Nat.le_refl _) _
        have HP := Lib.hid (hP.same (S := fun _ => False) (Same.of_below b3) (fun _ e => e.elim))
        have HRS := Lib.hid hR
        have B3 := Lib.hid (B2.out.trans (b3.mono B2.out.size))
        have HD : Hid (∀ k, k = w1.heap.size → ¬ k = w2.heap.size) := fun k h1 h2 => by omega
        clear hS hP hR b2 b3
        go_upto_region 12 with fail
        generalize hw3 : w2.alloc (.cells #[.slice none 0 0, .slice none 0 0, .slice none 0 0, .slice none 0 0] 53) = w3 at *
        clear hw3
        generalize w1.heap.size = P at *
        generalize w2.heap.size = Q at *
        go_loopw [8, 9, 10, 11, 12, 13, 14, 15, 16, 17, 18, 19] (fun i _ _ _ _ _ _ _ _ _ _ _ wr => ∃ (k : Nat) (F G : Nat → Prop) (s : SSt), k ≤ n ∧ i = .int .i64 k ∧ Hid (PS wr P F s) ∧ Hid (RS wr Q G s) ∧ Hid (∀ k, F k → ¬ G k) ∧ Hid (∀ k, F k → w.heap.size ≤ k) ∧ Hid (∀ k, G k → w.heap.size ≤ k) ∧ Below w.heap.size w wr) (fun i _ _ _ _ _ _ _ _ _ _ _ _ => n - (intOf i).toNat)
        case atStart => exact ⟨0, _, _, _, Nat.zero_le _, rfl, HP, HRS, HD, Lib.hid (fun k hk => by rw [hk]; exact Z1), Lib.hid (fun k hk => by rw [hk]; omega), B3.out⟩
        case round =>
          clear HP HRS HD B3 B2
          obtain ⟨k, F, G, s, hk, rfl, hP, hR, hD, hF, hG, hb⟩ := hrel
          by_cases hlt : k < n
          · obtain ⟨b, off, rfl, hc⟩ := HR.out.at (by omega)
            obtain ⟨cs, ba, bc, hlen, hone, hcs0, hc0, hc1, hc23, hc24, hc25, hrb⟩ := hc k hlt
            have hcs : wr.rangeAt b (off + k * 26) cs := fun j v hv => (hb.cell (p := ⟨b, off + k * 26 + j, none⟩) (World.block_lt_of_cell? w _ (hcs0 j v hv))).trans (hcs0 j v hv)
            clear hcs0
            have HRB := Lib.hid hrb; clear hrb hc
            generalize l[k]?.getD default = o at *
            obtain ⟨kd, st, fo, fl, bs⟩ := o
            simp only at hc0 hc1 hc23 hc24 hc25 HRB
            have HB := Lib.hid hb; clear hb
            have hi46 : (Try.prog.info? 46).map (·.size) = some cs.length := by rw [hlen]; kernel_rfl
            have hi46' : (Try.prog.info? 46).map (·.size) = some cs.toArray.size := by rw [List.size_toArray, hlen]; kernel_rfl
            have hsz : 26 = cs.toArray.size := by rw [List.size_toArray, hlen]
            have hall := all_oneCell_toArray hone
            have ba1 : Below wr.heap.size wr (wr.alloc (.cells cs.toArray 46)) := (Below.refl _ _).alloc (Nat.le_refl _) _
            have HBA := Lib.hid ba1; clear ba1
            have HL := Lib.hid hlen; clear hlen
            have H46 := Lib.hid hi46; clear hi46
            have H46' := Lib.hid hi46'; clear hi46'
            have HSZ := Lib.hid hsz; clear hsz
            have e0 := cell_new wr cs 46 0 _ hc0
            have e1 := cell_new wr cs 46 1 _ hc1
            have e23 := cell_new wr cs 46 23 _ hc23
            have e24 := cell_new wr cs 46 24 _ hc24
            have e25 := cell_new wr cs 46 25 _ hc25
            have PW := Lib.hid (hP.out.same (S := fun _ => False) (Same.of_below HBA.out) (fun _ e => e.elim))
            have RW := Lib.hid (hR.out.same (S := fun _ => False) (Same.of_below HBA.out) (fun _ e => e.elim))
            have BW := Lib.hid (HB.out.trans (HBA.out.mono HB.out.size))
            have ZW := BW.out.size
            have E0 := Lib.hid e0; clear e0
            have E1 := Lib.hid e1; clear e1
            have E23 := Lib.hid e23; clear e23
            have E24 := Lib.hid e24; clear e24
            have E25 := Lib.hid e25; clear e25
            by_cases k1 : kd = 1
            · subst k1
              go_wp2_with (first
                | (refine wpList_load_mid rfl 46 _ rfl b (off + k * 26) rfl cs _ hcs Try.underlying46 rfl H46.out ?_)
                | (refine wpList_store_new wr rfl 46 _ _ rfl _ cs.toArray rfl rfl H46'.out HSZ.out hall ?_))
              clear hcs hall hone hc0 hc1 hc23 hc24 hc25 H46 H46' HSZ HL
              generalize wr.alloc (.cells cs.toArray 46) = w0 at *
              refine (p_sync PW.out).mono ?_
              rintro e wa ⟨rfl, F1, hP1, hS1, hF1⟩
              obtain ⟨hR1, hD1, hB1⟩ := pair1 PW.out RW.out hD.out hF.out ZW hS1 hF1
              have BA := Lib.hid (same_into hS1 hF.out BW.out ZW)
              have ZA := BA.out.size
              have HS1 := Lib.hid hS1; clear hS1
              have HP1 := Lib.hid hP1; clear hP1
              have HR1 := Lib.hid hR1; clear hR1
              have HD1 := Lib.hid hD1; clear hD1
              have HB1 := Lib.hid hB1; clear hB1
              have HF1 := Lib.hid hF1; clear hF1
              go_wp2_with fail
              refine (r_sync HR1.out PW.out.bd).mono ?_
              rintro e wb ⟨rfl, G1, hR2, hS2, hG2⟩
              obtain ⟨hP2, hD2, hB2⟩ := pair2 HP1.out HD1.out hG.out ZA hS2 hG2
              have BB := Lib.hid (same_into hS2 hG.out BA.out ZA)
              have HD2 := Lib.hid hD2; clear hD2
              have HB2 := Lib.hid hB2; clear hB2
              have HR2 := Lib.hid hR2; clear hR2
              have HP2 := Lib.hid hP2; clear hP2
              clear HS1 HP1 HR1 HD1 HF1 BA hS2 hG2 E0 E1 E23 E24 E25 PW RW BW hP hR hD HBA HB
              generalize s.sync = t at *
              go_wp2_with fail
              refine (p_sizes HP2.out).mono ?_
              rintro e wc ⟨rfl, q, rfl⟩
              have d1 : Below wb.heap.size wb (wb.drewN q) := below_drewN (Below.refl _ _) q
              have HP3 := Lib.hid (HP2.out.same (S := fun _ => False) (Same.of_below d1) (fun _ e => e.elim))
              have HR3 := Lib.hid (HR2.out.same (S := fun _ => False) (Same.of_below d1) (fun _ e => e.elim))
              have B3 := Lib.hid (BB.out.trans (d1.mono BB.out.size))
              clear d1 HP2 HR2 BB
              generalize wb.drewN q = wc at *
              go_wp2_with fail
              refine (r_sizes HR3.out).mono ?_
              rintro e wd ⟨rfl, q2, rfl⟩
              have d1 : Below wc.heap.size wc (wc.drewN q2) := below_drewN (Below.refl _ _) q2
              have HP4 := Lib.hid (HP3.out.same (S := fun _ => False) (Same.of_below d1) (fun _ e => e.elim))
              have HR4 := Lib.hid (HR3.out.same (S := fun _ => False) (Same.of_below d1) (fun _ e => e.elim))
              have B4 := Lib.hid (B3.out.trans (d1.mono B3.out.size))
              clear d1 HP3 HR3 B3
              generalize wc.drewN q2 = wd at *
              go_wp2_with fail
              refine (p_tallies HP4.out).mono ?_
              rintro e we ⟨oa, oc, rfl, ho, d1⟩
              have HP5 := Lib.hid (HP4.out.same (S := fun _ => False) (Same.of_below d1) (fun _ e => e.elim))
              have HR5 := Lib.hid (HR4.out.same (S := fun _ => False) (Same.of_below d1) (fun _ e => e.elim))
              have B5 := Lib.hid (B4.out.trans (d1.mono B4.out.size))
              have HO := Lib.hid ho; clear ho
              clear d1 HP4 HR4 B4
              go_wp2_with fail
              refine (r_tallies HR5.out HP5.out.bd).mono ?_
              rintro e wf ⟨oa', oc', rfl, ho', d1⟩
              have HP6 := Lib.hid (HP5.out.same (S := fun _ => False) (Same.of_below d1) (fun _ e => e.elim))
              have HR6 := Lib.hid (HR5.out.same (S := fun _ => False) (Same.of_below d1) (fun _ e => e.elim))
              have B6 := Lib.hid (B5.out.trans (d1.mono B5.out.size))
              have HO2 := Lib.hid (HO.out.below d1).rd
              have HO' := Lib.hid ho'.rd; clear ho'
              clear d1 HP5 HR5 B5 HO
              generalize joinOf (t.SD ++ t.SP) (t.FD ++ t.FP) = J at *
              go_wp2_with fail
              refine (same_yes2 _ _ _ _ _ _ _ _ _ HO2.out HO'.out rfl).mono ?_
              rintro e wg ⟨rfl, q3, rfl⟩
              have d1 : Below wf.heap.size wf (wf.drewN q3) := below_drewN (Below.refl _ _) q3
              have HP7 := Lib.hid (HP6.out.same (S := fun _ => False) (Same.of_below d1) (fun _ e => e.elim))
              have HR7 := Lib.hid (HR6.out.same (S := fun _ => False) (Same.of_below d1) (fun _ e => e.elim))
              have B7 := B6.out.trans (d1.mono B6.out.size)
              clear d1 HP6 HR6 B6 HO2 HO'
              generalize wf.drewN q3 = wg at *
              have B7 := Lib.hid B7
              go_wp2_with fail
              go_roundw
              case rel => exact ⟨k + 1, F1, G1, t, by omega, by go_num, HP7, HR7, HD2, HB1, HB2, B7.out⟩
              case measure => simp [intOf]; omega
            · by_cases k2 : kd = 2
              · subst k2
                go_wp2_with (first
                  | (refine wpList_load_mid rfl 46 _ rfl b (off + k * 26) rfl cs _ hcs Try.underlying46 rfl H46.out ?_)
                  | (refine wpList_store_new wr rfl 46 _ _ rfl _ cs.toArray rfl rfl H46'.out HSZ.out hall ?_))
                clear hcs hall hone hc0 hc1 hc23 hc24 hc25 H46 H46' HSZ HL
                generalize wr.alloc (.cells cs.toArray 46) = w0 at *
                refine (p_crash PW.out st fo fl).mono ?_
                rintro e wa ⟨rfl, F1, hP1, hS1, hF1⟩
                obtain ⟨hR1, hD1, hB1⟩ := pair1 PW.out RW.out hD.out hF.out ZW hS1 hF1
                have BA := Lib.hid (same_into hS1 hF.out BW.out ZW)
                have ZA := BA.out.size
                have hXlt : wr.heap.size < w0.heap.size := World.block_lt_of_cell? w0 _ E0.out
                have hXF : ¬ F wr.heap.size := fun h => by have := hP.out.lt _ h; omega
                have z23 := (World.cell?_of_block (a := ⟨wr.heap.size, 23, none⟩) (hS1.block wr.heap.size hXlt hXF)).trans E23.out
                have z24 := (World.cell?_of_block (a := ⟨wr.heap.size, 24, none⟩) (hS1.block wr.heap.size hXlt hXF)).trans E24.out
                have z25 := (World.cell?_of_block (a := ⟨wr.heap.size, 25, none⟩) (hS1.block wr.heap.size hXlt hXF)).trans E25.out
                clear hXlt hXF
                have HS1 := Lib.hid hS1; clear hS1
                have HP1 := Lib.hid hP1; clear hP1
                have HR1 := Lib.hid hR1; clear hR1
                have HD1 := Lib.hid hD1; clear hD1
                have HB1 := Lib.hid hB1; clear hB1
                have HF1 := Lib.hid hF1; clear hF1
                go_wp2_with fail
                refine (r_crash HR1.out PW.out.bd st fo fl).mono ?_
                rintro e wb ⟨rfl, G1, hR2, hS2, hG2⟩
                obtain ⟨hP2, hD2, hB2⟩ := pair2 HP1.out HD1.out hG.out ZA hS2 hG2
                have BB := Lib.hid (same_into hS2 hG.out BA.out ZA)
                have HD2 := Lib.hid hD2; clear hD2
                have HB2 := Lib.hid hB2; clear hB2
                have HR2 := Lib.hid hR2; clear hR2
                have HP2 := Lib.hid hP2; clear hP2
                clear HS1 HP1 HR1 HD1 HF1 BA hS2 hG2 E0 E1 E23 E24 E25 PW RW BW hP hR hD HBA HB
                generalize s.crash st fo fl = t at *
                go_wp2_with fail
                refine (p_sizes HP2.out).mono ?_
                rintro e wc ⟨rfl, q, rfl⟩
                have d1 : Below wb.heap.size wb (wb.drewN q) := below_drewN (Below.refl _ _) q
                have HP3 := Lib.hid (HP2.out.same (S := fun _ => False) (Same.of_below d1) (fun _ e => e.elim))
                have HR3 := Lib.hid (HR2.out.same (S := fun _ => False) (Same.of_below d1) (fun _ e => e.elim))
                have B3 := Lib.hid (BB.out.trans (d1.mono BB.out.size))
                clear d1 HP2 HR2 BB
                generalize wb.drewN q = wc at *
                go_wp2_with fail
                refine (r_sizes HR3.out).mono ?_
                rintro e wd ⟨rfl, q2, rfl⟩
                have d1 : Below wc.heap.size wc (wc.drewN q2) := below_drewN (Below.refl _ _) q2
                have HP4 := Lib.hid (HP3.out.same (S := fun _ => False) (Same.of_below d1) (fun _ e => e.elim))
                have HR4 := Lib.hid (HR3.out.same (S := fun _ => False) (Same.of_below d1) (fun _ e => e.elim))
                have B4 := Lib.hid (B3.out.trans (d1.mono B3.out.size))
                clear d1 HP3 HR3 B3
                generalize wc.drewN q2 = wd at *
                go_wp2_with fail
                refine (p_tallies HP4.out).mono ?_
                rintro e we ⟨oa, oc, rfl, ho, d1⟩
                have HP5 := Lib.hid (HP4.out.same (S := fun _ => False) (Same.of_below d1) (fun _ e => e.elim))
                have HR5 := Lib.hid (HR4.out.same (S := fun _ => False) (Same.of_below d1) (fun _ e => e.elim))
                have B5 := Lib.hid (B4.out.trans (d1.mono B4.out.size))
                have HO := Lib.hid ho; clear ho
                clear d1 HP4 HR4 B4
                go_wp2_with fail
                refine (r_tallies HR5.out HP5.out.bd).mono ?_
                rintro e wf ⟨oa', oc', rfl, ho', d1⟩
                have HP6 := Lib.hid (HP5.out.same (S := fun _ => False) (Same.of_below d1) (fun _ e => e.elim))
                have HR6 := Lib.hid (HR5.out.same (S := fun _ => False) (Same.of_below d1) (fun _ e => e.elim))
                have B6 := Lib.hid (B5.out.trans (d1.mono B5.out.size))
                have HO2 := Lib.hid (HO.out.below d1).rd
                have HO' := Lib.hid ho'.rd; clear ho'
                clear d1 HP5 HR5 B5 HO
                generalize joinOf (t.SD ++ t.SP) (t.FD ++ t.FP) = J at *
                go_wp2_with fail
                refine (same_yes2 _ _ _ _ _ _ _ _ _ HO2.out HO'.out rfl).mono ?_
                rintro e wg ⟨rfl, q3, rfl⟩
                have d1 : Below wf.heap.size wf (wf.drewN q3) := below_drewN (Below.refl _ _) q3
                have HP7 := Lib.hid (HP6.out.same (S := fun _ => False) (Same.of_below d1) (fun _ e => e.elim))
                have HR7 := Lib.hid (HR6.out.same (S := fun _ => False) (Same.of_below d1) (fun _ e => e.elim))
                have B7 := B6.out.trans (d1.mono B6.out.size)
                clear d1 HP6 HR6 B6 HO2 HO'
                generalize wf.drewN q3 = wg at *
                have B7 := Lib.hid B7
                go_wp2_with fail
                go_roundw
                case rel => exact ⟨k + 1, F1, G1, t, by omega, by go_num, HP7, HR7, HD2, HB1, HB2, B7.out⟩
                case measure => simp [intOf]; omega
              · have q1 : decide (kd = 1) = false := by simp; exact k1
                have q2 : decide (kd = 2) = false := by simp; exact k2
                have q1' : (kd == 1) = false := by simp; exact k1
                have q2' : (kd == 2) = false := by simp; exact k2
                clear k1 k2
                go_wp2_with (first
                  | (refine wpList_load_mid rfl 46 _ rfl b (off + k * 26) rfl cs _ hcs Try.underlying46 rfl H46.out ?_)
                  | (refine wpList_store_new wr rfl 46 _ _ rfl _ cs.toArray rfl rfl H46'.out HSZ.out hall ?_))
                clear hcs hall hone hc0 hc1 hc23 hc24 hc25 H46 H46' HSZ HL
                generalize wr.alloc (.cells cs.toArray 46) = w0 at *
                refine (p_write PW.out ba bs.length bc bs (HRB.out.below BW.out)).mono ?_
                rintro e wa ⟨rfl, F1, hP1, hS1, hF1⟩
                obtain ⟨hR1, hD1, hB1⟩ := pair1 PW.out RW.out hD.out hF.out ZW hS1 hF1
                have BA := Lib.hid (same_into hS1 hF.out BW.out ZW)
                have ZA := BA.out.size
                have hXlt : wr.heap.size < w0.heap.size := World.block_lt_of_cell? w0 _ E0.out
                have hXF : ¬ F wr.heap.size := fun h => by have := hP.out.lt _ h; omega
                have z1 := (World.cell?_of_block (a := ⟨wr.heap.size, 1, none⟩) (hS1.block wr.heap.size hXlt hXF)).trans E1.out
                clear hXlt hXF
                have HS1 := Lib.hid hS1; clear hS1
                have HP1 := Lib.hid hP1; clear hP1
                have HR1 := Lib.hid hR1; clear hR1
                have HD1 := Lib.hid hD1; clear hD1
                have HB1 := Lib.hid hB1; clear hB1
                have HF1 := Lib.hid hF1; clear hF1
                go_wp2_with fail
                refine (r_write HR1.out PW.out.bd ba bs.length bc bs (HRB.out.below BA.out)).mono ?_
                rintro e wb ⟨rfl, G1, hR2, hS2, hG2⟩
                obtain ⟨hP2, hD2, hB2⟩ := pair2 HP1.out HD1.out hG.out ZA hS2 hG2
                have BB := Lib.hid (same_into hS2 hG.out BA.out ZA)
                have HD2 := Lib.hid hD2; clear hD2
                have HB2 := Lib.hid hB2; clear hB2
                have HR2 := Lib.hid hR2; clear hR2
                have HP2 := Lib.hid hP2; clear hP2
                clear HS1 HP1 HR1 HD1 HF1 BA hS2 hG2 E0 E1 E23 E24 E25 PW RW BW hP hR hD HBA HB
                generalize s.write bs = t at *
                go_wp2_with fail
                refine (p_sizes HP2.out).mono ?_
                rintro e wc ⟨rfl, q, rfl⟩
                have d1 : Below wb.heap.size wb (wb.drewN q) := below_drewN (Below.refl _ _) q
                have HP3 := Lib.hid (HP2.out.same (S := fun _ => False) (Same.of_below d1) (fun _ e => e.elim))
                have HR3 := Lib.hid (HR2.out.same (S := fun _ => False) (Same.of_below d1) (fun _ e => e.elim))
                have B3 := Lib.hid (BB.out.trans (d1.mono BB.out.size))
                clear d1 HP2 HR2 BB
                generalize wb.drewN q = wc at *
                go_wp2_with fail
                refine (r_sizes HR3.out).mono ?_
                rintro e wd ⟨rfl, q2, rfl⟩
                have d1 : Below wc.heap.size wc (wc.drewN q2) := below_drewN (Below.refl _ _) q2
                have HP4 := Lib.hid (HP3.out.same (S := fun _ => False) (Same.of_below d1) (fun _ e => e.elim))
                have HR4 := Lib.hid (HR3.out.same (S := fun _ => False) (Same.of_below d1) (fun _ e => e.elim))
                have B4 := Lib.hid (B3.out.trans (d1.mono B3.out.size))
                clear d1 HP3 HR3 B3
                generalize wc.drewN q2 = wd at *
                go_wp2_with fail
                refine (p_tallies HP4.out).mono ?_
                rintro e we ⟨oa, oc, rfl, ho, d1⟩
                have HP5 := Lib.hid (HP4.out.same (S := fun _ => False) (Same.of_below d1) (fun _ e => e.elim))
                have HR5 := Lib.hid (HR4.out.same (S := fun _ => False) (Same.of_below d1) (fun _ e => e.elim))
                have B5 := Lib.hid (B4.out.trans (d1.mono B4.out.size))
                have HO := Lib.hid ho; clear ho
                clear d1 HP4 HR4 B4
                go_wp2_with fail
                refine (r_tallies HR5.out HP5.out.bd).mono ?_
                rintro e wf ⟨oa', oc', rfl, ho', d1⟩
                have HP6 := Lib.hid (HP5.out.same (S := fun _ => False) (Same.of_below d1) (fun _ e => e.elim))
                have HR6 := Lib.hid (HR5.out.same (S := fun _ => False) (Same.of_below d1) (fun _ e => e.elim))
                have B6 := Lib.hid (B5.out.trans (d1.mono B5.out.size))
                have HO2 := Lib.hid (HO.out.below d1).rd
                have HO' := Lib.hid ho'.rd; clear ho'
                clear d1 HP5 HR5 B5 HO
                generalize joinOf (t.SD ++ t.SP) (t.FD ++ t.FP) = J at *
                go_wp2_with fail
                refine (same_yes2 _ _ _ _ _ _ _ _ _ HO2.out HO'.out rfl).mono ?_
                rintro e wg ⟨rfl, q3, rfl⟩
                have d1 : Below wf.heap.size wf (wf.drewN q3) := below_drewN (Below.refl _ _) q3
                have HP7 := Lib.hid (HP6.out.same (S := fun _ => False) (Same.of_below d1) (fun _ e => e.elim))
                have HR7 := Lib.hid (HR6.out.same (S := fun _ => False) (Same.of_below d1) (fun _ e => e.elim))
                have B7 := B6.out.trans (d1.mono B6.out.size)
                clear d1 HP6 HR6 B6 HO2 HO'
                generalize wf.drewN q3 = wg at *
                have B7 := Lib.hid B7
                go_wp2_with fail
                go_roundw
                case rel => exact ⟨k + 1, F1, G1, t, by omega, by go_num, HP7, HR7, HD2, HB1, HB2, B7.out⟩
                case measure => simp [intOf]; omega
          · go_wp2_with fail
            go_ret
            exact ⟨rfl, hb⟩
      · by_cases g2 : n ≤ 60
        · have t1 : decide ((60 : Int) < (n : Int)) = false := by simp; omega
          have t2 : decide ((20000 : Int) < x) = true := by simp; omega
          clear g1
          go_wp2_with fail
          go_ret
          exact ⟨rfl, B1.out⟩
        · have t1 : decide ((60 : Int) < (n : Int)) = true := by simp; omega
          clear g1
          go_wp2_with fail
          go_ret
          exact ⟨rfl, B1.out⟩
end Go.Proofs.Ytpjiakgfegnmcaa
