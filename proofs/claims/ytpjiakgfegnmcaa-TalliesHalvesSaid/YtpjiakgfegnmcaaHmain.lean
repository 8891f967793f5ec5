/- The statement TalliesHalves gives true. -/
import Derived.Test.YtpjiakgfegnmcaaHwalk
import Derived.Test.YtpjiakgfegnmcaaCrash3
import Derived.Deep.Cut
namespace Go.Proofs.Ytpjiakgfegnmcaa
open Go.RowKit

/-- Reslicing from the front to H, of capacity H. -/
theorem cut3_eq {w : World} (t e : TypeId) (i : TypeInfo) (ht : Try.prog.underlying t = some (.slice e)) (hi : Try.prog.info? e = some i) (hs : i.size = 1) {xa : Option Addr} {n c : Nat} {xs : List Value} (hrd : RdA w 1 xa n c xs) (H : Nat) (h2 : H ≤ n) :
    ∃ a', (∀ W, (Instr.sliceAt t (.slice xa n c) none (some (.int .i64 (H : Int))) (some (.int .i64 (H : Int)))).run Try.prog W = .ok (.slice a' H H) W) ∧ RdA w 1 a' H H (xs.take H) := by
  have hnc := hrd.2.1
  have hx : RdA w 1 xa H H (xs.take H) := by
    have hl := hrd.1
    refine ⟨by rw [List.length_take]; omega, Nat.le_refl _, by have := hrd.2.2.1; omega, ?_⟩
    rcases hrd.2.2.2 with h0 | ⟨b, off, rfl, h4⟩
    · exact .inl (by omega)
    · refine .inr ⟨b, off, rfl, fun i x hx => h4 i x ?_⟩
      rw [List.getElem?_take] at hx
      split at hx
      · exact hx
      · cases hx
  obtain ⟨a', hs', hr⟩ := RdA.sliced hx 0 H (Nat.zero_le _) (Nat.le_refl _)
  simp only [Nat.sub_zero, List.drop_zero, Nat.mul_one, List.take_take, Nat.min_self] at hs' hr
  refine ⟨a', fun W => ?_, hr⟩
  rw [← hs']
  have hel : Try.prog.elem t = e := by simp [Program.elem, ht]
  rw [run_sliceAt_slice (P := Try.prog) W t _ _ _ _ (by rw [hel]; exact ht), run_slice_any (P := Try.prog) W t xa n c (by rw [hel]; exact ht)]
  have hb : (Instr.sliceBounds true n c none (some (.int .i64 (H : Int))) (some (.int .i64 (H : Int)))).run Try.prog W = .ok (0, H, H) W := by
    simp [Instr.sliceBounds, run_sliceBound, Result.andThen, (by omega : H ≤ c)]
  rw [hb, hel]
  simp [Result.andThen, sizeOf, typeInfo, hi, hs]
theorem cutB_eq {w : World} {xa : Option Addr} {n c : Nat} {l : List UInt8} (hrd : RdB w xa n c l) (H : Nat) (h2 : H ≤ n) :
    ∃ a', (∀ W, (Instr.sliceAt 22 (.slice xa n c) none (some (.int .i64 (H : Int))) (some (.int .i64 (H : Int)))).run Try.prog W = .ok (.slice a' H H) W) ∧ RdB w a' H H (l.take H) := by
  obtain ⟨i, hi, hz0, hz1, hz2⟩ := info_parts infoByte
  obtain ⟨a', h1, h2⟩ := cut3_eq 22 5 i Try.underlying22 hi hz1 hrd H h2
  exact ⟨a', h1, by unfold RdB; rw [List.map_take]; exact h2⟩
theorem cutBB_eq {w : World} {xa : Option Addr} {n c : Nat} {ls : List (List UInt8)} (hrd : RdBB w xa n c ls) (H : Nat) (h2 : H ≤ n) :
    ∃ a', (∀ W, (Instr.sliceAt 27 (.slice xa n c) none (some (.int .i64 (H : Int))) (some (.int .i64 (H : Int)))).run Try.prog W = .ok (.slice a' H H) W) ∧ RdBB w a' H H (ls.take H) := by
  obtain ⟨i, hi, hz0, hz1, hz2⟩ := info_parts infoBytes
  obtain ⟨vs, k1, k2, k3⟩ := hrd
  obtain ⟨a', h1, h3⟩ := cut3_eq 27 22 i Try.underlying27 hi hz1 k1 H h2
  refine ⟨a', h1, vs.take H, h3, by rw [List.length_take]; omega, fun i hi => ?_⟩
  obtain ⟨ai, ci, h4, h5⟩ := k3 i (by omega)
  rw [List.getElem?_take, List.getElem?_take, if_pos hi, if_pos hi]
  exact ⟨ai, ci, h4, h5⟩

/-- A byte of a row of the call's own is turned. -/
theorem own_flip {w : World} {base : Nat} {sa : Option Addr} {n c : Nat} {l : List UInt8} (h : w.ownsRow base 5 1 (.slice sa n c) n (l.map byteV)) (i : Nat) (hi : i < n) (x : UInt8) :
    ∃ g, sa = some ⟨g, 0, none⟩ ∧ base ≤ g ∧ w.cell? ⟨g, i, none⟩ = some (.int .u8 ((l[i]?.getD 0).toNat : Int)) ∧ w.frozen? ⟨g, i, none⟩ = false ∧
      (w.setCell ⟨g, i, none⟩ (.int .u8 (x.toNat : Int))).ownsRow base 5 1 (.slice sa n c) n ((l.set i x).map byteV) ∧ w.grownBy (w.setCell ⟨g, i, none⟩ (.int .u8 (x.toNat : Int))) (Value.ownBlock (.slice sa n c)) := by
  obtain ⟨b, off, hb, hcells⟩ := (RdB.of_own h).at (by omega)
  have hoff : off = 0 := by
    rcases h.2 with ⟨h, _⟩ | ⟨g, cap, cur, h, _⟩
    · rw [hb] at h; simp at h
    · rw [hb] at h; simp at h; exact h.1.2
  subst hb
  subst hoff
  have hc := hcells i hi
  rw [Nat.zero_add] at hc
  obtain ⟨hst, hgr⟩ := h.stored i (.int .u8 (x.toNat : Int))
  have hset : (l.map byteV).set i (.int .u8 (x.toNat : Int)) = (l.set i x).map byteV := by rw [List.map_set]; rfl
  rw [hset] at hst
  exact ⟨b, rfl, (h.lt b rfl).1, hc, h.frozenAt i, hst, hgr⟩

/-- SameBytes of equal lists. -/
theorem same_yes (a : Option Addr) (n c : Nat) (ls : List (List UInt8)) (a' : Option Addr) (n' c' : Nat) (ls' : List (List UInt8)) (w : World) (hr : RdBB w a n c ls) (hr' : RdBB w a' n' c' ls') (h : ls = ls') :
    Calls Try.prog 13 #[.slice a n c, .slice a' n' c'] w fun e w' => e = .returned (.bool true) ∧ ∃ q, w' = w.drewN q := by
  refine (sameBytes_any _ _ _ _ _ _ _ _ _ hr hr').mono ?_
  rintro e w' ⟨b, rfl, hb, hq⟩
  rw [hb.2 h]
  exact ⟨rfl, hq⟩

set_option maxRecDepth 100000 in
set_option maxHeartbeats 2000000 in
theorem thalves_any (w : World) (a : Option Addr) (n c : Nat) (ls : List (List UInt8)) (bit cs cf : Int) (hr : RdBB w a n c ls) (hbit : -9223372036854775808 ≤ bit ∧ bit ≤ 9223372036854775807) (hcs : -9223372036854775808 ≤ cs ∧ cs ≤ 9223372036854775807) (hcf : -9223372036854775808 ≤ cf ∧ cf ≤ 9223372036854775807) :
    Calls Try.prog 4 #[.slice a n c, .int .i64 bit, .int .i64 cs, .int .i64 cf] w fun e w' => e = .returned (.bool true) ∧ Below w.heap.size w w' := by
  have hm := hr.maxn
  have hr0 := Lib.hid hr
  go_enter Try.func4, Try.ntmps4
  go_wp2_with fail
  refine (awake_any w).mono ?_
  rintro e w1 ⟨rfl, b1⟩
  replace hr := hr.below b1
  have B1 := Lib.hid b1; clear b1
  by_cases hn : n ≤ 30
  · have t1 : decide ((30 : Int) < (n : Int)) = false := by simp; omega
    go_wp2_with fail
    refine (long_any _ _ _ _ _ hr).mono ?_
    rintro e w' ⟨b, rfl, h3, rfl⟩
    have hl := Lib.hid hr.len
    cases b with
    | true =>
      go_wp2_with fail
      go_ret
      exact ⟨rfl, B1.out⟩
    | false =>
      have H3 := Lib.hid (h3 rfl); clear h3 t1
      go_wp2_with fail
      obtain ⟨SB, ESB⟩ : ∃ SB, Hid (SB = csOf ls) := ⟨_, rfl⟩
      obtain ⟨FB, EFB⟩ : ∃ FB, Hid (FB = cfOf ls) := ⟨_, rfl⟩
      refine (lhalves_any _ _ _ ls _ hr hn H3.out).mono ?_
      rintro e w2 ⟨sa, sc, fa, fc, ea, ec, rfl, hT, hE, b2⟩
      replace hr := hr.below b2
      have B := Lib.hid (B1.out.trans (b2.mono B1.out.size)); clear b2
      rw [← ESB.out, ← EFB.out] at hT ⊢
      have hz := B1.out.size
      have T : Hid (Two w2 w.heap.size sa SB.length sc SB fa FB.length fc FB) := ⟨own_mono hT.s hz, own_mono hT.f hz, hT.apart⟩
      have E := Lib.hid (own_mono hE hz); clear hT hE hz B1
      obtain ⟨S, hS⟩ : ∃ S, S = SB.length := ⟨_, rfl⟩
      obtain ⟨F, hF⟩ : ∃ F, F = FB.length := ⟨_, rfl⟩
      have hSl : S ≤ 302 * n := by rw [hS, ESB.out, ← hl.out]; exact csOf_bd ls H3.out
      have hFl : F = 4 * n := by rw [hF, EFB.out, ← hl.out]; exact cfOf_len ls
      rw [← hS, ← hF] at T ⊢
      have FL := Lib.hid hFl
      have hF2 : F ≤ 120 := by omega
      have hS2 : S ≤ 9060 := by omega
      have HS := Lib.hid hS; clear hS hSl
      have HF := Lib.hid hF; clear hF hFl
      have rS := RdB.of_own T.out.s
      have rF := RdB.of_own T.out.f
      have J0 : Hid (joinOf SB FB = ls) := show _ = _ by rw [ESB.out, EFB.out]; exact join_all ls (fun x hx => by have := H3.out x hx; omega)
      have JS : Hid (sOf ls = S) := show _ = _ by rw [HS.out, ESB.out, csOf_len]
      go_wp2_with fail
      refine (join_any _ _ _ SB _ _ _ FB _ rS rF (by omega) (by omega)).mono ?_
      rintro e w3 ⟨oa, oc, rfl, hO, b3⟩
      rw [J0.out] at hO ⊢
      rw [JS.out, hl.out]
      rw [hl.out] at hO
      replace hr := hr.below b3
      replace rS := rS.below b3
      replace rF := rF.below b3
      have T2 : Hid (Two w3 w.heap.size sa S sc SB fa F fc FB) := T.out.below b3
      have E2 := Lib.hid (own_below E.out b3)
      have B2 := Lib.hid (B.out.trans (b3.mono B.out.size)); clear b3 T E B
      have hOr := hO.rd
      clear hO
      have q1 : ((S : Int) != (S : Int)) = false := by simp
      have q2 : ((4 : Int) * (n : Int) != (F : Int)) = false := by rw [FL.out]; simp
      go_wp2_with fail
      refine (same_yes _ _ _ _ _ _ _ _ _ hOr hr rfl).mono ?_
      rintro e w4 ⟨rfl, q, rfl⟩
      have hbq := below_drewN (Below.refl w3.heap.size w3) q
      replace hr := hr.below hbq
      replace rS := rS.below hbq
      replace rF := rF.below hbq
      have T : Hid (Two (w3.drewN q) w.heap.size sa S sc SB fa F fc FB) := T2.out.below hbq
      have E := Lib.hid (own_below E2.out hbq)
      have B := Lib.hid (B2.out.trans (hbq.mono B2.out.size)); clear hbq T2 E2 B2 hOr
      generalize w3.drewN q = wr at *
      by_cases hcut : (0 ≤ cs ∧ cs ≤ S) ∧ 0 ≤ cf ∧ cf ≤ F
      · obtain ⟨⟨h1, h2⟩, h3, h4⟩ := hcut
        obtain ⟨x, rfl⟩ := Int.eq_ofNat_of_zero_le h1
        obtain ⟨y, rfl⟩ := Int.eq_ofNat_of_zero_le h3
        have hxS : x ≤ S := by omega
        have hyF : y ≤ F := by omega
        clear h1 h2 h3 h4
        have p1 : decide ((0 : Int) ≤ (x : Int)) = true := by simp
        have p2 : decide ((x : Int) ≤ (S : Int)) = true := by simp; omega
        have p3 : decide ((0 : Int) ≤ (y : Int)) = true := by simp
        have p4 : decide ((y : Int) ≤ (F : Int)) = true := by simp; omega
        obtain ⟨xa, hcx, hrx⟩ := cutB_eq rS x hxS
        obtain ⟨ya, hcy, hry⟩ := cutB_eq rF y hyF
        obtain ⟨k, hk, hjk⟩ := join_cut ls (fun z hz => by have := H3.out z hz; omega) x y
        rw [← ESB.out, ← EFB.out] at hjk
        have hkl : (ls.take k).length = k := by rw [List.length_take]; omega
        rw [hl.out] at hk
        have JK := Lib.hid hjk; clear hjk
        have KL := Lib.hid hkl; clear hkl
        go_wp2_with fail
        go_region_held3 (fun _ => True) (exact trivial) (first | (go_at_call 11; refine (join_any _ _ _ (SB.take x) _ _ _ (FB.take y) _ (hrx.below (Below.refl _ _).drew) (hry.below (Below.refl _ _).drew) (by omega) (by omega)).mono ?_; rintro e w5 ⟨oa5, oc5, rfl, hO5, b5⟩))
        rw [JK.out] at hO5 ⊢
        rw [KL.out] at hO5 ⊢
        have b6 := (Below.refl wr.heap.size wr).drew.trans b5
        replace hr := hr.below b6
        have T2 := T.out.below b6
        have E2 := own_below E.out b6
        have B2 := Lib.hid (B.out.trans (b6.mono B.out.size)); clear b6 b5 T E B rS rF hcx hcy hrx hry p1 p2 p3 p4
        have hO6 := hO5.rd
        clear hO5
        obtain ⟨la, hcl, hrl⟩ := cutBB_eq hr k hk
        have p5 : decide ((n : Int) < (k : Int)) = false := by simp; omega
        go_wp2_with fail
        refine (same_yes _ _ _ _ _ _ _ _ _ hO6 hrl rfl).mono ?_
        rintro e w6 ⟨rfl, q6, rfl⟩
        have hbq := below_drewN (Below.refl w5.heap.size w5) q6
        replace hr := hr.below hbq
        have T : Hid (Two (w5.drewN q6) w.heap.size sa S sc SB fa F fc FB) := T2.below hbq
        have E := Lib.hid (own_below E2 hbq)
        have B := Lib.hid (B2.out.trans (hbq.mono B2.out.size)); clear hbq T2 E2 B2 hO6 hcl hrl wr
        generalize w5.drewN q6 = wr at *
        by_cases hb0 : bit < 0
        · have q1 : decide (bit < 0) = true := by simp; omega
          go_wp2_with fail
          go_ret
          exact ⟨rfl, B.out⟩
        · obtain ⟨f, rfl⟩ := Int.eq_ofNat_of_zero_le (show 0 ≤ bit by omega)
          have q1 : decide ((f : Int) < 0) = false := by simp
          by_cases hge : S + F ≤ f / 8
          · have q2 : decide ((S : Int) + F ≤ (f : Int) / 8) = true := by simp; omega
            go_wp2_with fail
            go_ret
            exact ⟨rfl, B.out⟩
          · have q2 : decide ((S : Int) + F ≤ (f : Int) / 8) = false := by simp; omega
            have hA : Hid ((f : Int) / 8 = ((f / 8 : Nat) : Int)) := show _ = _ by omega
            have hb8 : Hid (f % 8 < 8) := Nat.mod_lt _ (by omega)
            go_upto_region 18 with fail
            rw [hA.out]
            clear q2 hA hbit
            generalize hAe : f / 8 = A at hge ⊢
            have HA := Lib.hid hAe; clear hAe
            by_cases hlt : A < S
            · obtain ⟨g, rfl, hg0, hcell, hfz, ho, hgr⟩ := own_flip T.out.s A hlt ((SB[A]?.getD 0) ^^^ UInt8.ofNat (2 ^ (f % 8)))
              have TW : Hid (Two (wr.setCell ⟨g, A, none⟩ (.int .u8 (((SB[A]?.getD 0) ^^^ UInt8.ofNat (2 ^ (f % 8))).toNat : Int))) w.heap.size (some ⟨g, 0, none⟩) S sc (flipAt SB A (f % 8)) fa F fc FB) := T.out.growS (.inl rfl) ho hgr
              have EW := Lib.hid (own_other (by decide) E.out T.out.s hgr)
              have BW := Lib.hid (B.out.grown hgr B.out.size (fun k hk => by cases hk; exact hg0))
              have q3 : decide ((A : Int) < (S : Int)) = true := by simp; omega
              have hx := xor_bytes (SB[A]?.getD 0) (UInt8.ofNat (2 ^ (f % 8)))
              clear ho hgr T E B
              go_wp2_with fail
              go_region
              rw [mask_eq, hx]
              clear hx hr hcell hfz
              have T : Hid (Two ((wr.setCell ⟨g, A, none⟩ (.int .u8 (((SB[A]?.getD 0) ^^^ UInt8.ofNat (2 ^ (f % 8))).toNat : Int))).drew) w.heap.size (some ⟨g, 0, none⟩) S sc (flipAt SB A (f % 8)) fa F fc FB) := TW.out.below (Below.refl _ _).drew
              have E := own_below EW.out (Below.refl _ _).drew
              have B := BW.out.drew
              clear TW EW BW
              generalize (wr.setCell ⟨g, A, none⟩ (.int .u8 (((SB[A]?.getD 0) ^^^ UInt8.ofNat (2 ^ (f % 8))).toNat : Int))).drew = wz at *
              have hr := hr0.out.below B
              have HB := Lib.hid B; clear B
              obtain ⟨eb, eoff, he, hcells⟩ := (RdA.of_own E).at (by omega)
              clear E
              subst he
              have hends : Hid (∀ i, i < n + 1 → wz.cell? ⟨eb, eoff + i, none⟩ = some (.int .i64 ((csOf (ls.take i)).length : Int))) := fun i hi => hcells i _ (by
                rw [List.getElem?_map, endsOf, List.getElem?_map, List.getElem?_range hi]; rfl)
              clear hcells
              go_wp2_with fail
              go_loop [21] (fun i => ∃ k : Nat, k ≤ n ∧ i = .int .i64 k ∧ Hid ((csOf (ls.take k)).length ≤ A)) (fun i => n - (intOf i).toNat)
              case atStart => exact ⟨0, Nat.zero_le _, rfl, Lib.hid (Nat.zero_le _)⟩
              case round =>
                obtain ⟨k, hk, rfl, HK⟩ := hrel
                by_cases hkn : k < n
                · have hcell := hends.out (k + 1) (by omega)
                  have hb9 : (csOf (ls.take (k + 1))).length ≤ 9060 := by
                    have h1 := csOf_bd (ls.take (k + 1)) (fun x hx => H3.out x (List.mem_of_mem_take hx))
                    have h2 : (ls.take (k + 1)).length ≤ 30 := by rw [List.length_take, hl.out]; omega
                    omega
                  generalize hD : (csOf (ls.take (k + 1))).length = D at hcell hb9
                  have HD := Lib.hid hD; clear hD
                  by_cases hD : D ≤ A
                  · have q4 : decide ((D : Int) ≤ (A : Int)) = true := by simp; omega
                    go_wp2_with fail
                    go_round
                    case rel => exact ⟨k + 1, by omega, by go_num, Lib.hid (by rw [HD.out]; exact hD)⟩
                    case measure => simp [intOf]; omega
                  · have q4 : decide ((D : Int) ≤ (A : Int)) = false := by simp; omega
                    have hj := join_flip_stock ls (fun x hx => by have := H3.out x hx; omega) k A (f % 8) hb8.out (by rw [hl.out]; exact hkn) HK.out (by rw [HD.out]; omega)
                    rw [← ESB.out, ← EFB.out] at hj
                    have HJ := Lib.hid hj; clear hj
                    have rS := RdB.of_own T.out.s
                    have rF := RdB.of_own T.out.f
                    clear T hends
                    go_wp2_with fail
                    refine (join_any _ _ _ (flipAt SB A (f % 8)) _ _ _ FB _ rS rF (by omega) (by omega)).mono ?_
                    rintro e w7 ⟨oa7, oc7, rfl, hO, b7⟩
                    rw [HJ.out] at hO ⊢
                    have hkl : (ls.take k).length = k := by rw [List.length_take, hl.out]; omega
                    rw [hkl] at hO ⊢
                    clear hkl
                    replace hr := hr.below b7
                    have HB7 := Lib.hid (HB.out.trans (b7.mono HB.out.size)); clear b7 HB rS rF
                    have hO7 := hO.rd
                    clear hO
                    obtain ⟨la, hcl, hrl⟩ := cutBB_eq hr k hk
                    go_wp2_with fail
                    refine (same_yes _ _ _ _ _ _ _ _ _ hO7 hrl rfl).mono ?_
                    rintro e w8 ⟨rfl, q8, rfl⟩
                    have HB8 := Lib.hid (below_drewN HB7.out q8); clear HB7
                    go_wp2_with fail
                    go_ret
                    exact ⟨rfl, HB8.out⟩
                · exfalso
                  have hkn : k = n := by omega
                  have h1 := HK.out
                  rw [hkn, ← hl.out, List.take_length, ← ESB.out, ← HS.out] at h1
                  omega
            · have hlt2 : A - S < F := by omega
              have eAS : (A : Int) - (S : Int) = ((A - S : Nat) : Int) := by omega
              obtain ⟨g, rfl, hg0, hcell, hfz, ho, hgr⟩ := own_flip T.out.f (A - S) hlt2 ((FB[A - S]?.getD 0) ^^^ UInt8.ofNat (2 ^ (f % 8)))
              have TW : Hid (Two (wr.setCell ⟨g, A - S, none⟩ (.int .u8 (((FB[A - S]?.getD 0) ^^^ UInt8.ofNat (2 ^ (f % 8))).toNat : Int))) w.heap.size sa S sc SB (some ⟨g, 0, none⟩) F fc (flipAt FB (A - S) (f % 8))) := T.out.growF (.inl rfl) ho hgr
              have BW := Lib.hid (B.out.grown hgr B.out.size (fun k hk => by cases hk; exact hg0))
              have q3 : decide ((A : Int) < (S : Int)) = false := by simp; omega
              have hx := xor_bytes (FB[A - S]?.getD 0) (UInt8.ofNat (2 ^ (f % 8)))
              have hge2 := Nat.le_of_not_lt hlt
              have HAS := Lib.hid eAS; clear eAS
              clear ho hgr T E B
              go_wp2_with fail
              go_region
              rw [mask_eq, hx]
              clear hx hr hcell hfz
              have T : Hid (Two ((wr.setCell ⟨g, A - S, none⟩ (.int .u8 (((FB[A - S]?.getD 0) ^^^ UInt8.ofNat (2 ^ (f % 8))).toNat : Int))).drew) w.heap.size sa S sc SB (some ⟨g, 0, none⟩) F fc (flipAt FB (A - S) (f % 8))) := TW.out.below (Below.refl _ _).drew
              have B := BW.out.drew
              clear TW BW
              generalize (wr.setCell ⟨g, A - S, none⟩ (.int .u8 (((FB[A - S]?.getD 0) ^^^ UInt8.ofNat (2 ^ (f % 8))).toNat : Int))).drew = wz at *
              have hr := hr0.out.below B
              have HB := Lib.hid B; clear B
              have rS := RdB.of_own T.out.s
              have rF := RdB.of_own T.out.f
              have hk4 : (A - S) / 4 < n := by have := FL.out; omega
              have hj := join_flip_foil ls (fun x hx => by have := H3.out x hx; omega) (A - S) (f % 8) hb8.out (by rw [hl.out, ← FL.out]; exact hlt2)
              rw [← ESB.out, ← EFB.out] at hj
              have e4 : Hid (((A : Int) - (S : Int)) / 4 = (((A - S) / 4 : Nat) : Int)) := show _ = _ by omega
              clear T
              go_upto_region 24 with fail
              rw [e4.out]
              generalize hK : (A - S) / 4 = k at hk4 hj ⊢
              have HK := Lib.hid hK; clear hK
              have HJ := Lib.hid hj; clear hj e4
              go_wp2_with fail
              refine (join_any _ _ _ SB _ _ _ (flipAt FB (A - S) (f % 8)) _ rS rF (by omega) (by omega)).mono ?_
              rintro e w7 ⟨oa7, oc7, rfl, hO, b7⟩
              rw [HJ.out] at hO ⊢
              have hkl : (ls.take k).length = k := by rw [List.length_take, hl.out]; omega
              rw [hkl] at hO ⊢
              clear hkl
              replace hr := hr.below b7
              have HB7 := Lib.hid (HB.out.trans (b7.mono HB.out.size)); clear b7 HB rS rF
              have hO7 := hO.rd
              clear hO
              obtain ⟨la, hcl, hrl⟩ := cutBB_eq hr k (by omega)
              go_wp2_with fail
              refine (same_yes _ _ _ _ _ _ _ _ _ hO7 hrl rfl).mono ?_
              rintro e w8 ⟨rfl, q8, rfl⟩
              have HB8 := Lib.hid (below_drewN HB7.out q8); clear HB7
              go_wp2_with fail
              go_ret
              exact ⟨rfl, HB8.out⟩
      · have hcut4 : cs < 0 ∨ (0 ≤ cs ∧ S < cs) ∨ (0 ≤ cs ∧ cs ≤ S ∧ cf < 0) ∨ (0 ≤ cs ∧ cs ≤ S ∧ 0 ≤ cf ∧ F < cf) := by omega
        rcases hcut4 with h1 | ⟨h1, h2⟩ | ⟨h1, h2, h3⟩ | ⟨h1, h2, h3, h4⟩
        · have p1 : decide (0 ≤ cs) = false := by simp; omega
          by_cases hb0 : bit < 0
          · have q1 : decide (bit < 0) = true := by simp; omega
            go_wp2_with fail
            go_ret
            exact ⟨rfl, B.out⟩
          · obtain ⟨f, rfl⟩ := Int.eq_ofNat_of_zero_le (show 0 ≤ bit by omega)
            have q1 : decide ((f : Int) < 0) = false := by simp
            by_cases hge : S + F ≤ f / 8
            · have q2 : decide ((S : Int) + F ≤ (f : Int) / 8) = true := by simp; omega
              go_wp2_with fail
              go_ret
              exact ⟨rfl, B.out⟩
            · have q2 : decide ((S : Int) + F ≤ (f : Int) / 8) = false := by simp; omega
              have hA : Hid ((f : Int) / 8 = ((f / 8 : Nat) : Int)) := show _ = _ by omega
              have hb8 : Hid (f % 8 < 8) := Nat.mod_lt _ (by omega)
              go_upto_region 18 with fail
              rw [hA.out]
              clear q2 hA hbit
              generalize hAe : f / 8 = A at hge ⊢
              have HA := Lib.hid hAe; clear hAe
              by_cases hlt : A < S
              · obtain ⟨g, rfl, hg0, hcell, hfz, ho, hgr⟩ := own_flip T.out.s A hlt ((SB[A]?.getD 0) ^^^ UInt8.ofNat (2 ^ (f % 8)))
                have TW : Hid (Two (wr.setCell ⟨g, A, none⟩ (.int .u8 (((SB[A]?.getD 0) ^^^ UInt8.ofNat (2 ^ (f % 8))).toNat : Int))) w.heap.size (some ⟨g, 0, none⟩) S sc (flipAt SB A (f % 8)) fa F fc FB) := T.out.growS (.inl rfl) ho hgr
                have EW := Lib.hid (own_other (by decide) E.out T.out.s hgr)
                have BW := Lib.hid (B.out.grown hgr B.out.size (fun k hk => by cases hk; exact hg0))
                have q3 : decide ((A : Int) < (S : Int)) = true := by simp; omega
                have hx := xor_bytes (SB[A]?.getD 0) (UInt8.ofNat (2 ^ (f % 8)))
                clear ho hgr T E B
                go_wp2_with fail
                go_region
                rw [mask_eq, hx]
                clear hx hr hcell hfz
                have T : Hid (Two ((wr.setCell ⟨g, A, none⟩ (.int .u8 (((SB[A]?.getD 0) ^^^ UInt8.ofNat (2 ^ (f % 8))).toNat : Int))).drew) w.heap.size (some ⟨g, 0, none⟩) S sc (flipAt SB A (f % 8)) fa F fc FB) := TW.out.below (Below.refl _ _).drew
                have E := own_below EW.out (Below.refl _ _).drew
                have B := BW.out.drew
                clear TW EW BW
                generalize (wr.setCell ⟨g, A, none⟩ (.int .u8 (((SB[A]?.getD 0) ^^^ UInt8.ofNat (2 ^ (f % 8))).toNat : Int))).drew = wz at *
                have hr := hr0.out.below B
                have HB := Lib.hid B; clear B
                obtain ⟨eb, eoff, he, hcells⟩ := (RdA.of_own E).at (by omega)
                clear E
                subst he
                have hends : Hid (∀ i, i < n + 1 → wz.cell? ⟨eb, eoff + i, none⟩ = some (.int .i64 ((csOf (ls.take i)).length : Int))) := fun i hi => hcells i _ (by
                  rw [List.getElem?_map, endsOf, List.getElem?_map, List.getElem?_range hi]; rfl)
                clear hcells
                go_wp2_with fail
                go_loop [21] (fun i => ∃ k : Nat, k ≤ n ∧ i = .int .i64 k ∧ Hid ((csOf (ls.take k)).length ≤ A)) (fun i => n - (intOf i).toNat)
                case atStart => exact ⟨0, Nat.zero_le _, rfl, Lib.hid (Nat.zero_le _)⟩
                case round =>
                  obtain ⟨k, hk, rfl, HK⟩ := hrel
                  by_cases hkn : k < n
                  · have hcell := hends.out (k + 1) (by omega)
                    have hb9 : (csOf (ls.take (k + 1))).length ≤ 9060 := by
                      have h1 := csOf_bd (ls.take (k + 1)) (fun x hx => H3.out x (List.mem_of_mem_take hx))
                      have h2 : (ls.take (k + 1)).length ≤ 30 := by rw [List.length_take, hl.out]; omega
                      omega
                    generalize hD : (csOf (ls.take (k + 1))).length = D at hcell hb9
                    have HD := Lib.hid hD; clear hD
                    by_cases hD : D ≤ A
                    · have q4 : decide ((D : Int) ≤ (A : Int)) = true := by simp; omega
                      go_wp2_with fail
                      go_round
                      case rel => exact ⟨k + 1, by omega, by go_num, Lib.hid (by rw [HD.out]; exact hD)⟩
                      case measure => simp [intOf]; omega
                    · have q4 : decide ((D : Int) ≤ (A : Int)) = false := by simp; omega
                      have hj := join_flip_stock ls (fun x hx => by have := H3.out x hx; omega) k A (f % 8) hb8.out (by rw [hl.out]; exact hkn) HK.out (by rw [HD.out]; omega)
                      rw [← ESB.out, ← EFB.out] at hj
                      have HJ := Lib.hid hj; clear hj
                      have rS := RdB.of_own T.out.s
                      have rF := RdB.of_own T.out.f
                      clear T hends
                      go_wp2_with fail
                      refine (join_any _ _ _ (flipAt SB A (f % 8)) _ _ _ FB _ rS rF (by omega) (by omega)).mono ?_
                      rintro e w7 ⟨oa7, oc7, rfl, hO, b7⟩
                      rw [HJ.out] at hO ⊢
                      have hkl : (ls.take k).length = k := by rw [List.length_take, hl.out]; omega
                      rw [hkl] at hO ⊢
                      clear hkl
                      replace hr := hr.below b7
                      have HB7 := Lib.hid (HB.out.trans (b7.mono HB.out.size)); clear b7 HB rS rF
                      have hO7 := hO.rd
                      clear hO
                      obtain ⟨la, hcl, hrl⟩ := cutBB_eq hr k hk
                      go_wp2_with fail
                      refine (same_yes _ _ _ _ _ _ _ _ _ hO7 hrl rfl).mono ?_
                      rintro e w8 ⟨rfl, q8, rfl⟩
                      have HB8 := Lib.hid (below_drewN HB7.out q8); clear HB7
                      go_wp2_with fail
                      go_ret
                      exact ⟨rfl, HB8.out⟩
                  · exfalso
                    have hkn : k = n := by omega
                    have h1 := HK.out
                    rw [hkn, ← hl.out, List.take_length, ← ESB.out, ← HS.out] at h1
                    omega
              · have hlt2 : A - S < F := by omega
                have eAS : (A : Int) - (S : Int) = ((A - S : Nat) : Int) := by omega
                obtain ⟨g, rfl, hg0, hcell, hfz, ho, hgr⟩ := own_flip T.out.f (A - S) hlt2 ((FB[A - S]?.getD 0) ^^^ UInt8.ofNat (2 ^ (f % 8)))
                have TW : Hid (Two (wr.setCell ⟨g, A - S, none⟩ (.int .u8 (((FB[A - S]?.getD 0) ^^^ UInt8.ofNat (2 ^ (f % 8))).toNat : Int))) w.heap.size sa S sc SB (some ⟨g, 0, none⟩) F fc (flipAt FB (A - S) (f % 8))) := T.out.growF (.inl rfl) ho hgr
                have BW := Lib.hid (B.out.grown hgr B.out.size (fun k hk => by cases hk; exact hg0))
                have q3 : decide ((A : Int) < (S : Int)) = false := by simp; omega
                have hx := xor_bytes (FB[A - S]?.getD 0) (UInt8.ofNat (2 ^ (f % 8)))
                have hge2 := Nat.le_of_not_lt hlt
                have HAS := Lib.hid eAS; clear eAS
                clear ho hgr T E B
                go_wp2_with fail
                go_region
                rw [mask_eq, hx]
                clear hx hr hcell hfz
                have T : Hid (Two ((wr.setCell ⟨g, A - S, none⟩ (.int .u8 (((FB[A - S]?.getD 0) ^^^ UInt8.ofNat (2 ^ (f % 8))).toNat : Int))).drew) w.heap.size sa S sc SB (some ⟨g, 0, none⟩) F fc (flipAt FB (A - S) (f % 8))) := TW.out.below (Below.refl _ _).drew
                have B := BW.out.drew
                clear TW BW
                generalize (wr.setCell ⟨g, A - S, none⟩ (.int .u8 (((FB[A - S]?.getD 0) ^^^ UInt8.ofNat (2 ^ (f % 8))).toNat : Int))).drew = wz at *
                have hr := hr0.out.below B
                have HB := Lib.hid B; clear B
                have rS := RdB.of_own T.out.s
                have rF := RdB.of_own T.out.f
                have hk4 : (A - S) / 4 < n := by have := FL.out; omega
                have hj := join_flip_foil ls (fun x hx => by have := H3.out x hx; omega) (A - S) (f % 8) hb8.out (by rw [hl.out, ← FL.out]; exact hlt2)
                rw [← ESB.out, ← EFB.out] at hj
                have e4 : Hid (((A : Int) - (S : Int)) / 4 = (((A - S) / 4 : Nat) : Int)) := show _ = _ by omega
                clear T
                go_upto_region 24 with fail
                rw [e4.out]
                generalize hK : (A - S) / 4 = k at hk4 hj ⊢
                have HK := Lib.hid hK; clear hK
                have HJ := Lib.hid hj; clear hj e4
                go_wp2_with fail
                refine (join_any _ _ _ SB _ _ _ (flipAt FB (A - S) (f % 8)) _ rS rF (by omega) (by omega)).mono ?_
                rintro e w7 ⟨oa7, oc7, rfl, hO, b7⟩
                rw [HJ.out] at hO ⊢
                have hkl : (ls.take k).length = k := by rw [List.length_take, hl.out]; omega
                rw [hkl] at hO ⊢
                clear hkl
                replace hr := hr.below b7
                have HB7 := Lib.hid (HB.out.trans (b7.mono HB.out.size)); clear b7 HB rS rF
                have hO7 := hO.rd
                clear hO
                obtain ⟨la, hcl, hrl⟩ := cutBB_eq hr k (by omega)
                go_wp2_with fail
                refine (same_yes _ _ _ _ _ _ _ _ _ hO7 hrl rfl).mono ?_
                rintro e w8 ⟨rfl, q8, rfl⟩
                have HB8 := Lib.hid (below_drewN HB7.out q8); clear HB7
                go_wp2_with fail
                go_ret
                exact ⟨rfl, HB8.out⟩
        · have p1 : decide (0 ≤ cs) = true := by simp; omega
          have p2 : decide (cs ≤ (S : Int)) = false := by simp; omega
          by_cases hb0 : bit < 0
          · have q1 : decide (bit < 0) = true := by simp; omega
            go_wp2_with fail
            go_ret
            exact ⟨rfl, B.out⟩
          · obtain ⟨f, rfl⟩ := Int.eq_ofNat_of_zero_le (show 0 ≤ bit by omega)
            have q1 : decide ((f : Int) < 0) = false := by simp
            by_cases hge : S + F ≤ f / 8
            · have q2 : decide ((S : Int) + F ≤ (f : Int) / 8) = true := by simp; omega
              go_wp2_with fail
              go_ret
              exact ⟨rfl, B.out⟩
            · have q2 : decide ((S : Int) + F ≤ (f : Int) / 8) = false := by simp; omega
              have hA : Hid ((f : Int) / 8 = ((f / 8 : Nat) : Int)) := show _ = _ by omega
              have hb8 : Hid (f % 8 < 8) := Nat.mod_lt _ (by omega)
              go_upto_region 18 with fail
              rw [hA.out]
              clear q2 hA hbit
              generalize hAe : f / 8 = A at hge ⊢
              have HA := Lib.hid hAe; clear hAe
              by_cases hlt : A < S
              · obtain ⟨g, rfl, hg0, hcell, hfz, ho, hgr⟩ := own_flip T.out.s A hlt ((SB[A]?.getD 0) ^^^ UInt8.ofNat (2 ^ (f % 8)))
                have TW : Hid (Two (wr.setCell ⟨g, A, none⟩ (.int .u8 (((SB[A]?.getD 0) ^^^ UInt8.ofNat (2 ^ (f % 8))).toNat : Int))) w.heap.size (some ⟨g, 0, none⟩) S sc (flipAt SB A (f % 8)) fa F fc FB) := T.out.growS (.inl rfl) ho hgr
                have EW := Lib.hid (own_other (by decide) E.out T.out.s hgr)
                have BW := Lib.hid (B.out.grown hgr B.out.size (fun k hk => by cases hk; exact hg0))
                have q3 : decide ((A : Int) < (S : Int)) = true := by simp; omega
                have hx := xor_bytes (SB[A]?.getD 0) (UInt8.ofNat (2 ^ (f % 8)))
                clear ho hgr T E B
                go_wp2_with fail
                go_region
                rw [mask_eq, hx]
                clear hx hr hcell hfz
                have T : Hid (Two ((wr.setCell ⟨g, A, none⟩ (.int .u8 (((SB[A]?.getD 0) ^^^ UInt8.ofNat (2 ^ (f % 8))).toNat : Int))).drew) w.heap.size (some ⟨g, 0, none⟩) S sc (flipAt SB A (f % 8)) fa F fc FB) := TW.out.below (Below.refl _ _).drew
                have E := own_below EW.out (Below.refl _ _).drew
                have B := BW.out.drew
                clear TW EW BW
                generalize (wr.setCell ⟨g, A, none⟩ (.int .u8 (((SB[A]?.getD 0) ^^^ UInt8.ofNat (2 ^ (f % 8))).toNat : Int))).drew = wz at *
                have hr := hr0.out.below B
                have HB := Lib.hid B; clear B
                obtain ⟨eb, eoff, he, hcells⟩ := (RdA.of_own E).at (by omega)
                clear E
                subst he
                have hends : Hid (∀ i, i < n + 1 → wz.cell? ⟨eb, eoff + i, none⟩ = some (.int .i64 ((csOf (ls.take i)).length : Int))) := fun i hi => hcells i _ (by
                  rw [List.getElem?_map, endsOf, List.getElem?_map, List.getElem?_range hi]; rfl)
                clear hcells
                go_wp2_with fail
                go_loop [21] (fun i => ∃ k : Nat, k ≤ n ∧ i = .int .i64 k ∧ Hid ((csOf (ls.take k)).length ≤ A)) (fun i => n - (intOf i).toNat)
                case atStart => exact ⟨0, Nat.zero_le _, rfl, Lib.hid (Nat.zero_le _)⟩
                case round =>
                  obtain ⟨k, hk, rfl, HK⟩ := hrel
                  by_cases hkn : k < n
                  · have hcell := hends.out (k + 1) (by omega)
                    have hb9 : (csOf (ls.take (k + 1))).length ≤ 9060 := by
                      have h1 := csOf_bd (ls.take (k + 1)) (fun x hx => H3.out x (List.mem_of_mem_take hx))
                      have h2 : (ls.take (k + 1)).length ≤ 30 := by rw [List.length_take, hl.out]; omega
                      omega
                    generalize hD : (csOf (ls.take (k + 1))).length = D at hcell hb9
                    have HD := Lib.hid hD; clear hD
                    by_cases hD : D ≤ A
                    · have q4 : decide ((D : Int) ≤ (A : Int)) = true := by simp; omega
                      go_wp2_with fail
                      go_round
                      case rel => exact ⟨k + 1, by omega, by go_num, Lib.hid (by rw [HD.out]; exact hD)⟩
                      case measure => simp [intOf]; omega
                    · have q4 : decide ((D : Int) ≤ (A : Int)) = false := by simp; omega
                      have hj := join_flip_stock ls (fun x hx => by have := H3.out x hx; omega) k A (f % 8) hb8.out (by rw [hl.out]; exact hkn) HK.out (by rw [HD.out]; omega)
                      rw [← ESB.out, ← EFB.out] at hj
                      have HJ := Lib.hid hj; clear hj
                      have rS := RdB.of_own T.out.s
                      have rF := RdB.of_own T.out.f
                      clear T hends
                      go_wp2_with fail
                      refine (join_any _ _ _ (flipAt SB A (f % 8)) _ _ _ FB _ rS rF (by omega) (by omega)).mono ?_
                      rintro e w7 ⟨oa7, oc7, rfl, hO, b7⟩
                      rw [HJ.out] at hO ⊢
                      have hkl : (ls.take k).length = k := by rw [List.length_take, hl.out]; omega
                      rw [hkl] at hO ⊢
                      clear hkl
                      replace hr := hr.below b7
                      have HB7 := Lib.hid (HB.out.trans (b7.mono HB.out.size)); clear b7 HB rS rF
                      have hO7 := hO.rd
                      clear hO
                      obtain ⟨la, hcl, hrl⟩ := cutBB_eq hr k hk
                      go_wp2_with fail
                      refine (same_yes _ _ _ _ _ _ _ _ _ hO7 hrl rfl).mono ?_
                      rintro e w8 ⟨rfl, q8, rfl⟩
                      have HB8 := Lib.hid (below_drewN HB7.out q8); clear HB7
                      go_wp2_with fail
                      go_ret
                      exact ⟨rfl, HB8.out⟩
                  · exfalso
                    have hkn : k = n := by omega
                    have h1 := HK.out
                    rw [hkn, ← hl.out, List.take_length, ← ESB.out, ← HS.out] at h1
                    omega
              · have hlt2 : A - S < F := by omega
                have eAS : (A : Int) - (S : Int) = ((A - S : Nat) : Int) := by omega
                obtain ⟨g, rfl, hg0, hcell, hfz, ho, hgr⟩ := own_flip T.out.f (A - S) hlt2 ((FB[A - S]?.getD 0) ^^^ UInt8.ofNat (2 ^ (f % 8)))
                have TW : Hid (Two (wr.setCell ⟨g, A - S, none⟩ (.int .u8 (((FB[A - S]?.getD 0) ^^^ UInt8.ofNat (2 ^ (f % 8))).toNat : Int))) w.heap.size sa S sc SB (some ⟨g, 0, none⟩) F fc (flipAt FB (A - S) (f % 8))) := T.out.growF (.inl rfl) ho hgr
                have BW := Lib.hid (B.out.grown hgr B.out.size (fun k hk => by cases hk; exact hg0))
                have q3 : decide ((A : Int) < (S : Int)) = false := by simp; omega
                have hx := xor_bytes (FB[A - S]?.getD 0) (UInt8.ofNat (2 ^ (f % 8)))
                have hge2 := Nat.le_of_not_lt hlt
                have HAS := Lib.hid eAS; clear eAS
                clear ho hgr T E B
                go_wp2_with fail
                go_region
                rw [mask_eq, hx]
                clear hx hr hcell hfz
                have T : Hid (Two ((wr.setCell ⟨g, A - S, none⟩ (.int .u8 (((FB[A - S]?.getD 0) ^^^ UInt8.ofNat (2 ^ (f % 8))).toNat : Int))).drew) w.heap.size sa S sc SB (some ⟨g, 0, none⟩) F fc (flipAt FB (A - S) (f % 8))) := TW.out.below (Below.refl _ _).drew
                have B := BW.out.drew
                clear TW BW
                generalize (wr.setCell ⟨g, A - S, none⟩ (.int .u8 (((FB[A - S]?.getD 0) ^^^ UInt8.ofNat (2 ^ (f % 8))).toNat : Int))).drew = wz at *
                have hr := hr0.out.below B
                have HB := Lib.hid B; clear B
                have rS := RdB.of_own T.out.s
                have rF := RdB.of_own T.out.f
                have hk4 : (A - S) / 4 < n := by have := FL.out; omega
                have hj := join_flip_foil ls (fun x hx => by have := H3.out x hx; omega) (A - S) (f % 8) hb8.out (by rw [hl.out, ← FL.out]; exact hlt2)
                rw [← ESB.out, ← EFB.out] at hj
                have e4 : Hid (((A : Int) - (S : Int)) / 4 = (((A - S) / 4 : Nat) : Int)) := show _ = _ by omega
                clear T
                go_upto_region 24 with fail
                rw [e4.out]
                generalize hK : (A - S) / 4 = k at hk4 hj ⊢
                have HK := Lib.hid hK; clear hK
                have HJ := Lib.hid hj; clear hj e4
                go_wp2_with fail
                refine (join_any _ _ _ SB _ _ _ (flipAt FB (A - S) (f % 8)) _ rS rF (by omega) (by omega)).mono ?_
                rintro e w7 ⟨oa7, oc7, rfl, hO, b7⟩
                rw [HJ.out] at hO ⊢
                have hkl : (ls.take k).length = k := by rw [List.length_take, hl.out]; omega
                rw [hkl] at hO ⊢
                clear hkl
                replace hr := hr.below b7
                have HB7 := Lib.hid (HB.out.trans (b7.mono HB.out.size)); clear b7 HB rS rF
                have hO7 := hO.rd
                clear hO
                obtain ⟨la, hcl, hrl⟩ := cutBB_eq hr k (by omega)
                go_wp2_with fail
                refine (same_yes _ _ _ _ _ _ _ _ _ hO7 hrl rfl).mono ?_
                rintro e w8 ⟨rfl, q8, rfl⟩
                have HB8 := Lib.hid (below_drewN HB7.out q8); clear HB7
                go_wp2_with fail
                go_ret
                exact ⟨rfl, HB8.out⟩
        · have p1 : decide (0 ≤ cs) = true := by simp; omega
          have p2 : decide (cs ≤ (S : Int)) = true := by simp; omega
          have p3 : decide (0 ≤ cf) = false := by simp; omega
          by_cases hb0 : bit < 0
          · have q1 : decide (bit < 0) = true := by simp; omega
            go_wp2_with fail
            go_ret
            exact ⟨rfl, B.out⟩
          · obtain ⟨f, rfl⟩ := Int.eq_ofNat_of_zero_le (show 0 ≤ bit by omega)
            have q1 : decide ((f : Int) < 0) = false := by simp
            by_cases hge : S + F ≤ f / 8
            · have q2 : decide ((S : Int) + F ≤ (f : Int) / 8) = true := by simp; omega
              go_wp2_with fail
              go_ret
              exact ⟨rfl, B.out⟩
            · have q2 : decide ((S : Int) + F ≤ (f : Int) / 8) = false := by simp; omega
              have hA : Hid ((f : Int) / 8 = ((f / 8 : Nat) : Int)) := show _ = _ by omega
              have hb8 : Hid (f % 8 < 8) := Nat.mod_lt _ (by omega)
              go_upto_region 18 with fail
              rw [hA.out]
              clear q2 hA hbit
              generalize hAe : f / 8 = A at hge ⊢
              have HA := Lib.hid hAe; clear hAe
              by_cases hlt : A < S
              · obtain ⟨g, rfl, hg0, hcell, hfz, ho, hgr⟩ := own_flip T.out.s A hlt ((SB[A]?.getD 0) ^^^ UInt8.ofNat (2 ^ (f % 8)))
                have TW : Hid (Two (wr.setCell ⟨g, A, none⟩ (.int .u8 (((SB[A]?.getD 0) ^^^ UInt8.ofNat (2 ^ (f % 8))).toNat : Int))) w.heap.size (some ⟨g, 0, none⟩) S sc (flipAt SB A (f % 8)) fa F fc FB) := T.out.growS (.inl rfl) ho hgr
                have EW := Lib.hid (own_other (by decide) E.out T.out.s hgr)
                have BW := Lib.hid (B.out.grown hgr B.out.size (fun k hk => by cases hk; exact hg0))
                have q3 : decide ((A : Int) < (S : Int)) = true := by simp; omega
                have hx := xor_bytes (SB[A]?.getD 0) (UInt8.ofNat (2 ^ (f % 8)))
                clear ho hgr T E B
                go_wp2_with fail
                go_region
                rw [mask_eq, hx]
                clear hx hr hcell hfz
                have T : Hid (Two ((wr.setCell ⟨g, A, none⟩ (.int .u8 (((SB[A]?.getD 0) ^^^ UInt8.ofNat (2 ^ (f % 8))).toNat : Int))).drew) w.heap.size (some ⟨g, 0, none⟩) S sc (flipAt SB A (f % 8)) fa F fc FB) := TW.out.below (Below.refl _ _).drew
                have E := own_below EW.out (Below.refl _ _).drew
                have B := BW.out.drew
                clear TW EW BW
                generalize (wr.setCell ⟨g, A, none⟩ (.int .u8 (((SB[A]?.getD 0) ^^^ UInt8.ofNat (2 ^ (f % 8))).toNat : Int))).drew = wz at *
                have hr := hr0.out.below B
                have HB := Lib.hid B; clear B
                obtain ⟨eb, eoff, he, hcells⟩ := (RdA.of_own E).at (by omega)
                clear E
                subst he
                have hends : Hid (∀ i, i < n + 1 → wz.cell? ⟨eb, eoff + i, none⟩ = some (.int .i64 ((csOf (ls.take i)).length : Int))) := fun i hi => hcells i _ (by
                  rw [List.getElem?_map, endsOf, List.getElem?_map, List.getElem?_range hi]; rfl)
                clear hcells
                go_wp2_with fail
                go_loop [21] (fun i => ∃ k : Nat, k ≤ n ∧ i = .int .i64 k ∧ Hid ((csOf (ls.take k)).length ≤ A)) (fun i => n - (intOf i).toNat)
                case atStart => exact ⟨0, Nat.zero_le _, rfl, Lib.hid (Nat.zero_le _)⟩
                case round =>
                  obtain ⟨k, hk, rfl, HK⟩ := hrel
                  by_cases hkn : k < n
                  · have hcell := hends.out (k + 1) (by omega)
                    have hb9 : (csOf (ls.take (k + 1))).length ≤ 9060 := by
                      have h1 := csOf_bd (ls.take (k + 1)) (fun x hx => H3.out x (List.mem_of_mem_take hx))
                      have h2 : (ls.take (k + 1)).length ≤ 30 := by rw [List.length_take, hl.out]; omega
                      omega
                    generalize hD : (csOf (ls.take (k + 1))).length = D at hcell hb9
                    have HD := Lib.hid hD; clear hD
                    by_cases hD : D ≤ A
                    · have q4 : decide ((D : Int) ≤ (A : Int)) = true := by simp; omega
                      go_wp2_with fail
                      go_round
                      case rel => exact ⟨k + 1, by omega, by go_num, Lib.hid (by rw [HD.out]; exact hD)⟩
                      case measure => simp [intOf]; omega
                    · have q4 : decide ((D : Int) ≤ (A : Int)) = false := by simp; omega
                      have hj := join_flip_stock ls (fun x hx => by have := H3.out x hx; omega) k A (f % 8) hb8.out (by rw [hl.out]; exact hkn) HK.out (by rw [HD.out]; omega)
                      rw [← ESB.out, ← EFB.out] at hj
                      have HJ := Lib.hid hj; clear hj
                      have rS := RdB.of_own T.out.s
                      have rF := RdB.of_own T.out.f
                      clear T hends
                      go_wp2_with fail
                      refine (join_any _ _ _ (flipAt SB A (f % 8)) _ _ _ FB _ rS rF (by omega) (by omega)).mono ?_
                      rintro e w7 ⟨oa7, oc7, rfl, hO, b7⟩
                      rw [HJ.out] at hO ⊢
                      have hkl : (ls.take k).length = k := by rw [List.length_take, hl.out]; omega
                      rw [hkl] at hO ⊢
                      clear hkl
                      replace hr := hr.below b7
                      have HB7 := Lib.hid (HB.out.trans (b7.mono HB.out.size)); clear b7 HB rS rF
                      have hO7 := hO.rd
                      clear hO
                      obtain ⟨la, hcl, hrl⟩ := cutBB_eq hr k hk
                      go_wp2_with fail
                      refine (same_yes _ _ _ _ _ _ _ _ _ hO7 hrl rfl).mono ?_
                      rintro e w8 ⟨rfl, q8, rfl⟩
                      have HB8 := Lib.hid (below_drewN HB7.out q8); clear HB7
                      go_wp2_with fail
                      go_ret
                      exact ⟨rfl, HB8.out⟩
                  · exfalso
                    have hkn : k = n := by omega
                    have h1 := HK.out
                    rw [hkn, ← hl.out, List.take_length, ← ESB.out, ← HS.out] at h1
                    omega
              · have hlt2 : A - S < F := by omega
                have eAS : (A : Int) - (S : Int) = ((A - S : Nat) : Int) := by omega
                obtain ⟨g, rfl, hg0, hcell, hfz, ho, hgr⟩ := own_flip T.out.f (A - S) hlt2 ((FB[A - S]?.getD 0) ^^^ UInt8.ofNat (2 ^ (f % 8)))
                have TW : Hid (Two (wr.setCell ⟨g, A - S, none⟩ (.int .u8 (((FB[A - S]?.getD 0) ^^^ UInt8.ofNat (2 ^ (f % 8))).toNat : Int))) w.heap.size sa S sc SB (some ⟨g, 0, none⟩) F fc (flipAt FB (A - S) (f % 8))) := T.out.growF (.inl rfl) ho hgr
                have BW := Lib.hid (B.out.grown hgr B.out.size (fun k hk => by cases hk; exact hg0))
                have q3 : decide ((A : Int) < (S : Int)) = false := by simp; omega
                have hx := xor_bytes (FB[A - S]?.getD 0) (UInt8.ofNat (2 ^ (f % 8)))
                have hge2 := Nat.le_of_not_lt hlt
                have HAS := Lib.hid eAS; clear eAS
                clear ho hgr T E B
                go_wp2_with fail
                go_region
                rw [mask_eq, hx]
                clear hx hr hcell hfz
                have T : Hid (Two ((wr.setCell ⟨g, A - S, none⟩ (.int .u8 (((FB[A - S]?.getD 0) ^^^ UInt8.ofNat (2 ^ (f % 8))).toNat : Int))).drew) w.heap.size sa S sc SB (some ⟨g, 0, none⟩) F fc (flipAt FB (A - S) (f % 8))) := TW.out.below (Below.refl _ _).drew
                have B := BW.out.drew
                clear TW BW
                generalize (wr.setCell ⟨g, A - S, none⟩ (.int .u8 (((FB[A - S]?.getD 0) ^^^ UInt8.ofNat (2 ^ (f % 8))).toNat : Int))).drew = wz at *
                have hr := hr0.out.below B
                have HB := Lib.hid B; clear B
                have rS := RdB.of_own T.out.s
                have rF := RdB.of_own T.out.f
                have hk4 : (A - S) / 4 < n := by have := FL.out; omega
                have hj := join_flip_foil ls (fun x hx => by have := H3.out x hx; omega) (A - S) (f % 8) hb8.out (by rw [hl.out, ← FL.out]; exact hlt2)
                rw [← ESB.out, ← EFB.out] at hj
                have e4 : Hid (((A : Int) - (S : Int)) / 4 = (((A - S) / 4 : Nat) : Int)) := show _ = _ by omega
                clear T
                go_upto_region 24 with fail
                rw [e4.out]
                generalize hK : (A - S) / 4 = k at hk4 hj ⊢
                have HK := Lib.hid hK; clear hK
                have HJ := Lib.hid hj; clear hj e4
                go_wp2_with fail
                refine (join_any _ _ _ SB _ _ _ (flipAt FB (A - S) (f % 8)) _ rS rF (by omega) (by omega)).mono ?_
                rintro e w7 ⟨oa7, oc7, rfl, hO, b7⟩
                rw [HJ.out] at hO ⊢
                have hkl : (ls.take k).length = k := by rw [List.length_take, hl.out]; omega
                rw [hkl] at hO ⊢
                clear hkl
                replace hr := hr.below b7
                have HB7 := Lib.hid (HB.out.trans (b7.mono HB.out.size)); clear b7 HB rS rF
                have hO7 := hO.rd
                clear hO
                obtain ⟨la, hcl, hrl⟩ := cutBB_eq hr k (by omega)
                go_wp2_with fail
                refine (same_yes _ _ _ _ _ _ _ _ _ hO7 hrl rfl).mono ?_
                rintro e w8 ⟨rfl, q8, rfl⟩
                have HB8 := Lib.hid (below_drewN HB7.out q8); clear HB7
                go_wp2_with fail
                go_ret
                exact ⟨rfl, HB8.out⟩
        · have p1 : decide (0 ≤ cs) = true := by simp; omega
          have p2 : decide (cs ≤ (S : Int)) = true := by simp; omega
          have p3 : decide (0 ≤ cf) = true := by simp; omega
          have p4 : decide (cf ≤ (F : Int)) = false := by simp; omega
          by_cases hb0 : bit < 0
          · have q1 : decide (bit < 0) = true := by simp; omega
            go_wp2_with fail
            go_ret
            exact ⟨rfl, B.out⟩
          · obtain ⟨f, rfl⟩ := Int.eq_ofNat_of_zero_le (show 0 ≤ bit by omega)
            have q1 : decide ((f : Int) < 0) = false := by simp
            by_cases hge : S + F ≤ f / 8
            · have q2 : decide ((S : Int) + F ≤ (f : Int) / 8) = true := by simp; omega
              go_wp2_with fail
              go_ret
              exact ⟨rfl, B.out⟩
            · have q2 : decide ((S : Int) + F ≤ (f : Int) / 8) = false := by simp; omega
              have hA : Hid ((f : Int) / 8 = ((f / 8 : Nat) : Int)) := show _ = _ by omega
              have hb8 : Hid (f % 8 < 8) := Nat.mod_lt _ (by omega)
              go_upto_region 18 with fail
              rw [hA.out]
              clear q2 hA hbit
              generalize hAe : f / 8 = A at hge ⊢
              have HA := Lib.hid hAe; clear hAe
              by_cases hlt : A < S
              · obtain ⟨g, rfl, hg0, hcell, hfz, ho, hgr⟩ := own_flip T.out.s A hlt ((SB[A]?.getD 0) ^^^ UInt8.ofNat (2 ^ (f % 8)))
                have TW : Hid (Two (wr.setCell ⟨g, A, none⟩ (.int .u8 (((SB[A]?.getD 0) ^^^ UInt8.ofNat (2 ^ (f % 8))).toNat : Int))) w.heap.size (some ⟨g, 0, none⟩) S sc (flipAt SB A (f % 8)) fa F fc FB) := T.out.growS (.inl rfl) ho hgr
                have EW := Lib.hid (own_other (by decide) E.out T.out.s hgr)
                have BW := Lib.hid (B.out.grown hgr B.out.size (fun k hk => by cases hk; exact hg0))
                have q3 : decide ((A : Int) < (S : Int)) = true := by simp; omega
                have hx := xor_bytes (SB[A]?.getD 0) (UInt8.ofNat (2 ^ (f % 8)))
                clear ho hgr T E B
                go_wp2_with fail
                go_region
                rw [mask_eq, hx]
                clear hx hr hcell hfz
                have T : Hid (Two ((wr.setCell ⟨g, A, none⟩ (.int .u8 (((SB[A]?.getD 0) ^^^ UInt8.ofNat (2 ^ (f % 8))).toNat : Int))).drew) w.heap.size (some ⟨g, 0, none⟩) S sc (flipAt SB A (f % 8)) fa F fc FB) := TW.out.below (Below.refl _ _).drew
                have E := own_below EW.out (Below.refl _ _).drew
                have B := BW.out.drew
                clear TW EW BW
                generalize (wr.setCell ⟨g, A, none⟩ (.int .u8 (((SB[A]?.getD 0) ^^^ UInt8.ofNat (2 ^ (f % 8))).toNat : Int))).drew = wz at *
                have hr := hr0.out.below B
                have HB := Lib.hid B; clear B
                obtain ⟨eb, eoff, he, hcells⟩ := (RdA.of_own E).at (by omega)
                clear E
                subst he
                have hends : Hid (∀ i, i < n + 1 → wz.cell? ⟨eb, eoff + i, none⟩ = some (.int .i64 ((csOf (ls.take i)).length : Int))) := fun i hi => hcells i _ (by
                  rw [List.getElem?_map, endsOf, List.getElem?_map, List.getElem?_range hi]; rfl)
                clear hcells
                go_wp2_with fail
                go_loop [21] (fun i => ∃ k : Nat, k ≤ n ∧ i = .int .i64 k ∧ Hid ((csOf (ls.take k)).length ≤ A)) (fun i => n - (intOf i).toNat)
                case atStart => exact ⟨0, Nat.zero_le _, rfl, Lib.hid (Nat.zero_le _)⟩
                case round =>
                  obtain ⟨k, hk, rfl, HK⟩ := hrel
                  by_cases hkn : k < n
                  · have hcell := hends.out (k + 1) (by omega)
                    have hb9 : (csOf (ls.take (k + 1))).length ≤ 9060 := by
                      have h1 := csOf_bd (ls.take (k + 1)) (fun x hx => H3.out x (List.mem_of_mem_take hx))
                      have h2 : (ls.take (k + 1)).length ≤ 30 := by rw [List.length_take, hl.out]; omega
                      omega
                    generalize hD : (csOf (ls.take (k + 1))).length = D at hcell hb9
                    have HD := Lib.hid hD; clear hD
                    by_cases hD : D ≤ A
                    · have q4 : decide ((D : Int) ≤ (A : Int)) = true := by simp; omega
                      go_wp2_with fail
                      go_round
                      case rel => exact ⟨k + 1, by omega, by go_num, Lib.hid (by rw [HD.out]; exact hD)⟩
                      case measure => simp [intOf]; omega
                    · have q4 : decide ((D : Int) ≤ (A : Int)) = false := by simp; omega
                      have hj := join_flip_stock ls (fun x hx => by have := H3.out x hx; omega) k A (f % 8) hb8.out (by rw [hl.out]; exact hkn) HK.out (by rw [HD.out]; omega)
                      rw [← ESB.out, ← EFB.out] at hj
                      have HJ := Lib.hid hj; clear hj
                      have rS := RdB.of_own T.out.s
                      have rF := RdB.of_own T.out.f
                      clear T hends
                      go_wp2_with fail
                      refine (join_any _ _ _ (flipAt SB A (f % 8)) _ _ _ FB _ rS rF (by omega) (by omega)).mono ?_
                      rintro e w7 ⟨oa7, oc7, rfl, hO, b7⟩
                      rw [HJ.out] at hO ⊢
                      have hkl : (ls.take k).length = k := by rw [List.length_take, hl.out]; omega
                      rw [hkl] at hO ⊢
                      clear hkl
                      replace hr := hr.below b7
                      have HB7 := Lib.hid (HB.out.trans (b7.mono HB.out.size)); clear b7 HB rS rF
                      have hO7 := hO.rd
                      clear hO
                      obtain ⟨la, hcl, hrl⟩ := cutBB_eq hr k hk
                      go_wp2_with fail
                      refine (same_yes _ _ _ _ _ _ _ _ _ hO7 hrl rfl).mono ?_
                      rintro e w8 ⟨rfl, q8, rfl⟩
                      have HB8 := Lib.hid (below_drewN HB7.out q8); clear HB7
                      go_wp2_with fail
                      go_ret
                      exact ⟨rfl, HB8.out⟩
                  · exfalso
                    have hkn : k = n := by omega
                    have h1 := HK.out
                    rw [hkn, ← hl.out, List.take_length, ← ESB.out, ← HS.out] at h1
                    omega
              · have hlt2 : A - S < F := by omega
                have eAS : (A : Int) - (S : Int) = ((A - S : Nat) : Int) := by omega
                obtain ⟨g, rfl, hg0, hcell, hfz, ho, hgr⟩ := own_flip T.out.f (A - S) hlt2 ((FB[A - S]?.getD 0) ^^^ UInt8.ofNat (2 ^ (f % 8)))
                have TW : Hid (Two (wr.setCell ⟨g, A - S, none⟩ (.int .u8 (((FB[A - S]?.getD 0) ^^^ UInt8.ofNat (2 ^ (f % 8))).toNat : Int))) w.heap.size sa S sc SB (some ⟨g, 0, none⟩) F fc (flipAt FB (A - S) (f % 8))) := T.out.growF (.inl rfl) ho hgr
                have BW := Lib.hid (B.out.grown hgr B.out.size (fun k hk => by cases hk; exact hg0))
                have q3 : decide ((A : Int) < (S : Int)) = false := by simp; omega
                have hx := xor_bytes (FB[A - S]?.getD 0) (UInt8.ofNat (2 ^ (f % 8)))
                have hge2 := Nat.le_of_not_lt hlt
                have HAS := Lib.hid eAS; clear eAS
                clear ho hgr T E B
                go_wp2_with fail
                go_region
                rw [mask_eq, hx]
                clear hx hr hcell hfz
                have T : Hid (Two ((wr.setCell ⟨g, A - S, none⟩ (.int .u8 (((FB[A - S]?.getD 0) ^^^ UInt8.ofNat (2 ^ (f % 8))).toNat : Int))).drew) w.heap.size sa S sc SB (some ⟨g, 0, none⟩) F fc (flipAt FB (A - S) (f % 8))) := TW.out.below (Below.refl _ _).drew
                have B := BW.out.drew
                clear TW BW
                generalize (wr.setCell ⟨g, A - S, none⟩ (.int .u8 (((FB[A - S]?.getD 0) ^^^ UInt8.ofNat (2 ^ (f % 8))).toNat : Int))).drew = wz at *
                have hr := hr0.out.below B
                have HB := Lib.hid B; clear B
                have rS := RdB.of_own T.out.s
                have rF := RdB.of_own T.out.f
                have hk4 : (A - S) / 4 < n := by have := FL.out; omega
                have hj := join_flip_foil ls (fun x hx => by have := H3.out x hx; omega) (A - S) (f % 8) hb8.out (by rw [hl.out, ← FL.out]; exact hlt2)
                rw [← ESB.out, ← EFB.out] at hj
                have e4 : Hid (((A : Int) - (S : Int)) / 4 = (((A - S) / 4 : Nat) : Int)) := show _ = _ by omega
                clear T
                go_upto_region 24 with fail
                rw [e4.out]
                generalize hK : (A - S) / 4 = k at hk4 hj ⊢
                have HK := Lib.hid hK; clear hK
                have HJ := Lib.hid hj; clear hj e4
                go_wp2_with fail
                refine (join_any _ _ _ SB _ _ _ (flipAt FB (A - S) (f % 8)) _ rS rF (by omega) (by omega)).mono ?_
                rintro e w7 ⟨oa7, oc7, rfl, hO, b7⟩
                rw [HJ.out] at hO ⊢
                have hkl : (ls.take k).length = k := by rw [List.length_take, hl.out]; omega
                rw [hkl] at hO ⊢
                clear hkl
                replace hr := hr.below b7
                have HB7 := Lib.hid (HB.out.trans (b7.mono HB.out.size)); clear b7 HB rS rF
                have hO7 := hO.rd
                clear hO
                obtain ⟨la, hcl, hrl⟩ := cutBB_eq hr k (by omega)
                go_wp2_with fail
                refine (same_yes _ _ _ _ _ _ _ _ _ hO7 hrl rfl).mono ?_
                rintro e w8 ⟨rfl, q8, rfl⟩
                have HB8 := Lib.hid (below_drewN HB7.out q8); clear HB7
                go_wp2_with fail
                go_ret
                exact ⟨rfl, HB8.out⟩
  · have t1 : decide ((30 : Int) < (n : Int)) = true := by simp; omega
    go_wp2_with fail
    go_ret
    exact ⟨rfl, B1.out⟩
end Go.Proofs.Ytpjiakgfegnmcaa
