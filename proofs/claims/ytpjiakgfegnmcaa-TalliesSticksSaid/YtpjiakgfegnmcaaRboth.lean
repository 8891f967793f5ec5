/- A stick of the program and a stick of the reference side by side. -/
import Derived.Test.YtpjiakgfegnmcaaRcrash2
namespace Go.Proofs.Ytpjiakgfegnmcaa
open Go.RowKit

/-- What a stick holds: both journals, durable and pending. -/
structure SSt where
  SD : List UInt8
  SP : List UInt8
  FD : List UInt8
  FP : List UInt8
def PS (w : World) (p : Nat) (F : Nat → Prop) (s : SSt) : Prop := Stk w p F (s.SD ++ s.SP) (s.FD ++ s.FP) s.SD.length s.FD.length
def RS (w : World) (q : Nat) (G : Nat → Prop) (s : SSt) : Prop := ∃ v0 v1 v2 v3, RStk w q G v0 v1 v2 v3 s.SD s.SP s.FD s.FP

theorem PS.lt {w : World} {p : Nat} {F : Nat → Prop} {s : SSt} (h : PS w p F s) : ∀ k, F k → k < w.heap.size := Stk.lt h
theorem PS.same {w w' : World} {p : Nat} {F S : Nat → Prop} {s : SSt} (h : PS w p F s) (hs : Same S w w') (hd : ∀ k, S k → ¬ F k) : PS w' p F s := Stk.same h hs hd
theorem RS.lt {w : World} {p : Nat} {G : Nat → Prop} {s : SSt} (h : RS w p G s) : ∀ k, G k → k < w.heap.size := by
  obtain ⟨_, _, _, _, h⟩ := h
  exact h.lt
theorem RS.same {w w' : World} {p : Nat} {G S : Nat → Prop} {s : SSt} (h : RS w p G s) (hs : Same S w w') (hd : ∀ k, S k → ¬ G k) : RS w' p G s := by
  obtain ⟨_, _, _, _, h⟩ := h
  exact ⟨_, _, _, _, h.same hs hd⟩
theorem PS.bd {w : World} {p : Nat} {F : Nat → Prop} {s : SSt} (h : PS w p F s) : s.SD.length + s.SP.length ≤ 16777216 ∧ s.FD.length + s.FP.length ≤ 16777216 := by
  obtain ⟨_, _, _, _, _, _, _, _, _, _, _, h8, h9⟩ := h
  rw [List.length_append] at h8 h9
  exact ⟨h8, h9⟩

/-- What an operation does to a stick. -/
def SSt.sync (s : SSt) : SSt := ⟨s.SD ++ s.SP, [], s.FD ++ s.FP, []⟩
def SSt.wok (s : SSt) (l : List UInt8) : Prop := l.length ≤ 8192 ∧ s.SD.length + s.SP.length + l.length + 2 ≤ 16777216 ∧ s.FD.length + s.FP.length + 4 ≤ 16777216
instance (s : SSt) (l : List UInt8) : Decidable (s.wok l) := by unfold SSt.wok; infer_instance
def SSt.write (s : SSt) (l : List UInt8) : SSt := if s.wok l then ⟨s.SD, s.SP ++ stockOf l, s.FD, s.FP ++ foilOf l⟩ else s
def SSt.wcode (s : SSt) (l : List UInt8) : Int := if s.wok l then 0 else 2
def SSt.cok (s : SSt) (stock foil flip : Int) : Prop := 0 ≤ stock ∧ stock ≤ (s.SP.length : Int) ∧ 0 ≤ foil ∧ foil ≤ (s.FP.length : Int) ∧ -1 ≤ flip ∧ flip < 8 * (stock + foil)
instance (s : SSt) (x y z : Int) : Decidable (s.cok x y z) := by unfold SSt.cok; infer_instance
def SSt.crash (s : SSt) (stock foil flip : Int) : SSt :=
  if s.cok stock foil flip then ⟨s.SD ++ (leftOf s.SP s.FP stock.toNat foil.toNat flip).take stock.toNat, [], s.FD ++ (leftOf s.SP s.FP stock.toNat foil.toNat flip).drop stock.toNat, []⟩ else s
def SSt.ccode (s : SSt) (stock foil flip : Int) : Int := if s.cok stock foil flip then 0 else 1

section
variable {w : World} {p : Nat} {F G : Nat → Prop} {s : SSt}

theorem p_sync (h : PS w p F s) : Calls Try.prog 17 #[.pointer (some ⟨p, 0, none⟩)] w fun e w' => e = .returned (.tuple #[]) ∧ ∃ F', PS w' p F' s.sync ∧ Same F w w' ∧ (∀ k, F' k → F k ∨ w.heap.size ≤ k) := by
  refine (sync_any w p F _ _ _ _ h).mono ?_
  rintro e w' ⟨rfl, h1, h2⟩
  refine ⟨rfl, F, ?_, ⟨h2.os, h2.tape, h2.output, h2.size, fun k hk hF => h2.block k hk (fun e => hF (by rw [e]; exact Stk.self h))⟩, fun k hk => .inl hk⟩
  unfold PS
  simpa [SSt.sync] using h1
theorem r_sync (h : RS w p G s) (hb : s.SD.length + s.SP.length ≤ 16777216 ∧ s.FD.length + s.FP.length ≤ 16777216) : Calls Try.prog 18 #[.pointer (some ⟨p, 0, none⟩)] w fun e w' => e = .returned (.tuple #[]) ∧ ∃ G', RS w' p G' s.sync ∧ Same G w w' ∧ (∀ k, G' k → G k ∨ w.heap.size ≤ k) := by
  obtain ⟨_, _, _, _, h⟩ := h
  refine (rsync_any h hb.1 hb.2).mono ?_
  rintro e w' ⟨rfl, G', u0, u1, u2, u3, h1, h2, h3⟩
  exact ⟨rfl, G', ⟨_, _, _, _, h1⟩, ⟨h2.os, h2.tape, h2.output, h2.size, fun k hk hF => h2.block k hk (fun e => hF (by rw [e]; exact h.self))⟩, h3⟩

theorem p_write (h : PS w p F s) (a : Option Addr) (n c : Nat) (l : List UInt8) (hr : RdB w a n c l) :
    Calls Try.prog 21 #[.pointer (some ⟨p, 0, none⟩), .slice a n c] w fun e w' => e = .returned (.int .i64 (s.wcode l)) ∧ ∃ F', PS w' p F' (s.write l) ∧ Same F w w' ∧ (∀ k, F' k → F k ∨ w.heap.size ≤ k) := by
  have hl := hr.len
  by_cases hw : s.wok l
  · have e1 : s.write l = ⟨s.SD, s.SP ++ stockOf l, s.FD, s.FP ++ foilOf l⟩ := if_pos hw
    have e2 : s.wcode l = 0 := if_pos hw
    rw [e1, e2]
    obtain ⟨h1, h2, h3⟩ := hw
    refine (write_yes w p F _ _ _ _ a n c l h hr (by omega) (by rw [List.length_append]; omega) (by rw [List.length_append]; omega)).mono ?_
    rintro e w' ⟨rfl, F', h4, h5, h6⟩
    refine ⟨rfl, F', ?_, h5, h6⟩
    unfold PS
    simpa [List.append_assoc] using h4
  · have e1 : s.write l = s := if_neg hw
    have e2 : s.wcode l = 2 := if_neg hw
    rw [e1, e2]
    refine (write_no w p F _ _ _ _ a n c h hr.maxn (fun hc => hw ⟨by omega, by have := hc.2.1; rw [List.length_append] at this; omega, by have := hc.2.2; rw [List.length_append] at this; omega⟩)).mono ?_
    rintro e w' ⟨rfl, rfl⟩
    exact ⟨rfl, F, h, Same.of_below (Below.refl _ _), fun k hk => .inl hk⟩
theorem r_write (h : RS w p G s) (hb : s.SD.length + s.SP.length ≤ 16777216 ∧ s.FD.length + s.FP.length ≤ 16777216) (a : Option Addr) (n c : Nat) (l : List UInt8) (hr : RdB w a n c l) :
    Calls Try.prog 22 #[.pointer (some ⟨p, 0, none⟩), .slice a n c] w fun e w' => e = .returned (.int .i64 (s.wcode l)) ∧ ∃ G', RS w' p G' (s.write l) ∧ Same G w w' ∧ (∀ k, G' k → G k ∨ w.heap.size ≤ k) := by
  have hl := hr.len
  have h0 := h
  obtain ⟨_, _, _, _, h⟩ := h
  by_cases hw : s.wok l
  · have e1 : s.write l = ⟨s.SD, s.SP ++ stockOf l, s.FD, s.FP ++ foilOf l⟩ := if_pos hw
    have e2 : s.wcode l = 0 := if_pos hw
    rw [e1, e2]
    obtain ⟨h1, h2, h3⟩ := hw
    refine (rwrite_yes h a n c l hr hb.1 hb.2 (by omega) (by omega) (by omega)).mono ?_
    rintro e w' ⟨rfl, G', u1, u3, h4, h5, h6⟩
    exact ⟨rfl, G', ⟨_, _, _, _, h4⟩, ⟨h5.os, h5.tape, h5.output, h5.size, fun k hk hF => h5.block k hk (fun e => hF (by rw [e]; exact h.self))⟩, h6⟩
  · have e1 : s.write l = s := if_neg hw
    have e2 : s.wcode l = 2 := if_neg hw
    rw [e1, e2]
    have fin : ∀ e w', (e = .returned (.int .i64 2) ∧ Below w.heap.size w w') → (e = Ending.returned (.int .i64 2) ∧ ∃ G', RS w' p G' s ∧ Same G w w' ∧ (∀ k, G' k → G k ∨ w.heap.size ≤ k)) := by
      rintro e w' ⟨rfl, hbw⟩
      exact ⟨rfl, G, h0.same (S := fun _ => False) (Same.of_below hbw) (fun _ e => e.elim), Same.of_below hbw, fun k hk => .inl hk⟩
    by_cases h1 : n ≤ 8192
    · by_cases h2 : s.SD.length + s.SP.length + n + 2 ≤ 16777216
      · exact (rwrite_no2 h a n c l hr hb.1 hb.2 h1 h2 (fun h3 => hw ⟨by omega, by omega, h3⟩)).mono fin
      · exact (rwrite_no1 h a n c l hr hb.1 hb.2 h1 h2).mono fin
    · refine (rwrite_big (w := w) (p := p) a n c h1 hr.maxn).mono ?_
      rintro e w' ⟨rfl, rfl⟩
      exact fin _ _ ⟨rfl, Below.refl _ _⟩

theorem p_crash (h : PS w p F s) (x y z : Int) :
    Calls Try.prog 19 #[.pointer (some ⟨p, 0, none⟩), .int .i64 x, .int .i64 y, .int .i64 z] w fun e w' => e = .returned (.int .i64 (s.ccode x y z)) ∧ ∃ F', PS w' p F' (s.crash x y z) ∧ Same F w w' ∧ (∀ k, F' k → F k ∨ w.heap.size ≤ k) := by
  have hok : CrashOk (s.SD ++ s.SP) (s.FD ++ s.FP) s.SD.length s.FD.length x y z ↔ s.cok x y z := by
    unfold CrashOk SSt.cok
    rw [List.length_append, List.length_append]
    omega
  by_cases hc : s.cok x y z
  · have e1 : s.crash x y z = _ := if_pos hc
    have e2 : s.ccode x y z = 0 := if_pos hc
    rw [e1, e2]
    have hc' := hok.2 hc
    obtain ⟨h1, h2, h3, h4, h5, h6⟩ := hc
    obtain ⟨x, rfl⟩ := Int.eq_ofNat_of_zero_le h1
    obtain ⟨y, rfl⟩ := Int.eq_ofNat_of_zero_le h3
    refine (crash_yes w p F _ _ _ _ x y z h hc').mono ?_
    rintro e w' ⟨rfl, F', h7, h8, h9⟩
    refine ⟨rfl, F', ?_, h8, h9⟩
    unfold PS
    simp only [List.append_nil, Int.toNat_natCast]
    rw [left_stock _ _ _ _ _ _ (by omega) (by omega), left_foil _ _ _ _ _ _ (by omega) (by omega)]
    exact h7
  · have e1 : s.crash x y z = s := if_neg hc
    have e2 : s.ccode x y z = 1 := if_neg hc
    rw [e1, e2]
    refine (crash_no w p F _ _ _ _ x y z h (fun hh => hc (hok.1 hh))).mono ?_
    rintro e w' ⟨rfl, q, rfl⟩
    have hs : ∀ S, Same S w (w.drewN q) := fun S => Same.of_below (below_drewN (Below.refl _ _) q)
    exact ⟨rfl, F, PS.same (S := fun _ => False) h (hs _) (fun _ e => e.elim), hs _, fun k hk => .inl hk⟩
theorem r_crash (h : RS w p G s) (hb : s.SD.length + s.SP.length ≤ 16777216 ∧ s.FD.length + s.FP.length ≤ 16777216) (x y z : Int) :
    Calls Try.prog 20 #[.pointer (some ⟨p, 0, none⟩), .int .i64 x, .int .i64 y, .int .i64 z] w fun e w' => e = .returned (.int .i64 (s.ccode x y z)) ∧ ∃ G', RS w' p G' (s.crash x y z) ∧ Same G w w' ∧ (∀ k, G' k → G k ∨ w.heap.size ≤ k) := by
  have h0 := h
  obtain ⟨_, _, _, _, h⟩ := h
  by_cases hc : s.cok x y z
  · have e1 : s.crash x y z = _ := if_pos hc
    have e2 : s.ccode x y z = 0 := if_pos hc
    rw [e1, e2]
    obtain ⟨h1, h2, h3, h4, h5, h6⟩ := hc
    obtain ⟨x, rfl⟩ := Int.eq_ofNat_of_zero_le h1
    obtain ⟨y, rfl⟩ := Int.eq_ofNat_of_zero_le h3
    refine (rcrash_yes h x y z hb.1 hb.2 (by omega) (by omega) h5 h6).mono ?_
    rintro e w' ⟨rfl, G', u0, u1, u2, u3, h7, h8, h9⟩
    exact ⟨rfl, G', ⟨_, _, _, _, h7⟩, ⟨h8.os, h8.tape, h8.output, h8.size, fun k hk hF => h8.block k hk (fun e => hF (by rw [e]; exact h.self))⟩, h9⟩
  · have e1 : s.crash x y z = s := if_neg hc
    have e2 : s.ccode x y z = 1 := if_neg hc
    rw [e1, e2]
    refine (rcrash_no h x y z hb.1 hb.2 hc).mono ?_
    rintro e w' ⟨rfl, rfl⟩
    exact ⟨rfl, G, h0, Same.of_below (Below.refl _ _), fun k hk => .inl hk⟩

theorem p_sizes (h : PS w p F s) : Calls Try.prog 23 #[.pointer (some ⟨p, 0, none⟩)] w fun e w' => e = .returned (.tuple #[.int .i64 s.SD.length, .int .i64 s.SP.length, .int .i64 s.FD.length, .int .i64 s.FP.length]) ∧ ∃ q, w' = w.drewN q := by
  have hq : ∀ q, Stk (w.drewN q) p F (s.SD ++ s.SP) (s.FD ++ s.FP) s.SD.length s.FD.length := fun q => Stk.same (S := fun _ => False) h (Same.of_below (below_drewN (Below.refl _ _) q)) (fun _ e => e.elim)
  obtain ⟨sa, sc, fa, fc, g1, _, _, _, _, g6, g7, g8, g9⟩ := id h
  have P1 : ∀ q, Calls Try.prog 45 #[.pointer (some ⟨p, 0, none⟩)] (w.drewN q) fun e w' => e = .returned (.int .i64 s.SP.length) ∧ ∃ q', w' = (w.drewN q).drewN q' := by
    intro q
    obtain ⟨a, c, j, _⟩ := (hq q).j0
    refine (jpending_any _ _ _ _ _ _ _ j g6 (by omega)).mono ?_
    rintro e w' ⟨rfl, q', rfl⟩
    refine ⟨?_, q', rfl⟩
    rw [List.length_append]
    congr 2
    omega
  have P2 : ∀ q, Calls Try.prog 45 #[.pointer (some ⟨p, 2, none⟩)] (w.drewN q) fun e w' => e = .returned (.int .i64 s.FP.length) ∧ ∃ q', w' = (w.drewN q).drewN q' := by
    intro q
    obtain ⟨a, c, j, _⟩ := (hq q).j2
    refine (jpending_any _ _ _ _ _ _ _ j g7 (by omega)).mono ?_
    rintro e w' ⟨rfl, q', rfl⟩
    refine ⟨?_, q', rfl⟩
    rw [List.length_append]
    congr 2
    omega
  have e1 : w.cell? ⟨p, 1, none⟩ = some (.int .i64 s.SD.length) := by simp [World.cell?, g1]
  have e2 : w.cell? ⟨p, 3, none⟩ = some (.int .i64 s.FD.length) := by simp [World.cell?, g1]
  have H1 := Lib.hid P1; clear P1
  have H2 := Lib.hid P2; clear P2 hq h g1 g6 g7 g8 g9
  go_enter Try.func23, Try.ntmps23
  go_wp2_with fail
  go_quiet (first
    | (go_at_call_of 45 ((some ⟨p, 0, none⟩ : Option Addr)); exact Calls.quiet_of (H1.out _))
    | (go_at_call_of 45 ((some ⟨p, 2, none⟩ : Option Addr)); exact Calls.quiet_of (H2.out _)))
  go_wp2_with fail
  (try simp only [Exit.inBlock, Exit.then])
  refine bodyPost_ret (results_tmp4 rfl _ _ _) rfl ?_
  exact ⟨rfl, _, rfl⟩
end
end Go.Proofs.Ytpjiakgfegnmcaa
