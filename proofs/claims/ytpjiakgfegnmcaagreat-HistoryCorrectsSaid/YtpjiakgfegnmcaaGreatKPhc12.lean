/- Parts of the proof, in this order: HistoryCorrects gives true. -/
import Derived.Test.YtpjiakgfegnmcaaGreatKPhc11
set_option linter.unusedSimpArgs false
set_option linter.unusedVariables false
namespace Go.Proofs.YtpjiakgfegnmcaaGreat
set_option linter.unusedSimpArgs false
open Go.RowKit

theorem late_get2 (n : NoteV) (c m : Int) (sa : Option Addr) (sc : Nat) (z : Int) : (noteA (lateOf n c m) sa sc).setIfInBounds 2 (.int .i64 z) = noteA (lateOf n z m) sa sc := rfl
theorem late_get1 (n : NoteV) (c m : Int) (sa : Option Addr) (sc : Nat) (z : Int) : (noteA (lateOf n c m) sa sc).setIfInBounds 1 (.int .i64 z) = noteA (lateOf n c z) sa sc := rfl
theorem late_start (n : NoteV) (sa : Option Addr) (sc : Nat) : (((noteA n sa sc).setIfInBounds 2 (.int .i64 1)).setIfInBounds 0 (.int .i64 8)).setIfInBounds 1 (.int .i64 1) = noteA (lateOf n 1 1) sa sc := rfl
theorem lateOf_Ok {n : NoteV} (h : n.Ok) (l : List NoteV) : (lateOf n (lateC l) (lateM l)).Ok := by
  have h1 := (lateC_all l).1
  have h2 := lateM_all l
  exact { h with house := by unfold I64 lateOf; simp, num := by unfold I64; exact ⟨by show -9223372036854775808 ≤ lateM l; omega, h2.2⟩, clock := by unfold I64; exact ⟨by show -9223372036854775808 ≤ lateC l; omega, h1.2⟩ }
/-- What stands while late is made. -/
structure HcAt (w W : World) (pF p8 : Nat) (f : FrV) (n : NoteV) (sa : Option Addr) (sc : Nat) (c m : Int) : Prop where
  bel : Below w.heap.size w W
  fr : W.heap[pF]? = some (.cells #[.int .i64 f.rings, .int .i64 f.sectors, .int .i64 f.wide] 23 (0, 0))
  lt : W.heap[p8]? = some (.cells (noteA (lateOf n c m) sa sc) 51 (0, 0))
theorem HcAt.below {w W W' : World} {pF p8 : Nat} {f : FrV} {n : NoteV} {sa : Option Addr} {sc : Nat} {c m : Int} (h : HcAt w W pF p8 f n sa sc c m) (hb : Below W.heap.size W W') : HcAt w W' pF p8 f n sa sc c m :=
  ⟨h.bel.trans (hb.mono h.bel.size), below_blk hb h.fr, below_blk hb h.lt⟩
theorem HcAt.setC {w W : World} {pF p8 : Nat} {f : FrV} {n : NoteV} {sa : Option Addr} {sc : Nat} {c m : Int} (h : HcAt w W pF p8 f n sa sc c m) (hp : w.heap.size ≤ p8) (z : Int) : HcAt w (W.setCell ⟨p8, 2, none⟩ (.int .i64 z)) pF p8 f n sa sc z m := by
  have hne : p8 ≠ pF := fun e => by have := h.lt; rw [e, h.fr] at this; simp at this
  refine ⟨h.bel.grown (setCell_grown W p8 2 _) h.bel.size (fun k e => by cases e; exact hp), grown_blk (setCell_grown W p8 2 _) h.fr (fun e => hne (Option.some.inj e).symm), ?_⟩
  rw [setCell_at h.lt 2 (.int .i64 z), late_get2]
theorem HcAt.setM {w W : World} {pF p8 : Nat} {f : FrV} {n : NoteV} {sa : Option Addr} {sc : Nat} {c m : Int} (h : HcAt w W pF p8 f n sa sc c m) (hp : w.heap.size ≤ p8) (z : Int) : HcAt w (W.setCell ⟨p8, 1, none⟩ (.int .i64 z)) pF p8 f n sa sc c z := by
  have hne : p8 ≠ pF := fun e => by have := h.lt; rw [e, h.fr] at this; simp at this
  refine ⟨h.bel.grown (setCell_grown W p8 1 _) h.bel.size (fun k e => by cases e; exact hp), grown_blk (setCell_grown W p8 1 _) h.fr (fun e => hne (Option.some.inj e).symm), ?_⟩
  rw [setCell_at h.lt 1 (.int .i64 z), late_get1]

/-- What Effective gives back, as one tuple. -/
def EffT (f : FrV) (l : List NoteV) (w' : World) (a : Option Addr) (n c : Nat) (g : Int) : Prop :=
  g = 0 → ∃ es : List EvV, es.length = n ∧ RdEs w' a n c es ∧ (∀ e ∈ es, e.x.ok w') ∧ es.map (fun e => e.x.n) = eventsP l ∧ (∀ e ∈ es, e.nm = nmOf e.x.n) ∧ (checkSetP f l).1 = 0
theorem effT {f : FrV} {l : List NoteV} {w w' : World} {e : Ending} (h : EffAny f l w e w') : ∃ a n c g, e = .returned (.tuple #[.slice a n c, .int .i64 g]) ∧ EffT f l w' a n c g := by
  rcases h with ⟨_, rfl⟩ | ⟨h0, a', c', es, rfl, h1, h2, h3, h4⟩
  · exact ⟨none, 0, 0, 1, rfl, fun h => by omega⟩
  · exact ⟨a', es.length, c', 0, rfl, fun _ => ⟨es, rfl, h1, h2, h3, h4, h0⟩⟩
theorem effT_ok {f : FrV} {l : List NoteV} {w' : World} {a : Option Addr} {n c : Nat} {g : Int} (h : EffT f l w' a n c g) (hg : g = 0) : ∃ es : List EvV, es.length = n ∧ RdEs w' a n c es ∧ (∀ e ∈ es, e.x.ok w') ∧ es.map (fun e => e.x.n) = eventsP l ∧ (∀ e ∈ es, e.nm = nmOf e.x.n) ∧ (checkSetP f l).1 = 0 := h hg
theorem evs_len2 (l : List NoteV) : (eventsP l).length ≤ l.length := by
  unfold eventsP
  rw [(sortP_perm _).length_eq]
  exact List.length_filterMap_le _ _
def otherB (z : NoteV) (e : EvV) : Bool := decide (e.nm ≠ refOf z)
theorem otherB_eq (z : NoteV) (e : EvV) : otherB z e = !decide (e.nm.1 = z.refH ∧ e.nm.2 = z.refN) := by
  unfold otherB refOf
  rw [decide_not]
  congr 1
  rw [decide_eq_decide, Prod.ext_iff]
theorem filt_next (z : NoteV) {es : List EvV} {k : Nat} {x : EvV} (h : es[k]? = some x) : (es.take (k + 1)).filter (otherB z) = if otherB z x = true then (es.take k).filter (otherB z) ++ [x] else (es.take k).filter (otherB z) := by
  rw [take_snoc h, List.filter_append]
  by_cases hq : otherB z x = true
  · rw [if_pos hq, List.filter_cons_of_pos hq]; rfl
  · rw [if_neg hq, List.filter_cons_of_neg hq]; simp
theorem filt_notes (z : NoteV) {es : List EvV} (hn : ∀ e ∈ es, e.nm = nmOf e.x.n) : (es.filter (otherB z)).map evC = ((es.map (fun e => e.x.n)).filter (fun e => decide (nmOf e ≠ refOf z))).map (fun n => (nmOf n, n)) := by
  induction es with
  | nil => rfl
  | cons e es ih =>
    have he := hn e (List.mem_cons_self ..)
    have ih := ih (fun x hx => hn x (List.mem_cons_of_mem _ hx))
    rw [List.map_cons]
    by_cases hq : otherB z e = true
    · have hq2 : decide (nmOf e.x.n ≠ refOf z) = true := by rw [← he]; exact hq
      rw [List.filter_cons_of_pos hq, List.filter_cons_of_pos (p := fun e => decide (nmOf e ≠ refOf z)) hq2, List.map_cons, List.map_cons, ih, ← he]; rfl
    · have hq2 : ¬ decide (nmOf e.x.n ≠ refOf z) = true := by rw [← he]; exact hq
      rw [List.filter_cons_of_neg hq, List.filter_cons_of_neg (p := fun e => decide (nmOf e ≠ refOf z)) hq2, ih]
theorem filt_same {f : FrV} {l : List NoteV} {z : NoteV} {es fs : List EvV} (hs : (checkSetP f l).1 = 0) (hz : doneB z = false) (h1 : es.map (fun e => e.x.n) = eventsP l) (h2 : fs.map (fun e => e.x.n) = eventsP (l ++ [z])) (n1 : ∀ e ∈ es, e.nm = nmOf e.x.n) (n2 : ∀ e ∈ fs, e.nm = nmOf e.x.n) :
    (es.filter (otherB z)).map evC = (fs.filter (otherB z)).map evC := by
  rw [filt_notes z n1, filt_notes z n2, h1, h2, events_other (set_nodup (set_ok hs).2.2.2) hz]
theorem gone_other {f : FrV} {l : List NoteV} {z : NoteV} {fs : List EvV} (hs : (checkSetP f l).1 = 0) (hk : z.kind = 6) (hz : z.clock = lateC l) (h2 : fs.map (fun e => e.x.n) = eventsP (l ++ [z])) (n2 : ∀ e ∈ fs, e.nm = nmOf e.x.n) : ∀ y ∈ fs, otherB z y = true := by
  intro y hy
  unfold otherB
  rw [decide_eq_true_eq, n2 y hy]
  refine late_gone hk (fun x hx => ?_) y.x.n (by rw [← h2]; exact List.mem_map_of_mem hy)
  rw [hz]
  exact late_last hs x hx
structure FlAt (V W : World) (a : Option Addr) (c n : Nat) (es : List EvV) : Prop where
  bel : Below V.heap.size V W
  own : W.ownsRow V.heap.size 53 21 (.slice a n c) n (evCells es)
theorem FlAt.start (V : World) : FlAt V V none 0 0 [] := ⟨Below.refl _ _, World.ownsRow_nil _ _ _ _⟩
theorem FlAt.below {V W W' : World} {a : Option Addr} {c n : Nat} {es : List EvV} (h : FlAt V W a c n es) (hb : Below W.heap.size W W') : FlAt V W' a c n es := ⟨h.bel.trans (hb.mono h.bel.size), own_below h.own hb⟩
theorem FlAt.add {V W W' : World} {a a' : Option Addr} {c c' n : Nat} {es : List EvV} {e : EvV} (h : FlAt V W a c n es) (ho : W'.ownsRow V.heap.size 53 21 (.slice a' (n + 1) c') (n + 1) (evCells es ++ e.cells)) (hg : (W.alloc (.cells (evA e) 53)).grownBy W' (Value.ownBlock (.slice a n c))) : FlAt V W' a' c' (n + 1) (es ++ [e]) := by
  have bn : Below W.heap.size W (W.alloc (.cells (evA e) 53)) := (Below.refl _ _).alloc (Nat.le_refl _) _
  have h2 := h.below bn
  exact ⟨h2.bel.grown hg h2.bel.size (fun k hk => (h2.own.lt k hk).1), by rw [evCells_snoc]; exact ho⟩
theorem ok_late {W : World} {xs : List LN} {n z : NoteV} {sa : Option Addr} {sc : Nat} {c m : Int} (hz : lateOf n c m = z) (h : ∀ x ∈ xs ++ [⟨n, sa, sc⟩], x.ok W) : ∀ x ∈ xs ++ [⟨z, sa, sc⟩], x.ok W := by
  subst hz
  intro x hx
  rcases List.mem_append.1 hx with hx | hx
  · exact h x (List.mem_append_left _ hx)
  · rw [List.mem_singleton.1 hx]
    exact (h ⟨n, sa, sc⟩ (List.mem_append_right _ (List.mem_singleton.2 rfl)) : RdI W sa n.strokes.length sc n.strokes)
theorem max_case (c z : Int) : max c z = maxI c z := by
  unfold maxI
  split <;> omega

set_option maxHeartbeats 16000000 in
set_option maxRecDepth 100000 in
theorem hcor_any (f : FrV) (a : Option Addr) (nn nc : Nat) (l : List NoteV) (n : NoteV) (sa : Option Addr) (sc : Nat) (w : World) (hr : RdNs w a nn nc l) (hok : ∀ y ∈ l, y.Ok) (hs : RdI w sa n.strokes.length sc n.strokes) (hn : n.Ok) :
    Calls Tryz.prog 6 #[f.val, .slice a nn nc, .agg (noteA n sa sc)] w fun e w' => e = .returned (.bool true) ∧ Below w.heap.size w w' := by
  have hvl : f.val = .agg #[.int .i64 f.rings, .int .i64 f.sectors, .int .i64 f.wide] := rfl
  have EA := Lib.hid (fun (W : World) (a : Option Addr) (nn nc : Nat) (l : List NoteV) (hr : RdNs W a nn nc l) (hok : ∀ y ∈ l, y.Ok) => effective_any f a nn nc l W hr hok)
  rw [hvl] at EA ⊢; clear hvl
  have I43 := Lib.hid (show ∀ (m : NoteV) (a : Option Addr) (c : Nat), (Tryz.prog.info? 51).map (·.size) = some (noteA m a c).size from fun m a c => by kernel_rfl)
  have J19 : (Tryz.prog.info? 51).map (·.size) = some 19 := by kernel_rfl
  have J21 : (Tryz.prog.info? 53).map (·.size) = some 21 := by kernel_rfl
  have HOK := Lib.hid hok
  have HNO := Lib.hid hn
  have HLN := Lib.hid hr.1
  have hn63 : nn ≤ 9223372036854775807 := by have h1 := hr.2.1; have h2 := hr.2.2.1; unfold maxLen at h2; omega
  have R := Lib.hid hr
  have RS := Lib.hid hs
  obtain ⟨xs, hxs, hrl⟩ := hr.choose
  have RL := Lib.hid hrl
  have HXS := Lib.hid hxs
  have LNX := Lib.hid hrl.1
  have RLA := Lib.hid (show ∀ W, Below w.heap.size w W → RdA W 19 a nn nc (lnCells xs) from fun W hb => rdA_ls (hrl.below hb))
  have LOK := Lib.hid (show ∀ W, Below w.heap.size w W → ∀ x ∈ xs ++ [⟨n, sa, sc⟩], x.ok W from fun W hb x hx => by
    rcases List.mem_append.1 hx with hx | hx
    · exact (ls_ok hrl hx).below hb
    · rw [List.mem_singleton.1 hx]; exact RdI.below hs hb)
  clear hr hok hs hn hxs hrl
  have B0 := Lib.hid (((Below.refl w.heap.size w).alloc (Nat.le_refl _) (.cells #[.int .i64 f.rings, .int .i64 f.sectors, .int .i64 f.wide] 23)).alloc (by simp) (.cells (noteA n sa sc) 51))
  have F0 := Lib.hid (heap_before _ (.cells (noteA n sa sc) 51) _ _ (heap_last w (.cells #[.int .i64 f.rings, .int .i64 f.sectors, .int .i64 f.wide] 23)))
  have N0 := Lib.hid (heap_at (w.alloc (.cells #[.int .i64 f.rings, .int .i64 f.sectors, .int .i64 f.wide] 23)) (.cells (noteA n sa sc) 51) (w.heap.size + 1) (by simp))
  go_enter Tryz.func6, Tryz.ntmps6
  go_upto_region 1 with fail
  obtain ⟨pF, hpF⟩ : ∃ p, Hid (w.heap.size = p) := ⟨_, Lib.hid rfl⟩
  obtain ⟨p5, hp5⟩ : ∃ p, Hid (w.heap.size + 1 = p) := ⟨_, Lib.hid rfl⟩
  rw [hpF.out] at F0
  rw [hp5.out] at N0
  rw [hp5.out, hpF.out]
  generalize (w.alloc (.cells #[.int .i64 f.rings, .int .i64 f.sectors, .int .i64 f.wide] 23)).alloc (.cells (noteA n sa sc) 51) = W0 at *
  go_wp2_with fail
  refine (hawake_any _).mono ?_
  rintro e W1 ⟨rfl, b1⟩
  have B1 := Lib.hid (B0.out.trans (b1.mono B0.out.size))
  have F1 := Lib.hid (below_blk b1 F0.out)
  have N1 := Lib.hid (below_blk b1 N0.out)
  clear b1 B0 F0 N0
  go_wp2_with fail
  refine (few_any a nn nc l _ (R.out.below B1.out)).mono ?_
  rintro e W2 ⟨rfl, rfl⟩
  have c4 := cell_of N1.out 4 (.int .i64 n.kind) rfl
  have c15 := cell_of N1.out 15 (.slice sa n.strokes.length sc) rfl
  cases hq : fewB l
  · clear hq
    go_wp2_with fail
    go_ret
    exact ⟨rfl, B1.out⟩
  clear hq
  by_cases h1 : 100 < nn
  · have t1 : decide ((100 : Int) < (nn : Int)) = true := by simp; omega
    go_wp2_with fail
    go_ret
    exact ⟨rfl, B1.out⟩
  have t1 : decide ((100 : Int) < (nn : Int)) = false := by simp; omega
  have HN1 := Lib.hid h1; clear h1 hn63
  by_cases h2 : 400 < n.strokes.length
  · have t2 : decide ((400 : Int) < (n.strokes.length : Int)) = true := by simp; omega
    go_wp2_with fail
    go_ret
    exact ⟨rfl, B1.out⟩
  have t2 : decide ((400 : Int) < (n.strokes.length : Int)) = false := by simp; omega
  have HN2 := Lib.hid h2; clear h2
  by_cases hk5 : n.kind = 5
  · have k1 : (n.kind == 5) = true := by simp [hk5]
    have k2 : (n.kind != 5) = false := by simp [hk5]
    have HK := Lib.hid (show n.kind = 5 ∨ n.kind = 6 from .inl hk5)
    have HK5 := Lib.hid hk5
    clear hk5
    go_upto_region 5 with (first
      | (refine wpList_load_row rfl 51 _ rfl p5 rfl 51 (noteA n sa sc) (0, 0) _ N1.out Tryz.underlying51 rfl (I43.out _ _ _) ?_)
      | (refine wpList_store_newp _ rfl 51 _ _ rfl _ rfl _ (noteA n sa sc) rfl rfl (I43.out _ _ _) rfl (noteA_one _ _ _) ?_)
      | fail)
    clear c4 c15 k1 k2 t1 t2
    have hbt : Below W1.heap.size W1 (W1.alloc (.cells (noteA n sa sc) 51)) := (Below.refl _ _).alloc (Nat.le_refl _) _
    have B4 := Lib.hid (B1.out.trans (hbt.mono B1.out.size))
    have F4 := Lib.hid (below_blk hbt F1.out)
    have N4 := Lib.hid (heap_last W1 (.cells (noteA n sa sc) 51))
    have H8 : Hid (w.heap.size ≤ W1.heap.size) := Lib.hid B1.out.size
    have NE8 : Hid (pF ≠ W1.heap.size) := Lib.hid (by have := blk_lt F1.out; omega)
    clear hbt
    obtain ⟨p8, hp8⟩ : ∃ p, Hid (W1.heap.size = p) := ⟨_, Lib.hid rfl⟩
    rw [hp8.out] at N4 H8 NE8 ⊢
    generalize W1.alloc (.cells (noteA n sa sc) 51) = V4 at *
    clear F1 N1 B1
    have zf := frozen_of N4.out 2
    have zc := cell_of N4.out 2 (.int .i64 n.clock) rfl
    go_upto_region 6 with fail
    clear zf zc
    have G4 := setCell_grown V4 p8 2 (.int .i64 1)
    replace B4 := Lib.hid (B4.out.grown G4 B4.out.size (fun k e => by cases e; exact H8.out))
    replace F4 := Lib.hid (grown_blk G4 F4.out (fun e => NE8.out (Option.some.inj e)))
    replace N4 := Lib.hid (setCell_at N4.out 2 (.int .i64 1))
    clear G4
    generalize V4.setCell ⟨p8, 2, none⟩ (.int .i64 1) = V5 at *
    have zf := frozen_of N4.out 0
    have zc := cell_of N4.out 0 (.int .i64 n.house) rfl
    go_upto_region 7 with fail
    clear zf zc
    have G4 := setCell_grown V5 p8 0 (.int .i64 8)
    replace B4 := Lib.hid (B4.out.grown G4 B4.out.size (fun k e => by cases e; exact H8.out))
    replace F4 := Lib.hid (grown_blk G4 F4.out (fun e => NE8.out (Option.some.inj e)))
    replace N4 := Lib.hid (setCell_at N4.out 0 (.int .i64 8))
    clear G4
    generalize V5.setCell ⟨p8, 0, none⟩ (.int .i64 8) = V6 at *
    have zf := frozen_of N4.out 1
    have zc := cell_of N4.out 1 (.int .i64 n.num) rfl
    go_upto_region 8 with fail
    clear zf zc
    have G4 := setCell_grown V6 p8 1 (.int .i64 1)
    replace B4 := Lib.hid (B4.out.grown G4 B4.out.size (fun k e => by cases e; exact H8.out))
    replace F4 := Lib.hid (grown_blk G4 F4.out (fun e => NE8.out (Option.some.inj e)))
    replace N4 := Lib.hid (setCell_at N4.out 1 (.int .i64 1))
    clear G4
    generalize V6.setCell ⟨p8, 1, none⟩ (.int .i64 1) = V7 at *
    rw [late_start] at N4
    have ST : Hid (HcAt w V7 pF p8 f n sa sc (lateC (l.take 0)) (lateM (l.take 0))) := Lib.hid ⟨B4.out, F4.out, N4.out⟩
    clear B4 F4 N4
    go_wp2_with fail
    go_loopw [9] (fun i wr => ∃ k : Nat, i = .int .i64 k ∧ k ≤ nn ∧ Hid (HcAt w wr pF p8 f n sa sc (lateC (l.take k)) (lateM (l.take k)))) (fun i _ => nn - (intOf i).toNat)
    case atStart => exact ⟨0, rfl, Nat.zero_le _, ST⟩
    case round =>
      clear ST
      obtain ⟨k, rfl, hk, ST⟩ := hrel
      by_cases hlt : k < nn
      · have t0 : decide ((k : Int) < (nn : Int)) = true := by simp; omega
        obtain ⟨b, off, rfl, hat⟩ := RL.out.at (by omega)
        obtain ⟨x, Hx⟩ : ∃ x, xs[k]? = some x := ⟨_, List.getElem?_eq_getElem (by rw [LNX.out]; exact hlt)⟩
        have HLX : l[k]? = some x.n := by rw [← HXS.out, List.getElem?_map, Hx]; rfl
        obtain ⟨c, hc⟩ : ∃ z, Hid (lateC (l.take k) = z) := ⟨_, Lib.hid rfl⟩
        obtain ⟨m, hm⟩ : ∃ z, Hid (lateM (l.take k) = z) := ⟨_, Lib.hid rfl⟩
        have LC : Hid (lateC (l.take (k + 1)) = maxI c (IntKind.i64.wrap (x.n.clock + 1))) := Lib.hid (by rw [take_snoc HLX, lateC_snoc, hc.out])
        have LM : Hid (lateM (l.take (k + 1)) = if x.n.house = 8 then maxI m (IntKind.i64.wrap (x.n.num + 1)) else m) := Lib.hid (by rw [take_snoc HLX, lateM_snoc, hm.out])
        rw [hc.out, hm.out] at ST
        obtain ⟨o, ho⟩ : ∃ o, Hid (off + k * 19 = o) := ⟨_, Lib.hid rfl⟩
        have HRA := Lib.hid (show ∀ W, Below w.heap.size w W → W.rangeAt b o (x.n.cells x.sa x.sc) from fun W hb => by rw [← ho.out]; exact rangeAt_below (hat k x Hx).1 hb)
        have HIX := Lib.hid (fun W => idx_off (W := W) (c := nc) (b := b) Tryz.underlying43 J19 hlt ho.out)
        have hk64 : (k : Int) + 1 ≤ 9223372036854775807 := by have := HN1.out; omega
        clear hat Hx HLX
        go_upto_region 11 with fail
        clear t0
        try simp only [Act.put, List.setIfInBounds_toArray, List.set_cons_zero, List.set_cons_succ]
        refine wp_region_noPanic ?_
        refine wp_region_held_drew (S := fun w' => Below w.heap.size w w') (by kernel_rfl) (show Below w.heap.size w wr.drew from ST.out.bel.drew) (fun hHeld => ?_)
        have SV := Lib.hid (ST.out.below ((Below.refl wr.heap.size wr).drew))
        clear ST
        generalize wr.drew = wrd at *
        refine wpAnyH_take (i := 0) (v := .pointer (some ⟨p8, 2, none⟩)) rfl (by kernel_rfl) (by kernel_rfl) (by kernel_rfl) (fun _ _ _ h => h) (Or.inl ⟨by kernel_rfl, by intro W _; go_simp⟩) (by assumption) ?_
        try simp only [Act.put, List.getElem_toArray, List.getElem_cons_succ, List.getElem_cons_zero, List.setIfInBounds_toArray, List.set_cons_zero, List.set_cons_succ]
        refine wpAnyH_take (i := 2) (v := .slice (some ⟨b, off, none⟩) nn nc) rfl (by kernel_rfl) (by kernel_rfl) (by kernel_rfl) (fun _ _ _ h => h) (Or.inl ⟨by kernel_rfl, by intro W _; go_simp⟩) (by assumption) ?_
        try simp only [Act.put, List.getElem_toArray, List.getElem_cons_succ, List.getElem_cons_zero, List.setIfInBounds_toArray, List.set_cons_zero, List.set_cons_succ]
        refine wpAnyH_take (i := 3) (v := .int .i64 (k : Int)) rfl (by kernel_rfl) (by kernel_rfl) (by kernel_rfl) (fun _ _ _ h => h) (Or.inl ⟨by kernel_rfl, by intro W _; go_simp⟩) (by assumption) ?_
        try simp only [Act.put, List.getElem_toArray, List.getElem_cons_succ, List.getElem_cons_zero, List.setIfInBounds_toArray, List.set_cons_zero, List.set_cons_succ]
        refine wpAnyH_take (i := 4) (v := .pointer (some ⟨b, o, none⟩)) rfl (by kernel_rfl) (by kernel_rfl) (by kernel_rfl) (fun _ _ _ h => h) (Or.inl ⟨by kernel_rfl, by intro W h; have hi := HIX.out W; go_simp⟩) (by assumption) ?_
        try simp only [Act.put, List.getElem_toArray, List.getElem_cons_succ, List.getElem_cons_zero, List.setIfInBounds_toArray, List.set_cons_zero, List.set_cons_succ]
        refine wpAnyH_take (i := 5) (v := .pointer (some ⟨b, o + 2, none⟩)) rfl (by kernel_rfl) (by kernel_rfl) (by kernel_rfl) (fun _ _ _ h => h) (Or.inl ⟨by kernel_rfl, by intro W _; go_simp⟩) (by assumption) ?_
        try simp only [Act.put, List.getElem_toArray, List.getElem_cons_succ, List.getElem_cons_zero, List.setIfInBounds_toArray, List.set_cons_zero, List.set_cons_succ]
        refine wpAnyH_take (i := 6) (v := .int .i64 x.n.clock) rfl (by kernel_rfl) (by kernel_rfl) (by kernel_rfl) (fun _ _ _ h => h) (Or.inl ⟨by kernel_rfl, by intro W h; have hc := (HRA.out _ h) 2 (.int .i64 x.n.clock) rfl; go_simp⟩) (by assumption) ?_
        try simp only [Act.put, List.getElem_toArray, List.getElem_cons_succ, List.getElem_cons_zero, List.setIfInBounds_toArray, List.set_cons_zero, List.set_cons_succ]
        refine wpAnyH_take (i := 7) (v := .int .i64 (IntKind.i64.wrap (x.n.clock + 1))) rfl (by kernel_rfl) (by kernel_rfl) (by kernel_rfl) (fun _ _ _ h => h) (Or.inl ⟨by kernel_rfl, by intro W _; go_simp⟩) (by assumption) ?_
        try simp only [Act.put, List.getElem_toArray, List.getElem_cons_succ, List.getElem_cons_zero, List.setIfInBounds_toArray, List.set_cons_zero, List.set_cons_succ]
        refine wpAnyH_ready (rs := [1]) (by kernel_rfl) (by simp) ?_
        refine AllReadyH.cons rfl (fun K hK => ?_) AllReadyH.nil
        have hcl := cell_of SV.out.lt 2 (.int .i64 c) rfl
        go_simp
        clear hcl
        refine hK.out _ _ SV.out.bel (fun hHeld => ?_)
        clear hK K
        try simp only [Act.put, List.getElem_toArray, List.getElem_cons_succ, List.getElem_cons_zero, List.setIfInBounds_toArray, List.set_cons_zero, List.set_cons_succ]
        refine wpAnyH_take (i := 8) (v := .int .i64 (maxI c (IntKind.i64.wrap (x.n.clock + 1)))) rfl (by kernel_rfl) (by kernel_rfl) (by kernel_rfl) (fun _ _ _ h => h) (Or.inl ⟨by kernel_rfl, by intro W h; clear h; go_simp; exact max_case _ _⟩) (by assumption) ?_
        try simp only [Act.put, List.getElem_toArray, List.getElem_cons_succ, List.getElem_cons_zero, List.setIfInBounds_toArray, List.set_cons_zero, List.set_cons_succ]
        refine wpAnyH_take (i := 9) (v := .pointer (some ⟨p8, 2, none⟩)) rfl (by kernel_rfl) (by kernel_rfl) (by kernel_rfl) (fun _ _ _ h => h) (Or.inl ⟨by kernel_rfl, by intro W _; go_simp⟩) (by assumption) ?_
        try simp only [Act.put, List.getElem_toArray, List.getElem_cons_succ, List.getElem_cons_zero, List.setIfInBounds_toArray, List.set_cons_zero, List.set_cons_succ]
        refine wpAnyH_ready (rs := [10]) (by kernel_rfl) (by simp) ?_
        refine AllReadyH.cons rfl (fun K hK => ?_) AllReadyH.nil
        have hcl := cell_of SV.out.lt 2 (.int .i64 c) rfl
        have hfz := frozen_of SV.out.lt 2
        have ST2 := Lib.hid (SV.out.setC H8.out (maxI c (IntKind.i64.wrap (x.n.clock + 1))))
        go_simp
        clear hcl hfz
        refine hK.out _ _ ST2.out.bel (fun hHeld => ?_)
        clear hK K
        try simp only [Act.put, List.getElem_toArray, List.getElem_cons_succ, List.getElem_cons_zero, List.setIfInBounds_toArray, List.set_cons_zero, List.set_cons_succ]
        refine wpAnyH_done (by kernel_rfl) ?_ _
        refine NoPanic.normal ?_
        generalize wrd.setCell ⟨p8, 2, none⟩ (.int .i64 (maxI c (IntKind.i64.wrap (x.n.clock + 1)))) = wr2 at *
        rw [← LC.out] at ST2
        go_upto_region 12 with fail
        have hC0 : Below wr2.heap.size wr2 wr2.drew := (Below.refl _ _).drew
        have LZ := Lib.hid (show ∀ w0, Below wr2.heap.size wr2 w0 → w0.heap[p8]? = some (.cells (noteA (lateOf n (lateC (l.take (k + 1))) m) sa sc) 51 (0, 0)) from fun w0 h => below_blk h ST2.out.lt)
        refine wp_region_quiet (C := fun w' : World => Below wr2.heap.size wr2 w') (by kernel_rfl) (by kernel_rfl) hC0 ?_
        show wpQuiet _ _ _ _ (_ :: _) _
        go_big_quiet_want
        go_big_quiet_op
        go_big_quiet_on
        go_big_quiet_want
        go_big_quiet_op
        go_big_quiet_on
        go_big_quiet_want
        refine ⟨.pointer (some ⟨b, o, none⟩), fun w0 hC => ?_, ?_⟩
        · have hix := HIX.out w0
          clear hC
          go_simp
        simp only [Act.put, List.setIfInBounds_toArray, List.set_cons_zero, List.set_cons_succ]
        go_big_quiet_on
        go_big_quiet_want
        refine ⟨.pointer (some ⟨b, o, none⟩), fun w0 hC => ?_, ?_⟩
        · clear hC
          go_simp
        simp only [Act.put, List.setIfInBounds_toArray, List.set_cons_zero, List.set_cons_succ]
        go_big_quiet_on
        go_big_quiet_want
        refine ⟨.int .i64 x.n.house, fun w0 hC => ?_, ?_⟩
        · have c0 := HRA.out w0 (ST2.out.bel.trans (hC.mono ST2.out.bel.size)) 0 (.int .i64 x.n.house) rfl
          simp only [Nat.add_zero] at c0
          clear hC
          go_simp
        simp only [Act.put, List.setIfInBounds_toArray, List.set_cons_zero, List.set_cons_succ]
        go_big_quiet_on
        go_big_quiet_want
        refine ⟨.pointer (some ⟨p8, 0, none⟩), fun w0 hC => ?_, ?_⟩
        · clear hC
          go_simp
        simp only [Act.put, List.setIfInBounds_toArray, List.set_cons_zero, List.set_cons_succ]
        go_big_quiet_on
        go_big_quiet_want
        refine ⟨.int .i64 8, fun w0 hC => ?_, ?_⟩
        · have c0 := cell_of (LZ.out w0 hC) 0 (.int .i64 8) rfl
          clear hC
          go_simp
        simp only [Act.put, List.setIfInBounds_toArray, List.set_cons_zero, List.set_cons_succ]
        go_big_quiet_on
        go_big_quiet_want
        refine ⟨.bool (x.n.house == 8), fun w0 hC => ?_, ?_⟩
        · clear hC
          go_simp
        simp only [Act.put, List.setIfInBounds_toArray, List.set_cons_zero, List.set_cons_succ]
        go_big_quiet_on
        refine wpQuiet_nil ?_
        intro w' hC
        have ST := Lib.hid (ST2.out.below hC)
        clear hC ST2 LZ
        cases hh : (x.n.house == 8)
        · have hne : ¬ x.n.house = 8 := by simpa using hh
          rw [if_neg hne] at LM
          clear hh hne
          rw [← LM.out] at ST
          go_wp2_with fail
          go_roundw
          case rel => exact ⟨k + 1, by go_num, by omega, ST⟩
          case measure => simp [intOf]; omega
        · have heq : x.n.house = 8 := by simpa using hh
          rw [if_pos heq] at LM
          clear hh heq
          go_upto_region 13 with fail
          try simp only [Act.put, List.setIfInBounds_toArray, List.set_cons_zero, List.set_cons_succ]
          refine wp_region_noPanic ?_
          refine wp_region_held_drew (S := fun w' => Below w.heap.size w w') (by kernel_rfl) (show Below w.heap.size w w'.drew from ST.out.bel.drew) (fun hHeld => ?_)
          have SV := Lib.hid (ST.out.below ((Below.refl w'.heap.size w').drew))
          clear ST
          generalize w'.drew = v4 at *
          refine wpAnyH_take (i := 0) (v := .pointer (some ⟨p8, 1, none⟩)) rfl (by kernel_rfl) (by kernel_rfl) (by kernel_rfl) (fun _ _ _ h => h) (Or.inl ⟨by kernel_rfl, by intro W _; go_simp⟩) (by assumption) ?_
          try simp only [Act.put, List.getElem_toArray, List.getElem_cons_succ, List.getElem_cons_zero, List.setIfInBounds_toArray, List.set_cons_zero, List.set_cons_succ]
          refine wpAnyH_take (i := 2) (v := .slice (some ⟨b, off, none⟩) nn nc) rfl (by kernel_rfl) (by kernel_rfl) (by kernel_rfl) (fun _ _ _ h => h) (Or.inl ⟨by kernel_rfl, by intro W _; go_simp⟩) (by assumption) ?_
          try simp only [Act.put, List.getElem_toArray, List.getElem_cons_succ, List.getElem_cons_zero, List.setIfInBounds_toArray, List.set_cons_zero, List.set_cons_succ]
          refine wpAnyH_take (i := 3) (v := .int .i64 (k : Int)) rfl (by kernel_rfl) (by kernel_rfl) (by kernel_rfl) (fun _ _ _ h => h) (Or.inl ⟨by kernel_rfl, by intro W _; go_simp⟩) (by assumption) ?_
          try simp only [Act.put, List.getElem_toArray, List.getElem_cons_succ, List.getElem_cons_zero, List.setIfInBounds_toArray, List.set_cons_zero, List.set_cons_succ]
          refine wpAnyH_take (i := 4) (v := .pointer (some ⟨b, o, none⟩)) rfl (by kernel_rfl) (by kernel_rfl) (by kernel_rfl) (fun _ _ _ h => h) (Or.inl ⟨by kernel_rfl, by intro W h; have hi := HIX.out W; go_simp⟩) (by assumption) ?_
          try simp only [Act.put, List.getElem_toArray, List.getElem_cons_succ, List.getElem_cons_zero, List.setIfInBounds_toArray, List.set_cons_zero, List.set_cons_succ]
          refine wpAnyH_take (i := 5) (v := .pointer (some ⟨b, o + 1, none⟩)) rfl (by kernel_rfl) (by kernel_rfl) (by kernel_rfl) (fun _ _ _ h => h) (Or.inl ⟨by kernel_rfl, by intro W _; go_simp⟩) (by assumption) ?_
          try simp only [Act.put, List.getElem_toArray, List.getElem_cons_succ, List.getElem_cons_zero, List.setIfInBounds_toArray, List.set_cons_zero, List.set_cons_succ]
          refine wpAnyH_take (i := 6) (v := .int .i64 x.n.num) rfl (by kernel_rfl) (by kernel_rfl) (by kernel_rfl) (fun _ _ _ h => h) (Or.inl ⟨by kernel_rfl, by intro W h; have hc := (HRA.out _ h) 1 (.int .i64 x.n.num) rfl; go_simp⟩) (by assumption) ?_
          try simp only [Act.put, List.getElem_toArray, List.getElem_cons_succ, List.getElem_cons_zero, List.setIfInBounds_toArray, List.set_cons_zero, List.set_cons_succ]
          refine wpAnyH_take (i := 7) (v := .int .i64 (IntKind.i64.wrap (x.n.num + 1))) rfl (by kernel_rfl) (by kernel_rfl) (by kernel_rfl) (fun _ _ _ h => h) (Or.inl ⟨by kernel_rfl, by intro W _; go_simp⟩) (by assumption) ?_
          try simp only [Act.put, List.getElem_toArray, List.getElem_cons_succ, List.getElem_cons_zero, List.setIfInBounds_toArray, List.set_cons_zero, List.set_cons_succ]
          refine wpAnyH_ready (rs := [1]) (by kernel_rfl) (by simp) ?_
          refine AllReadyH.cons rfl (fun K hK => ?_) AllReadyH.nil
          have hcl := cell_of SV.out.lt 1 (.int .i64 m) rfl
          go_simp
          clear hcl
          refine hK.out _ _ SV.out.bel (fun hHeld => ?_)
          clear hK K
          try simp only [Act.put, List.getElem_toArray, List.getElem_cons_succ, List.getElem_cons_zero, List.setIfInBounds_toArray, List.set_cons_zero, List.set_cons_succ]
          refine wpAnyH_take (i := 8) (v := .int .i64 (maxI m (IntKind.i64.wrap (x.n.num + 1)))) rfl (by kernel_rfl) (by kernel_rfl) (by kernel_rfl) (fun _ _ _ h => h) (Or.inl ⟨by kernel_rfl, by intro W h; clear h; go_simp; exact max_case _ _⟩) (by assumption) ?_
          try simp only [Act.put, List.getElem_toArray, List.getElem_cons_succ, List.getElem_cons_zero, List.setIfInBounds_toArray, List.set_cons_zero, List.set_cons_succ]
          refine wpAnyH_take (i := 9) (v := .pointer (some ⟨p8, 1, none⟩)) rfl (by kernel_rfl) (by kernel_rfl) (by kernel_rfl) (fun _ _ _ h => h) (Or.inl ⟨by kernel_rfl, by intro W _; go_simp⟩) (by assumption) ?_
          try simp only [Act.put, List.getElem_toArray, List.getElem_cons_succ, List.getElem_cons_zero, List.setIfInBounds_toArray, List.set_cons_zero, List.set_cons_succ]
          refine wpAnyH_ready (rs := [10]) (by kernel_rfl) (by simp) ?_
          refine AllReadyH.cons rfl (fun K hK => ?_) AllReadyH.nil
          have hcl := cell_of SV.out.lt 1 (.int .i64 m) rfl
          have hfz := frozen_of SV.out.lt 1
          have ST2 := Lib.hid (SV.out.setM H8.out (maxI m (IntKind.i64.wrap (x.n.num + 1))))
          go_simp
          clear hcl hfz
          refine hK.out _ _ ST2.out.bel (fun hHeld => ?_)
          clear hK K
          try simp only [Act.put, List.getElem_toArray, List.getElem_cons_succ, List.getElem_cons_zero, List.setIfInBounds_toArray, List.set_cons_zero, List.set_cons_succ]
          refine wpAnyH_done (by kernel_rfl) ?_ _
          refine NoPanic.normal ?_
          generalize v4.setCell ⟨p8, 1, none⟩ (.int .i64 (maxI m (IntKind.i64.wrap (x.n.num + 1)))) = v5 at *
          rw [← LM.out] at ST2
          go_wp2_with fail
          go_roundw
          case rel => exact ⟨k + 1, by go_num, by omega, ST2⟩
          case measure => simp [intOf]; omega
      · have hkn : k = nn := by omega
        have t0 : decide ((k : Int) < (nn : Int)) = false := by simp; omega
        have e : l.take k = l := List.take_of_length_le (by rw [HLN.out]; omega)
        rw [e] at ST
        clear e hkn hk
        obtain ⟨z, hz⟩ : ∃ z, Hid (lateOf n (lateC l) (lateM l) = z) := ⟨_, Lib.hid rfl⟩
        have OKZ := Lib.hid (show ∀ y ∈ l ++ [z], y.Ok from fun y hy => by
          rcases List.mem_append.1 hy with hy | hy
          · exact HOK.out y hy
          · rw [List.mem_singleton.1 hy, ← hz.out]; exact lateOf_Ok HNO.out l)
        have B7 := Lib.hid ST.out.bel
        have F7 := Lib.hid ST.out.fr
        have Z7 := Lib.hid ST.out.lt
        rw [hz.out] at Z7
        clear ST
        have c0 := cell_of F7.out 0 (.int .i64 f.rings) rfl
        have c1 := cell_of F7.out 1 (.int .i64 f.sectors) rfl
        have c2 := cell_of F7.out 2 (.int .i64 f.wide) rfl
        go_wp2_with fail
        refine (EA.out wr a nn nc l (R.out.below B7.out) HOK.out).mono ?_
        rintro e W1 ⟨h1, b1⟩
        obtain ⟨a1, n1, c1', g1, rfl, q1⟩ := effT h1
        have Q1 := Lib.hid q1
        have F8 := Lib.hid (below_blk b1 F7.out)
        have Z8 := Lib.hid (below_blk b1 Z7.out)
        have B8 := Lib.hid (B7.out.trans (b1.mono B7.out.size))
        clear h1 q1 b1 B7 F7 Z7 c0 c1 c2 t0 hlt
        go_upto_region 15 with fail
        try simp only [Act.put, List.setIfInBounds_toArray, List.set_cons_zero, List.set_cons_succ]
        refine wp_region_noPanic ?_
        refine wp_region_held_drew (S := fun w' => Below W1.heap.size W1 w') (by kernel_rfl) (show Below W1.heap.size W1 W1.drew from (Below.refl _ _).drew) (fun hHeld => ?_)
        have HB := Lib.hid (show Below W1.heap.size W1 W1.drew from (Below.refl _ _).drew)
        generalize W1.drew = V at *
        apply cut_rest (P := fun (p q : Nat) (a' : Option Addr) (c' : Nat) (a'' : Option Addr) (c'' : Nat) (a2 : Option Addr) (n2 c2 : Nat) (g2 : Int) (W' : World) => Hid (Below W1.heap.size W1 W' ∧ EffT f (l ++ [z]) W' a2 n2 c2 g2))
        · intro RESTQ
          refine wpAnyH_take (i := 0) (v := .agg #[.int .i64 f.rings, .int .i64 f.sectors, .int .i64 f.wide]) rfl (by kernel_rfl) (by kernel_rfl) (by kernel_rfl) (fun _ _ _ h => h) (yields_row (by kernel_rfl) 23 _ rfl pF rfl _ 23 (0, 0) _ (fun W h => below_blk h F8.out) Tryz.underlying23 rfl (by kernel_rfl)) (by assumption) ?_
          try simp only [Act.put, List.getElem_toArray, List.getElem_cons_succ, List.getElem_cons_zero, List.setIfInBounds_toArray, List.set_cons_zero, List.set_cons_succ]
          refine wpAnyH_take (i := 2) (v := .slice a nn nc) rfl (by kernel_rfl) (by kernel_rfl) (by kernel_rfl) (fun _ _ _ h => h) (Or.inl ⟨by kernel_rfl, by intro W _; go_simp⟩) (by assumption) ?_
          try simp only [Act.put, List.getElem_toArray, List.getElem_cons_succ, List.getElem_cons_zero, List.setIfInBounds_toArray, List.set_cons_zero, List.set_cons_succ]
          refine wpAnyH_take (i := 4) (v := .agg (noteA z sa sc)) rfl (by kernel_rfl) (by kernel_rfl) (by kernel_rfl) (fun _ _ _ h => h) (yields_row (by kernel_rfl) 51 _ rfl p8 rfl _ 51 (0, 0) _ (fun W h => below_blk h Z8.out) Tryz.underlying51 rfl (I43.out _ _ _)) (by assumption) ?_
          try simp only [Act.put, List.getElem_toArray, List.getElem_cons_succ, List.getElem_cons_zero, List.setIfInBounds_toArray, List.set_cons_zero, List.set_cons_succ]
          refine wpAnyH_ready (rs := [1, 5]) (by kernel_rfl) (by simp) ?_
          refine AllReadyH.cons rfl (fun K hK => ?_) ?_
          · have hbe : Below W1.heap.size W1 (V.alloc (.cells #[] 51)) := HB.out.alloc HB.out.size _
            have o0 := World.ownsRow_lit (base := W1.heap.size) (e := 51) (size := 19) V #[] 0 HB.out.size (by unfold maxLen; omega) rfl
            have PL : Hid (V.heap.size < (V.alloc (.cells #[] 51)).heap.size) := Lib.hid (by simp)
            go_simp
            obtain ⟨p, hp⟩ : ∃ p, Hid (V.heap.size = p) := ⟨_, Lib.hid rfl⟩
            rw [hp.out] at o0 PL ⊢
            have O0 := Lib.hid o0
            replace HB := Lib.hid hbe
            clear o0 hbe
            generalize V.alloc (.cells #[] 51) = Vp at *
            refine hK.out _ _ HB.out (fun hHeld => ?_)
            clear hK K
            try simp only [Act.put, List.getElem_toArray, List.getElem_cons_succ, List.getElem_cons_zero, List.setIfInBounds_toArray, List.set_cons_zero, List.set_cons_succ]
            refine wpAnyH_ready (rs := [3, 5]) (by kernel_rfl) (by simp) ?_
            refine AllReadyH.cons rfl (fun K hK => ?_) ?_
            · obtain ⟨a', c', v2, hrun, ho, hg⟩ := run_app_nt Vp W1.heap.size _ 0 0 _ O0.out a nn nc _ ((RLA.out _ B8.out).below HB.out) (lnCells_one xs) (by have := HN1.out; omega) HB.out.size
              have O1 : Hid (v2.ownsRow W1.heap.size 51 19 (.slice a' nn c') nn (lnCells xs)) := Lib.hid (by have := ho; rwa [Array.toList_empty, List.nil_append, Nat.zero_add] at this)
              replace HB := Lib.hid (HB.out.grown hg HB.out.size (fun k hk => (O0.out.lt k hk).1))
              clear ho hg
              rw [if_pos (by kernel_rfl)]
              refine oper_append _ _ _ rfl _ _ _ rfl rfl hrun ?_
              clear hrun O0
              rw [Nat.zero_add]
              refine hK.out _ _ HB.out (fun hHeld => ?_)
              clear hK K
              try simp only [Act.put, List.getElem_toArray, List.getElem_cons_succ, List.getElem_cons_zero, List.setIfInBounds_toArray, List.set_cons_zero, List.set_cons_succ]
              refine wpAnyH_ready (rs := [5]) (by kernel_rfl) (by simp) ?_
              refine AllReadyH.cons rfl (fun K hK => ?_) AllReadyH.nil
              have hbe := (Below.refl v2.heap.size v2).alloc (Nat.le_refl _) (.cells (noteA z sa sc) 51)
              replace HB := Lib.hid (HB.out.trans (hbe.mono HB.out.size))
              have HQ := Lib.hid (heap_last v2 (.cells (noteA z sa sc) 51))
              replace O1 := Lib.hid (own_below O1.out hbe)
              refine oper_build_note _ rfl z sa sc rfl ?_
              obtain ⟨q, hq⟩ : ∃ q, Hid (v2.heap.size = q) := ⟨_, Lib.hid rfl⟩
              rw [hq.out] at HQ ⊢
              clear hbe
              generalize v2.alloc (.cells (noteA z sa sc) 51) = Vq at *
              refine hK.out _ _ HB.out (fun hHeld => ?_)
              clear hK K
              try simp only [Act.put, List.getElem_toArray, List.getElem_cons_succ, List.getElem_cons_zero, List.setIfInBounds_toArray, List.set_cons_zero, List.set_cons_succ]
              refine wpAnyH_ready (rs := [6]) (by kernel_rfl) (by simp) ?_
              refine AllReadyH.cons rfl (fun K hK => ?_) AllReadyH.nil
              obtain ⟨a'', c'', v4, hrun, ho, hg⟩ := run_app_nt Vq W1.heap.size a' nn c' _ O1.out (some ⟨q, 0, none⟩) 1 1 _ (blk_rd HQ.out) (z.cells_one sa sc) (by have := HN1.out; omega) HB.out.size
              replace HB := Lib.hid (HB.out.grown hg HB.out.size (fun k hk => (O1.out.lt k hk).1))
              have O2 : Hid (v4.ownsRow W1.heap.size 51 19 (.slice a'' (nn + 1) c'') (nn + 1) (lnCells (xs ++ [⟨z, sa, sc⟩]))) := Lib.hid (by rw [lnCells_snoc]; exact ho)
              clear ho hg
              rw [if_pos (by kernel_rfl)]
              refine oper_append _ _ _ rfl _ _ _ rfl rfl hrun ?_
              clear hrun O1 HQ
              refine hK.out _ _ HB.out (fun hHeld => ?_)
              clear hK K
              try simp only [Act.put, List.getElem_toArray, List.getElem_cons_succ, List.getElem_cons_zero, List.setIfInBounds_toArray, List.set_cons_zero, List.set_cons_succ]
              refine wpAnyH_ready (rs := [7]) (by kernel_rfl) (by simp) ?_
              refine AllReadyH.cons rfl (fun K hK => ?_) AllReadyH.nil
              have RN : Hid (RdNs v4 a'' (nn + 1) c'' (l ++ [z])) := Lib.hid (by
                have h1 := rdNs_of (RdA.of_own O2.out) (ok_late hz.out (LOK.out _ (B8.out.trans (HB.out.mono B8.out.size))))
                rwa [List.map_append, HXS.out] at h1)
              go_simp
              refine (EA.out v4 a'' (nn + 1) c'' (l ++ [z]) RN.out OKZ.out).mono ?_
              rintro e W' ⟨h1, b1⟩
              obtain ⟨a2, n2, c2, g2, rfl, q1⟩ := effT h1
              have Q2 := Lib.hid q1
              replace HB := Lib.hid (HB.out.trans (b1.mono HB.out.size))
              clear h1 q1 b1 RN O2
              refine hK.out _ _ HB.out (fun hHeld => ?_)
              clear hK K
              try simp only [Act.put, List.getElem_toArray, List.getElem_cons_succ, List.getElem_cons_zero, List.setIfInBounds_toArray, List.set_cons_zero, List.set_cons_succ]
              refine wpAnyH_take (i := 8) (v := .tuple #[.slice a2 n2 c2, .int .i64 g2]) rfl (by kernel_rfl) (by kernel_rfl) (by kernel_rfl) (fun _ _ _ h => h) (Or.inl ⟨by kernel_rfl, by intro W _; go_simp⟩) (by assumption) ?_
              try simp only [Act.put, List.getElem_toArray, List.getElem_cons_succ, List.getElem_cons_zero, List.setIfInBounds_toArray, List.set_cons_zero, List.set_cons_succ]
              refine wpAnyH_take (i := 9) (v := .slice a2 n2 c2) rfl (by kernel_rfl) (by kernel_rfl) (by kernel_rfl) (fun _ _ _ h => h) (Or.inl ⟨by kernel_rfl, by intro W _; go_simp⟩) (by assumption) ?_
              try simp only [Act.put, List.getElem_toArray, List.getElem_cons_succ, List.getElem_cons_zero, List.setIfInBounds_toArray, List.set_cons_zero, List.set_cons_succ]
              refine wpAnyH_take (i := 10) (v := .int .i64 g2) rfl (by kernel_rfl) (by kernel_rfl) (by kernel_rfl) (fun _ _ _ h => h) (Or.inl ⟨by kernel_rfl, by intro W _; go_simp⟩) (by assumption) ?_
              try simp only [Act.put, List.getElem_toArray, List.getElem_cons_succ, List.getElem_cons_zero, List.setIfInBounds_toArray, List.set_cons_zero, List.set_cons_succ]
              refine wpAnyH_take (i := 11) (oi := { dst := some 12, op := .assign (.tmp 98), type := _, pos := _, after := _, guard := none }) (v := .slice a2 n2 c2) rfl (by kernel_rfl) (by kernel_rfl) (by kernel_rfl) (fun _ _ _ h => h) (Or.inl ⟨by kernel_rfl, by intro W _; go_simp⟩) (by assumption) ?_
              try simp only [Act.put, List.getElem_toArray, List.getElem_cons_succ, List.getElem_cons_zero, List.setIfInBounds_toArray, List.set_cons_zero, List.set_cons_succ]
              refine wpAnyH_take (i := 12) (oi := { dst := some 13, op := .assign (.tmp 99), type := _, pos := _, after := _, guard := none }) (v := .int .i64 g2) rfl (by kernel_rfl) (by kernel_rfl) (by kernel_rfl) (fun _ _ _ h => h) (Or.inl ⟨by kernel_rfl, by intro W _; go_simp⟩) (by assumption) ?_
              try simp only [Act.put, List.getElem_toArray, List.getElem_cons_succ, List.getElem_cons_zero, List.setIfInBounds_toArray, List.set_cons_zero, List.set_cons_succ]
              refine wpAnyH_done (by kernel_rfl) ?_ _
              refine NoPanic.normal ?_
              exact RESTQ p q a' c' a'' c'' a2 n2 c2 g2 W' (Lib.hid ⟨HB.out, Q2.out⟩)
            · refine AllReadyH.cons rfl (fun K hK => ?_) AllReadyH.nil
              have hbe := (Below.refl Vp.heap.size Vp).alloc (Nat.le_refl _) (.cells (noteA z sa sc) 51)
              replace HB := Lib.hid (HB.out.trans (hbe.mono HB.out.size))
              have HQ := Lib.hid (heap_last Vp (.cells (noteA z sa sc) 51))
              replace O0 := Lib.hid (own_below O0.out hbe)
              have NPQ : Hid (Vp.heap.size ≠ p) := Lib.hid (by have := PL.out; omega)
              refine oper_build_note _ rfl z sa sc rfl ?_
              obtain ⟨q, hq⟩ : ∃ q, Hid (Vp.heap.size = q) := ⟨_, Lib.hid rfl⟩
              rw [hq.out] at HQ NPQ ⊢
              clear hbe
              generalize Vp.alloc (.cells (noteA z sa sc) 51) = Vq at *
              refine hK.out _ _ HB.out (fun hHeld => ?_)
              clear hK K
              try simp only [Act.put, List.getElem_toArray, List.getElem_cons_succ, List.getElem_cons_zero, List.setIfInBounds_toArray, List.set_cons_zero, List.set_cons_succ]
              refine wpAnyH_ready (rs := [3]) (by kernel_rfl) (by simp) ?_
              refine AllReadyH.cons rfl (fun K hK => ?_) AllReadyH.nil
              obtain ⟨a', c', v2, hrun, ho, hg⟩ := run_app_nt Vq W1.heap.size _ 0 0 _ O0.out a nn nc _ ((RLA.out _ B8.out).below HB.out) (lnCells_one xs) (by have := HN1.out; omega) HB.out.size
              have O1 : Hid (v2.ownsRow W1.heap.size 51 19 (.slice a' nn c') nn (lnCells xs)) := Lib.hid (by have := ho; rwa [Array.toList_empty, List.nil_append, Nat.zero_add] at this)
              replace HQ := Lib.hid (grown_blk hg HQ.out (fun e => NPQ.out (Option.some.inj e)))
              replace HB := Lib.hid (HB.out.grown hg HB.out.size (fun k hk => (O0.out.lt k hk).1))
              clear ho hg
              rw [if_pos (by kernel_rfl)]
              refine oper_append _ _ _ rfl _ _ _ rfl rfl hrun ?_
              clear hrun O0
              rw [Nat.zero_add]
              refine hK.out _ _ HB.out (fun hHeld => ?_)
              clear hK K
              try simp only [Act.put, List.getElem_toArray, List.getElem_cons_succ, List.getElem_cons_zero, List.setIfInBounds_toArray, List.set_cons_zero, List.set_cons_succ]
              refine wpAnyH_ready (rs := [6]) (by kernel_rfl) (by simp) ?_
              refine AllReadyH.cons rfl (fun K hK => ?_) AllReadyH.nil
              obtain ⟨a'', c'', v4, hrun, ho, hg⟩ := run_app_nt v2 W1.heap.size a' nn c' _ O1.out (some ⟨q, 0, none⟩) 1 1 _ (blk_rd HQ.out) (z.cells_one sa sc) (by have := HN1.out; omega) HB.out.size
              replace HB := Lib.hid (HB.out.grown hg HB.out.size (fun k hk => (O1.out.lt k hk).1))
              have O2 : Hid (v4.ownsRow W1.heap.size 51 19 (.slice a'' (nn + 1) c'') (nn + 1) (lnCells (xs ++ [⟨z, sa, sc⟩]))) := Lib.hid (by rw [lnCells_snoc]; exact ho)
              clear ho hg
              rw [if_pos (by kernel_rfl)]
              refine oper_append _ _ _ rfl _ _ _ rfl rfl hrun ?_
              clear hrun O1 HQ
              refine hK.out _ _ HB.out (fun hHeld => ?_)
              clear hK K
              try simp only [Act.put, List.getElem_toArray, List.getElem_cons_succ, List.getElem_cons_zero, List.setIfInBounds_toArray, List.set_cons_zero, List.set_cons_succ]
              refine wpAnyH_ready (rs := [7]) (by kernel_rfl) (by simp) ?_
              refine AllReadyH.cons rfl (fun K hK => ?_) AllReadyH.nil
              have RN : Hid (RdNs v4 a'' (nn + 1) c'' (l ++ [z])) := Lib.hid (by
                have h1 := rdNs_of (RdA.of_own O2.out) (ok_late hz.out (LOK.out _ (B8.out.trans (HB.out.mono B8.out.size))))
                rwa [List.map_append, HXS.out] at h1)
              go_simp
              refine (EA.out v4 a'' (nn + 1) c'' (l ++ [z]) RN.out OKZ.out).mono ?_
              rintro e W' ⟨h1, b1⟩
              obtain ⟨a2, n2, c2, g2, rfl, q1⟩ := effT h1
              have Q2 := Lib.hid q1
              replace HB := Lib.hid (HB.out.trans (b1.mono HB.out.size))
              clear h1 q1 b1 RN O2
              refine hK.out _ _ HB.out (fun hHeld => ?_)
              clear hK K
              try simp only [Act.put, List.getElem_toArray, List.getElem_cons_succ, List.getElem_cons_zero, List.setIfInBounds_toArray, List.set_cons_zero, List.set_cons_succ]
              refine wpAnyH_take (i := 8) (v := .tuple #[.slice a2 n2 c2, .int .i64 g2]) rfl (by kernel_rfl) (by kernel_rfl) (by kernel_rfl) (fun _ _ _ h => h) (Or.inl ⟨by kernel_rfl, by intro W _; go_simp⟩) (by assumption) ?_
              try simp only [Act.put, List.getElem_toArray, List.getElem_cons_succ, List.getElem_cons_zero, List.setIfInBounds_toArray, List.set_cons_zero, List.set_cons_succ]
              refine wpAnyH_take (i := 9) (v := .slice a2 n2 c2) rfl (by kernel_rfl) (by kernel_rfl) (by kernel_rfl) (fun _ _ _ h => h) (Or.inl ⟨by kernel_rfl, by intro W _; go_simp⟩) (by assumption) ?_
              try simp only [Act.put, List.getElem_toArray, List.getElem_cons_succ, List.getElem_cons_zero, List.setIfInBounds_toArray, List.set_cons_zero, List.set_cons_succ]
              refine wpAnyH_take (i := 10) (v := .int .i64 g2) rfl (by kernel_rfl) (by kernel_rfl) (by kernel_rfl) (fun _ _ _ h => h) (Or.inl ⟨by kernel_rfl, by intro W _; go_simp⟩) (by assumption) ?_
              try simp only [Act.put, List.getElem_toArray, List.getElem_cons_succ, List.getElem_cons_zero, List.setIfInBounds_toArray, List.set_cons_zero, List.set_cons_succ]
              refine wpAnyH_take (i := 11) (oi := { dst := some 12, op := .assign (.tmp 98), type := _, pos := _, after := _, guard := none }) (v := .slice a2 n2 c2) rfl (by kernel_rfl) (by kernel_rfl) (by kernel_rfl) (fun _ _ _ h => h) (Or.inl ⟨by kernel_rfl, by intro W _; go_simp⟩) (by assumption) ?_
              try simp only [Act.put, List.getElem_toArray, List.getElem_cons_succ, List.getElem_cons_zero, List.setIfInBounds_toArray, List.set_cons_zero, List.set_cons_succ]
              refine wpAnyH_take (i := 12) (oi := { dst := some 13, op := .assign (.tmp 99), type := _, pos := _, after := _, guard := none }) (v := .int .i64 g2) rfl (by kernel_rfl) (by kernel_rfl) (by kernel_rfl) (fun _ _ _ h => h) (Or.inl ⟨by kernel_rfl, by intro W _; go_simp⟩) (by assumption) ?_
              try simp only [Act.put, List.getElem_toArray, List.getElem_cons_succ, List.getElem_cons_zero, List.setIfInBounds_toArray, List.set_cons_zero, List.set_cons_succ]
              refine wpAnyH_done (by kernel_rfl) ?_ _
              refine NoPanic.normal ?_
              exact RESTQ p q a' c' a'' c'' a2 n2 c2 g2 W' (Lib.hid ⟨HB.out, Q2.out⟩)
          · refine AllReadyH.cons rfl (fun K hK => ?_) AllReadyH.nil
            have hbe := (Below.refl V.heap.size V).alloc (Nat.le_refl _) (.cells (noteA z sa sc) 51)
            replace HB := Lib.hid (HB.out.trans (hbe.mono HB.out.size))
            have HQ := Lib.hid (heap_last V (.cells (noteA z sa sc) 51))
            refine oper_build_note _ rfl z sa sc rfl ?_
            obtain ⟨q, hq⟩ : ∃ q, Hid (V.heap.size = q) := ⟨_, Lib.hid rfl⟩
            rw [hq.out] at HQ ⊢
            clear hbe
            generalize V.alloc (.cells (noteA z sa sc) 51) = Vq at *
            refine hK.out _ _ HB.out (fun hHeld => ?_)
            clear hK K
            try simp only [Act.put, List.getElem_toArray, List.getElem_cons_succ, List.getElem_cons_zero, List.setIfInBounds_toArray, List.set_cons_zero, List.set_cons_succ]
            refine wpAnyH_ready (rs := [1]) (by kernel_rfl) (by simp) ?_
            refine AllReadyH.cons rfl (fun K hK => ?_) AllReadyH.nil
            have hbe : Below W1.heap.size W1 (Vq.alloc (.cells #[] 51)) := HB.out.alloc HB.out.size _
            have o0 := World.ownsRow_lit (base := W1.heap.size) (e := 51) (size := 19) Vq #[] 0 HB.out.size (by unfold maxLen; omega) rfl
            have PL : Hid (Vq.heap.size < (Vq.alloc (.cells #[] 51)).heap.size) := Lib.hid (by simp)
            have NPQ : Hid (q ≠ Vq.heap.size) := Lib.hid (by have := blk_lt HQ.out; omega)
            replace HQ := Lib.hid (below_blk ((Below.refl Vq.heap.size Vq).alloc (Nat.le_refl _) (.cells #[] 51)) HQ.out)
            go_simp
            obtain ⟨p, hp⟩ : ∃ p, Hid (Vq.heap.size = p) := ⟨_, Lib.hid rfl⟩
            rw [hp.out] at o0 PL NPQ ⊢
            have O0 := Lib.hid o0
            replace HB := Lib.hid hbe
            clear o0 hbe
            generalize Vq.alloc (.cells #[] 51) = Vp at *
            refine hK.out _ _ HB.out (fun hHeld => ?_)
            clear hK K
            try simp only [Act.put, List.getElem_toArray, List.getElem_cons_succ, List.getElem_cons_zero, List.setIfInBounds_toArray, List.set_cons_zero, List.set_cons_succ]
            refine wpAnyH_ready (rs := [3]) (by kernel_rfl) (by simp) ?_
            refine AllReadyH.cons rfl (fun K hK => ?_) AllReadyH.nil
            obtain ⟨a', c', v2, hrun, ho, hg⟩ := run_app_nt Vp W1.heap.size _ 0 0 _ O0.out a nn nc _ ((RLA.out _ B8.out).below HB.out) (lnCells_one xs) (by have := HN1.out; omega) HB.out.size
            have O1 : Hid (v2.ownsRow W1.heap.size 51 19 (.slice a' nn c') nn (lnCells xs)) := Lib.hid (by have := ho; rwa [Array.toList_empty, List.nil_append, Nat.zero_add] at this)
            replace HQ := Lib.hid (grown_blk hg HQ.out (fun e => NPQ.out (Option.some.inj e)))
            replace HB := Lib.hid (HB.out.grown hg HB.out.size (fun k hk => (O0.out.lt k hk).1))
            clear ho hg
            rw [if_pos (by kernel_rfl)]
            refine oper_append _ _ _ rfl _ _ _ rfl rfl hrun ?_
            clear hrun O0
            rw [Nat.zero_add]
            refine hK.out _ _ HB.out (fun hHeld => ?_)
            clear hK K
            try simp only [Act.put, List.getElem_toArray, List.getElem_cons_succ, List.getElem_cons_zero, List.setIfInBounds_toArray, List.set_cons_zero, List.set_cons_succ]
            refine wpAnyH_ready (rs := [6]) (by kernel_rfl) (by simp) ?_
            refine AllReadyH.cons rfl (fun K hK => ?_) AllReadyH.nil
            obtain ⟨a'', c'', v4, hrun, ho, hg⟩ := run_app_nt v2 W1.heap.size a' nn c' _ O1.out (some ⟨q, 0, none⟩) 1 1 _ (blk_rd HQ.out) (z.cells_one sa sc) (by have := HN1.out; omega) HB.out.size
            replace HB := Lib.hid (HB.out.grown hg HB.out.size (fun k hk => (O1.out.lt k hk).1))
            have O2 : Hid (v4.ownsRow W1.heap.size 51 19 (.slice a'' (nn + 1) c'') (nn + 1) (lnCells (xs ++ [⟨z, sa, sc⟩]))) := Lib.hid (by rw [lnCells_snoc]; exact ho)
            clear ho hg
            rw [if_pos (by kernel_rfl)]
            refine oper_append _ _ _ rfl _ _ _ rfl rfl hrun ?_
            clear hrun O1 HQ
            refine hK.out _ _ HB.out (fun hHeld => ?_)
            clear hK K
            try simp only [Act.put, List.getElem_toArray, List.getElem_cons_succ, List.getElem_cons_zero, List.setIfInBounds_toArray, List.set_cons_zero, List.set_cons_succ]
            refine wpAnyH_ready (rs := [7]) (by kernel_rfl) (by simp) ?_
            refine AllReadyH.cons rfl (fun K hK => ?_) AllReadyH.nil
            have RN : Hid (RdNs v4 a'' (nn + 1) c'' (l ++ [z])) := Lib.hid (by
              have h1 := rdNs_of (RdA.of_own O2.out) (ok_late hz.out (LOK.out _ (B8.out.trans (HB.out.mono B8.out.size))))
              rwa [List.map_append, HXS.out] at h1)
            go_simp
            refine (EA.out v4 a'' (nn + 1) c'' (l ++ [z]) RN.out OKZ.out).mono ?_
            rintro e W' ⟨h1, b1⟩
            obtain ⟨a2, n2, c2, g2, rfl, q1⟩ := effT h1
            have Q2 := Lib.hid q1
            replace HB := Lib.hid (HB.out.trans (b1.mono HB.out.size))
            clear h1 q1 b1 RN O2
            refine hK.out _ _ HB.out (fun hHeld => ?_)
            clear hK K
            try simp only [Act.put, List.getElem_toArray, List.getElem_cons_succ, List.getElem_cons_zero, List.setIfInBounds_toArray, List.set_cons_zero, List.set_cons_succ]
            refine wpAnyH_take (i := 8) (v := .tuple #[.slice a2 n2 c2, .int .i64 g2]) rfl (by kernel_rfl) (by kernel_rfl) (by kernel_rfl) (fun _ _ _ h => h) (Or.inl ⟨by kernel_rfl, by intro W _; go_simp⟩) (by assumption) ?_
            try simp only [Act.put, List.getElem_toArray, List.getElem_cons_succ, List.getElem_cons_zero, List.setIfInBounds_toArray, List.set_cons_zero, List.set_cons_succ]
            refine wpAnyH_take (i := 9) (v := .slice a2 n2 c2) rfl (by kernel_rfl) (by kernel_rfl) (by kernel_rfl) (fun _ _ _ h => h) (Or.inl ⟨by kernel_rfl, by intro W _; go_simp⟩) (by assumption) ?_
            try simp only [Act.put, List.getElem_toArray, List.getElem_cons_succ, List.getElem_cons_zero, List.setIfInBounds_toArray, List.set_cons_zero, List.set_cons_succ]
            refine wpAnyH_take (i := 10) (v := .int .i64 g2) rfl (by kernel_rfl) (by kernel_rfl) (by kernel_rfl) (fun _ _ _ h => h) (Or.inl ⟨by kernel_rfl, by intro W _; go_simp⟩) (by assumption) ?_
            try simp only [Act.put, List.getElem_toArray, List.getElem_cons_succ, List.getElem_cons_zero, List.setIfInBounds_toArray, List.set_cons_zero, List.set_cons_succ]
            refine wpAnyH_take (i := 11) (oi := { dst := some 12, op := .assign (.tmp 98), type := _, pos := _, after := _, guard := none }) (v := .slice a2 n2 c2) rfl (by kernel_rfl) (by kernel_rfl) (by kernel_rfl) (fun _ _ _ h => h) (Or.inl ⟨by kernel_rfl, by intro W _; go_simp⟩) (by assumption) ?_
            try simp only [Act.put, List.getElem_toArray, List.getElem_cons_succ, List.getElem_cons_zero, List.setIfInBounds_toArray, List.set_cons_zero, List.set_cons_succ]
            refine wpAnyH_take (i := 12) (oi := { dst := some 13, op := .assign (.tmp 99), type := _, pos := _, after := _, guard := none }) (v := .int .i64 g2) rfl (by kernel_rfl) (by kernel_rfl) (by kernel_rfl) (fun _ _ _ h => h) (Or.inl ⟨by kernel_rfl, by intro W _; go_simp⟩) (by assumption) ?_
            try simp only [Act.put, List.getElem_toArray, List.getElem_cons_succ, List.getElem_cons_zero, List.setIfInBounds_toArray, List.set_cons_zero, List.set_cons_succ]
            refine wpAnyH_done (by kernel_rfl) ?_ _
            refine NoPanic.normal ?_
            exact RESTQ p q a' c' a'' c'' a2 n2 c2 g2 W' (Lib.hid ⟨HB.out, Q2.out⟩)
        · intro p q a' c' a'' c'' a2 n2 c2 g2 W' QQ
          have B9 := Lib.hid (B8.out.trans (QQ.out.1.mono B8.out.size))
          have Z9 := Lib.hid (below_blk QQ.out.1 Z8.out)
          have Q2 := Lib.hid QQ.out.2
          have BW := Lib.hid QQ.out.1
          clear QQ
          by_cases hg1 : g1 = 0
          · subst hg1
            by_cases hg2 : g2 = 0
            · subst hg2
              obtain ⟨es, le, re, oe, me, ne, s1⟩ := effT_ok Q1.out rfl
              obtain ⟨fs, lf, rf, of', mf, nf, s2⟩ := effT_ok Q2.out rfl
              have E1 := Lib.hid (re.below BW.out)
              have E2 := Lib.hid rf
              have OE := Lib.hid (show ∀ e ∈ es, e.x.ok W' from fun e he => (oe e he).below BW.out)
              have OF := Lib.hid of'
              have LF := Lib.hid le
              have LG := Lib.hid lf
              have ME := Lib.hid me
              have MF := Lib.hid mf
              have NE1 := Lib.hid ne
              have NF := Lib.hid nf
              have S1 := Lib.hid s1
              have S2 := Lib.hid s2
              have NL : Hid (n1 ≤ 400 ∧ n2 ≤ 400) := Lib.hid (by
                have h1 := evs_len2 l
                have h2 := evs_len2 (l ++ [z])
                rw [← me, List.length_map, le] at h1
                rw [← mf, List.length_map, lf] at h2
                exact ⟨Nat.le_trans h1 (set_ok s1).2.1, Nat.le_trans h2 (set_ok s2).2.1⟩)
              have hn1 := NL.out.1
              have hn2 := NL.out.2
              clear le re oe me ne s1 lf rf of' mf nf s2 Q1 Q2
              go_wp2_with fail
              go_loopw [14, 16] (fun xv i wr => ∃ (k : Nat) (xa : Option Addr) (xn xc : Nat), xv = .slice xa xn xc ∧ i = .int .i64 (k : Int) ∧ k ≤ n1 ∧ xn ≤ k ∧ Hid (FlAt W' wr xa xc xn ((es.take k).filter (otherB z)))) (fun _ i _ => n1 - (intOf i).toNat)
              case atStart => exact ⟨0, none, 0, 0, rfl, rfl, Nat.zero_le _, Nat.le_refl _, Lib.hid (FlAt.start W')⟩
              case round =>
                obtain ⟨k, xa, xn, xc, rfl, rfl, hk, hxn, ST⟩ := hrel
                by_cases hlt : k < n1
                · have t0 : decide ((k : Int) < (n1 : Int)) = true := by simp; omega
                  obtain ⟨x, Hx⟩ : ∃ x, es[k]? = some x := ⟨_, List.getElem?_eq_getElem (by rw [LF.out]; exact hlt)⟩
                  have NXT := Lib.hid (filt_next z Hx)
                  have HMX := Lib.hid (List.mem_of_getElem? Hx)
                  obtain ⟨b, off, ha0, hat⟩ := (E1.out.below ST.out.bel).at (by omega)
                  subst ha0
                  obtain ⟨o, ho⟩ : ∃ o, Hid (off + k * 21 = o) := ⟨_, Lib.hid rfl⟩
                  have HX := Lib.hid (hat k x Hx)
                  rw [ho.out] at HX
                  have HIX := Lib.hid (fun W => idx_off (W := W) (c := c1') (b := b) Tryz.underlying24 J21 hlt ho.out)
                  have hk64 : (k : Int) + 1 ≤ 9223372036854775807 := by omega
                  have ZL := Lib.hid (below_blk ST.out.bel Z9.out)
                  clear hat Hx
                  go_upto_region 23 with fail
                  clear t0
                  try simp only [Act.put, List.setIfInBounds_toArray, List.set_cons_zero, List.set_cons_succ]
                  have hC0 : Below wr.heap.size wr wr.drew := (Below.refl _ _).drew
                  have LX := Lib.hid (show ∀ w0, Below wr.heap.size wr w0 → w0.rangeAt b o x.cells from fun w0 h => rangeAt_below HX.out h)
                  have LZ := Lib.hid (show ∀ w0, Below wr.heap.size wr w0 → w0.heap[p8]? = some (.cells (noteA z sa sc) 51 (0, 0)) from fun w0 h => below_blk h ZL.out)
                  refine wp_region_quiet (C := fun w' : World => Below wr.heap.size wr w') (by kernel_rfl) (by kernel_rfl) hC0 ?_
                  show wpQuiet _ _ _ _ (_ :: _) _
                  go_big_quiet_want
                  go_big_quiet_op
                  go_big_quiet_on
                  go_big_quiet_want
                  go_big_quiet_op
                  go_big_quiet_on
                  go_big_quiet_want
                  refine ⟨.pointer (some ⟨b, o, none⟩), fun w0 hC => ?_, ?_⟩
                  · have hix := HIX.out w0
                    clear hC
                    go_simp
                  simp only [Act.put, List.setIfInBounds_toArray, List.set_cons_zero, List.set_cons_succ]
                  go_big_quiet_on
                  go_big_quiet_want
                  refine ⟨.pointer (some ⟨b, o, none⟩), fun w0 hC => ?_, ?_⟩
                  · clear hC
                    go_simp
                  simp only [Act.put, List.setIfInBounds_toArray, List.set_cons_zero, List.set_cons_succ]
                  go_big_quiet_on
                  go_big_quiet_want
                  refine ⟨.agg #[.int .i64 x.nm.1, .int .i64 x.nm.2], fun w0 hC => ?_, ?_⟩
                  · have c0 := LX.out w0 hC 0 (.int .i64 x.nm.1) rfl
                    have c1 := LX.out w0 hC 1 (.int .i64 x.nm.2) rfl
                    simp only [Nat.add_zero] at c0
                    clear hC
                    go_simp
                  simp only [Act.put, List.setIfInBounds_toArray, List.set_cons_zero, List.set_cons_succ]
                  go_big_quiet_on
                  go_big_quiet_want
                  refine ⟨.pointer (some ⟨p8, 16, none⟩), fun w0 hC => ?_, ?_⟩
                  · clear hC
                    go_simp
                  simp only [Act.put, List.setIfInBounds_toArray, List.set_cons_zero, List.set_cons_succ]
                  go_big_quiet_on
                  go_big_quiet_want
                  refine ⟨.agg #[.int .i64 z.refH, .int .i64 z.refN], fun w0 hC => ?_, ?_⟩
                  · have c16 := cell_of (LZ.out w0 hC) 16 (.int .i64 z.refH) rfl
                    have c17 := cell_of (LZ.out w0 hC) 17 (.int .i64 z.refN) rfl
                    clear hC
                    go_simp
                  simp only [Act.put, List.setIfInBounds_toArray, List.set_cons_zero, List.set_cons_succ]
                  go_big_quiet_on
                  go_big_quiet_want
                  refine ⟨.bool (otherB z x), fun w0 hC => ?_, ?_⟩
                  · rw [otherB_eq]
                    clear hC
                    go_simp
                    try (by_cases h1 : x.nm.1 = z.refH <;> by_cases h2 : x.nm.2 = z.refN <;> simp [h1, h2])
                  simp only [Act.put, List.setIfInBounds_toArray, List.set_cons_zero, List.set_cons_succ]
                  go_big_quiet_on
                  refine wpQuiet_nil ?_
                  intro w' hC
                  have ST2 := Lib.hid (ST.out.below hC)
                  have HX2 := Lib.hid (LX.out w' hC)
                  clear hC LX LZ ST HX ZL
                  cases hr : otherB z x
                  · rw [hr] at NXT
                    have N2 := Lib.hid (show (es.take (k + 1)).filter (otherB z) = (es.take k).filter (otherB z) from NXT.out)
                    clear hr
                    go_wp2_with fail
                    go_roundw
                    case rel => exact ⟨k + 1, xa, xn, xc, by go_num, by go_num, by omega, by omega, by rw [N2.out]; exact ST2⟩
                    case measure => simp [intOf]; omega
                  · rw [hr] at NXT
                    have N2 := Lib.hid (show (es.take (k + 1)).filter (otherB z) = (es.take k).filter (otherB z) ++ [x] from NXT.out)
                    clear hr
                    have bn : Below w'.heap.size w' (w'.alloc (.cells (evA x) 53)) := (Below.refl _ _).alloc (Nat.le_refl _) _
                    obtain ⟨a', c', v9, hrun, ho9, hg9, -⟩ := run_app_ev (w'.alloc (.cells (evA x) 53)) W'.heap.size xa xn xc _ (own_below ST2.out.own bn) _ 1 1 _ (lit_ev w' x) (evA_one x) (by have := NL.out; omega) (Nat.le_trans ST2.out.bel.size bn.size)
                    have ST3 := Lib.hid (ST2.out.add ho9 hg9)
                    rw [← N2.out] at ST3
                    clear bn ho9 hg9 ST2
                    have hix := HIX.out w'
                    go_wp2_with (first
                      | (refine wpList_load_mid rfl 53 _ rfl b o rfl x.cells _ HX2.out Tryz.underlying53 rfl (size21 x) ?_)
                      | (refine wpList_build_ev rfl _ rfl x rfl ?_)
                      | (refine wpList_append_eq rfl _ _ _ rfl _ _ _ rfl rfl hrun ?_)
                      | fail)
                    go_roundw
                    case rel => exact ⟨k + 1, a', xn + 1, c', by go_num, by go_num, by omega, by omega, ST3⟩
                    case measure => simp [intOf]; omega
                · have t0 : decide ((k : Int) < (n1 : Int)) = false := by simp; omega
                  rw [List.take_of_length_le (by rw [LF.out]; omega)] at ST
                  have hx4 : xn ≤ 400 := by omega
                  generalize wr = X3 at *
                  have EX := Lib.hid (E2.out.below ST.out.bel)
                  have ZX := Lib.hid (below_blk ST.out.bel Z9.out)
                  have BX := Lib.hid (B9.out.trans (ST.out.bel.mono B9.out.size))
                  have OX := Lib.hid (show ∀ e ∈ es, e.x.ok X3 from fun e he => (OE.out e he).below ST.out.bel)
                  have OY := Lib.hid (show ∀ e ∈ fs, e.x.ok X3 from fun e he => (OF.out e he).below ST.out.bel)
                  have RX := Lib.hid (RdA.of_own ST.out.own)
                  clear ST hk hxn
                  go_wp2_with fail
                  clear t0 hlt
                  go_loopw [15, 17, 18] (fun yv gv i wr => ∃ (k : Nat) (xa : Option Addr) (xn xc : Nat) (gb : Bool), yv = .slice xa xn xc ∧ gv = .bool gb ∧ i = .int .i64 (k : Int) ∧ k ≤ n2 ∧ xn ≤ k ∧ (gb = true ∨ ∃ y ∈ fs, otherB z y = false) ∧ Hid (FlAt X3 wr xa xc xn ((fs.take k).filter (otherB z)))) (fun _ _ i _ => n2 - (intOf i).toNat)
                  case atStart => exact ⟨0, none, 0, 0, true, rfl, rfl, rfl, Nat.zero_le _, Nat.le_refl _, .inl rfl, Lib.hid (FlAt.start X3)⟩
                  case round =>
                    obtain ⟨k, xa2, xn2, xc2, gb, rfl, rfl, rfl, hk, hxn, GB, ST⟩ := hrel
                    by_cases hlt : k < n2
                    · have t0 : decide ((k : Int) < (n2 : Int)) = true := by simp; omega
                      obtain ⟨x, Hx⟩ : ∃ x, fs[k]? = some x := ⟨_, List.getElem?_eq_getElem (by rw [LG.out]; exact hlt)⟩
                      have NXT := Lib.hid (filt_next z Hx)
                      have HMX := Lib.hid (List.mem_of_getElem? Hx)
                      obtain ⟨b, off, ha0, hat⟩ := (EX.out.below ST.out.bel).at (by omega)
                      subst ha0
                      obtain ⟨o, ho⟩ : ∃ o, Hid (off + k * 21 = o) := ⟨_, Lib.hid rfl⟩
                      have HX := Lib.hid (hat k x Hx)
                      rw [ho.out] at HX
                      have HIX := Lib.hid (fun W => idx_off (W := W) (c := c2) (b := b) Tryz.underlying24 J21 hlt ho.out)
                      have hk64 : (k : Int) + 1 ≤ 9223372036854775807 := by omega
                      have ZL := Lib.hid (below_blk ST.out.bel ZX.out)
                      clear hat Hx
                      go_upto_region 29 with fail
                      clear t0
                      try simp only [Act.put, List.setIfInBounds_toArray, List.set_cons_zero, List.set_cons_succ]
                      have hC0 : Below wr.heap.size wr wr.drew := (Below.refl _ _).drew
                      have LX := Lib.hid (show ∀ w0, Below wr.heap.size wr w0 → w0.rangeAt b o x.cells from fun w0 h => rangeAt_below HX.out h)
                      have LZ := Lib.hid (show ∀ w0, Below wr.heap.size wr w0 → w0.heap[p8]? = some (.cells (noteA z sa sc) 51 (0, 0)) from fun w0 h => below_blk h ZL.out)
                      refine wp_region_quiet (C := fun w' : World => Below wr.heap.size wr w') (by kernel_rfl) (by kernel_rfl) hC0 ?_
                      show wpQuiet _ _ _ _ (_ :: _) _
                      go_big_quiet_want
                      go_big_quiet_op
                      go_big_quiet_on
                      go_big_quiet_want
                      go_big_quiet_op
                      go_big_quiet_on
                      go_big_quiet_want
                      refine ⟨.pointer (some ⟨b, o, none⟩), fun w0 hC => ?_, ?_⟩
                      · have hix := HIX.out w0
                        clear hC
                        go_simp
                      simp only [Act.put, List.setIfInBounds_toArray, List.set_cons_zero, List.set_cons_succ]
                      go_big_quiet_on
                      go_big_quiet_want
                      refine ⟨.pointer (some ⟨b, o, none⟩), fun w0 hC => ?_, ?_⟩
                      · clear hC
                        go_simp
                      simp only [Act.put, List.setIfInBounds_toArray, List.set_cons_zero, List.set_cons_succ]
                      go_big_quiet_on
                      go_big_quiet_want
                      refine ⟨.agg #[.int .i64 x.nm.1, .int .i64 x.nm.2], fun w0 hC => ?_, ?_⟩
                      · have c0 := LX.out w0 hC 0 (.int .i64 x.nm.1) rfl
                        have c1 := LX.out w0 hC 1 (.int .i64 x.nm.2) rfl
                        simp only [Nat.add_zero] at c0
                        clear hC
                        go_simp
                      simp only [Act.put, List.setIfInBounds_toArray, List.set_cons_zero, List.set_cons_succ]
                      go_big_quiet_on
                      go_big_quiet_want
                      refine ⟨.pointer (some ⟨p8, 16, none⟩), fun w0 hC => ?_, ?_⟩
                      · clear hC
                        go_simp
                      simp only [Act.put, List.setIfInBounds_toArray, List.set_cons_zero, List.set_cons_succ]
                      go_big_quiet_on
                      go_big_quiet_want
                      refine ⟨.agg #[.int .i64 z.refH, .int .i64 z.refN], fun w0 hC => ?_, ?_⟩
                      · have c16 := cell_of (LZ.out w0 hC) 16 (.int .i64 z.refH) rfl
                        have c17 := cell_of (LZ.out w0 hC) 17 (.int .i64 z.refN) rfl
                        clear hC
                        go_simp
                      simp only [Act.put, List.setIfInBounds_toArray, List.set_cons_zero, List.set_cons_succ]
                      go_big_quiet_on
                      go_big_quiet_want
                      refine ⟨.bool (otherB z x), fun w0 hC => ?_, ?_⟩
                      · rw [otherB_eq]
                        clear hC
                        go_simp
                        try (by_cases h1 : x.nm.1 = z.refH <;> by_cases h2 : x.nm.2 = z.refN <;> simp [h1, h2])
                      simp only [Act.put, List.setIfInBounds_toArray, List.set_cons_zero, List.set_cons_succ]
                      go_big_quiet_on
                      refine wpQuiet_nil ?_
                      intro w' hC
                      have ST2 := Lib.hid (ST.out.below hC)
                      have HX2 := Lib.hid (LX.out w' hC)
                      clear hC LX LZ ST HX ZL
                      cases hr : otherB z x
                      · rw [hr] at NXT
                        have N2 := Lib.hid (show (fs.take (k + 1)).filter (otherB z) = (fs.take k).filter (otherB z) from NXT.out)
                        have GN : Hid (∃ y ∈ fs, otherB z y = false) := Lib.hid ⟨x, HMX.out, hr⟩
                        clear hr
                        go_wp2_with fail
                        go_roundw
                        case rel => exact ⟨k + 1, xa2, xn2, xc2, false, by go_num, by go_num, by go_num, by omega, by omega, .inr GN.out, by rw [N2.out]; exact ST2⟩
                        case measure => simp [intOf]; omega
                      · rw [hr] at NXT
                        have N2 := Lib.hid (show (fs.take (k + 1)).filter (otherB z) = (fs.take k).filter (otherB z) ++ [x] from NXT.out)
                        clear hr
                        have bn : Below w'.heap.size w' (w'.alloc (.cells (evA x) 53)) := (Below.refl _ _).alloc (Nat.le_refl _) _
                        obtain ⟨a', c', v9, hrun, ho9, hg9, -⟩ := run_app_ev (w'.alloc (.cells (evA x) 53)) X3.heap.size xa2 xn2 xc2 _ (own_below ST2.out.own bn) _ 1 1 _ (lit_ev w' x) (evA_one x) (by have := NL.out; omega) (Nat.le_trans ST2.out.bel.size bn.size)
                        have ST3 := Lib.hid (ST2.out.add ho9 hg9)
                        rw [← N2.out] at ST3
                        clear bn ho9 hg9 ST2
                        have hix := HIX.out w'
                        go_wp2_with (first
                          | (refine wpList_load_mid rfl 53 _ rfl b o rfl x.cells _ HX2.out Tryz.underlying53 rfl (size21 x) ?_)
                          | (refine wpList_build_ev rfl _ rfl x rfl ?_)
                          | (refine wpList_append_eq rfl _ _ _ rfl _ _ _ rfl rfl hrun ?_)
                          | fail)
                        go_roundw
                        case rel => exact ⟨k + 1, a', xn2 + 1, c', gb, by go_num, by go_num, by go_num, by omega, by omega, GB, ST3⟩
                        case measure => simp [intOf]; omega
                    · have t0 : decide ((k : Int) < (n2 : Int)) = false := by simp; omega
                      rw [List.take_of_length_le (by rw [LG.out]; omega)] at ST
                      have BY := Lib.hid (BX.out.trans (ST.out.bel.mono BX.out.size))
                      have RY := Lib.hid (RdA.of_own ST.out.own)
                      have RXY := Lib.hid (RX.out.below ST.out.bel)
                      have ZY := Lib.hid (below_blk ST.out.bel ZX.out)
                      have z4 := cell_of ZY.out 4 (.int .i64 z.kind) rfl
                      have ZK : Hid (z.kind = n.kind) := Lib.hid (by rw [← hz.out]; rfl)
                      have ZD : Hid (doneB z = false) := Lib.hid (by rw [doneB, inB_false, ZK.out]; have := HK.out; omega)
                      have EQ := Lib.hid (filt_same S1.out ZD.out ME.out MF.out NE1.out NF.out)
                      have OXY := Lib.hid (show ∀ e ∈ es.filter (otherB z), e.x.ok wr from fun e he => (OX.out e (List.mem_filter.1 he).1).below ST.out.bel)
                      have OYY := Lib.hid (show ∀ e ∈ fs.filter (otherB z), e.x.ok wr from fun e he => (OY.out e (List.mem_filter.1 he).1).below ST.out.bel)
                      clear ST hk hxn EX ZX BX OX OY RX
                      go_wp2_with fail
                      clear z4 t0 hlt
                      refine (sameEvents_eq _ _ _ _ _ _ _ _ wr (RdEs.of_rd RXY.out) (RdEs.of_rd RY.out) OXY.out OYY.out EQ.out).mono ?_
                      rintro e W9 ⟨rfl, b9⟩
                      have BZ := Lib.hid (BY.out.trans (b9.mono BY.out.size))
                      have ZZ := Lib.hid (below_blk b9 ZY.out)
                      have z4 := cell_of ZZ.out 4 (.int .i64 z.kind) rfl
                      clear b9 BY ZY RXY RY
                      have k6 : (z.kind != 6) = true := by rw [ZK.out, HK5.out]; rfl
                      go_wp2_with fail
                      go_ret
                      exact ⟨rfl, BZ.out⟩
            · have k2 : (g2 != 0) = true := by simp [hg2]
              clear hg2
              go_wp2_with fail
              go_ret
              exact ⟨rfl, B9.out⟩
          · have k1 : (g1 != 0) = true := by simp [hg1]
            clear hg1
            go_wp2_with fail
            go_ret
            exact ⟨rfl, B9.out⟩
  by_cases hk6 : n.kind = 6
  · have k1 : (n.kind == 5) = false := by simp [hk6]
    have k2 : (n.kind != 5) = true := by simp [hk6]
    have k3 : (n.kind == 6) = true := by simp [hk6]
    have k4 : (n.kind != 6) = false := by simp [hk6]
    have HK := Lib.hid (show n.kind = 5 ∨ n.kind = 6 from .inr hk6)
    have HK5 := Lib.hid hk6
    clear hk5 hk6
    go_upto_region 5 with (first
      | (refine wpList_load_row rfl 51 _ rfl p5 rfl 51 (noteA n sa sc) (0, 0) _ N1.out Tryz.underlying51 rfl (I43.out _ _ _) ?_)
      | (refine wpList_store_newp _ rfl 51 _ _ rfl _ rfl _ (noteA n sa sc) rfl rfl (I43.out _ _ _) rfl (noteA_one _ _ _) ?_)
      | fail)
    clear c4 c15 k1 k2 t1 t2
    have hbt : Below W1.heap.size W1 (W1.alloc (.cells (noteA n sa sc) 51)) := (Below.refl _ _).alloc (Nat.le_refl _) _
    have B4 := Lib.hid (B1.out.trans (hbt.mono B1.out.size))
    have F4 := Lib.hid (below_blk hbt F1.out)
    have N4 := Lib.hid (heap_last W1 (.cells (noteA n sa sc) 51))
    have H8 : Hid (w.heap.size ≤ W1.heap.size) := Lib.hid B1.out.size
    have NE8 : Hid (pF ≠ W1.heap.size) := Lib.hid (by have := blk_lt F1.out; omega)
    clear hbt
    obtain ⟨p8, hp8⟩ : ∃ p, Hid (W1.heap.size = p) := ⟨_, Lib.hid rfl⟩
    rw [hp8.out] at N4 H8 NE8 ⊢
    generalize W1.alloc (.cells (noteA n sa sc) 51) = V4 at *
    clear F1 N1 B1
    have zf := frozen_of N4.out 2
    have zc := cell_of N4.out 2 (.int .i64 n.clock) rfl
    go_upto_region 6 with fail
    clear zf zc
    have G4 := setCell_grown V4 p8 2 (.int .i64 1)
    replace B4 := Lib.hid (B4.out.grown G4 B4.out.size (fun k e => by cases e; exact H8.out))
    replace F4 := Lib.hid (grown_blk G4 F4.out (fun e => NE8.out (Option.some.inj e)))
    replace N4 := Lib.hid (setCell_at N4.out 2 (.int .i64 1))
    clear G4
    generalize V4.setCell ⟨p8, 2, none⟩ (.int .i64 1) = V5 at *
    have zf := frozen_of N4.out 0
    have zc := cell_of N4.out 0 (.int .i64 n.house) rfl
    go_upto_region 7 with fail
    clear zf zc
    have G4 := setCell_grown V5 p8 0 (.int .i64 8)
    replace B4 := Lib.hid (B4.out.grown G4 B4.out.size (fun k e => by cases e; exact H8.out))
    replace F4 := Lib.hid (grown_blk G4 F4.out (fun e => NE8.out (Option.some.inj e)))
    replace N4 := Lib.hid (setCell_at N4.out 0 (.int .i64 8))
    clear G4
    generalize V5.setCell ⟨p8, 0, none⟩ (.int .i64 8) = V6 at *
    have zf := frozen_of N4.out 1
    have zc := cell_of N4.out 1 (.int .i64 n.num) rfl
    go_upto_region 8 with fail
    clear zf zc
    have G4 := setCell_grown V6 p8 1 (.int .i64 1)
    replace B4 := Lib.hid (B4.out.grown G4 B4.out.size (fun k e => by cases e; exact H8.out))
    replace F4 := Lib.hid (grown_blk G4 F4.out (fun e => NE8.out (Option.some.inj e)))
    replace N4 := Lib.hid (setCell_at N4.out 1 (.int .i64 1))
    clear G4
    generalize V6.setCell ⟨p8, 1, none⟩ (.int .i64 1) = V7 at *
    rw [late_start] at N4
    have ST : Hid (HcAt w V7 pF p8 f n sa sc (lateC (l.take 0)) (lateM (l.take 0))) := Lib.hid ⟨B4.out, F4.out, N4.out⟩
    clear B4 F4 N4
    go_wp2_with fail
    go_loopw [9] (fun i wr => ∃ k : Nat, i = .int .i64 k ∧ k ≤ nn ∧ Hid (HcAt w wr pF p8 f n sa sc (lateC (l.take k)) (lateM (l.take k)))) (fun i _ => nn - (intOf i).toNat)
    case atStart => exact ⟨0, rfl, Nat.zero_le _, ST⟩
    case round =>
      clear ST
      obtain ⟨k, rfl, hk, ST⟩ := hrel
      by_cases hlt : k < nn
      · have t0 : decide ((k : Int) < (nn : Int)) = true := by simp; omega
        obtain ⟨b, off, rfl, hat⟩ := RL.out.at (by omega)
        obtain ⟨x, Hx⟩ : ∃ x, xs[k]? = some x := ⟨_, List.getElem?_eq_getElem (by rw [LNX.out]; exact hlt)⟩
        have HLX : l[k]? = some x.n := by rw [← HXS.out, List.getElem?_map, Hx]; rfl
        obtain ⟨c, hc⟩ : ∃ z, Hid (lateC (l.take k) = z) := ⟨_, Lib.hid rfl⟩
        obtain ⟨m, hm⟩ : ∃ z, Hid (lateM (l.take k) = z) := ⟨_, Lib.hid rfl⟩
        have LC : Hid (lateC (l.take (k + 1)) = maxI c (IntKind.i64.wrap (x.n.clock + 1))) := Lib.hid (by rw [take_snoc HLX, lateC_snoc, hc.out])
        have LM : Hid (lateM (l.take (k + 1)) = if x.n.house = 8 then maxI m (IntKind.i64.wrap (x.n.num + 1)) else m) := Lib.hid (by rw [take_snoc HLX, lateM_snoc, hm.out])
        rw [hc.out, hm.out] at ST
        obtain ⟨o, ho⟩ : ∃ o, Hid (off + k * 19 = o) := ⟨_, Lib.hid rfl⟩
        have HRA := Lib.hid (show ∀ W, Below w.heap.size w W → W.rangeAt b o (x.n.cells x.sa x.sc) from fun W hb => by rw [← ho.out]; exact rangeAt_below (hat k x Hx).1 hb)
        have HIX := Lib.hid (fun W => idx_off (W := W) (c := nc) (b := b) Tryz.underlying43 J19 hlt ho.out)
        have hk64 : (k : Int) + 1 ≤ 9223372036854775807 := by have := HN1.out; omega
        clear hat Hx HLX
        go_upto_region 11 with fail
        clear t0
        try simp only [Act.put, List.setIfInBounds_toArray, List.set_cons_zero, List.set_cons_succ]
        refine wp_region_noPanic ?_
        refine wp_region_held_drew (S := fun w' => Below w.heap.size w w') (by kernel_rfl) (show Below w.heap.size w wr.drew from ST.out.bel.drew) (fun hHeld => ?_)
        have SV := Lib.hid (ST.out.below ((Below.refl wr.heap.size wr).drew))
        clear ST
        generalize wr.drew = wrd at *
        refine wpAnyH_take (i := 0) (v := .pointer (some ⟨p8, 2, none⟩)) rfl (by kernel_rfl) (by kernel_rfl) (by kernel_rfl) (fun _ _ _ h => h) (Or.inl ⟨by kernel_rfl, by intro W _; go_simp⟩) (by assumption) ?_
        try simp only [Act.put, List.getElem_toArray, List.getElem_cons_succ, List.getElem_cons_zero, List.setIfInBounds_toArray, List.set_cons_zero, List.set_cons_succ]
        refine wpAnyH_take (i := 2) (v := .slice (some ⟨b, off, none⟩) nn nc) rfl (by kernel_rfl) (by kernel_rfl) (by kernel_rfl) (fun _ _ _ h => h) (Or.inl ⟨by kernel_rfl, by intro W _; go_simp⟩) (by assumption) ?_
        try simp only [Act.put, List.getElem_toArray, List.getElem_cons_succ, List.getElem_cons_zero, List.setIfInBounds_toArray, List.set_cons_zero, List.set_cons_succ]
        refine wpAnyH_take (i := 3) (v := .int .i64 (k : Int)) rfl (by kernel_rfl) (by kernel_rfl) (by kernel_rfl) (fun _ _ _ h => h) (Or.inl ⟨by kernel_rfl, by intro W _; go_simp⟩) (by assumption) ?_
        try simp only [Act.put, List.getElem_toArray, List.getElem_cons_succ, List.getElem_cons_zero, List.setIfInBounds_toArray, List.set_cons_zero, List.set_cons_succ]
        refine wpAnyH_take (i := 4) (v := .pointer (some ⟨b, o, none⟩)) rfl (by kernel_rfl) (by kernel_rfl) (by kernel_rfl) (fun _ _ _ h => h) (Or.inl ⟨by kernel_rfl, by intro W h; have hi := HIX.out W; go_simp⟩) (by assumption) ?_
        try simp only [Act.put, List.getElem_toArray, List.getElem_cons_succ, List.getElem_cons_zero, List.setIfInBounds_toArray, List.set_cons_zero, List.set_cons_succ]
        refine wpAnyH_take (i := 5) (v := .pointer (some ⟨b, o + 2, none⟩)) rfl (by kernel_rfl) (by kernel_rfl) (by kernel_rfl) (fun _ _ _ h => h) (Or.inl ⟨by kernel_rfl, by intro W _; go_simp⟩) (by assumption) ?_
        try simp only [Act.put, List.getElem_toArray, List.getElem_cons_succ, List.getElem_cons_zero, List.setIfInBounds_toArray, List.set_cons_zero, List.set_cons_succ]
        refine wpAnyH_take (i := 6) (v := .int .i64 x.n.clock) rfl (by kernel_rfl) (by kernel_rfl) (by kernel_rfl) (fun _ _ _ h => h) (Or.inl ⟨by kernel_rfl, by intro W h; have hc := (HRA.out _ h) 2 (.int .i64 x.n.clock) rfl; go_simp⟩) (by assumption) ?_
        try simp only [Act.put, List.getElem_toArray, List.getElem_cons_succ, List.getElem_cons_zero, List.setIfInBounds_toArray, List.set_cons_zero, List.set_cons_succ]
        refine wpAnyH_take (i := 7) (v := .int .i64 (IntKind.i64.wrap (x.n.clock + 1))) rfl (by kernel_rfl) (by kernel_rfl) (by kernel_rfl) (fun _ _ _ h => h) (Or.inl ⟨by kernel_rfl, by intro W _; go_simp⟩) (by assumption) ?_
        try simp only [Act.put, List.getElem_toArray, List.getElem_cons_succ, List.getElem_cons_zero, List.setIfInBounds_toArray, List.set_cons_zero, List.set_cons_succ]
        refine wpAnyH_ready (rs := [1]) (by kernel_rfl) (by simp) ?_
        refine AllReadyH.cons rfl (fun K hK => ?_) AllReadyH.nil
        have hcl := cell_of SV.out.lt 2 (.int .i64 c) rfl
        go_simp
        clear hcl
        refine hK.out _ _ SV.out.bel (fun hHeld => ?_)
        clear hK K
        try simp only [Act.put, List.getElem_toArray, List.getElem_cons_succ, List.getElem_cons_zero, List.setIfInBounds_toArray, List.set_cons_zero, List.set_cons_succ]
        refine wpAnyH_take (i := 8) (v := .int .i64 (maxI c (IntKind.i64.wrap (x.n.clock + 1)))) rfl (by kernel_rfl) (by kernel_rfl) (by kernel_rfl) (fun _ _ _ h => h) (Or.inl ⟨by kernel_rfl, by intro W h; clear h; go_simp; exact max_case _ _⟩) (by assumption) ?_
        try simp only [Act.put, List.getElem_toArray, List.getElem_cons_succ, List.getElem_cons_zero, List.setIfInBounds_toArray, List.set_cons_zero, List.set_cons_succ]
        refine wpAnyH_take (i := 9) (v := .pointer (some ⟨p8, 2, none⟩)) rfl (by kernel_rfl) (by kernel_rfl) (by kernel_rfl) (fun _ _ _ h => h) (Or.inl ⟨by kernel_rfl, by intro W _; go_simp⟩) (by assumption) ?_
        try simp only [Act.put, List.getElem_toArray, List.getElem_cons_succ, List.getElem_cons_zero, List.setIfInBounds_toArray, List.set_cons_zero, List.set_cons_succ]
        refine wpAnyH_ready (rs := [10]) (by kernel_rfl) (by simp) ?_
        refine AllReadyH.cons rfl (fun K hK => ?_) AllReadyH.nil
        have hcl := cell_of SV.out.lt 2 (.int .i64 c) rfl
        have hfz := frozen_of SV.out.lt 2
        have ST2 := Lib.hid (SV.out.setC H8.out (maxI c (IntKind.i64.wrap (x.n.clock + 1))))
        go_simp
        clear hcl hfz
        refine hK.out _ _ ST2.out.bel (fun hHeld => ?_)
        clear hK K
        try simp only [Act.put, List.getElem_toArray, List.getElem_cons_succ, List.getElem_cons_zero, List.setIfInBounds_toArray, List.set_cons_zero, List.set_cons_succ]
        refine wpAnyH_done (by kernel_rfl) ?_ _
        refine NoPanic.normal ?_
        generalize wrd.setCell ⟨p8, 2, none⟩ (.int .i64 (maxI c (IntKind.i64.wrap (x.n.clock + 1)))) = wr2 at *
        rw [← LC.out] at ST2
        go_upto_region 12 with fail
        have hC0 : Below wr2.heap.size wr2 wr2.drew := (Below.refl _ _).drew
        have LZ := Lib.hid (show ∀ w0, Below wr2.heap.size wr2 w0 → w0.heap[p8]? = some (.cells (noteA (lateOf n (lateC (l.take (k + 1))) m) sa sc) 51 (0, 0)) from fun w0 h => below_blk h ST2.out.lt)
        refine wp_region_quiet (C := fun w' : World => Below wr2.heap.size wr2 w') (by kernel_rfl) (by kernel_rfl) hC0 ?_
        show wpQuiet _ _ _ _ (_ :: _) _
        go_big_quiet_want
        go_big_quiet_op
        go_big_quiet_on
        go_big_quiet_want
        go_big_quiet_op
        go_big_quiet_on
        go_big_quiet_want
        refine ⟨.pointer (some ⟨b, o, none⟩), fun w0 hC => ?_, ?_⟩
        · have hix := HIX.out w0
          clear hC
          go_simp
        simp only [Act.put, List.setIfInBounds_toArray, List.set_cons_zero, List.set_cons_succ]
        go_big_quiet_on
        go_big_quiet_want
        refine ⟨.pointer (some ⟨b, o, none⟩), fun w0 hC => ?_, ?_⟩
        · clear hC
          go_simp
        simp only [Act.put, List.setIfInBounds_toArray, List.set_cons_zero, List.set_cons_succ]
        go_big_quiet_on
        go_big_quiet_want
        refine ⟨.int .i64 x.n.house, fun w0 hC => ?_, ?_⟩
        · have c0 := HRA.out w0 (ST2.out.bel.trans (hC.mono ST2.out.bel.size)) 0 (.int .i64 x.n.house) rfl
          simp only [Nat.add_zero] at c0
          clear hC
          go_simp
        simp only [Act.put, List.setIfInBounds_toArray, List.set_cons_zero, List.set_cons_succ]
        go_big_quiet_on
        go_big_quiet_want
        refine ⟨.pointer (some ⟨p8, 0, none⟩), fun w0 hC => ?_, ?_⟩
        · clear hC
          go_simp
        simp only [Act.put, List.setIfInBounds_toArray, List.set_cons_zero, List.set_cons_succ]
        go_big_quiet_on
        go_big_quiet_want
        refine ⟨.int .i64 8, fun w0 hC => ?_, ?_⟩
        · have c0 := cell_of (LZ.out w0 hC) 0 (.int .i64 8) rfl
          clear hC
          go_simp
        simp only [Act.put, List.setIfInBounds_toArray, List.set_cons_zero, List.set_cons_succ]
        go_big_quiet_on
        go_big_quiet_want
        refine ⟨.bool (x.n.house == 8), fun w0 hC => ?_, ?_⟩
        · clear hC
          go_simp
        simp only [Act.put, List.setIfInBounds_toArray, List.set_cons_zero, List.set_cons_succ]
        go_big_quiet_on
        refine wpQuiet_nil ?_
        intro w' hC
        have ST := Lib.hid (ST2.out.below hC)
        clear hC ST2 LZ
        cases hh : (x.n.house == 8)
        · have hne : ¬ x.n.house = 8 := by simpa using hh
          rw [if_neg hne] at LM
          clear hh hne
          rw [← LM.out] at ST
          go_wp2_with fail
          go_roundw
          case rel => exact ⟨k + 1, by go_num, by omega, ST⟩
          case measure => simp [intOf]; omega
        · have heq : x.n.house = 8 := by simpa using hh
          rw [if_pos heq] at LM
          clear hh heq
          go_upto_region 13 with fail
          try simp only [Act.put, List.setIfInBounds_toArray, List.set_cons_zero, List.set_cons_succ]
          refine wp_region_noPanic ?_
          refine wp_region_held_drew (S := fun w' => Below w.heap.size w w') (by kernel_rfl) (show Below w.heap.size w w'.drew from ST.out.bel.drew) (fun hHeld => ?_)
          have SV := Lib.hid (ST.out.below ((Below.refl w'.heap.size w').drew))
          clear ST
          generalize w'.drew = v4 at *
          refine wpAnyH_take (i := 0) (v := .pointer (some ⟨p8, 1, none⟩)) rfl (by kernel_rfl) (by kernel_rfl) (by kernel_rfl) (fun _ _ _ h => h) (Or.inl ⟨by kernel_rfl, by intro W _; go_simp⟩) (by assumption) ?_
          try simp only [Act.put, List.getElem_toArray, List.getElem_cons_succ, List.getElem_cons_zero, List.setIfInBounds_toArray, List.set_cons_zero, List.set_cons_succ]
          refine wpAnyH_take (i := 2) (v := .slice (some ⟨b, off, none⟩) nn nc) rfl (by kernel_rfl) (by kernel_rfl) (by kernel_rfl) (fun _ _ _ h => h) (Or.inl ⟨by kernel_rfl, by intro W _; go_simp⟩) (by assumption) ?_
          try simp only [Act.put, List.getElem_toArray, List.getElem_cons_succ, List.getElem_cons_zero, List.setIfInBounds_toArray, List.set_cons_zero, List.set_cons_succ]
          refine wpAnyH_take (i := 3) (v := .int .i64 (k : Int)) rfl (by kernel_rfl) (by kernel_rfl) (by kernel_rfl) (fun _ _ _ h => h) (Or.inl ⟨by kernel_rfl, by intro W _; go_simp⟩) (by assumption) ?_
          try simp only [Act.put, List.getElem_toArray, List.getElem_cons_succ, List.getElem_cons_zero, List.setIfInBounds_toArray, List.set_cons_zero, List.set_cons_succ]
          refine wpAnyH_take (i := 4) (v := .pointer (some ⟨b, o, none⟩)) rfl (by kernel_rfl) (by kernel_rfl) (by kernel_rfl) (fun _ _ _ h => h) (Or.inl ⟨by kernel_rfl, by intro W h; have hi := HIX.out W; go_simp⟩) (by assumption) ?_
          try simp only [Act.put, List.getElem_toArray, List.getElem_cons_succ, List.getElem_cons_zero, List.setIfInBounds_toArray, List.set_cons_zero, List.set_cons_succ]
          refine wpAnyH_take (i := 5) (v := .pointer (some ⟨b, o + 1, none⟩)) rfl (by kernel_rfl) (by kernel_rfl) (by kernel_rfl) (fun _ _ _ h => h) (Or.inl ⟨by kernel_rfl, by intro W _; go_simp⟩) (by assumption) ?_
          try simp only [Act.put, List.getElem_toArray, List.getElem_cons_succ, List.getElem_cons_zero, List.setIfInBounds_toArray, List.set_cons_zero, List.set_cons_succ]
          refine wpAnyH_take (i := 6) (v := .int .i64 x.n.num) rfl (by kernel_rfl) (by kernel_rfl) (by kernel_rfl) (fun _ _ _ h => h) (Or.inl ⟨by kernel_rfl, by intro W h; have hc := (HRA.out _ h) 1 (.int .i64 x.n.num) rfl; go_simp⟩) (by assumption) ?_
          try simp only [Act.put, List.getElem_toArray, List.getElem_cons_succ, List.getElem_cons_zero, List.setIfInBounds_toArray, List.set_cons_zero, List.set_cons_succ]
          refine wpAnyH_take (i := 7) (v := .int .i64 (IntKind.i64.wrap (x.n.num + 1))) rfl (by kernel_rfl) (by kernel_rfl) (by kernel_rfl) (fun _ _ _ h => h) (Or.inl ⟨by kernel_rfl, by intro W _; go_simp⟩) (by assumption) ?_
          try simp only [Act.put, List.getElem_toArray, List.getElem_cons_succ, List.getElem_cons_zero, List.setIfInBounds_toArray, List.set_cons_zero, List.set_cons_succ]
          refine wpAnyH_ready (rs := [1]) (by kernel_rfl) (by simp) ?_
          refine AllReadyH.cons rfl (fun K hK => ?_) AllReadyH.nil
          have hcl := cell_of SV.out.lt 1 (.int .i64 m) rfl
          go_simp
          clear hcl
          refine hK.out _ _ SV.out.bel (fun hHeld => ?_)
          clear hK K
          try simp only [Act.put, List.getElem_toArray, List.getElem_cons_succ, List.getElem_cons_zero, List.setIfInBounds_toArray, List.set_cons_zero, List.set_cons_succ]
          refine wpAnyH_take (i := 8) (v := .int .i64 (maxI m (IntKind.i64.wrap (x.n.num + 1)))) rfl (by kernel_rfl) (by kernel_rfl) (by kernel_rfl) (fun _ _ _ h => h) (Or.inl ⟨by kernel_rfl, by intro W h; clear h; go_simp; exact max_case _ _⟩) (by assumption) ?_
          try simp only [Act.put, List.getElem_toArray, List.getElem_cons_succ, List.getElem_cons_zero, List.setIfInBounds_toArray, List.set_cons_zero, List.set_cons_succ]
          refine wpAnyH_take (i := 9) (v := .pointer (some ⟨p8, 1, none⟩)) rfl (by kernel_rfl) (by kernel_rfl) (by kernel_rfl) (fun _ _ _ h => h) (Or.inl ⟨by kernel_rfl, by intro W _; go_simp⟩) (by assumption) ?_
          try simp only [Act.put, List.getElem_toArray, List.getElem_cons_succ, List.getElem_cons_zero, List.setIfInBounds_toArray, List.set_cons_zero, List.set_cons_succ]
          refine wpAnyH_ready (rs := [10]) (by kernel_rfl) (by simp) ?_
          refine AllReadyH.cons rfl (fun K hK => ?_) AllReadyH.nil
          have hcl := cell_of SV.out.lt 1 (.int .i64 m) rfl
          have hfz := frozen_of SV.out.lt 1
          have ST2 := Lib.hid (SV.out.setM H8.out (maxI m (IntKind.i64.wrap (x.n.num + 1))))
          go_simp
          clear hcl hfz
          refine hK.out _ _ ST2.out.bel (fun hHeld => ?_)
          clear hK K
          try simp only [Act.put, List.getElem_toArray, List.getElem_cons_succ, List.getElem_cons_zero, List.setIfInBounds_toArray, List.set_cons_zero, List.set_cons_succ]
          refine wpAnyH_done (by kernel_rfl) ?_ _
          refine NoPanic.normal ?_
          generalize v4.setCell ⟨p8, 1, none⟩ (.int .i64 (maxI m (IntKind.i64.wrap (x.n.num + 1)))) = v5 at *
          rw [← LM.out] at ST2
          go_wp2_with fail
          go_roundw
          case rel => exact ⟨k + 1, by go_num, by omega, ST2⟩
          case measure => simp [intOf]; omega
      · have hkn : k = nn := by omega
        have t0 : decide ((k : Int) < (nn : Int)) = false := by simp; omega
        have e : l.take k = l := List.take_of_length_le (by rw [HLN.out]; omega)
        rw [e] at ST
        clear e hkn hk
        obtain ⟨z, hz⟩ : ∃ z, Hid (lateOf n (lateC l) (lateM l) = z) := ⟨_, Lib.hid rfl⟩
        have OKZ := Lib.hid (show ∀ y ∈ l ++ [z], y.Ok from fun y hy => by
          rcases List.mem_append.1 hy with hy | hy
          · exact HOK.out y hy
          · rw [List.mem_singleton.1 hy, ← hz.out]; exact lateOf_Ok HNO.out l)
        have B7 := Lib.hid ST.out.bel
        have F7 := Lib.hid ST.out.fr
        have Z7 := Lib.hid ST.out.lt
        rw [hz.out] at Z7
        clear ST
        have c0 := cell_of F7.out 0 (.int .i64 f.rings) rfl
        have c1 := cell_of F7.out 1 (.int .i64 f.sectors) rfl
        have c2 := cell_of F7.out 2 (.int .i64 f.wide) rfl
        go_wp2_with fail
        refine (EA.out wr a nn nc l (R.out.below B7.out) HOK.out).mono ?_
        rintro e W1 ⟨h1, b1⟩
        obtain ⟨a1, n1, c1', g1, rfl, q1⟩ := effT h1
        have Q1 := Lib.hid q1
        have F8 := Lib.hid (below_blk b1 F7.out)
        have Z8 := Lib.hid (below_blk b1 Z7.out)
        have B8 := Lib.hid (B7.out.trans (b1.mono B7.out.size))
        clear h1 q1 b1 B7 F7 Z7 c0 c1 c2 t0 hlt
        go_upto_region 15 with fail
        try simp only [Act.put, List.setIfInBounds_toArray, List.set_cons_zero, List.set_cons_succ]
        refine wp_region_noPanic ?_
        refine wp_region_held_drew (S := fun w' => Below W1.heap.size W1 w') (by kernel_rfl) (show Below W1.heap.size W1 W1.drew from (Below.refl _ _).drew) (fun hHeld => ?_)
        have HB := Lib.hid (show Below W1.heap.size W1 W1.drew from (Below.refl _ _).drew)
        generalize W1.drew = V at *
        apply cut_rest (P := fun (p q : Nat) (a' : Option Addr) (c' : Nat) (a'' : Option Addr) (c'' : Nat) (a2 : Option Addr) (n2 c2 : Nat) (g2 : Int) (W' : World) => Hid (Below W1.heap.size W1 W' ∧ EffT f (l ++ [z]) W' a2 n2 c2 g2))
        · intro RESTQ
          refine wpAnyH_take (i := 0) (v := .agg #[.int .i64 f.rings, .int .i64 f.sectors, .int .i64 f.wide]) rfl (by kernel_rfl) (by kernel_rfl) (by kernel_rfl) (fun _ _ _ h => h) (yields_row (by kernel_rfl) 23 _ rfl pF rfl _ 23 (0, 0) _ (fun W h => below_blk h F8.out) Tryz.underlying23 rfl (by kernel_rfl)) (by assumption) ?_
          try simp only [Act.put, List.getElem_toArray, List.getElem_cons_succ, List.getElem_cons_zero, List.setIfInBounds_toArray, List.set_cons_zero, List.set_cons_succ]
          refine wpAnyH_take (i := 2) (v := .slice a nn nc) rfl (by kernel_rfl) (by kernel_rfl) (by kernel_rfl) (fun _ _ _ h => h) (Or.inl ⟨by kernel_rfl, by intro W _; go_simp⟩) (by assumption) ?_
          try simp only [Act.put, List.getElem_toArray, List.getElem_cons_succ, List.getElem_cons_zero, List.setIfInBounds_toArray, List.set_cons_zero, List.set_cons_succ]
          refine wpAnyH_take (i := 4) (v := .agg (noteA z sa sc)) rfl (by kernel_rfl) (by kernel_rfl) (by kernel_rfl) (fun _ _ _ h => h) (yields_row (by kernel_rfl) 51 _ rfl p8 rfl _ 51 (0, 0) _ (fun W h => below_blk h Z8.out) Tryz.underlying51 rfl (I43.out _ _ _)) (by assumption) ?_
          try simp only [Act.put, List.getElem_toArray, List.getElem_cons_succ, List.getElem_cons_zero, List.setIfInBounds_toArray, List.set_cons_zero, List.set_cons_succ]
          refine wpAnyH_ready (rs := [1, 5]) (by kernel_rfl) (by simp) ?_
          refine AllReadyH.cons rfl (fun K hK => ?_) ?_
          · have hbe : Below W1.heap.size W1 (V.alloc (.cells #[] 51)) := HB.out.alloc HB.out.size _
            have o0 := World.ownsRow_lit (base := W1.heap.size) (e := 51) (size := 19) V #[] 0 HB.out.size (by unfold maxLen; omega) rfl
            have PL : Hid (V.heap.size < (V.alloc (.cells #[] 51)).heap.size) := Lib.hid (by simp)
            go_simp
            obtain ⟨p, hp⟩ : ∃ p, Hid (V.heap.size = p) := ⟨_, Lib.hid rfl⟩
            rw [hp.out] at o0 PL ⊢
            have O0 := Lib.hid o0
            replace HB := Lib.hid hbe
            clear o0 hbe
            generalize V.alloc (.cells #[] 51) = Vp at *
            refine hK.out _ _ HB.out (fun hHeld => ?_)
            clear hK K
            try simp only [Act.put, List.getElem_toArray, List.getElem_cons_succ, List.getElem_cons_zero, List.setIfInBounds_toArray, List.set_cons_zero, List.set_cons_succ]
            refine wpAnyH_ready (rs := [3, 5]) (by kernel_rfl) (by simp) ?_
            refine AllReadyH.cons rfl (fun K hK => ?_) ?_
            · obtain ⟨a', c', v2, hrun, ho, hg⟩ := run_app_nt Vp W1.heap.size _ 0 0 _ O0.out a nn nc _ ((RLA.out _ B8.out).below HB.out) (lnCells_one xs) (by have := HN1.out; omega) HB.out.size
              have O1 : Hid (v2.ownsRow W1.heap.size 51 19 (.slice a' nn c') nn (lnCells xs)) := Lib.hid (by have := ho; rwa [Array.toList_empty, List.nil_append, Nat.zero_add] at this)
              replace HB := Lib.hid (HB.out.grown hg HB.out.size (fun k hk => (O0.out.lt k hk).1))
              clear ho hg
              rw [if_pos (by kernel_rfl)]
              refine oper_append _ _ _ rfl _ _ _ rfl rfl hrun ?_
              clear hrun O0
              rw [Nat.zero_add]
              refine hK.out _ _ HB.out (fun hHeld => ?_)
              clear hK K
              try simp only [Act.put, List.getElem_toArray, List.getElem_cons_succ, List.getElem_cons_zero, List.setIfInBounds_toArray, List.set_cons_zero, List.set_cons_succ]
              refine wpAnyH_ready (rs := [5]) (by kernel_rfl) (by simp) ?_
              refine AllReadyH.cons rfl (fun K hK => ?_) AllReadyH.nil
              have hbe := (Below.refl v2.heap.size v2).alloc (Nat.le_refl _) (.cells (noteA z sa sc) 51)
              replace HB := Lib.hid (HB.out.trans (hbe.mono HB.out.size))
              have HQ := Lib.hid (heap_last v2 (.cells (noteA z sa sc) 51))
              replace O1 := Lib.hid (own_below O1.out hbe)
              refine oper_build_note _ rfl z sa sc rfl ?_
              obtain ⟨q, hq⟩ : ∃ q, Hid (v2.heap.size = q) := ⟨_, Lib.hid rfl⟩
              rw [hq.out] at HQ ⊢
              clear hbe
              generalize v2.alloc (.cells (noteA z sa sc) 51) = Vq at *
              refine hK.out _ _ HB.out (fun hHeld => ?_)
              clear hK K
              try simp only [Act.put, List.getElem_toArray, List.getElem_cons_succ, List.getElem_cons_zero, List.setIfInBounds_toArray, List.set_cons_zero, List.set_cons_succ]
              refine wpAnyH_ready (rs := [6]) (by kernel_rfl) (by simp) ?_
              refine AllReadyH.cons rfl (fun K hK => ?_) AllReadyH.nil
              obtain ⟨a'', c'', v4, hrun, ho, hg⟩ := run_app_nt Vq W1.heap.size a' nn c' _ O1.out (some ⟨q, 0, none⟩) 1 1 _ (blk_rd HQ.out) (z.cells_one sa sc) (by have := HN1.out; omega) HB.out.size
              replace HB := Lib.hid (HB.out.grown hg HB.out.size (fun k hk => (O1.out.lt k hk).1))
              have O2 : Hid (v4.ownsRow W1.heap.size 51 19 (.slice a'' (nn + 1) c'') (nn + 1) (lnCells (xs ++ [⟨z, sa, sc⟩]))) := Lib.hid (by rw [lnCells_snoc]; exact ho)
              clear ho hg
              rw [if_pos (by kernel_rfl)]
              refine oper_append _ _ _ rfl _ _ _ rfl rfl hrun ?_
              clear hrun O1 HQ
              refine hK.out _ _ HB.out (fun hHeld => ?_)
              clear hK K
              try simp only [Act.put, List.getElem_toArray, List.getElem_cons_succ, List.getElem_cons_zero, List.setIfInBounds_toArray, List.set_cons_zero, List.set_cons_succ]
              refine wpAnyH_ready (rs := [7]) (by kernel_rfl) (by simp) ?_
              refine AllReadyH.cons rfl (fun K hK => ?_) AllReadyH.nil
              have RN : Hid (RdNs v4 a'' (nn + 1) c'' (l ++ [z])) := Lib.hid (by
                have h1 := rdNs_of (RdA.of_own O2.out) (ok_late hz.out (LOK.out _ (B8.out.trans (HB.out.mono B8.out.size))))
                rwa [List.map_append, HXS.out] at h1)
              go_simp
              refine (EA.out v4 a'' (nn + 1) c'' (l ++ [z]) RN.out OKZ.out).mono ?_
              rintro e W' ⟨h1, b1⟩
              obtain ⟨a2, n2, c2, g2, rfl, q1⟩ := effT h1
              have Q2 := Lib.hid q1
              replace HB := Lib.hid (HB.out.trans (b1.mono HB.out.size))
              clear h1 q1 b1 RN O2
              refine hK.out _ _ HB.out (fun hHeld => ?_)
              clear hK K
              try simp only [Act.put, List.getElem_toArray, List.getElem_cons_succ, List.getElem_cons_zero, List.setIfInBounds_toArray, List.set_cons_zero, List.set_cons_succ]
              refine wpAnyH_take (i := 8) (v := .tuple #[.slice a2 n2 c2, .int .i64 g2]) rfl (by kernel_rfl) (by kernel_rfl) (by kernel_rfl) (fun _ _ _ h => h) (Or.inl ⟨by kernel_rfl, by intro W _; go_simp⟩) (by assumption) ?_
              try simp only [Act.put, List.getElem_toArray, List.getElem_cons_succ, List.getElem_cons_zero, List.setIfInBounds_toArray, List.set_cons_zero, List.set_cons_succ]
              refine wpAnyH_take (i := 9) (v := .slice a2 n2 c2) rfl (by kernel_rfl) (by kernel_rfl) (by kernel_rfl) (fun _ _ _ h => h) (Or.inl ⟨by kernel_rfl, by intro W _; go_simp⟩) (by assumption) ?_
              try simp only [Act.put, List.getElem_toArray, List.getElem_cons_succ, List.getElem_cons_zero, List.setIfInBounds_toArray, List.set_cons_zero, List.set_cons_succ]
              refine wpAnyH_take (i := 10) (v := .int .i64 g2) rfl (by kernel_rfl) (by kernel_rfl) (by kernel_rfl) (fun _ _ _ h => h) (Or.inl ⟨by kernel_rfl, by intro W _; go_simp⟩) (by assumption) ?_
              try simp only [Act.put, List.getElem_toArray, List.getElem_cons_succ, List.getElem_cons_zero, List.setIfInBounds_toArray, List.set_cons_zero, List.set_cons_succ]
              refine wpAnyH_take (i := 11) (oi := { dst := some 12, op := .assign (.tmp 98), type := _, pos := _, after := _, guard := none }) (v := .slice a2 n2 c2) rfl (by kernel_rfl) (by kernel_rfl) (by kernel_rfl) (fun _ _ _ h => h) (Or.inl ⟨by kernel_rfl, by intro W _; go_simp⟩) (by assumption) ?_
              try simp only [Act.put, List.getElem_toArray, List.getElem_cons_succ, List.getElem_cons_zero, List.setIfInBounds_toArray, List.set_cons_zero, List.set_cons_succ]
              refine wpAnyH_take (i := 12) (oi := { dst := some 13, op := .assign (.tmp 99), type := _, pos := _, after := _, guard := none }) (v := .int .i64 g2) rfl (by kernel_rfl) (by kernel_rfl) (by kernel_rfl) (fun _ _ _ h => h) (Or.inl ⟨by kernel_rfl, by intro W _; go_simp⟩) (by assumption) ?_
              try simp only [Act.put, List.getElem_toArray, List.getElem_cons_succ, List.getElem_cons_zero, List.setIfInBounds_toArray, List.set_cons_zero, List.set_cons_succ]
              refine wpAnyH_done (by kernel_rfl) ?_ _
              refine NoPanic.normal ?_
              exact RESTQ p q a' c' a'' c'' a2 n2 c2 g2 W' (Lib.hid ⟨HB.out, Q2.out⟩)
            · refine AllReadyH.cons rfl (fun K hK => ?_) AllReadyH.nil
              have hbe := (Below.refl Vp.heap.size Vp).alloc (Nat.le_refl _) (.cells (noteA z sa sc) 51)
              replace HB := Lib.hid (HB.out.trans (hbe.mono HB.out.size))
              have HQ := Lib.hid (heap_last Vp (.cells (noteA z sa sc) 51))
              replace O0 := Lib.hid (own_below O0.out hbe)
              have NPQ : Hid (Vp.heap.size ≠ p) := Lib.hid (by have := PL.out; omega)
              refine oper_build_note _ rfl z sa sc rfl ?_
              obtain ⟨q, hq⟩ : ∃ q, Hid (Vp.heap.size = q) := ⟨_, Lib.hid rfl⟩
              rw [hq.out] at HQ NPQ ⊢
              clear hbe
              generalize Vp.alloc (.cells (noteA z sa sc) 51) = Vq at *
              refine hK.out _ _ HB.out (fun hHeld => ?_)
              clear hK K
              try simp only [Act.put, List.getElem_toArray, List.getElem_cons_succ, List.getElem_cons_zero, List.setIfInBounds_toArray, List.set_cons_zero, List.set_cons_succ]
              refine wpAnyH_ready (rs := [3]) (by kernel_rfl) (by simp) ?_
              refine AllReadyH.cons rfl (fun K hK => ?_) AllReadyH.nil
              obtain ⟨a', c', v2, hrun, ho, hg⟩ := run_app_nt Vq W1.heap.size _ 0 0 _ O0.out a nn nc _ ((RLA.out _ B8.out).below HB.out) (lnCells_one xs) (by have := HN1.out; omega) HB.out.size
              have O1 : Hid (v2.ownsRow W1.heap.size 51 19 (.slice a' nn c') nn (lnCells xs)) := Lib.hid (by have := ho; rwa [Array.toList_empty, List.nil_append, Nat.zero_add] at this)
              replace HQ := Lib.hid (grown_blk hg HQ.out (fun e => NPQ.out (Option.some.inj e)))
              replace HB := Lib.hid (HB.out.grown hg HB.out.size (fun k hk => (O0.out.lt k hk).1))
              clear ho hg
              rw [if_pos (by kernel_rfl)]
              refine oper_append _ _ _ rfl _ _ _ rfl rfl hrun ?_
              clear hrun O0
              rw [Nat.zero_add]
              refine hK.out _ _ HB.out (fun hHeld => ?_)
              clear hK K
              try simp only [Act.put, List.getElem_toArray, List.getElem_cons_succ, List.getElem_cons_zero, List.setIfInBounds_toArray, List.set_cons_zero, List.set_cons_succ]
              refine wpAnyH_ready (rs := [6]) (by kernel_rfl) (by simp) ?_
              refine AllReadyH.cons rfl (fun K hK => ?_) AllReadyH.nil
              obtain ⟨a'', c'', v4, hrun, ho, hg⟩ := run_app_nt v2 W1.heap.size a' nn c' _ O1.out (some ⟨q, 0, none⟩) 1 1 _ (blk_rd HQ.out) (z.cells_one sa sc) (by have := HN1.out; omega) HB.out.size
              replace HB := Lib.hid (HB.out.grown hg HB.out.size (fun k hk => (O1.out.lt k hk).1))
              have O2 : Hid (v4.ownsRow W1.heap.size 51 19 (.slice a'' (nn + 1) c'') (nn + 1) (lnCells (xs ++ [⟨z, sa, sc⟩]))) := Lib.hid (by rw [lnCells_snoc]; exact ho)
              clear ho hg
              rw [if_pos (by kernel_rfl)]
              refine oper_append _ _ _ rfl _ _ _ rfl rfl hrun ?_
              clear hrun O1 HQ
              refine hK.out _ _ HB.out (fun hHeld => ?_)
              clear hK K
              try simp only [Act.put, List.getElem_toArray, List.getElem_cons_succ, List.getElem_cons_zero, List.setIfInBounds_toArray, List.set_cons_zero, List.set_cons_succ]
              refine wpAnyH_ready (rs := [7]) (by kernel_rfl) (by simp) ?_
              refine AllReadyH.cons rfl (fun K hK => ?_) AllReadyH.nil
              have RN : Hid (RdNs v4 a'' (nn + 1) c'' (l ++ [z])) := Lib.hid (by
                have h1 := rdNs_of (RdA.of_own O2.out) (ok_late hz.out (LOK.out _ (B8.out.trans (HB.out.mono B8.out.size))))
                rwa [List.map_append, HXS.out] at h1)
              go_simp
              refine (EA.out v4 a'' (nn + 1) c'' (l ++ [z]) RN.out OKZ.out).mono ?_
              rintro e W' ⟨h1, b1⟩
              obtain ⟨a2, n2, c2, g2, rfl, q1⟩ := effT h1
              have Q2 := Lib.hid q1
              replace HB := Lib.hid (HB.out.trans (b1.mono HB.out.size))
              clear h1 q1 b1 RN O2
              refine hK.out _ _ HB.out (fun hHeld => ?_)
              clear hK K
              try simp only [Act.put, List.getElem_toArray, List.getElem_cons_succ, List.getElem_cons_zero, List.setIfInBounds_toArray, List.set_cons_zero, List.set_cons_succ]
              refine wpAnyH_take (i := 8) (v := .tuple #[.slice a2 n2 c2, .int .i64 g2]) rfl (by kernel_rfl) (by kernel_rfl) (by kernel_rfl) (fun _ _ _ h => h) (Or.inl ⟨by kernel_rfl, by intro W _; go_simp⟩) (by assumption) ?_
              try simp only [Act.put, List.getElem_toArray, List.getElem_cons_succ, List.getElem_cons_zero, List.setIfInBounds_toArray, List.set_cons_zero, List.set_cons_succ]
              refine wpAnyH_take (i := 9) (v := .slice a2 n2 c2) rfl (by kernel_rfl) (by kernel_rfl) (by kernel_rfl) (fun _ _ _ h => h) (Or.inl ⟨by kernel_rfl, by intro W _; go_simp⟩) (by assumption) ?_
              try simp only [Act.put, List.getElem_toArray, List.getElem_cons_succ, List.getElem_cons_zero, List.setIfInBounds_toArray, List.set_cons_zero, List.set_cons_succ]
              refine wpAnyH_take (i := 10) (v := .int .i64 g2) rfl (by kernel_rfl) (by kernel_rfl) (by kernel_rfl) (fun _ _ _ h => h) (Or.inl ⟨by kernel_rfl, by intro W _; go_simp⟩) (by assumption) ?_
              try simp only [Act.put, List.getElem_toArray, List.getElem_cons_succ, List.getElem_cons_zero, List.setIfInBounds_toArray, List.set_cons_zero, List.set_cons_succ]
              refine wpAnyH_take (i := 11) (oi := { dst := some 12, op := .assign (.tmp 98), type := _, pos := _, after := _, guard := none }) (v := .slice a2 n2 c2) rfl (by kernel_rfl) (by kernel_rfl) (by kernel_rfl) (fun _ _ _ h => h) (Or.inl ⟨by kernel_rfl, by intro W _; go_simp⟩) (by assumption) ?_
              try simp only [Act.put, List.getElem_toArray, List.getElem_cons_succ, List.getElem_cons_zero, List.setIfInBounds_toArray, List.set_cons_zero, List.set_cons_succ]
              refine wpAnyH_take (i := 12) (oi := { dst := some 13, op := .assign (.tmp 99), type := _, pos := _, after := _, guard := none }) (v := .int .i64 g2) rfl (by kernel_rfl) (by kernel_rfl) (by kernel_rfl) (fun _ _ _ h => h) (Or.inl ⟨by kernel_rfl, by intro W _; go_simp⟩) (by assumption) ?_
              try simp only [Act.put, List.getElem_toArray, List.getElem_cons_succ, List.getElem_cons_zero, List.setIfInBounds_toArray, List.set_cons_zero, List.set_cons_succ]
              refine wpAnyH_done (by kernel_rfl) ?_ _
              refine NoPanic.normal ?_
              exact RESTQ p q a' c' a'' c'' a2 n2 c2 g2 W' (Lib.hid ⟨HB.out, Q2.out⟩)
          · refine AllReadyH.cons rfl (fun K hK => ?_) AllReadyH.nil
            have hbe := (Below.refl V.heap.size V).alloc (Nat.le_refl _) (.cells (noteA z sa sc) 51)
            replace HB := Lib.hid (HB.out.trans (hbe.mono HB.out.size))
            have HQ := Lib.hid (heap_last V (.cells (noteA z sa sc) 51))
            refine oper_build_note _ rfl z sa sc rfl ?_
            obtain ⟨q, hq⟩ : ∃ q, Hid (V.heap.size = q) := ⟨_, Lib.hid rfl⟩
            rw [hq.out] at HQ ⊢
            clear hbe
            generalize V.alloc (.cells (noteA z sa sc) 51) = Vq at *
            refine hK.out _ _ HB.out (fun hHeld => ?_)
            clear hK K
            try simp only [Act.put, List.getElem_toArray, List.getElem_cons_succ, List.getElem_cons_zero, List.setIfInBounds_toArray, List.set_cons_zero, List.set_cons_succ]
            refine wpAnyH_ready (rs := [1]) (by kernel_rfl) (by simp) ?_
            refine AllReadyH.cons rfl (fun K hK => ?_) AllReadyH.nil
            have hbe : Below W1.heap.size W1 (Vq.alloc (.cells #[] 51)) := HB.out.alloc HB.out.size _
            have o0 := World.ownsRow_lit (base := W1.heap.size) (e := 51) (size := 19) Vq #[] 0 HB.out.size (by unfold maxLen; omega) rfl
            have PL : Hid (Vq.heap.size < (Vq.alloc (.cells #[] 51)).heap.size) := Lib.hid (by simp)
            have NPQ : Hid (q ≠ Vq.heap.size) := Lib.hid (by have := blk_lt HQ.out; omega)
            replace HQ := Lib.hid (below_blk ((Below.refl Vq.heap.size Vq).alloc (Nat.le_refl _) (.cells #[] 51)) HQ.out)
            go_simp
            obtain ⟨p, hp⟩ : ∃ p, Hid (Vq.heap.size = p) := ⟨_, Lib.hid rfl⟩
            rw [hp.out] at o0 PL NPQ ⊢
            have O0 := Lib.hid o0
            replace HB := Lib.hid hbe
            clear o0 hbe
            generalize Vq.alloc (.cells #[] 51) = Vp at *
            refine hK.out _ _ HB.out (fun hHeld => ?_)
            clear hK K
            try simp only [Act.put, List.getElem_toArray, List.getElem_cons_succ, List.getElem_cons_zero, List.setIfInBounds_toArray, List.set_cons_zero, List.set_cons_succ]
            refine wpAnyH_ready (rs := [3]) (by kernel_rfl) (by simp) ?_
            refine AllReadyH.cons rfl (fun K hK => ?_) AllReadyH.nil
            obtain ⟨a', c', v2, hrun, ho, hg⟩ := run_app_nt Vp W1.heap.size _ 0 0 _ O0.out a nn nc _ ((RLA.out _ B8.out).below HB.out) (lnCells_one xs) (by have := HN1.out; omega) HB.out.size
            have O1 : Hid (v2.ownsRow W1.heap.size 51 19 (.slice a' nn c') nn (lnCells xs)) := Lib.hid (by have := ho; rwa [Array.toList_empty, List.nil_append, Nat.zero_add] at this)
            replace HQ := Lib.hid (grown_blk hg HQ.out (fun e => NPQ.out (Option.some.inj e)))
            replace HB := Lib.hid (HB.out.grown hg HB.out.size (fun k hk => (O0.out.lt k hk).1))
            clear ho hg
            rw [if_pos (by kernel_rfl)]
            refine oper_append _ _ _ rfl _ _ _ rfl rfl hrun ?_
            clear hrun O0
            rw [Nat.zero_add]
            refine hK.out _ _ HB.out (fun hHeld => ?_)
            clear hK K
            try simp only [Act.put, List.getElem_toArray, List.getElem_cons_succ, List.getElem_cons_zero, List.setIfInBounds_toArray, List.set_cons_zero, List.set_cons_succ]
            refine wpAnyH_ready (rs := [6]) (by kernel_rfl) (by simp) ?_
            refine AllReadyH.cons rfl (fun K hK => ?_) AllReadyH.nil
            obtain ⟨a'', c'', v4, hrun, ho, hg⟩ := run_app_nt v2 W1.heap.size a' nn c' _ O1.out (some ⟨q, 0, none⟩) 1 1 _ (blk_rd HQ.out) (z.cells_one sa sc) (by have := HN1.out; omega) HB.out.size
            replace HB := Lib.hid (HB.out.grown hg HB.out.size (fun k hk => (O1.out.lt k hk).1))
            have O2 : Hid (v4.ownsRow W1.heap.size 51 19 (.slice a'' (nn + 1) c'') (nn + 1) (lnCells (xs ++ [⟨z, sa, sc⟩]))) := Lib.hid (by rw [lnCells_snoc]; exact ho)
            clear ho hg
            rw [if_pos (by kernel_rfl)]
            refine oper_append _ _ _ rfl _ _ _ rfl rfl hrun ?_
            clear hrun O1 HQ
            refine hK.out _ _ HB.out (fun hHeld => ?_)
            clear hK K
            try simp only [Act.put, List.getElem_toArray, List.getElem_cons_succ, List.getElem_cons_zero, List.setIfInBounds_toArray, List.set_cons_zero, List.set_cons_succ]
            refine wpAnyH_ready (rs := [7]) (by kernel_rfl) (by simp) ?_
            refine AllReadyH.cons rfl (fun K hK => ?_) AllReadyH.nil
            have RN : Hid (RdNs v4 a'' (nn + 1) c'' (l ++ [z])) := Lib.hid (by
              have h1 := rdNs_of (RdA.of_own O2.out) (ok_late hz.out (LOK.out _ (B8.out.trans (HB.out.mono B8.out.size))))
              rwa [List.map_append, HXS.out] at h1)
            go_simp
            refine (EA.out v4 a'' (nn + 1) c'' (l ++ [z]) RN.out OKZ.out).mono ?_
            rintro e W' ⟨h1, b1⟩
            obtain ⟨a2, n2, c2, g2, rfl, q1⟩ := effT h1
            have Q2 := Lib.hid q1
            replace HB := Lib.hid (HB.out.trans (b1.mono HB.out.size))
            clear h1 q1 b1 RN O2
            refine hK.out _ _ HB.out (fun hHeld => ?_)
            clear hK K
            try simp only [Act.put, List.getElem_toArray, List.getElem_cons_succ, List.getElem_cons_zero, List.setIfInBounds_toArray, List.set_cons_zero, List.set_cons_succ]
            refine wpAnyH_take (i := 8) (v := .tuple #[.slice a2 n2 c2, .int .i64 g2]) rfl (by kernel_rfl) (by kernel_rfl) (by kernel_rfl) (fun _ _ _ h => h) (Or.inl ⟨by kernel_rfl, by intro W _; go_simp⟩) (by assumption) ?_
            try simp only [Act.put, List.getElem_toArray, List.getElem_cons_succ, List.getElem_cons_zero, List.setIfInBounds_toArray, List.set_cons_zero, List.set_cons_succ]
            refine wpAnyH_take (i := 9) (v := .slice a2 n2 c2) rfl (by kernel_rfl) (by kernel_rfl) (by kernel_rfl) (fun _ _ _ h => h) (Or.inl ⟨by kernel_rfl, by intro W _; go_simp⟩) (by assumption) ?_
            try simp only [Act.put, List.getElem_toArray, List.getElem_cons_succ, List.getElem_cons_zero, List.setIfInBounds_toArray, List.set_cons_zero, List.set_cons_succ]
            refine wpAnyH_take (i := 10) (v := .int .i64 g2) rfl (by kernel_rfl) (by kernel_rfl) (by kernel_rfl) (fun _ _ _ h => h) (Or.inl ⟨by kernel_rfl, by intro W _; go_simp⟩) (by assumption) ?_
            try simp only [Act.put, List.getElem_toArray, List.getElem_cons_succ, List.getElem_cons_zero, List.setIfInBounds_toArray, List.set_cons_zero, List.set_cons_succ]
            refine wpAnyH_take (i := 11) (oi := { dst := some 12, op := .assign (.tmp 98), type := _, pos := _, after := _, guard := none }) (v := .slice a2 n2 c2) rfl (by kernel_rfl) (by kernel_rfl) (by kernel_rfl) (fun _ _ _ h => h) (Or.inl ⟨by kernel_rfl, by intro W _; go_simp⟩) (by assumption) ?_
            try simp only [Act.put, List.getElem_toArray, List.getElem_cons_succ, List.getElem_cons_zero, List.setIfInBounds_toArray, List.set_cons_zero, List.set_cons_succ]
            refine wpAnyH_take (i := 12) (oi := { dst := some 13, op := .assign (.tmp 99), type := _, pos := _, after := _, guard := none }) (v := .int .i64 g2) rfl (by kernel_rfl) (by kernel_rfl) (by kernel_rfl) (fun _ _ _ h => h) (Or.inl ⟨by kernel_rfl, by intro W _; go_simp⟩) (by assumption) ?_
            try simp only [Act.put, List.getElem_toArray, List.getElem_cons_succ, List.getElem_cons_zero, List.setIfInBounds_toArray, List.set_cons_zero, List.set_cons_succ]
            refine wpAnyH_done (by kernel_rfl) ?_ _
            refine NoPanic.normal ?_
            exact RESTQ p q a' c' a'' c'' a2 n2 c2 g2 W' (Lib.hid ⟨HB.out, Q2.out⟩)
        · intro p q a' c' a'' c'' a2 n2 c2 g2 W' QQ
          have B9 := Lib.hid (B8.out.trans (QQ.out.1.mono B8.out.size))
          have Z9 := Lib.hid (below_blk QQ.out.1 Z8.out)
          have Q2 := Lib.hid QQ.out.2
          have BW := Lib.hid QQ.out.1
          clear QQ
          by_cases hg1 : g1 = 0
          · subst hg1
            by_cases hg2 : g2 = 0
            · subst hg2
              obtain ⟨es, le, re, oe, me, ne, s1⟩ := effT_ok Q1.out rfl
              obtain ⟨fs, lf, rf, of', mf, nf, s2⟩ := effT_ok Q2.out rfl
              have E1 := Lib.hid (re.below BW.out)
              have E2 := Lib.hid rf
              have OE := Lib.hid (show ∀ e ∈ es, e.x.ok W' from fun e he => (oe e he).below BW.out)
              have OF := Lib.hid of'
              have LF := Lib.hid le
              have LG := Lib.hid lf
              have ME := Lib.hid me
              have MF := Lib.hid mf
              have NE1 := Lib.hid ne
              have NF := Lib.hid nf
              have S1 := Lib.hid s1
              have S2 := Lib.hid s2
              have NL : Hid (n1 ≤ 400 ∧ n2 ≤ 400) := Lib.hid (by
                have h1 := evs_len2 l
                have h2 := evs_len2 (l ++ [z])
                rw [← me, List.length_map, le] at h1
                rw [← mf, List.length_map, lf] at h2
                exact ⟨Nat.le_trans h1 (set_ok s1).2.1, Nat.le_trans h2 (set_ok s2).2.1⟩)
              have hn1 := NL.out.1
              have hn2 := NL.out.2
              clear le re oe me ne s1 lf rf of' mf nf s2 Q1 Q2
              go_wp2_with fail
              go_loopw [14, 16] (fun xv i wr => ∃ (k : Nat) (xa : Option Addr) (xn xc : Nat), xv = .slice xa xn xc ∧ i = .int .i64 (k : Int) ∧ k ≤ n1 ∧ xn ≤ k ∧ Hid (FlAt W' wr xa xc xn ((es.take k).filter (otherB z)))) (fun _ i _ => n1 - (intOf i).toNat)
              case atStart => exact ⟨0, none, 0, 0, rfl, rfl, Nat.zero_le _, Nat.le_refl _, Lib.hid (FlAt.start W')⟩
              case round =>
                obtain ⟨k, xa, xn, xc, rfl, rfl, hk, hxn, ST⟩ := hrel
                by_cases hlt : k < n1
                · have t0 : decide ((k : Int) < (n1 : Int)) = true := by simp; omega
                  obtain ⟨x, Hx⟩ : ∃ x, es[k]? = some x := ⟨_, List.getElem?_eq_getElem (by rw [LF.out]; exact hlt)⟩
                  have NXT := Lib.hid (filt_next z Hx)
                  have HMX := Lib.hid (List.mem_of_getElem? Hx)
                  obtain ⟨b, off, ha0, hat⟩ := (E1.out.below ST.out.bel).at (by omega)
                  subst ha0
                  obtain ⟨o, ho⟩ : ∃ o, Hid (off + k * 21 = o) := ⟨_, Lib.hid rfl⟩
                  have HX := Lib.hid (hat k x Hx)
                  rw [ho.out] at HX
                  have HIX := Lib.hid (fun W => idx_off (W := W) (c := c1') (b := b) Tryz.underlying24 J21 hlt ho.out)
                  have hk64 : (k : Int) + 1 ≤ 9223372036854775807 := by omega
                  have ZL := Lib.hid (below_blk ST.out.bel Z9.out)
                  clear hat Hx
                  go_upto_region 23 with fail
                  clear t0
                  try simp only [Act.put, List.setIfInBounds_toArray, List.set_cons_zero, List.set_cons_succ]
                  have hC0 : Below wr.heap.size wr wr.drew := (Below.refl _ _).drew
                  have LX := Lib.hid (show ∀ w0, Below wr.heap.size wr w0 → w0.rangeAt b o x.cells from fun w0 h => rangeAt_below HX.out h)
                  have LZ := Lib.hid (show ∀ w0, Below wr.heap.size wr w0 → w0.heap[p8]? = some (.cells (noteA z sa sc) 51 (0, 0)) from fun w0 h => below_blk h ZL.out)
                  refine wp_region_quiet (C := fun w' : World => Below wr.heap.size wr w') (by kernel_rfl) (by kernel_rfl) hC0 ?_
                  show wpQuiet _ _ _ _ (_ :: _) _
                  go_big_quiet_want
                  go_big_quiet_op
                  go_big_quiet_on
                  go_big_quiet_want
                  go_big_quiet_op
                  go_big_quiet_on
                  go_big_quiet_want
                  refine ⟨.pointer (some ⟨b, o, none⟩), fun w0 hC => ?_, ?_⟩
                  · have hix := HIX.out w0
                    clear hC
                    go_simp
                  simp only [Act.put, List.setIfInBounds_toArray, List.set_cons_zero, List.set_cons_succ]
                  go_big_quiet_on
                  go_big_quiet_want
                  refine ⟨.pointer (some ⟨b, o, none⟩), fun w0 hC => ?_, ?_⟩
                  · clear hC
                    go_simp
                  simp only [Act.put, List.setIfInBounds_toArray, List.set_cons_zero, List.set_cons_succ]
                  go_big_quiet_on
                  go_big_quiet_want
                  refine ⟨.agg #[.int .i64 x.nm.1, .int .i64 x.nm.2], fun w0 hC => ?_, ?_⟩
                  · have c0 := LX.out w0 hC 0 (.int .i64 x.nm.1) rfl
                    have c1 := LX.out w0 hC 1 (.int .i64 x.nm.2) rfl
                    simp only [Nat.add_zero] at c0
                    clear hC
                    go_simp
                  simp only [Act.put, List.setIfInBounds_toArray, List.set_cons_zero, List.set_cons_succ]
                  go_big_quiet_on
                  go_big_quiet_want
                  refine ⟨.pointer (some ⟨p8, 16, none⟩), fun w0 hC => ?_, ?_⟩
                  · clear hC
                    go_simp
                  simp only [Act.put, List.setIfInBounds_toArray, List.set_cons_zero, List.set_cons_succ]
                  go_big_quiet_on
                  go_big_quiet_want
                  refine ⟨.agg #[.int .i64 z.refH, .int .i64 z.refN], fun w0 hC => ?_, ?_⟩
                  · have c16 := cell_of (LZ.out w0 hC) 16 (.int .i64 z.refH) rfl
                    have c17 := cell_of (LZ.out w0 hC) 17 (.int .i64 z.refN) rfl
                    clear hC
                    go_simp
                  simp only [Act.put, List.setIfInBounds_toArray, List.set_cons_zero, List.set_cons_succ]
                  go_big_quiet_on
                  go_big_quiet_want
                  refine ⟨.bool (otherB z x), fun w0 hC => ?_, ?_⟩
                  · rw [otherB_eq]
                    clear hC
                    go_simp
                    try (by_cases h1 : x.nm.1 = z.refH <;> by_cases h2 : x.nm.2 = z.refN <;> simp [h1, h2])
                  simp only [Act.put, List.setIfInBounds_toArray, List.set_cons_zero, List.set_cons_succ]
                  go_big_quiet_on
                  refine wpQuiet_nil ?_
                  intro w' hC
                  have ST2 := Lib.hid (ST.out.below hC)
                  have HX2 := Lib.hid (LX.out w' hC)
                  clear hC LX LZ ST HX ZL
                  cases hr : otherB z x
                  · rw [hr] at NXT
                    have N2 := Lib.hid (show (es.take (k + 1)).filter (otherB z) = (es.take k).filter (otherB z) from NXT.out)
                    clear hr
                    go_wp2_with fail
                    go_roundw
                    case rel => exact ⟨k + 1, xa, xn, xc, by go_num, by go_num, by omega, by omega, by rw [N2.out]; exact ST2⟩
                    case measure => simp [intOf]; omega
                  · rw [hr] at NXT
                    have N2 := Lib.hid (show (es.take (k + 1)).filter (otherB z) = (es.take k).filter (otherB z) ++ [x] from NXT.out)
                    clear hr
                    have bn : Below w'.heap.size w' (w'.alloc (.cells (evA x) 53)) := (Below.refl _ _).alloc (Nat.le_refl _) _
                    obtain ⟨a', c', v9, hrun, ho9, hg9, -⟩ := run_app_ev (w'.alloc (.cells (evA x) 53)) W'.heap.size xa xn xc _ (own_below ST2.out.own bn) _ 1 1 _ (lit_ev w' x) (evA_one x) (by have := NL.out; omega) (Nat.le_trans ST2.out.bel.size bn.size)
                    have ST3 := Lib.hid (ST2.out.add ho9 hg9)
                    rw [← N2.out] at ST3
                    clear bn ho9 hg9 ST2
                    have hix := HIX.out w'
                    go_wp2_with (first
                      | (refine wpList_load_mid rfl 53 _ rfl b o rfl x.cells _ HX2.out Tryz.underlying53 rfl (size21 x) ?_)
                      | (refine wpList_build_ev rfl _ rfl x rfl ?_)
                      | (refine wpList_append_eq rfl _ _ _ rfl _ _ _ rfl rfl hrun ?_)
                      | fail)
                    go_roundw
                    case rel => exact ⟨k + 1, a', xn + 1, c', by go_num, by go_num, by omega, by omega, ST3⟩
                    case measure => simp [intOf]; omega
                · have t0 : decide ((k : Int) < (n1 : Int)) = false := by simp; omega
                  rw [List.take_of_length_le (by rw [LF.out]; omega)] at ST
                  have hx4 : xn ≤ 400 := by omega
                  generalize wr = X3 at *
                  have EX := Lib.hid (E2.out.below ST.out.bel)
                  have ZX := Lib.hid (below_blk ST.out.bel Z9.out)
                  have BX := Lib.hid (B9.out.trans (ST.out.bel.mono B9.out.size))
                  have OX := Lib.hid (show ∀ e ∈ es, e.x.ok X3 from fun e he => (OE.out e he).below ST.out.bel)
                  have OY := Lib.hid (show ∀ e ∈ fs, e.x.ok X3 from fun e he => (OF.out e he).below ST.out.bel)
                  have RX := Lib.hid (RdA.of_own ST.out.own)
                  clear ST hk hxn
                  go_wp2_with fail
                  clear t0 hlt
                  go_loopw [15, 17, 18] (fun yv gv i wr => ∃ (k : Nat) (xa : Option Addr) (xn xc : Nat) (gb : Bool), yv = .slice xa xn xc ∧ gv = .bool gb ∧ i = .int .i64 (k : Int) ∧ k ≤ n2 ∧ xn ≤ k ∧ (gb = true ∨ ∃ y ∈ fs, otherB z y = false) ∧ Hid (FlAt X3 wr xa xc xn ((fs.take k).filter (otherB z)))) (fun _ _ i _ => n2 - (intOf i).toNat)
                  case atStart => exact ⟨0, none, 0, 0, true, rfl, rfl, rfl, Nat.zero_le _, Nat.le_refl _, .inl rfl, Lib.hid (FlAt.start X3)⟩
                  case round =>
                    obtain ⟨k, xa2, xn2, xc2, gb, rfl, rfl, rfl, hk, hxn, GB, ST⟩ := hrel
                    by_cases hlt : k < n2
                    · have t0 : decide ((k : Int) < (n2 : Int)) = true := by simp; omega
                      obtain ⟨x, Hx⟩ : ∃ x, fs[k]? = some x := ⟨_, List.getElem?_eq_getElem (by rw [LG.out]; exact hlt)⟩
                      have NXT := Lib.hid (filt_next z Hx)
                      have HMX := Lib.hid (List.mem_of_getElem? Hx)
                      obtain ⟨b, off, ha0, hat⟩ := (EX.out.below ST.out.bel).at (by omega)
                      subst ha0
                      obtain ⟨o, ho⟩ : ∃ o, Hid (off + k * 21 = o) := ⟨_, Lib.hid rfl⟩
                      have HX := Lib.hid (hat k x Hx)
                      rw [ho.out] at HX
                      have HIX := Lib.hid (fun W => idx_off (W := W) (c := c2) (b := b) Tryz.underlying24 J21 hlt ho.out)
                      have hk64 : (k : Int) + 1 ≤ 9223372036854775807 := by omega
                      have ZL := Lib.hid (below_blk ST.out.bel ZX.out)
                      clear hat Hx
                      go_upto_region 29 with fail
                      clear t0
                      try simp only [Act.put, List.setIfInBounds_toArray, List.set_cons_zero, List.set_cons_succ]
                      have hC0 : Below wr.heap.size wr wr.drew := (Below.refl _ _).drew
                      have LX := Lib.hid (show ∀ w0, Below wr.heap.size wr w0 → w0.rangeAt b o x.cells from fun w0 h => rangeAt_below HX.out h)
                      have LZ := Lib.hid (show ∀ w0, Below wr.heap.size wr w0 → w0.heap[p8]? = some (.cells (noteA z sa sc) 51 (0, 0)) from fun w0 h => below_blk h ZL.out)
                      refine wp_region_quiet (C := fun w' : World => Below wr.heap.size wr w') (by kernel_rfl) (by kernel_rfl) hC0 ?_
                      show wpQuiet _ _ _ _ (_ :: _) _
                      go_big_quiet_want
                      go_big_quiet_op
                      go_big_quiet_on
                      go_big_quiet_want
                      go_big_quiet_op
                      go_big_quiet_on
                      go_big_quiet_want
                      refine ⟨.pointer (some ⟨b, o, none⟩), fun w0 hC => ?_, ?_⟩
                      · have hix := HIX.out w0
                        clear hC
                        go_simp
                      simp only [Act.put, List.setIfInBounds_toArray, List.set_cons_zero, List.set_cons_succ]
                      go_big_quiet_on
                      go_big_quiet_want
                      refine ⟨.pointer (some ⟨b, o, none⟩), fun w0 hC => ?_, ?_⟩
                      · clear hC
                        go_simp
                      simp only [Act.put, List.setIfInBounds_toArray, List.set_cons_zero, List.set_cons_succ]
                      go_big_quiet_on
                      go_big_quiet_want
                      refine ⟨.agg #[.int .i64 x.nm.1, .int .i64 x.nm.2], fun w0 hC => ?_, ?_⟩
                      · have c0 := LX.out w0 hC 0 (.int .i64 x.nm.1) rfl
                        have c1 := LX.out w0 hC 1 (.int .i64 x.nm.2) rfl
                        simp only [Nat.add_zero] at c0
                        clear hC
                        go_simp
                      simp only [Act.put, List.setIfInBounds_toArray, List.set_cons_zero, List.set_cons_succ]
                      go_big_quiet_on
                      go_big_quiet_want
                      refine ⟨.pointer (some ⟨p8, 16, none⟩), fun w0 hC => ?_, ?_⟩
                      · clear hC
                        go_simp
                      simp only [Act.put, List.setIfInBounds_toArray, List.set_cons_zero, List.set_cons_succ]
                      go_big_quiet_on
                      go_big_quiet_want
                      refine ⟨.agg #[.int .i64 z.refH, .int .i64 z.refN], fun w0 hC => ?_, ?_⟩
                      · have c16 := cell_of (LZ.out w0 hC) 16 (.int .i64 z.refH) rfl
                        have c17 := cell_of (LZ.out w0 hC) 17 (.int .i64 z.refN) rfl
                        clear hC
                        go_simp
                      simp only [Act.put, List.setIfInBounds_toArray, List.set_cons_zero, List.set_cons_succ]
                      go_big_quiet_on
                      go_big_quiet_want
                      refine ⟨.bool (otherB z x), fun w0 hC => ?_, ?_⟩
                      · rw [otherB_eq]
                        clear hC
                        go_simp
                        try (by_cases h1 : x.nm.1 = z.refH <;> by_cases h2 : x.nm.2 = z.refN <;> simp [h1, h2])
                      simp only [Act.put, List.setIfInBounds_toArray, List.set_cons_zero, List.set_cons_succ]
                      go_big_quiet_on
                      refine wpQuiet_nil ?_
                      intro w' hC
                      have ST2 := Lib.hid (ST.out.below hC)
                      have HX2 := Lib.hid (LX.out w' hC)
                      clear hC LX LZ ST HX ZL
                      cases hr : otherB z x
                      · rw [hr] at NXT
                        have N2 := Lib.hid (show (fs.take (k + 1)).filter (otherB z) = (fs.take k).filter (otherB z) from NXT.out)
                        have GN : Hid (∃ y ∈ fs, otherB z y = false) := Lib.hid ⟨x, HMX.out, hr⟩
                        clear hr
                        go_wp2_with fail
                        go_roundw
                        case rel => exact ⟨k + 1, xa2, xn2, xc2, false, by go_num, by go_num, by go_num, by omega, by omega, .inr GN.out, by rw [N2.out]; exact ST2⟩
                        case measure => simp [intOf]; omega
                      · rw [hr] at NXT
                        have N2 := Lib.hid (show (fs.take (k + 1)).filter (otherB z) = (fs.take k).filter (otherB z) ++ [x] from NXT.out)
                        clear hr
                        have bn : Below w'.heap.size w' (w'.alloc (.cells (evA x) 53)) := (Below.refl _ _).alloc (Nat.le_refl _) _
                        obtain ⟨a', c', v9, hrun, ho9, hg9, -⟩ := run_app_ev (w'.alloc (.cells (evA x) 53)) X3.heap.size xa2 xn2 xc2 _ (own_below ST2.out.own bn) _ 1 1 _ (lit_ev w' x) (evA_one x) (by have := NL.out; omega) (Nat.le_trans ST2.out.bel.size bn.size)
                        have ST3 := Lib.hid (ST2.out.add ho9 hg9)
                        rw [← N2.out] at ST3
                        clear bn ho9 hg9 ST2
                        have hix := HIX.out w'
                        go_wp2_with (first
                          | (refine wpList_load_mid rfl 53 _ rfl b o rfl x.cells _ HX2.out Tryz.underlying53 rfl (size21 x) ?_)
                          | (refine wpList_build_ev rfl _ rfl x rfl ?_)
                          | (refine wpList_append_eq rfl _ _ _ rfl _ _ _ rfl rfl hrun ?_)
                          | fail)
                        go_roundw
                        case rel => exact ⟨k + 1, a', xn2 + 1, c', gb, by go_num, by go_num, by go_num, by omega, by omega, GB, ST3⟩
                        case measure => simp [intOf]; omega
                    · have t0 : decide ((k : Int) < (n2 : Int)) = false := by simp; omega
                      rw [List.take_of_length_le (by rw [LG.out]; omega)] at ST
                      have BY := Lib.hid (BX.out.trans (ST.out.bel.mono BX.out.size))
                      have RY := Lib.hid (RdA.of_own ST.out.own)
                      have RXY := Lib.hid (RX.out.below ST.out.bel)
                      have ZY := Lib.hid (below_blk ST.out.bel ZX.out)
                      have z4 := cell_of ZY.out 4 (.int .i64 z.kind) rfl
                      have ZK : Hid (z.kind = n.kind) := Lib.hid (by rw [← hz.out]; rfl)
                      have ZD : Hid (doneB z = false) := Lib.hid (by rw [doneB, inB_false, ZK.out]; have := HK.out; omega)
                      have EQ := Lib.hid (filt_same S1.out ZD.out ME.out MF.out NE1.out NF.out)
                      have OXY := Lib.hid (show ∀ e ∈ es.filter (otherB z), e.x.ok wr from fun e he => (OX.out e (List.mem_filter.1 he).1).below ST.out.bel)
                      have OYY := Lib.hid (show ∀ e ∈ fs.filter (otherB z), e.x.ok wr from fun e he => (OY.out e (List.mem_filter.1 he).1).below ST.out.bel)
                      clear ST hk hxn EX ZX BX OX OY RX
                      go_wp2_with fail
                      clear z4 t0 hlt
                      refine (sameEvents_eq _ _ _ _ _ _ _ _ wr (RdEs.of_rd RXY.out) (RdEs.of_rd RY.out) OXY.out OYY.out EQ.out).mono ?_
                      rintro e W9 ⟨rfl, b9⟩
                      have BZ := Lib.hid (BY.out.trans (b9.mono BY.out.size))
                      have ZZ := Lib.hid (below_blk b9 ZY.out)
                      have z4 := cell_of ZZ.out 4 (.int .i64 z.kind) rfl
                      clear b9 BY ZY RXY RY
                      have k6 : (z.kind != 6) = false := by rw [ZK.out, HK5.out]; rfl
                      have GT : gb = true := by
                        rcases GB with h | ⟨y, hy, hn⟩
                        · exact h
                        · exact absurd hn (by rw [gone_other S1.out (by rw [ZK.out, HK5.out]) (by rw [← hz.out]; rfl) MF.out NF.out y hy]; decide)
                      subst GT
                      go_wp2_with fail
                      go_ret
                      exact ⟨rfl, BZ.out⟩
            · have k2 : (g2 != 0) = true := by simp [hg2]
              clear hg2
              go_wp2_with fail
              go_ret
              exact ⟨rfl, B9.out⟩
          · have k1 : (g1 != 0) = true := by simp [hg1]
            clear hg1
            go_wp2_with fail
            go_ret
            exact ⟨rfl, B9.out⟩
  have k1 : (n.kind == 5) = false := by simp [hk5]
  have k2 : (n.kind != 5) = true := by simp [hk5]
  have k3 : (n.kind == 6) = false := by simp [hk6]
  have k4 : (n.kind != 6) = true := by simp [hk6]
  clear hk5 hk6
  go_wp2_with fail
  go_ret
  exact ⟨rfl, B1.out⟩
end Go.Proofs.YtpjiakgfegnmcaaGreat
