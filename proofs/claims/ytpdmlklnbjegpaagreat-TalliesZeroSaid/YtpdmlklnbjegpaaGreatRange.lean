/- A range over a function whose iterator keeps state of its own in cells: one law, over any program, at the wide fence. -/
import Derived.RangeFuncNested
import Derived.RangeFuncBound
import Derived.RangeFuncCalls
import Derived.RangeFuncLeaves
import Derived.WalkKit
import Derived.OwnWalkIn
import Derived.TacticsInMore
import Derived.LoopNIn
import Derived.LoopIn
import Derived.Shelf.RegionOpen
namespace Go.Proofs.YtpdmlklnbjegpaaGreat
open Go.RowKit

/-- The loop's own two blocks lie as they must between two rounds: the record says state st and pending jump pe. -/
def LoopAt (rec : LoopState → Option Code → Loop) (D : Nat) (st : LoopState) (pe : Option Code) (W : World) : Prop :=
  W.heap[D + 1]? = some (.loop (rec st pe)) ∧ W.heap[D]? = some (.deferred (some []))

theorem LoopAt.kept {rec : LoopState → Option Code → Loop} {D : Nat} {st : LoopState} {pe : Option Code} {W W' : World} (h : LoopAt rec D st pe W) (hk : KeepsFrom D W W') : LoopAt rec D st pe W' :=
  ⟨hk.same _ _ (by omega) h.1 rfl, hk.same _ _ (Nat.le_refl _) h.2 rfl⟩

/-- How a round may be left: where it goes on, B; by a jump c, X c. -/
def roundEnd (D : Nat) (B : World → Prop) (X : Code → World → Prop) (W : World) : Exit → Act → World → Prop
  | .normal, _, W' => KeepsFrom D W W' ∧ B W'
  | .ret, _, W' => KeepsFrom D W W' ∧ X .ret W'
  | .exit id, _, W' => KeepsFrom D W W' ∧ X (.exit id) W'
  | .goto t, _, W' => KeepsFrom D W W' ∧ X (.goto t) W'
  | .panic _, _, _ => False
  | .outgrown, _, _ => False

/-- **A RANGE OVER A FUNCTION.** σ: what is known at a call of yield (the element among it): A s: the world there; B s: behind a round that goes on; X c s: behind one that left by c. Each of these does not mind a turn of the loop's record.
  The iterator's contract is asked for this very loop; so it may keep cells of its own. -/
theorem wp_range_own {P : Program} {σ : Type} {n : Nat} {g : Operand} {ps : Array Tmp} {assign body : Code} {Q : Exit → Act → World → Prop} {a : Act} {w : World}
    {gf : Nat} {lb : Array Value} (hg : a.eval g = .func (.func gf) #[] lb) (eg : ∀ args w, (callFunc gf args).run P w = .ok (.enter gf args) w)
    (encs : σ → Array Value) (hps : ∀ x, (encs x).size = ps.size)
    (A B : σ → World → Prop) (X : Code → σ → World → Prop) (Done : World → Prop) (Stop : Code → World → Prop)
    (hA : ∀ s W o, A s W → (∃ r, W.heap[w.heap.size + 1]? = some (.loop r)) → A s (W.putObj (w.heap.size + 1) (.loop o)))
    (hB : ∀ s W o, B s W → (∃ r, W.heap[w.heap.size + 1]? = some (.loop r)) → B s (W.putObj (w.heap.size + 1) (.loop o)))
    (hX : ∀ c s W o, X c s W → (∃ r, W.heap[w.heap.size + 1]? = some (.loop r)) → X c s (W.putObj (w.heap.size + 1) (.loop o)))
    (hDone : ∀ W o, Done W → (∃ r, W.heap[w.heap.size + 1]? = some (.loop r)) → Done (W.putObj (w.heap.size + 1) (.loop o)))
    (hStop : ∀ c W o, Stop c W → (∃ r, W.heap[w.heap.size + 1]? = some (.loop r)) → Stop c (W.putObj (w.heap.size + 1) (.loop o)))
    (a₁ : σ → Act)
    (hassign : ∀ (s : σ) (W : World) (K : Act → World → Prop), A s W → K (a₁ s) W →
      assign.wpIn (Fence.wide.inRound (w.heap.size + 1)) (n - 1) P (Exit.then K (fun _ _ _ => False)) { tmps := (ps.zip (encs s)).foldl (fun t (p, v) => t.setIfInBounds p v) a.tmps, defers := [] } W)
    (hbody : ∀ (s : σ) (W : World), A s W → (∃ r, W.heap[w.heap.size + 1]? = some (.loop r)) → W.heap[w.heap.size]? = some (.deferred (some [])) → body.wpIn (Fence.wide.inRound (w.heap.size + 1)) (n - 1) P (roundEnd w.heap.size (B s) (fun c => X c s) W) (a₁ s) W)
    (hiter : ∀ (rec : LoopState → Option Code → Loop),
      LoopAt rec w.heap.size .ready none ((w.alloc (.deferred (some []))).alloc (.loop (rec .ready none))) →
      (∀ s W, A s W → LoopAt rec w.heap.size .ready none W → YieldAt Fence.wide (n - 1) P (w.heap.size + 1) (encs s) W fun e W' =>
        (e = .returned (.bool true) ∧ B s W' ∧ LoopAt rec w.heap.size .ready none W') ∨ (∃ c, e = .returned (.bool false) ∧ X c s W' ∧ LoopAt rec w.heap.size .done (some c) W')) →
      CallsIn Fence.wide n P gf (#[.func (.yield (w.heap.size + 1)) #[] #[]] ++ lb) ((w.alloc (.deferred (some []))).alloc (.loop (rec .ready none))) fun e W' =>
        (∃ v, e = .returned v) ∧ ((Done W' ∧ LoopAt rec w.heap.size .ready none W') ∨ (∃ c, Stop c W' ∧ LoopAt rec w.heap.size .done (some c) W')))
    (hdone : ∀ (W : World), Done W → W.heap[w.heap.size]? = some (.deferred (some [])) → Q .normal { a with defers := { target := .collected w.heap.size, args := #[] } :: a.defers } W)
    (hstop : ∀ (c : Code) (W : World), Stop c W → W.heap[w.heap.size]? = some (.deferred (some [])) → c.wpIn Fence.wide (n + 1) P Q { a with defers := { target := .collected w.heap.size, args := #[] } :: a.defers } W) :
    (Code.rangeFunc g ps assign body).wpIn Fence.wide (n + 1) P Q a w := by
  refine wpIn_rangeFunc ?_
  intro fn hfn
  obtain ⟨rec, hrec⟩ : ∃ rec : LoopState → Option Code → Loop, rec = fun st pe => { state := st, pending := pe, fn, tmps := a.tmps, params := ps, assign, body, defers := w.heap.size } := ⟨_, rfl⟩
  have hnew : LoopAt rec w.heap.size .ready none ((w.alloc (.deferred (some []))).alloc (.loop (rec .ready none))) := by
    refine ⟨?_, (Below.heap_alloc _ _ _ (by simp)).trans (World.alloc_heap_new w _)⟩
    have := World.alloc_heap_new (w.alloc (.deferred (some []))) (.loop (rec .ready none))
    rwa [World.size_alloc] at this
  have hput : ∀ (W : World) (st st' : LoopState) (pe pe' : Option Code), LoopAt rec w.heap.size st pe W → LoopAt rec w.heap.size st' pe' (W.putObj (w.heap.size + 1) (.loop (rec st' pe'))) :=
    fun W st st' pe pe' h => ⟨World.putObj_heap_same (Array.getElem?_eq_some_iff.1 h.1).1, (World.putObj_heap_other (by omega)).trans h.2⟩
  refine ⟨w.heap.size + 1, [{ target := .collected w.heap.size, args := #[] }], (w.alloc (.deferred (some []))).alloc (.loop (rec .ready none)), { target := .fn (.func gf) lb, args := #[.func (.yield (w.heap.size + 1)) #[] #[]] }, (w.alloc (.deferred (some []))).alloc (.loop (rec .ready none)), gf,
    #[.func (.yield (w.heap.size + 1)) #[] #[]] ++ lb, (w.alloc (.deferred (some []))).alloc (.loop (rec .ready none)), ?_, ?_, ?_, ?_, ?_, ?_⟩
  · rw [hrec]; exact run_enterLoop_outer _ _ _ _ _
  · simp only [resolve, hg]
    simp [go_sem]
  · intro f' _
    trivial
  · simp [invoke, go_sem, eg]
  · intro h
    simp [Fence.wide] at h
  · rw [Nat.add_sub_cancel]
    refine (hiter rec hnew ?_).mono ?_
    · intro s W hs hl
      have hy := run_yield (P := P) (args := encs s) hl.1 (by rw [hrec]; exact hps s)
      rw [hrec] at hy
      refine ⟨fn, _, assign, body, hy, roundIn_of_wpIn hfn (hassign s W _ hs ⟨_, run_beginRound hl.1 (by rw [hrec]), ?_⟩)⟩
      have hbusy : ({ rec .ready none with state := .busy } : Loop) = rec .busy none := by rw [hrec]
      rw [hbusy]
      have hl2 := hput W .ready .busy none none hl
      refine wpIn_mono (hbody s _ (hA s W _ hs ⟨_, hl.1⟩) ⟨_, hl2.1⟩ hl2.2) ?_
      have fin : ∀ (jump : Option Code) (W3 : World), KeepsFrom w.heap.size (W.putObj (w.heap.size + 1) (.loop (rec .busy none))) W3 →
          (Instr.endRound (w.heap.size + 1) jump).run P W3 = .ok (.bool jump.isNone) (W3.putObj (w.heap.size + 1) (.loop (rec (if jump.isNone then .ready else .done) jump))) ∧
          LoopAt rec w.heap.size .busy none W3 ∧ LoopAt rec w.heap.size (if jump.isNone then .ready else .done) jump (W3.putObj (w.heap.size + 1) (.loop (rec (if jump.isNone then .ready else .done) jump))) := fun jump W3 hk => by
        have h3 := hl2.kept hk
        have hr := run_endRound (P := P) jump h3.1
        rw [hrec] at hr ⊢
        exact ⟨hr, by rw [hrec] at h3; exact h3, by have := hput W3 .busy (if jump.isNone then .ready else .done) none jump h3; rw [hrec] at this; exact this⟩
      rintro e a3 W3 hp
      cases e with
      | normal =>
        obtain ⟨hk, hb⟩ := hp
        obtain ⟨hr, h3, h4⟩ := fin none W3 hk
        exact ⟨_, _, hr, .inl ⟨rfl, hB s W3 _ hb ⟨_, h3.1⟩, h4⟩⟩
      | ret =>
        obtain ⟨hk, hb⟩ := hp
        obtain ⟨hr, h3, h4⟩ := fin (some .ret) W3 hk
        exact ⟨_, _, hr, .inr ⟨.ret, rfl, hX _ s W3 _ hb ⟨_, h3.1⟩, h4⟩⟩
      | exit id =>
        obtain ⟨hk, hb⟩ := hp
        obtain ⟨hr, h3, h4⟩ := fin (some (.exit id)) W3 hk
        exact ⟨_, _, hr, .inr ⟨.exit id, rfl, hX _ s W3 _ hb ⟨_, h3.1⟩, h4⟩⟩
      | goto t =>
        obtain ⟨hk, hb⟩ := hp
        obtain ⟨hr, h3, h4⟩ := fin (some (.goto t)) W3 hk
        exact ⟨_, _, hr, .inr ⟨.goto t, rfl, hX _ s W3 _ hb ⟨_, h3.1⟩, h4⟩⟩
      | panic ch => exact hp.elim
      | outgrown => exact hp.elim
    · rintro e W2 ⟨⟨v, rfl⟩, (⟨hd, hl⟩ | ⟨c, hs, hl⟩)⟩
      · refine ⟨none, _, by have := run_endLoop (P := P) hl.1 (by rw [hrec]; simp); rw [hrec] at this; exact this, ?_⟩
        exact hdone _ (hDone W2 _ hd ⟨_, hl.1⟩) ((World.putObj_heap_other (by omega)).trans hl.2)
      · refine ⟨some c, _, by have := run_endLoop (P := P) hl.1 (by rw [hrec]; simp); rw [hrec] at this; exact this, ?_⟩
        exact hstop c _ (hStop c W2 _ hs ⟨_, hl.1⟩) ((World.putObj_heap_other (by omega)).trans hl.2)
end Go.Proofs.YtpdmlklnbjegpaaGreat
