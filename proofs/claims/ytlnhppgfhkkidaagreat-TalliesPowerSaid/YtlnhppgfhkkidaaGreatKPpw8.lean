/- Parts of the proof, in this order: The laying of the library's sort at notes and names; Orders of names and notes, with the count of draws: what the library's sort asks of a comparison; slices.SortFunc of names and of notes, however many: the library's contract in this proof's words; Events in memory; the program's slices.IndexFunc over them, and HeapOf; The program's HeapOf; A note in memory of its own: the program's copied; A note as its judge says: the program's counts; What the program's events yields: the plain law, and the state of its loop. -/
import Derived.Shelf.SlSortCmp.WholeK
import Derived.Test.YtlnhppgfhkkidaaGreatProg
import Derived.Shelf.SlSortCmp.NoneTotal
import Derived.Test.YtlnhppgfhkkidaaGreatKPpw7
set_option linter.unusedSimpArgs false
set_option linter.unusedVariables false
open List renaming getElem_toArray → lq0, getElem_cons_succ → lq1, getElem_cons_zero → lq2, setIfInBounds_toArray → lq3, set_cons_zero → lq4, set_cons_succ → lq5
namespace Go.Proofs.YtlnhppgfhkkidaaGreat
open Go.Shelf
def Tryz.sortNote_ren : Go.Shelf.Ren := ⟨fun | 6 => 221 | 15 => 205 | 14 => 244 | 28 => 233 | 29 => 234 | 20 => 255 | 21 => 256 | 22 => 257 | 23 => 258 | 24 => 259 | 25 => 260 | 26 => 261 | 27 => 262 | 46 => 268 | 47 => 246 | 48 => 247 | 49 => 269 | 50 => 270 | 57 => 271 | n => n, fun | 22 => 24 | 24 => 47 | 25 => 244 | 3 => 3 | 39 => 214 | 0 => 0 | 53 => 292 | 55 => 201 | 4 => 4 | 46 => 285 | 45 => 284 | 50 => 289 | 5 => 5 | 9 => 9 | 66 => 300 | 70 => 221 | 76 => 311 | 77 => 312 | n => n, fun | n => n⟩
theorem Tryz.sortNote : Go.Proofs.SlLaysF0.n6 Tryz.prog Tryz.sortNote_ren := {
  mixed := by kernel_rfl
  f6 := ⟨Tryz.f221.name, by decide, Tryz.func221.trans (congrArg some (by kernel_rfl))⟩
  f14 := ⟨Tryz.f244.name, by decide, Tryz.func244.trans (congrArg some (by kernel_rfl))⟩
  f15 := Tryz.func205.trans (congrArg some (by kernel_rfl))
  f20 := ⟨Tryz.f255.name, by decide, Tryz.func255.trans (congrArg some (by kernel_rfl))⟩
  f21 := ⟨Tryz.f256.name, by decide, Tryz.func256.trans (congrArg some (by kernel_rfl))⟩
  f22 := ⟨Tryz.f257.name, by decide, Tryz.func257.trans (congrArg some (by kernel_rfl))⟩
  f23 := ⟨Tryz.f258.name, by decide, Tryz.func258.trans (congrArg some (by kernel_rfl))⟩
  f24 := ⟨Tryz.f259.name, by decide, Tryz.func259.trans (congrArg some (by kernel_rfl))⟩
  f25 := ⟨Tryz.f260.name, by decide, Tryz.func260.trans (congrArg some (by kernel_rfl))⟩
  f26 := ⟨Tryz.f261.name, by decide, Tryz.func261.trans (congrArg some (by kernel_rfl))⟩
  f27 := ⟨Tryz.f262.name, by decide, Tryz.func262.trans (congrArg some (by kernel_rfl))⟩
  f28 := Tryz.func233.trans (congrArg some (by kernel_rfl))
  f29 := Tryz.func234.trans (congrArg some (by kernel_rfl))
  f46 := ⟨Tryz.f268.name, by decide, Tryz.func268.trans (congrArg some (by kernel_rfl))⟩
  f47 := Tryz.func246.trans (congrArg some (by kernel_rfl))
  f48 := Tryz.func247.trans (congrArg some (by kernel_rfl))
  f49 := ⟨Tryz.f269.name, by decide, Tryz.func269.trans (congrArg some (by kernel_rfl))⟩
  f50 := ⟨Tryz.f270.name, by decide, Tryz.func270.trans (congrArg some (by kernel_rfl))⟩
  f57 := ⟨Tryz.f271.name, by decide, Tryz.func271.trans (congrArg some (by kernel_rfl))⟩
  t0 := Tryz.underlying0
  a0 := Tryz.isAgg0
  z0 := Tryz.sizeOf0
  v0 := Tryz.zeroValue0
  t3 := Tryz.underlying3
  a3 := Tryz.isAgg3
  z3 := Tryz.sizeOf3
  v3 := Tryz.zeroValue3
  t4 := Tryz.underlying4
  a4 := Tryz.isAgg4
  z4 := Tryz.sizeOf4
  v4 := Tryz.zeroValue4
  t5 := Tryz.underlying5
  a5 := Tryz.isAgg5
  z5 := Tryz.sizeOf5
  v5 := Tryz.zeroValue5
  t9 := Tryz.underlying9
  a9 := Tryz.isAgg9
  z9 := Tryz.sizeOf9
  v9 := Tryz.zeroValue9
  t22 := Tryz.underlying24
  a22 := Tryz.isAgg24
  z22 := Tryz.sizeOf24
  v22 := Tryz.zeroValue24
  t25 := Tryz.underlying244
  a25 := Tryz.isAgg244
  z25 := Tryz.sizeOf244
  v25 := Tryz.zeroValue244
  t39 := Tryz.underlying214
  a39 := Tryz.isAgg214
  z39 := Tryz.sizeOf214
  v39 := Tryz.zeroValue214
  t45 := Tryz.underlying284
  a45 := Tryz.isAgg284
  z45 := Tryz.sizeOf284
  v45 := Tryz.zeroValue284
  t46 := Tryz.underlying285
  a46 := Tryz.isAgg285
  z46 := Tryz.sizeOf285
  v46 := Tryz.zeroValue285
  t50 := Tryz.underlying289
  a50 := Tryz.isAgg289
  z50 := Tryz.sizeOf289
  v50 := Tryz.zeroValue289
  t53 := Tryz.underlying292
  a53 := Tryz.isAgg292
  z53 := Tryz.sizeOf292
  v53 := Tryz.zeroValue292
  t55 := Tryz.underlying201
  a55 := Tryz.isAgg201
  z55 := Tryz.sizeOf201
  v55 := Tryz.zeroValue201
  t66 := Tryz.underlying300
  a66 := Tryz.isAgg300
  z66 := Tryz.sizeOf300
  v66 := Tryz.zeroValue300
  t70 := Tryz.underlying221
  a70 := Tryz.isAgg221
  z70 := Tryz.sizeOf221
  v70 := Tryz.zeroValue221
  t76 := Tryz.underlying311
  a76 := Tryz.isAgg311
  z76 := Tryz.sizeOf311
  v76 := Tryz.zeroValue311
  t77 := Tryz.underlying312
  a77 := Tryz.isAgg312
  z77 := Tryz.sizeOf312
  v77 := Tryz.zeroValue312 }
def Tryz.sortName_ren : Go.Shelf.Ren := ⟨fun | 6 => 170 | 15 => 205 | 14 => 204 | 28 => 233 | 29 => 234 | 20 => 225 | 21 => 226 | 22 => 227 | 23 => 228 | 24 => 229 | 25 => 230 | 26 => 231 | 27 => 232 | 46 => 245 | 47 => 246 | 48 => 247 | 49 => 248 | 50 => 249 | 57 => 263 | n => n, fun | 22 => 75 | 24 => 45 | 25 => 182 | 3 => 3 | 39 => 214 | 0 => 0 | 53 => 292 | 55 => 201 | 4 => 4 | 46 => 285 | 45 => 284 | 50 => 289 | 5 => 5 | 9 => 9 | 66 => 300 | 70 => 221 | 76 => 311 | 77 => 312 | n => n, fun | n => n⟩
theorem Tryz.sortName : Go.Proofs.SlLaysF0.n6 Tryz.prog Tryz.sortName_ren := {
  mixed := by kernel_rfl
  f6 := ⟨Tryz.f170.name, by decide, Tryz.func170.trans (congrArg some (by kernel_rfl))⟩
  f14 := ⟨Tryz.f204.name, by decide, Tryz.func204.trans (congrArg some (by kernel_rfl))⟩
  f15 := Tryz.func205.trans (congrArg some (by kernel_rfl))
  f20 := ⟨Tryz.f225.name, by decide, Tryz.func225.trans (congrArg some (by kernel_rfl))⟩
  f21 := ⟨Tryz.f226.name, by decide, Tryz.func226.trans (congrArg some (by kernel_rfl))⟩
  f22 := ⟨Tryz.f227.name, by decide, Tryz.func227.trans (congrArg some (by kernel_rfl))⟩
  f23 := ⟨Tryz.f228.name, by decide, Tryz.func228.trans (congrArg some (by kernel_rfl))⟩
  f24 := ⟨Tryz.f229.name, by decide, Tryz.func229.trans (congrArg some (by kernel_rfl))⟩
  f25 := ⟨Tryz.f230.name, by decide, Tryz.func230.trans (congrArg some (by kernel_rfl))⟩
  f26 := ⟨Tryz.f231.name, by decide, Tryz.func231.trans (congrArg some (by kernel_rfl))⟩
  f27 := ⟨Tryz.f232.name, by decide, Tryz.func232.trans (congrArg some (by kernel_rfl))⟩
  f28 := Tryz.func233.trans (congrArg some (by kernel_rfl))
  f29 := Tryz.func234.trans (congrArg some (by kernel_rfl))
  f46 := ⟨Tryz.f245.name, by decide, Tryz.func245.trans (congrArg some (by kernel_rfl))⟩
  f47 := Tryz.func246.trans (congrArg some (by kernel_rfl))
  f48 := Tryz.func247.trans (congrArg some (by kernel_rfl))
  f49 := ⟨Tryz.f248.name, by decide, Tryz.func248.trans (congrArg some (by kernel_rfl))⟩
  f50 := ⟨Tryz.f249.name, by decide, Tryz.func249.trans (congrArg some (by kernel_rfl))⟩
  f57 := ⟨Tryz.f263.name, by decide, Tryz.func263.trans (congrArg some (by kernel_rfl))⟩
  t0 := Tryz.underlying0
  a0 := Tryz.isAgg0
  z0 := Tryz.sizeOf0
  v0 := Tryz.zeroValue0
  t3 := Tryz.underlying3
  a3 := Tryz.isAgg3
  z3 := Tryz.sizeOf3
  v3 := Tryz.zeroValue3
  t4 := Tryz.underlying4
  a4 := Tryz.isAgg4
  z4 := Tryz.sizeOf4
  v4 := Tryz.zeroValue4
  t5 := Tryz.underlying5
  a5 := Tryz.isAgg5
  z5 := Tryz.sizeOf5
  v5 := Tryz.zeroValue5
  t9 := Tryz.underlying9
  a9 := Tryz.isAgg9
  z9 := Tryz.sizeOf9
  v9 := Tryz.zeroValue9
  t22 := Tryz.underlying75
  a22 := Tryz.isAgg75
  z22 := Tryz.sizeOf75
  v22 := Tryz.zeroValue75
  t25 := Tryz.underlying182
  a25 := Tryz.isAgg182
  z25 := Tryz.sizeOf182
  v25 := Tryz.zeroValue182
  t39 := Tryz.underlying214
  a39 := Tryz.isAgg214
  z39 := Tryz.sizeOf214
  v39 := Tryz.zeroValue214
  t45 := Tryz.underlying284
  a45 := Tryz.isAgg284
  z45 := Tryz.sizeOf284
  v45 := Tryz.zeroValue284
  t46 := Tryz.underlying285
  a46 := Tryz.isAgg285
  z46 := Tryz.sizeOf285
  v46 := Tryz.zeroValue285
  t50 := Tryz.underlying289
  a50 := Tryz.isAgg289
  z50 := Tryz.sizeOf289
  v50 := Tryz.zeroValue289
  t53 := Tryz.underlying292
  a53 := Tryz.isAgg292
  z53 := Tryz.sizeOf292
  v53 := Tryz.zeroValue292
  t55 := Tryz.underlying201
  a55 := Tryz.isAgg201
  z55 := Tryz.sizeOf201
  v55 := Tryz.zeroValue201
  t66 := Tryz.underlying300
  a66 := Tryz.isAgg300
  z66 := Tryz.sizeOf300
  v66 := Tryz.zeroValue300
  t70 := Tryz.underlying221
  a70 := Tryz.isAgg221
  z70 := Tryz.sizeOf221
  v70 := Tryz.zeroValue221
  t76 := Tryz.underlying311
  a76 := Tryz.isAgg311
  z76 := Tryz.sizeOf311
  v76 := Tryz.zeroValue311
  t77 := Tryz.underlying312
  a77 := Tryz.isAgg312
  z77 := Tryz.sizeOf312
  v77 := Tryz.zeroValue312 }
end Go.Proofs.YtlnhppgfhkkidaaGreat
namespace Go.Proofs.YtlnhppgfhkkidaaGreat
set_option linter.unusedSimpArgs false
open Go.RowKit

structure Gro (B : Nat) (w w' : World) : Prop where
  bel : Below B w w'
  drawn : w.drawn ≤ w'.drawn
theorem Gro.refl (B : Nat) (w : World) : Gro B w w := ⟨Below.refl _ _, Nat.le_refl _⟩
theorem Gro.trans {B : Nat} {a b c : World} (h : Gro B a b) (k : Gro B b c) : Gro B a c := ⟨h.bel.trans k.bel, Nat.le_trans h.drawn k.drawn⟩
theorem Gro.mono {B B' : Nat} {w w' : World} (h : Gro B w w') (hB : B' ≤ B) : Gro B' w w' := ⟨h.bel.mono hB, h.drawn⟩
theorem Gro.drew {B : Nat} {a w : World} (h : Gro B a w) : Gro B a w.drew := ⟨h.bel.drew, by have := h.drawn; simp only [World.drew]; omega⟩
theorem Gro.alloc {B : Nat} {a w : World} (h : Gro B a w) (hB : B ≤ w.heap.size) (o : Obj) : Gro B a (w.alloc o) := ⟨h.bel.alloc hB o, h.drawn⟩
theorem Gro.size {B : Nat} {w w' : World} (h : Gro B w w') : w.heap.size ≤ w'.heap.size := h.bel.size
theorem Gro.block {B : Nat} {w w' : World} (h : Gro B w w') : ∀ k, k < B → w'.heap[k]? = w.heap[k]? := h.bel.block
section
attribute [local go_sem] noteA_0 noteA_1
theorem nameOf_gro (n : NoteV) (sa : Option Addr) (sc : Nat) (w : World) : Calls Tryz.prog 167 #[.agg (noteA n sa sc)] w fun e w' => e = .returned (.agg #[.int .i64 n.house, .int .i64 n.num]) ∧ Gro w.heap.size w w' := by
  have hb := (Gro.refl w.heap.size w).alloc (Nat.le_refl _) (.cells (noteA n sa sc) 47)
  go_enter Tryz.func167, Tryz.ntmps167
  go_wp2_with fail
  go_returns
  exact ⟨rfl, hb.alloc hb.size _⟩
end
structure TwoG (w W : World) (p q : Nat) (A B : Array Value) (t : TypeId) : Prop where
  e1 : W.heap[p]? = some (.cells A t (0, 0))
  e2 : W.heap[q]? = some (.cells B t (0, 0))
  b : Gro p w W
  lt : p < q
theorem TwoG.below {w W W' : World} {p q : Nat} {A B : Array Value} {t : TypeId} (h : TwoG w W p q A B t) (hb : Gro W.heap.size W W') : TwoG w W' p q A B t := by
  have g : ∀ {k : Nat} {o : Obj}, W.heap[k]? = some o → W'.heap[k]? = some o := fun {k o} hk => (hb.block k (Array.getElem?_eq_some_iff.1 hk).1).trans hk
  have h0 := (Array.getElem?_eq_some_iff.1 h.e1).1
  exact ⟨g h.e1, g h.e2, h.b.trans (hb.mono (by omega)), h.lt⟩
set_option maxHeartbeats 4000000 in
set_option maxRecDepth 100000 in
theorem compareNames_gro (x m y k : Int) (w : World) : Calls Tryz.prog 124 #[.agg #[.int .i64 x, .int .i64 m], .agg #[.int .i64 y, .int .i64 k]] w fun e w' => e = .returned (.int .i64 (namesC x m y k)) ∧ Gro w.heap.size w w' := by
  have g1 := heap_before _ (.cells (#[.int .i64 y, .int .i64 k]) 45) _ _ (heap_last w (.cells (#[.int .i64 x, .int .i64 m]) 45))
  have g2 := heap_at (w.alloc (.cells (#[.int .i64 x, .int .i64 m]) 45)) (.cells (#[.int .i64 y, .int .i64 k]) 45) (w.heap.size + 1) (by simp)
  have bb : Gro w.heap.size w ((w.alloc (.cells (#[.int .i64 x, .int .i64 m]) 45)).alloc (.cells (#[.int .i64 y, .int .i64 k]) 45)) := ((Gro.refl _ _).alloc (Nat.le_refl _) _).alloc (by simp) _
  have T0 : Hid (TwoG w ((w.alloc (.cells (#[.int .i64 x, .int .i64 m]) 45)).alloc (.cells (#[.int .i64 y, .int .i64 k]) 45)) w.heap.size (w.heap.size + 1) (#[.int .i64 x, .int .i64 m]) (#[.int .i64 y, .int .i64 k]) 45) := Lib.hid ⟨g1, g2, bb, by omega⟩
  clear g1 g2 bb
  go_enter Tryz.func124, Tryz.ntmps124
  go_upto_region 1 with fail
  generalize (w.alloc (.cells (#[.int .i64 x, .int .i64 m]) 45)).alloc (.cells (#[.int .i64 y, .int .i64 k]) 45) = W0 at *
  obtain ⟨p, hp⟩ : ∃ p, Hid (w.heap.size = p) := ⟨_, Lib.hid rfl⟩
  obtain ⟨q, hq⟩ : ∃ q, Hid (w.heap.size + 1 = q) := ⟨_, Lib.hid rfl⟩
  rw [hq.out, hp.out] at T0
  rw [hq.out, hp.out]
  have T1 := Lib.hid (T0.out.below (Gro.refl W0.heap.size W0).drew)
  refine wp_region_noPanic ?_
  refine wp_region_held_drew (S := fun w' => TwoG w w' p q (#[.int .i64 x, .int .i64 m]) (#[.int .i64 y, .int .i64 k]) 45) (by kernel_rfl) T1.out (fun hHeld => ?_)
  refine wpAnyH_take (i := 0) (v := .pointer (some ⟨p, 0, none⟩)) rfl (by kernel_rfl) (by kernel_rfl) (by kernel_rfl) (fun _ _ _ h => h) (Or.inl ⟨by rfl, by intro W _; go_simp⟩) (by assumption) ?_
  try simp only [Act.put, lq3, lq4, lq5]
  refine wpAnyH_take (i := 1) (v := .int .i64 x) rfl (by kernel_rfl) (by kernel_rfl) (by kernel_rfl) (fun _ _ _ h => h) (Or.inl ⟨by rfl, by intro W h; have hc := cell_of h.e1 0 (.int .i64 x) rfl; go_simp⟩) (by assumption) ?_
  try simp only [Act.put, lq3, lq4, lq5]
  refine wpAnyH_take (i := 2) (v := .pointer (some ⟨q, 0, none⟩)) rfl (by kernel_rfl) (by kernel_rfl) (by kernel_rfl) (fun _ _ _ h => h) (Or.inl ⟨by rfl, by intro W _; go_simp⟩) (by assumption) ?_
  try simp only [Act.put, lq3, lq4, lq5]
  refine wpAnyH_take (i := 3) (v := .int .i64 y) rfl (by kernel_rfl) (by kernel_rfl) (by kernel_rfl) (fun _ _ _ h => h) (Or.inl ⟨by rfl, by intro W h; have hc := cell_of h.e2 0 (.int .i64 y) rfl; go_simp⟩) (by assumption) ?_
  try simp only [Act.put, lq3, lq4, lq5]
  refine wpAnyH_take (i := 5) (v := .pointer (some ⟨p, 1, none⟩)) rfl (by kernel_rfl) (by kernel_rfl) (by kernel_rfl) (fun _ _ _ h => h) (Or.inl ⟨by rfl, by intro W _; go_simp⟩) (by assumption) ?_
  try simp only [Act.put, lq3, lq4, lq5]
  refine wpAnyH_take (i := 6) (v := .int .i64 m) rfl (by kernel_rfl) (by kernel_rfl) (by kernel_rfl) (fun _ _ _ h => h) (Or.inl ⟨by rfl, by intro W h; have hc := cell_of h.e1 1 (.int .i64 m) rfl; go_simp⟩) (by assumption) ?_
  try simp only [Act.put, lq3, lq4, lq5]
  refine wpAnyH_take (i := 7) (v := .pointer (some ⟨q, 1, none⟩)) rfl (by kernel_rfl) (by kernel_rfl) (by kernel_rfl) (fun _ _ _ h => h) (Or.inl ⟨by rfl, by intro W _; go_simp⟩) (by assumption) ?_
  try simp only [Act.put, lq3, lq4, lq5]
  refine wpAnyH_take (i := 8) (v := .int .i64 k) rfl (by kernel_rfl) (by kernel_rfl) (by kernel_rfl) (fun _ _ _ h => h) (Or.inl ⟨by rfl, by intro W h; have hc := cell_of h.e2 1 (.int .i64 k) rfl; go_simp⟩) (by assumption) ?_
  try simp only [Act.put, lq3, lq4, lq5]
  refine wpAnyH_ready (rs := [4]) (by kernel_rfl) (by simp) ?_
  refine AllReadyH.cons rfl (fun K hK => ?_) AllReadyH.nil
  go_simp
  go_at_call 173
  refine (compare_any x y _).mono ?_
  rintro e w1 ⟨rfl, rfl⟩
  dsimp only
  refine hK.out _ _ T1.out (fun hHeld => ?_)
  clear hK K
  try simp only [Act.put, lq3, lq4, lq5]
  refine wpAnyH_ready (rs := [9]) (by kernel_rfl) (by simp) ?_
  refine AllReadyH.cons rfl (fun K hK => ?_) AllReadyH.nil
  go_simp
  go_at_call 173
  refine (compare_any m k _).mono ?_
  rintro e w1 ⟨rfl, rfl⟩
  dsimp only
  refine hK.out _ _ T1.out (fun hHeld => ?_)
  clear hK K
  try simp only [Act.put, lq3, lq4, lq5]
  refine wpAnyH_ready (rs := [10]) (by kernel_rfl) (by simp) ?_
  refine AllReadyH.cons rfl (fun K hK => ?_) AllReadyH.nil
  go_simp
  have TB := Lib.hid (T1.out.below ((Gro.refl W0.drew.heap.size W0.drew).alloc (Nat.le_refl _) (.cells #[.int .i64 (cmpI x y), .int .i64 (cmpI m k)] 3)))
  refine hK.out _ _ TB.out (fun hHeld => ?_)
  clear hK K
  try simp only [Act.put, lq3, lq4, lq5]
  refine wpAnyH_ready (rs := [11]) (by kernel_rfl) (by simp) ?_
  refine AllReadyH.cons rfl (fun K hK => ?_) AllReadyH.nil
  go_simp
  go_at_call 172
  refine (or_two W0.drew.heap.size (cmpI x y) (cmpI m k) _ (heap_last W0.drew _)).mono ?_
  rintro e w1 ⟨rfl, rfl⟩
  dsimp only
  refine hK.out _ _ TB.out (fun hHeld => ?_)
  clear hK K
  try simp only [Act.put, lq3, lq4, lq5]
  refine wpAnyH_take (i := 12) (v := .int .i64 (orI (cmpI x y) (cmpI m k))) rfl (by kernel_rfl) (by kernel_rfl) (by kernel_rfl) (fun _ _ _ h => h) (Or.inl ⟨by rfl, by intro W _; go_simp⟩) (by assumption) ?_
  try simp only [Act.put, lq3, lq4, lq5]
  have TE := TB
  refine wpAnyH_done (by kernel_rfl) ?_ _
  refine NoPanic.normal ?_
  change Exit.then _ _ Exit.normal { tmps := #[.agg #[.int .i64 x, .int .i64 m], .agg #[.int .i64 y, .int .i64 k], .pointer (some ⟨p, 0, none⟩), .pointer (some ⟨q, 0, none⟩), .int .i64 (orI (cmpI x y) (cmpI m k)), .pointer (some ⟨p, 0, none⟩), .int .i64 x, .pointer (some ⟨q, 0, none⟩), .int .i64 y, .int .i64 (cmpI x y), .pointer (some ⟨p, 1, none⟩), .int .i64 m, .pointer (some ⟨q, 1, none⟩), .int .i64 k, .int .i64 (cmpI m k), .slice (some ⟨W0.drew.heap.size, 0, none⟩) 2 2, .int .i64 (orI (cmpI x y) (cmpI m k))], defers := [] } _
  go_wp2_with fail
  go_ret
  exact ⟨rfl, by rw [hp.out]; exact TE.out.b⟩
section
attribute [local go_sem] noteA_0
set_option maxHeartbeats 4000000 in
set_option maxRecDepth 100000 in
theorem known_gro (n r : NoteV) (sa : Option Addr) (sc : Nat) (ta : Option Addr) (tc : Nat) (w : World) : Calls Tryz.prog 191 #[.agg (noteA n sa sc), .agg (noteA r ta tc)] w fun e w' => e = .returned (.int .i64 (knownC n r)) ∧ Gro w.heap.size w w' := by
  have I43 := Lib.hid (show ∀ (m : NoteV) (a : Option Addr) (c : Nat), (Tryz.prog.info? 47).map (·.size) = some (noteA m a c).size from fun m a c => by kernel_rfl)
  have g1 := heap_before _ (.cells (noteA r ta tc) 47) _ _ (heap_last w (.cells (noteA n sa sc) 47))
  have g2 := heap_at (w.alloc (.cells (noteA n sa sc) 47)) (.cells (noteA r ta tc) 47) (w.heap.size + 1) (by simp)
  have bb : Gro w.heap.size w ((w.alloc (.cells (noteA n sa sc) 47)).alloc (.cells (noteA r ta tc) 47)) := ((Gro.refl _ _).alloc (Nat.le_refl _) _).alloc (by simp) _
  have T0 : Hid (TwoG w ((w.alloc (.cells (noteA n sa sc) 47)).alloc (.cells (noteA r ta tc) 47)) w.heap.size (w.heap.size + 1) (noteA n sa sc) (noteA r ta tc) 47) := Lib.hid ⟨g1, g2, bb, by omega⟩
  clear g1 g2 bb
  go_enter Tryz.func191, Tryz.ntmps191
  go_upto_region 1 with fail
  generalize (w.alloc (.cells (noteA n sa sc) 47)).alloc (.cells (noteA r ta tc) 47) = W0 at *
  obtain ⟨p, hp⟩ : ∃ p, Hid (w.heap.size = p) := ⟨_, Lib.hid rfl⟩
  obtain ⟨q, hq⟩ : ∃ q, Hid (w.heap.size + 1 = q) := ⟨_, Lib.hid rfl⟩
  rw [hq.out, hp.out] at T0
  rw [hq.out, hp.out]
  have T1 := Lib.hid (T0.out.below (Gro.refl W0.heap.size W0).drew)
  refine wp_region_noPanic ?_
  refine wp_region_held_drew (S := fun w' => TwoG w w' p q (noteA n sa sc) (noteA r ta tc) 47) (by kernel_rfl) T1.out (fun hHeld => ?_)
  refine wpAnyH_take (i := 0) (v := .pointer (some ⟨p, 2, none⟩)) rfl (by kernel_rfl) (by kernel_rfl) (by kernel_rfl) (fun _ _ _ h => h) (Or.inl ⟨by rfl, by intro W _; go_simp⟩) (by assumption) ?_
  try simp only [Act.put, lq3, lq4, lq5]
  refine wpAnyH_take (i := 1) (v := .int .i64 n.clock) rfl (by kernel_rfl) (by kernel_rfl) (by kernel_rfl) (fun _ _ _ h => h) (Or.inl ⟨by rfl, by intro W h; have hc := cell_of h.e1 2 (.int .i64 n.clock) rfl; go_simp⟩) (by assumption) ?_
  try simp only [Act.put, lq3, lq4, lq5]
  refine wpAnyH_take (i := 2) (v := .pointer (some ⟨q, 2, none⟩)) rfl (by kernel_rfl) (by kernel_rfl) (by kernel_rfl) (fun _ _ _ h => h) (Or.inl ⟨by rfl, by intro W _; go_simp⟩) (by assumption) ?_
  try simp only [Act.put, lq3, lq4, lq5]
  refine wpAnyH_take (i := 3) (v := .int .i64 r.clock) rfl (by kernel_rfl) (by kernel_rfl) (by kernel_rfl) (fun _ _ _ h => h) (Or.inl ⟨by rfl, by intro W h; have hc := cell_of h.e2 2 (.int .i64 r.clock) rfl; go_simp⟩) (by assumption) ?_
  try simp only [Act.put, lq3, lq4, lq5]
  refine wpAnyH_take (i := 5) (v := .agg (noteA n sa sc)) rfl (by kernel_rfl) (by kernel_rfl) (by kernel_rfl) (fun _ _ _ h => h) (yields_row (by rfl) 47 _ rfl p rfl _ 47 (0, 0) _ (fun W h => h.e1) Tryz.underlying47 rfl (I43.out _ _ _)) (by assumption) ?_
  try simp only [Act.put, lq3, lq4, lq5]
  refine wpAnyH_take (i := 7) (v := .agg (noteA r ta tc)) rfl (by kernel_rfl) (by kernel_rfl) (by kernel_rfl) (fun _ _ _ h => h) (yields_row (by rfl) 47 _ rfl q rfl _ 47 (0, 0) _ (fun W h => h.e2) Tryz.underlying47 rfl (I43.out _ _ _)) (by assumption) ?_
  try simp only [Act.put, lq3, lq4, lq5]
  refine wpAnyH_ready (rs := [4]) (by kernel_rfl) (by simp) ?_
  refine AllReadyH.cons rfl (fun K hK => ?_) AllReadyH.nil
  go_simp
  go_at_call 173
  refine (compare_any n.clock r.clock _).mono ?_
  rintro e w1 ⟨rfl, rfl⟩
  dsimp only
  refine hK.out _ _ T1.out (fun hHeld => ?_)
  clear hK K
  try simp only [Act.put, lq3, lq4, lq5]
  refine wpAnyH_ready (rs := [6]) (by kernel_rfl) (by simp) ?_
  refine AllReadyH.cons rfl (fun K hK => ?_) AllReadyH.nil
  go_simp
  go_at_call 167
  refine (nameOf_gro n sa sc _).mono ?_
  rintro e w1 ⟨rfl, b1⟩
  have T2 := Lib.hid (T1.out.below b1); clear b1
  dsimp only
  refine hK.out _ _ T2.out (fun hHeld => ?_)
  clear hK K
  try simp only [Act.put, lq3, lq4, lq5]
  refine wpAnyH_ready (rs := [8]) (by kernel_rfl) (by simp) ?_
  refine AllReadyH.cons rfl (fun K hK => ?_) AllReadyH.nil
  go_simp
  go_at_call 167
  refine (nameOf_gro r ta tc _).mono ?_
  rintro e w2 ⟨rfl, b1⟩
  have T3 := Lib.hid (T2.out.below b1); clear b1
  dsimp only
  refine hK.out _ _ T3.out (fun hHeld => ?_)
  clear hK K
  try simp only [Act.put, lq3, lq4, lq5]
  refine wpAnyH_ready (rs := [9]) (by kernel_rfl) (by simp) ?_
  refine AllReadyH.cons rfl (fun K hK => ?_) AllReadyH.nil
  go_simp
  go_at_call 124
  refine (compareNames_gro n.house n.num r.house r.num _).mono ?_
  rintro e w3 ⟨rfl, b1⟩
  have T4 := Lib.hid (T3.out.below b1); clear b1
  dsimp only
  refine hK.out _ _ T4.out (fun hHeld => ?_)
  clear hK K
  try simp only [Act.put, lq3, lq4, lq5]
  refine wpAnyH_ready (rs := [10]) (by kernel_rfl) (by simp) ?_
  refine AllReadyH.cons rfl (fun K hK => ?_) AllReadyH.nil
  go_simp
  have TB := Lib.hid (T4.out.below ((Gro.refl w3.heap.size w3).alloc (Nat.le_refl _) (.cells #[.int .i64 (cmpI n.clock r.clock), .int .i64 (namesC n.house n.num r.house r.num)] 3)))
  refine hK.out _ _ TB.out (fun hHeld => ?_)
  clear hK K
  try simp only [Act.put, lq3, lq4, lq5]
  refine wpAnyH_ready (rs := [11]) (by kernel_rfl) (by simp) ?_
  refine AllReadyH.cons rfl (fun K hK => ?_) AllReadyH.nil
  go_simp
  go_at_call 172
  refine (or_two w3.heap.size (cmpI n.clock r.clock) (namesC n.house n.num r.house r.num) _ (heap_last w3 _)).mono ?_
  rintro e w4 ⟨rfl, rfl⟩
  dsimp only
  refine hK.out _ _ TB.out (fun hHeld => ?_)
  clear hK K
  try simp only [Act.put, lq3, lq4, lq5]
  refine wpAnyH_take (i := 12) (v := .int .i64 (orI (cmpI n.clock r.clock) (namesC n.house n.num r.house r.num))) rfl (by kernel_rfl) (by kernel_rfl) (by kernel_rfl) (fun _ _ _ h => h) (Or.inl ⟨by rfl, by intro W _; go_simp⟩) (by assumption) ?_
  try simp only [Act.put, lq3, lq4, lq5]
  have TE := TB
  refine wpAnyH_done (by kernel_rfl) ?_ _
  refine NoPanic.normal ?_
  change Exit.then _ _ Exit.normal { tmps := #[.agg (noteA n sa sc), .agg (noteA r ta tc), .pointer (some ⟨p, 0, none⟩), .pointer (some ⟨q, 0, none⟩), .int .i64 (orI (cmpI n.clock r.clock) (namesC n.house n.num r.house r.num)), .pointer (some ⟨p, 2, none⟩), .int .i64 n.clock, .pointer (some ⟨q, 2, none⟩), .int .i64 r.clock, .int .i64 (cmpI n.clock r.clock), .agg (noteA n sa sc), .agg #[.int .i64 n.house, .int .i64 n.num], .agg (noteA r ta tc), .agg #[.int .i64 r.house, .int .i64 r.num], .int .i64 (namesC n.house n.num r.house r.num), .slice (some ⟨w3.heap.size, 0, none⟩) 2 2, .int .i64 (orI (cmpI n.clock r.clock) (namesC n.house n.num r.house r.num))], defers := [] } _
  go_wp2_with fail
  go_ret
  exact ⟨rfl, by rw [hp.out]; exact TE.out.b⟩
set_option maxHeartbeats 4000000 in
set_option maxRecDepth 100000 in
theorem when_gro (n r : NoteV) (sa : Option Addr) (sc : Nat) (ta : Option Addr) (tc : Nat) (w : World) : Calls Tryz.prog 222 #[.agg (noteA n sa sc), .agg (noteA r ta tc)] w fun e w' => e = .returned (.int .i64 (whenC n r)) ∧ Gro w.heap.size w w' := by
  have I43 := Lib.hid (show ∀ (m : NoteV) (a : Option Addr) (c : Nat), (Tryz.prog.info? 47).map (·.size) = some (noteA m a c).size from fun m a c => by kernel_rfl)
  have g1 := heap_before _ (.cells (noteA r ta tc) 47) _ _ (heap_last w (.cells (noteA n sa sc) 47))
  have g2 := heap_at (w.alloc (.cells (noteA n sa sc) 47)) (.cells (noteA r ta tc) 47) (w.heap.size + 1) (by simp)
  have bb : Gro w.heap.size w ((w.alloc (.cells (noteA n sa sc) 47)).alloc (.cells (noteA r ta tc) 47)) := ((Gro.refl _ _).alloc (Nat.le_refl _) _).alloc (by simp) _
  have T0 : Hid (TwoG w ((w.alloc (.cells (noteA n sa sc) 47)).alloc (.cells (noteA r ta tc) 47)) w.heap.size (w.heap.size + 1) (noteA n sa sc) (noteA r ta tc) 47) := Lib.hid ⟨g1, g2, bb, by omega⟩
  clear g1 g2 bb
  go_enter Tryz.func222, Tryz.ntmps222
  go_upto_region 1 with fail
  generalize (w.alloc (.cells (noteA n sa sc) 47)).alloc (.cells (noteA r ta tc) 47) = W0 at *
  obtain ⟨p, hp⟩ : ∃ p, Hid (w.heap.size = p) := ⟨_, Lib.hid rfl⟩
  obtain ⟨q, hq⟩ : ∃ q, Hid (w.heap.size + 1 = q) := ⟨_, Lib.hid rfl⟩
  rw [hq.out, hp.out] at T0
  rw [hq.out, hp.out]
  have T1 := Lib.hid (T0.out.below (Gro.refl W0.heap.size W0).drew)
  refine wp_region_noPanic ?_
  refine wp_region_held_drew (S := fun w' => TwoG w w' p q (noteA n sa sc) (noteA r ta tc) 47) (by kernel_rfl) T1.out (fun hHeld => ?_)
  refine wpAnyH_take (i := 0) (v := .pointer (some ⟨p, 3, none⟩)) rfl (by kernel_rfl) (by kernel_rfl) (by kernel_rfl) (fun _ _ _ h => h) (Or.inl ⟨by rfl, by intro W _; go_simp⟩) (by assumption) ?_
  try simp only [Act.put, lq3, lq4, lq5]
  refine wpAnyH_take (i := 1) (v := .int .i64 n.day) rfl (by kernel_rfl) (by kernel_rfl) (by kernel_rfl) (fun _ _ _ h => h) (Or.inl ⟨by rfl, by intro W h; have hc := cell_of h.e1 3 (.int .i64 n.day) rfl; go_simp⟩) (by assumption) ?_
  try simp only [Act.put, lq3, lq4, lq5]
  refine wpAnyH_take (i := 2) (v := .pointer (some ⟨q, 3, none⟩)) rfl (by kernel_rfl) (by kernel_rfl) (by kernel_rfl) (fun _ _ _ h => h) (Or.inl ⟨by rfl, by intro W _; go_simp⟩) (by assumption) ?_
  try simp only [Act.put, lq3, lq4, lq5]
  refine wpAnyH_take (i := 3) (v := .int .i64 r.day) rfl (by kernel_rfl) (by kernel_rfl) (by kernel_rfl) (fun _ _ _ h => h) (Or.inl ⟨by rfl, by intro W h; have hc := cell_of h.e2 3 (.int .i64 r.day) rfl; go_simp⟩) (by assumption) ?_
  try simp only [Act.put, lq3, lq4, lq5]
  refine wpAnyH_take (i := 5) (v := .agg (noteA n sa sc)) rfl (by kernel_rfl) (by kernel_rfl) (by kernel_rfl) (fun _ _ _ h => h) (yields_row (by rfl) 47 _ rfl p rfl _ 47 (0, 0) _ (fun W h => h.e1) Tryz.underlying47 rfl (I43.out _ _ _)) (by assumption) ?_
  try simp only [Act.put, lq3, lq4, lq5]
  refine wpAnyH_take (i := 6) (v := .agg (noteA r ta tc)) rfl (by kernel_rfl) (by kernel_rfl) (by kernel_rfl) (fun _ _ _ h => h) (yields_row (by rfl) 47 _ rfl q rfl _ 47 (0, 0) _ (fun W h => h.e2) Tryz.underlying47 rfl (I43.out _ _ _)) (by assumption) ?_
  try simp only [Act.put, lq3, lq4, lq5]
  refine wpAnyH_ready (rs := [4]) (by kernel_rfl) (by simp) ?_
  refine AllReadyH.cons rfl (fun K hK => ?_) AllReadyH.nil
  go_simp
  go_at_call 173
  refine (compare_any n.day r.day _).mono ?_
  rintro e w1 ⟨rfl, rfl⟩
  dsimp only
  refine hK.out _ _ T1.out (fun hHeld => ?_)
  clear hK K
  try simp only [Act.put, lq3, lq4, lq5]
  refine wpAnyH_ready (rs := [7]) (by kernel_rfl) (by simp) ?_
  refine AllReadyH.cons rfl (fun K hK => ?_) AllReadyH.nil
  go_simp
  go_at_call 191
  refine (known_gro n r sa sc ta tc _).mono ?_
  rintro e w3 ⟨rfl, b1⟩
  have T4 := Lib.hid (T1.out.below b1); clear b1
  dsimp only
  refine hK.out _ _ T4.out (fun hHeld => ?_)
  clear hK K
  try simp only [Act.put, lq3, lq4, lq5]
  refine wpAnyH_ready (rs := [8]) (by kernel_rfl) (by simp) ?_
  refine AllReadyH.cons rfl (fun K hK => ?_) AllReadyH.nil
  go_simp
  have TB := Lib.hid (T4.out.below ((Gro.refl w3.heap.size w3).alloc (Nat.le_refl _) (.cells #[.int .i64 (cmpI n.day r.day), .int .i64 (knownC n r)] 3)))
  refine hK.out _ _ TB.out (fun hHeld => ?_)
  clear hK K
  try simp only [Act.put, lq3, lq4, lq5]
  refine wpAnyH_ready (rs := [9]) (by kernel_rfl) (by simp) ?_
  refine AllReadyH.cons rfl (fun K hK => ?_) AllReadyH.nil
  go_simp
  go_at_call 172
  refine (or_two w3.heap.size (cmpI n.day r.day) (knownC n r) _ (heap_last w3 _)).mono ?_
  rintro e w4 ⟨rfl, rfl⟩
  dsimp only
  refine hK.out _ _ TB.out (fun hHeld => ?_)
  clear hK K
  try simp only [Act.put, lq3, lq4, lq5]
  refine wpAnyH_take (i := 10) (v := .int .i64 (orI (cmpI n.day r.day) (knownC n r))) rfl (by kernel_rfl) (by kernel_rfl) (by kernel_rfl) (fun _ _ _ h => h) (Or.inl ⟨by rfl, by intro W _; go_simp⟩) (by assumption) ?_
  try simp only [Act.put, lq3, lq4, lq5]
  have TE := TB
  refine wpAnyH_done (by kernel_rfl) ?_ _
  refine NoPanic.normal ?_
  change Exit.then _ _ Exit.normal { tmps := #[.agg (noteA n sa sc), .agg (noteA r ta tc), .pointer (some ⟨p, 0, none⟩), .pointer (some ⟨q, 0, none⟩), .int .i64 (orI (cmpI n.day r.day) (knownC n r)), .pointer (some ⟨p, 3, none⟩), .int .i64 n.day, .pointer (some ⟨q, 3, none⟩), .int .i64 r.day, .int .i64 (cmpI n.day r.day), .agg (noteA n sa sc), .agg (noteA r ta tc), .int .i64 (knownC n r), .slice (some ⟨w3.heap.size, 0, none⟩) 2 2, .int .i64 (orI (cmpI n.day r.day) (knownC n r))], defers := [] } _
  go_wp2_with fail
  go_ret
  exact ⟨rfl, by rw [hp.out]; exact TE.out.b⟩
end
end Go.Proofs.YtlnhppgfhkkidaaGreat
namespace Go.Proofs.YtlnhppgfhkkidaaGreat
set_option linter.unusedSimpArgs false
open Go.RowKit Go.Sort Go.Shelf

theorem swo_of {V : Type} {lt : V → V → Bool} (ho : Ord lt) : SWO lt where
  irrefl x := by
    cases h : lt x x with
    | false => rfl
    | true => have := ho.1 x x h; rw [h] at this; cases this
  trans x y z h1 h2 := by
    cases h3 : lt x z with
    | true => rfl
    | false =>
      have h4 := ho.1 y z h2
      have h5 := ho.2 y z x h4 h3
      rw [h1] at h5; cases h5
  ntrans x y z h1 h2 := ho.2 z y x h2 h1
theorem grown_of {w w' : World} (h : Gro w.heap.size w w') : ∃ q os, w' = grow (w.drewN q) os := by
  refine ⟨w'.drawn - w.drawn, w'.heap.extract w.heap.size w'.heap.size, ?_⟩
  have hd := h.drawn
  obtain ⟨heap', tape', drawn', os', output'⟩ := w'
  have e1 : os' = w.os := h.bel.os
  have e2 : tape' = w.tape := h.bel.tape
  have e3 : output' = w.output := h.bel.output
  have hs : w.heap.size ≤ heap'.size := h.bel.size
  have hb : ∀ k, k < w.heap.size → heap'[k]? = w.heap[k]? := h.bel.block
  subst e1 e2 e3
  have eh : heap' = w.heap ++ heap'.extract w.heap.size heap'.size := by
    apply Array.ext_getElem?
    intro k
    by_cases hk : k < w.heap.size
    · rw [Array.getElem?_append_left hk]; exact hb k hk
    · rw [Array.getElem?_append_right (by omega), Array.getElem?_extract]
      by_cases hk2 : k < heap'.size
      · rw [if_pos (by omega)]; congr 1; omega
      · rw [if_neg (by omega), Array.getElem?_eq_none (by omega)]
  have ed : drawn' = w.drawn + (drawn' - w.drawn) := by simp only at hd; omega
  simp only [grow, World.drewN]
  congr 1
theorem flat_len (k : Nat) : ∀ (rows : List (List Value)), (∀ r ∈ rows, r.length = k) → rows.flatten.length = rows.length * k
  | [], _ => by simp
  | r :: rows, h => by
    rw [List.flatten_cons, List.length_append, flat_len k rows (fun x hx => h x (List.mem_cons_of_mem _ hx)), h r (List.mem_cons_self ..), List.length_cons, Nat.add_mul]
    omega
theorem flat_at (k : Nat) : ∀ (rows : List (List Value)), (∀ r ∈ rows, r.length = k) → ∀ (i : Nat) (r : List Value), rows[i]? = some r → ∀ (j : Nat), j < k → rows.flatten[i * k + j]? = r[j]?
  | [], _, i, r, hi, _, _ => by simp at hi
  | x :: rows, h, 0, r, hi, j, hj => by
    have : x = r := by simpa using hi
    subst this
    rw [List.flatten_cons, Nat.zero_mul, Nat.zero_add, List.getElem?_append_left (by rw [h x (List.mem_cons_self ..)]; exact hj)]
  | x :: rows, h, i + 1, r, hi, j, hj => by
    have hi' : rows[i]? = some r := by simpa using hi
    rw [List.flatten_cons, List.getElem?_append_right (by rw [h x (List.mem_cons_self ..), Nat.add_mul]; omega), h x (List.mem_cons_self ..),
      show (i + 1) * k + j - k = i * k + j by rw [Nat.add_mul]; omega]
    exact flat_at k rows (fun y hy => h y (List.mem_cons_of_mem _ hy)) i r hi' j hj
theorem flatK_at {V : Type} [Inhabited V] (row : V → List Value) (k : Nat) (hlen : ∀ x, (row x).length = k) (ys : List V) (t : Nat) (ht : t < ys.length * k) : (ys.map row).flatten[t]? = some (flatK row k ys.toArray)[t]! := by
  have hk : 0 < k := Nat.pos_of_ne_zero (fun e => by subst e; simp at ht)
  have hi : t / k < ys.length := by rw [Nat.div_lt_iff_lt_mul hk]; exact ht
  have hj := Nat.mod_lt t hk
  have e : t / k * k + t % k = t := by rw [Nat.mul_comm]; exact Nat.div_add_mod t k
  have h1 := flat_at k (ys.map row) (by intro r hr; obtain ⟨x, _, rfl⟩ := List.mem_map.1 hr; exact hlen x) (t / k) (row ys[t / k]) (by rw [List.getElem?_map, List.getElem?_eq_getElem hi]; rfl) (t % k) hj
  rw [e] at h1
  rw [h1, get_flatK row k ys.toArray t (by simpa using ht)]
  have h2 : (ys.toArray)[t / k]! = ys[t / k] := by
    rw [getElem!_pos ys.toArray (t / k) (by simpa using hi)]
    simp
  rw [h2, List.getElem?_eq_getElem (by rw [hlen]; exact hj)]
  rw [getElem!_pos (row ys[t / k]) (t % k) (by rw [hlen]; exact hj)]
theorem sort_all {V : Type} [Inhabited V] {lt : V → V → Bool} {ty : TypeId} {ρ : Ren} (L : SlLaysF0.n6 Tryz.prog ρ) (k : Nat) (aE : ∀ w, (isAgg (ρ.t 24)).run Tryz.prog w = .ok true w) (zE : ∀ w, (Go.sizeOf (ρ.t 24)).run Tryz.prog w = .ok k w)
    (ho : Ord lt) (row : V → List Value) (hlen : ∀ x, (row x).length = k) (hone : ∀ x, ∀ v ∈ row x, v.oneCell' = true) (cf : V → V → Int) (hlt : ∀ x y, lt x y = decide (cf x y < 0)) (fn : Nat)
    (hfn : ∀ (args : Array Value) (w : World), (callFunc fn args).run Tryz.prog w = .ok (.enter fn args) w)
    (hcmp : ∀ (x y : V) (w : World), Calls Tryz.prog fn #[.agg (row x).toArray, .agg (row y).toArray] w fun e w' => e = .returned (.int .i64 (cf x y)) ∧ Gro w.heap.size w w')
    (base n c : Nat) (a : Option Addr) (ys : List V) (w : World) (hR : w.ownsRow base ty k (.slice a n c) n (ys.map row).flatten) (hn : ys.length = n) (hsm : n ≤ 1000000) :
    Calls Tryz.prog (ρ.f 6) #[.slice a n c, .func (.func fn) #[] #[]] w fun e w' =>
      e = .returned (.tuple #[]) ∧ ∃ zs : List V, w'.ownsRow base ty k (.slice a n c) n (zs.map row).flatten ∧ zs.Perm ys ∧ zs.Pairwise (fun x y => lt y x = false) ∧ Same (fun k => Value.ownBlock (.slice a n c) = some k) w w' := by
  rcases hR.2 with ⟨h2, h3⟩ | ⟨g, cap, cur, h2, hbg, hg, hnc, hcm, hcs, htake⟩
  · simp only [Value.slice.injEq] at h2
    obtain ⟨rfl, rfl, rfl⟩ := h2
    have hy : ys = [] := List.eq_nil_of_length_eq_zero hn
    subst hy
    refine (AnyF.slices_SortFunc_none L none 0 _ w).mono ?_
    rintro e w' ⟨rfl, rfl⟩
    exact ⟨rfl, [], hR, List.Perm.refl _, List.Pairwise.nil, Same.refl _ _⟩
  · simp only [Value.slice.injEq] at h2
    obtain ⟨rfl, _, rfl⟩ := h2
    have hgl := blk_lt hg
    have hnk : n * k ≤ c * k := Nat.mul_le_mul_right _ hnc
    have hlt' : ltOf cf = lt := by funext x y; rw [hlt]; rfl
    have hH : HoldsK row k w g 0 ys.toArray := by
      intro t ht
      rw [size_flatK] at ht
      have ht' : t < ys.length * k := by simpa using ht
      have h5 := flatK_at row k hlen ys t ht'
      rw [← htake, List.getElem?_take, if_pos (by rw [← hn]; exact ht')] at h5
      refine ⟨?_, by simp [World.frozen?, hg]⟩
      simp only [World.cell?, hg, Nat.zero_add, id_eq]
      simpa using h5
    have hcL : CmpLays Tryz.prog fn #[] row k cf g 0 ys.toArray.size w := fun m os dk _ x y => by
      refine (hcmp x y _).mono ?_
      rintro e w' ⟨rfl, hgr⟩
      exact ⟨rfl, grown_of hgr⟩
    have hsz : ys.toArray.size = n := by simpa using hn
    have hcon := AnyQ.slices_SortFunc L k aE zE row hlen hone cf (by rw [hlt']; exact swo_of ho) fn #[] g 0 c ys.toArray w hfn hcL hH hgl (by rw [hsz]; omega)
    rw [hsz] at hcon
    refine hcon.mono ?_
    rintro e w' ⟨rfl, d', q, os, hp, hs, rfl⟩
    have hds : d'.size = n := by rw [hp.1, hsz]
    have hdl : d'.toList.length = n := by simpa using hds
    refine ⟨rfl, d'.toList, ⟨?_, .inr ⟨g, c, putCells id 0 (flatK row k d') cur, rfl, hbg, ?_, hnc, hcm, ?_, ?_⟩⟩, ?_, ?_, ?_⟩
    · rw [flat_len k _ (by intro r hr; obtain ⟨x, _, rfl⟩ := List.mem_map.1 hr; exact hlen x), List.length_map, hdl]
    · simp only [sortWorldK, grow, putRowK, putRow, mapBlock, Sort.ahead]
      rw [Array.getElem?_append_left (by simpa using hgl), Array.getElem?_modify, if_pos rfl, hg]
      rfl
    · rw [← hcs]; simp [putCells]
    · apply List.ext_getElem?
      intro t
      rw [List.getElem?_take]
      by_cases ht : t < n * k
      · rw [if_pos ht]
        have h5 := flatK_at row k hlen d'.toList t (by rw [hdl]; exact ht)
        rw [h5]
        have htc : t < cur.size := by rw [hcs]; omega
        simp only [putCells, Array.getElem?_toList, Array.getElem?_mapIdx, Array.getElem?_eq_getElem htc, Option.map_some]
        rw [if_pos ⟨Nat.zero_le _, by rw [size_flatK, hds, Nat.zero_add]; exact ht⟩]
        simp
      · rw [if_neg ht, List.getElem?_eq_none]
        rw [flat_len k _ (by intro r hr; obtain ⟨x, _, rfl⟩ := List.mem_map.1 hr; exact hlen x), List.length_map, hdl]
        omega
    · have h6 := hp.2.2
      have h7 : d'.extract 0 n = d' := by rw [← hds]; simp
      have h8 : ys.toArray.extract 0 n = ys.toArray := by rw [← hsz]; simp
      rw [h7, h8] at h6
      simpa using h6
    · rw [hlt'] at hs
      rw [List.pairwise_iff_getElem]
      intro i j hi hj hij
      have h9 := hs i j (Nat.zero_le _) hij (by rw [hdl] at hj; exact hj)
      rw [getElem!_pos d' j (by simpa using hj), getElem!_pos d' i (by simpa using hi)] at h9
      simpa using h9
    · refine ⟨rfl, rfl, rfl, by simp [sortWorldK, grow, putRowK, putRow, mapBlock, Sort.ahead], fun q' hq' hne => ?_⟩
      have hqg : g ≠ q' := fun e => hne (by rw [← e]; rfl)
      simp only [sortWorldK, grow, putRowK, putRow, mapBlock, Sort.ahead]
      rw [Array.getElem?_append_left (by simpa using hq'), Array.getElem?_modify, if_neg hqg]
theorem sortNote_all {V : Type} [Inhabited V] {lt : V → V → Bool} (ho : Ord lt) (row : V → List Value) (hlen : ∀ x, (row x).length = 19) (hone : ∀ x, ∀ v ∈ row x, v.oneCell' = true) (cf : V → V → Int) (hlt : ∀ x y, lt x y = decide (cf x y < 0)) (fn : Nat)
    (hfn : ∀ (args : Array Value) (w : World), (callFunc fn args).run Tryz.prog w = .ok (.enter fn args) w)
    (hcmp : ∀ (x y : V) (w : World), Calls Tryz.prog fn #[.agg (row x).toArray, .agg (row y).toArray] w fun e w' => e = .returned (.int .i64 (cf x y)) ∧ Gro w.heap.size w w')
    (base n c : Nat) (a : Option Addr) (ys : List V) (w : World) (hR : w.ownsRow base 47 19 (.slice a n c) n (ys.map row).flatten) (hn : ys.length = n) (hsm : n ≤ 1000000) :
    Calls Tryz.prog 221 #[.slice a n c, .func (.func fn) #[] #[]] w fun e w' =>
      e = .returned (.tuple #[]) ∧ ∃ zs : List V, w'.ownsRow base 47 19 (.slice a n c) n (zs.map row).flatten ∧ zs.Perm ys ∧ zs.Pairwise (fun x y => lt y x = false) ∧ Same (fun k => Value.ownBlock (.slice a n c) = some k) w w' :=
  sort_all Tryz.sortNote 19 Tryz.isAgg47 Tryz.sizeOf47 ho row hlen hone cf hlt fn hfn hcmp base n c a ys w hR hn hsm
theorem sortName_all {V : Type} [Inhabited V] {lt : V → V → Bool} (ho : Ord lt) (row : V → List Value) (hlen : ∀ x, (row x).length = 2) (hone : ∀ x, ∀ v ∈ row x, v.oneCell' = true) (cf : V → V → Int) (hlt : ∀ x y, lt x y = decide (cf x y < 0)) (fn : Nat)
    (hfn : ∀ (args : Array Value) (w : World), (callFunc fn args).run Tryz.prog w = .ok (.enter fn args) w)
    (hcmp : ∀ (x y : V) (w : World), Calls Tryz.prog fn #[.agg (row x).toArray, .agg (row y).toArray] w fun e w' => e = .returned (.int .i64 (cf x y)) ∧ Gro w.heap.size w w')
    (base n c : Nat) (a : Option Addr) (ys : List V) (w : World) (hR : w.ownsRow base 45 2 (.slice a n c) n (ys.map row).flatten) (hn : ys.length = n) (hsm : n ≤ 1000000) :
    Calls Tryz.prog 170 #[.slice a n c, .func (.func fn) #[] #[]] w fun e w' =>
      e = .returned (.tuple #[]) ∧ ∃ zs : List V, w'.ownsRow base 45 2 (.slice a n c) n (zs.map row).flatten ∧ zs.Perm ys ∧ zs.Pairwise (fun x y => lt y x = false) ∧ Same (fun k => Value.ownBlock (.slice a n c) = some k) w w' :=
  sort_all Tryz.sortName 2 Tryz.isAgg45 Tryz.sizeOf45 ho row hlen hone cf hlt fn hfn hcmp base n c a ys w hR hn hsm
end Go.Proofs.YtlnhppgfhkkidaaGreat
namespace Go.Proofs.YtlnhppgfhkkidaaGreat
set_option linter.unusedSimpArgs false
open Go.RowKit

structure EvV where
  nm : Nm
  x : LN
def EvV.cells (e : EvV) : List Value := [.int .i64 e.nm.1, .int .i64 e.nm.2] ++ e.x.n.cells e.x.sa e.x.sc
def evA (e : EvV) : Array Value := e.cells.toArray
theorem evA_one (e : EvV) : ∀ v ∈ e.cells, v.oneCell' = true := by
  intro v hv
  simp only [EvV.cells, List.cons_append, List.nil_append, List.mem_cons] at hv
  rcases hv with rfl | rfl | hv
  · rfl
  · rfl
  · exact e.x.n.cells_one _ _ v hv
def RdEs (W : World) (a : Option Addr) (n c : Nat) (es : List EvV) : Prop :=
  es.length = n ∧ n ≤ c ∧ c ≤ maxLen ∧ (c = 0 ∨ ∃ b off, a = some ⟨b, off, none⟩ ∧ ∀ i x, es[i]? = some x → W.rangeAt b (off + i * 21) x.cells)
theorem RdEs.below {W W' : World} {a : Option Addr} {n c : Nat} {l : List EvV} (h : RdEs W a n c l) (hb : Below W.heap.size W W') : RdEs W' a n c l := by
  refine ⟨h.1, h.2.1, h.2.2.1, h.2.2.2.imp id ?_⟩
  rintro ⟨b, off, rfl, h4⟩
  exact ⟨b, off, rfl, fun i x hx => rangeAt_below (h4 i x hx) hb⟩
theorem RdEs.at {W : World} {a : Option Addr} {n c : Nat} {l : List EvV} (h : RdEs W a n c l) (h0 : 0 < n) : ∃ b off, a = some ⟨b, off, none⟩ ∧ ∀ i x, l[i]? = some x → W.rangeAt b (off + i * 21) x.cells := by
  rcases h.2.2.2 with h4 | h4
  · have := h.2.1; omega
  · exact h4
theorem RdEs.maxn {W : World} {a : Option Addr} {n c : Nat} {l : List EvV} (h : RdEs W a n c l) : n ≤ 9223372036854775807 := by
  have h1 := h.2.1; have h2 := h.2.2.1; unfold maxLen at h2; omega
theorem idx_off {t e : TypeId} {k b off n c j o : Nat} {W : World} (ht : Tryz.prog.underlying t = some (.slice e)) (hk : (Tryz.prog.info? e).map (·.size) = some k) (hj : j < n) (ho : off + j * k = o) :
    (Instr.indexAt t (.slice (some ⟨b, off, none⟩) n c) (.int .i64 (j : Int))).run Tryz.prog W = .ok (.pointer (some ⟨b, o, none⟩)) W := by
  subst ho
  cases hq : Tryz.prog.info? e with
  | none => simp [hq] at hk
  | some i =>
    simp only [hq, Option.map_some, Option.some.injEq] at hk
    simp [Instr.indexAt, run_underlying ht, Instr.sureAddr, asIntOf, sizeOf, typeInfo, hq, hk, Addr.add, hj]
def idxI (es : List EvV) (p : EvV → Bool) : Int := match es.findIdx? p with | some i => (i : Int) | none => -1
theorem idxI_at {es : List EvV} {p : EvV → Bool} {k : Nat} {x : EvV} (hx : es[k]? = some x) (hp : p x = true) (hb : ∀ j y, j < k → es[j]? = some y → p y = false) : idxI es p = k := by
  have : es.findIdx? p = some k := by
    rw [List.findIdx?_eq_some_iff_getElem]
    obtain ⟨h1, rfl⟩ := List.getElem?_eq_some_iff.1 hx
    exact ⟨h1, hp, fun j hj => by rw [hb j _ hj (List.getElem?_eq_getElem (by omega))]; decide⟩
  simp [idxI, this]
theorem idxI_none {es : List EvV} {p : EvV → Bool} (hb : ∀ j y, j < es.length → es[j]? = some y → p y = false) : idxI es p = -1 := by
  have : es.findIdx? p = none := by
    rw [List.findIdx?_eq_none_iff]
    intro x hx
    obtain ⟨j, h1, h2⟩ := List.getElem_of_mem hx
    exact hb j x h1 (by rw [List.getElem?_eq_getElem h1, h2])
  simp [idxI, this]
set_option maxHeartbeats 4000000 in
set_option maxRecDepth 100000 in
theorem indexF_any (es : List EvV) (pred : EvV → Bool) (fn : Nat) (cv : Value) (hfn : ∀ (args : Array Value) (w : World), (callFunc fn args).run Tryz.prog w = .ok (.enter fn args) w)
    (a : Option Addr) (n c : Nat) (w : World) (hr : RdEs w a n c es)
    (hp : ∀ e ∈ es, ∀ W, Below w.heap.size w W → Calls Tryz.prog fn #[.agg (evA e), cv] W fun r W' => r = .returned (.bool (pred e)) ∧ Below W.heap.size W W') :
    Calls Tryz.prog 242 #[.slice a n c, .func (.func fn) #[] #[cv]] w fun e w' => e = .returned (.int .i64 (idxI es pred)) ∧ Below w.heap.size w w' := by
  have I21 : (Tryz.prog.info? 210).map (·.size) = some 21 := by kernel_rfl
  have hn63 := hr.maxn
  have HN := Lib.hid hr.1
  have RE := Lib.hid (show ∀ W, Below w.heap.size w W → RdEs W a n c es from fun W h => hr.below h)
  have HPD := Lib.hid hp
  clear hr hp
  go_enter Tryz.func242, Tryz.ntmps242
  go_wp2_with fail
  go_loopw [5, 8] (fun _ i wr => ∃ k : Nat, i = .int .i64 k ∧ k ≤ n ∧ Hid (∀ j y, j < k → es[j]? = some y → pred y = false) ∧ Hid (Below w.heap.size w wr)) (fun _ i _ => n - (intOf i).toNat)
  case atStart => exact ⟨0, rfl, Nat.zero_le _, Lib.hid (fun j y h => by omega), Lib.hid (Below.refl _ _)⟩
  case round =>
    obtain ⟨k, rfl, hk, HB, B1⟩ := hrel
    by_cases hkn : k < n
    · have t0 : decide ((k : Int) < (n : Int)) = true := by simp; omega
      obtain ⟨b, off, rfl, hat⟩ := (RE.out _ B1.out).at (show 0 < n by omega)
      obtain ⟨x, Hx⟩ : ∃ x, es[k]? = some x := ⟨es[k]'(by rw [HN.out]; exact hkn), List.getElem?_eq_getElem (by rw [HN.out]; exact hkn)⟩
      have HR := Lib.hid (hat k x Hx)
      obtain ⟨o, ho⟩ : ∃ o, Hid (off + k * 21 = o) := ⟨_, Lib.hid rfl⟩
      rw [ho.out] at HR
      have hi := fun W => idx_off (W := W) (c := c) (b := b) Tryz.underlying74 I21 hkn ho.out
      have hk64 : (k : Int) + 1 ≤ 9223372036854775807 := by omega
      clear hat
      go_wp2_with (refine wpList_load_mid rfl 210 _ rfl b o rfl x.cells _ HR.out Tryz.underlying210 rfl (by exact I21) ?_)
      refine (HPD.out x (List.mem_of_getElem? Hx) _ B1.out).mono ?_
      rintro e w2 ⟨rfl, b2⟩
      have B2 := Lib.hid (B1.out.trans (b2.mono B1.out.size))
      clear b2 hi t0
      cases hpx : pred x with
      | true =>
        go_wp2_with fail
        go_ret
        exact ⟨by rw [idxI_at Hx hpx HB.out]; rfl, B2.out⟩
      | false =>
        have HPX := Lib.hid hpx; clear hpx
        go_wp2_with fail
        go_roundw
        case rel => exact ⟨k + 1, by simp, by omega, Lib.hid (fun j y hj hy => by
          rcases Nat.lt_or_ge j k with h | h
          · exact HB.out j y h hy
          · have e : j = k := by omega
            subst e
            rw [Hx] at hy
            cases hy
            exact HPX.out), B2⟩
        case measure => simp [intOf]; omega
    · have t0 : decide ((k : Int) < (n : Int)) = false := by simp; omega
      go_wp2_with fail
      go_ret
      exact ⟨by rw [idxI_none (fun j y hj hy => HB.out j y (by have := HN.out; omega) hy)]; rfl, B1.out⟩
end Go.Proofs.YtlnhppgfhkkidaaGreat
namespace Go.Proofs.YtlnhppgfhkkidaaGreat
set_option linter.unusedSimpArgs false
open Go.RowKit

theorem evA_0 (e : EvV) : (evA e)[0]? = some (.int .i64 e.nm.1) := rfl
theorem evA_1 (e : EvV) : (evA e)[1]? = some (.int .i64 e.nm.2) := rfl
def isNm (h m : Int) (e : EvV) : Bool := decide (e.nm.1 = h ∧ e.nm.2 = m)
set_option maxHeartbeats 4000000 in
set_option maxRecDepth 100000 in
theorem heapEq_any (e : EvV) (h m : Int) (q : Nat) (w : World) (hq : w.heap[q]? = some (.cells #[.int .i64 h, .int .i64 m] 45 (0, 0))) :
    Calls Tryz.prog 243 #[.agg (evA e), .pointer (some ⟨q, 0, none⟩)] w fun r w' => r = .returned (.bool (isNm h m e)) ∧ Below w.heap.size w w' := by
  have B := Lib.hid ((Below.refl w.heap.size w).alloc (Nat.le_refl _) (.cells (evA e) 210))
  have hl := heap_last w (.cells (evA e) 210)
  have c0 := cell_of hl 0 _ (evA_0 e)
  have c1 := cell_of hl 1 _ (evA_1 e)
  have hq' := below_blk B.out hq
  have d0 := cell_of hq' 0 (.int .i64 h) rfl
  have d1 := cell_of hq' 1 (.int .i64 m) rfl
  clear hl hq hq'
  go_enter Tryz.func243, Tryz.ntmps243
  go_wp2_with fail
  all_goals
    go_ret
    refine ⟨?_, B.out⟩
    simp [isNm, *]
theorem heapEq_fn (args : Array Value) (w : World) : (callFunc 243 args).run Tryz.prog w = .ok (.enter 243 args) w := by kernel_rfl
def heapOfV (hs : List EvV) (h m : Int) : Array Value := if idxI hs (isNm h m) < 0 then #[.int .i64 0, .int .i64 3] else #[.int .i64 (idxI hs (isNm h m)), .int .i64 0]
set_option maxHeartbeats 4000000 in
set_option maxRecDepth 100000 in
theorem heapOf_any (hs : List EvV) (ha : Option Addr) (hn hc : Nat) (v1 v2 : Value) (h m : Int) (w : World) (hr : RdEs w ha hn hc hs) :
    Calls Tryz.prog 219 #[.agg #[.slice ha hn hc, v1, v2], .agg #[.int .i64 h, .int .i64 m]] w fun r w' => r = .returned (.tuple (heapOfV hs h m)) ∧ Below w.heap.size w w' := by
  have hmf : ∀ (fn : Fn) (first cap : Array Value) (w : World), (Instr.makeFunc fn first cap).run Tryz.prog w = .ok (.func fn first cap) w := fun _ _ _ _ => rfl
  have B := Lib.hid (((Below.refl w.heap.size w).alloc (Nat.le_refl _) (.cells #[.slice ha hn hc, v1, v2] 77)).alloc (by simp) (.cells #[.int .i64 h, .int .i64 m] 45))
  have g0 := Lib.hid (heap_before _ (.cells #[.int .i64 h, .int .i64 m] 45) _ _ (heap_last w (.cells #[.slice ha hn hc, v1, v2] 77)))
  have g1 := Lib.hid (heap_at (w.alloc (.cells #[.slice ha hn hc, v1, v2] 77)) (.cells #[.int .i64 h, .int .i64 m] 45) (w.heap.size + 1) (by simp))
  have RE := Lib.hid (hr.below B.out)
  clear hr
  go_enter Tryz.func219, Tryz.ntmps219
  go_upto_region 1 with fail
  obtain ⟨p0, hp0⟩ : ∃ p0, Hid (w.heap.size = p0) := ⟨_, Lib.hid rfl⟩
  obtain ⟨p1, hp1⟩ : ∃ p1, Hid (p0 + 1 = p1) := ⟨_, Lib.hid rfl⟩
  rw [hp0.out] at g0 g1 ⊢
  rw [hp1.out] at g1 ⊢
  generalize (w.alloc (.cells #[.slice ha hn hc, v1, v2] 77)).alloc (.cells #[.int .i64 h, .int .i64 m] 45) = W0 at *
  have c0 := cell_of g0.out 0 (.slice ha hn hc) rfl
  go_wp2_with fail
  refine (indexF_any hs (isNm h m) 243 (.pointer (some ⟨p1, 0, none⟩)) heapEq_fn ha hn hc W0 RE.out (fun e _ W hb => heapEq_any e h m p1 W (below_blk hb g1.out))).mono ?_
  rintro e W1 ⟨rfl, b1⟩
  have B1 := Lib.hid (B.out.trans (b1.mono B.out.size))
  clear b1 c0
  obtain ⟨k, hk⟩ : ∃ k, Hid (idxI hs (isNm h m) = k) := ⟨_, Lib.hid rfl⟩
  have HV := Lib.hid (show heapOfV hs h m = if k < 0 then #[.int .i64 0, .int .i64 3] else #[.int .i64 k, .int .i64 0] by unfold heapOfV; rw [hk.out])
  rw [hk.out]
  by_cases hlt : k < 0
  · have t0 : decide (k < 0) = true := by simp [hlt]
    rw [if_pos hlt] at HV
    have hkl := Lib.hid hlt; clear hlt
    go_wp2_with fail
    go_ret2
    exact ⟨by rw [HV.out]; rfl, B1.out⟩
  · have t0 : decide (k < 0) = false := by simp; omega
    rw [if_neg hlt] at HV
    have hkl := Lib.hid hlt; clear hlt
    go_wp2_with fail
    go_ret2
    exact ⟨by rw [HV.out]; rfl, B1.out⟩
end Go.Proofs.YtlnhppgfhkkidaaGreat
namespace Go.Proofs.YtlnhppgfhkkidaaGreat
open Go.RowKit

theorem noteA_15s (n : NoteV) (sa ta : Option Addr) (sc tc : Nat) : (noteA n sa sc).setIfInBounds 15 (.slice ta n.strokes.length tc) = noteA n ta tc := rfl
section
attribute [local go_sem] noteA_15
set_option maxHeartbeats 4000000 in
set_option maxRecDepth 100000 in
theorem copied_any (n : NoteV) (sa : Option Addr) (sc : Nat) (w : World) (hs : RdI w sa n.strokes.length sc n.strokes) (hl : n.strokes.length ≤ 1000000000) :
    Calls Tryz.prog 66 #[.agg (noteA n sa sc)] w fun e w' => ∃ ta tc, e = .returned (.agg (noteA n ta tc)) ∧ w'.ownsRow w.heap.size 3 1 (.slice ta n.strokes.length tc) n.strokes.length (n.strokes.map intV) ∧ Below w.heap.size w w' := by
  have I43 := Lib.hid (show ∀ (m : NoteV) (a : Option Addr) (c : Nat), (Tryz.prog.info? 47).map (·.size) = some (noteA m a c).size from fun m a c => by kernel_rfl)
  go_enter Tryz.func66, Tryz.ntmps66
  go_upto_region 1 with fail
  rw [← noteA_zero]
  have g0 := heap_before _ (.cells (noteA zeroN none 0) 47) _ _ (heap_last w (.cells (noteA n sa sc) 47))
  have g1 := heap_at (w.alloc (.cells (noteA n sa sc) 47)) (.cells (noteA zeroN none 0) 47) (w.heap.size + 1) (by simp)
  have bb : Below w.heap.size w ((w.alloc (.cells (noteA n sa sc) 47)).alloc (.cells (noteA zeroN none 0) 47)) := ((Below.refl _ _).alloc (Nat.le_refl _) _).alloc (by simp) _
  have L0 : Hid (TwoC w ((w.alloc (.cells (noteA n sa sc) 47)).alloc (.cells (noteA zeroN none 0) 47)) w.heap.size (w.heap.size + 1) (noteA n sa sc) (noteA zeroN none 0) 47) := Lib.hid ⟨g0, g1, bb, by omega⟩
  have RI := Lib.hid (hs.below bb)
  clear g0 g1 bb hs
  generalize (w.alloc (.cells (noteA n sa sc) 47)).alloc (.cells (noteA zeroN none 0) 47) = W2 at *
  generalize hp0 : w.heap.size = p0 at *
  generalize hp1 : p0 + 1 = p1 at *
  have HP0 := Lib.hid hp0; clear hp0 hp1
  obtain ⟨m, hm⟩ : ∃ m, Hid (n.strokes.length = m) := ⟨_, Lib.hid rfl⟩
  have c15 : W2.cell? ⟨p0, 15, none⟩ = some (.slice sa m sc) := by rw [← hm.out]; exact cell_of L0.out.e1 15 _ rfl
  rw [hm.out] at RI hl
  go_wp2_with fail
  refine (cloneI_any sa m sc n.strokes W2 (by omega) RI.out).mono ?_
  rintro e W3 ⟨ta, tc, rfl, ho, b3⟩
  have L3 := Lib.hid (L0.out.below b3)
  have O3 := Lib.hid (own_mono ho (show p0 ≤ W2.heap.size by have := blk_lt L0.out.e1; omega))
  clear ho b3 c15
  have c15 := cell_of L3.out.e1 15 _ rfl
  have f15 := frozen_of L3.out.e1 15
  have T3 := Lib.hid (own_no O3.out L3.out.e1 (fun cur h => by simp at h))
  have G3 := setCell_grown W3 p0 15 (.slice ta m tc)
  have E3 : Hid ((W3.setCell ⟨p0, 15, none⟩ (.slice ta m tc)).heap[p0]? = some (.cells (noteA n ta tc) 47 (0, 0))) := Lib.hid (by
    have := setCell_at L3.out.e1 15 (.slice ta m tc)
    rw [← hm.out, noteA_15s] at this
    rw [← hm.out]; exact this)
  have E4 : Hid ((W3.setCell ⟨p0, 15, none⟩ (.slice ta m tc)).heap[p1]? = some (.cells (noteA zeroN none 0) 47 (0, 0))) := Lib.hid (grown_blk G3 L3.out.e2 (fun e => by have := L3.out.lt; have e2 := Option.some.inj e; omega))
  go_upto_region 2 with fail
  have B3 : Hid (Below p0 w (W3.setCell ⟨p0, 15, none⟩ (.slice ta m tc))) := Lib.hid (L3.out.b.grown G3 (by have := blk_lt L3.out.e1; omega) (fun q hq => by cases hq; exact Nat.le_refl _))
  have U3 := Lib.hid (own_no O3.out L3.out.e2 (fun cur h => by simp at h))
  have O4 := Lib.hid (own_keep (S := fun k => k = p0) O3.out (Same.of_grown G3 (fun k e => by cases e; rfl)) (fun b hb e => T3.out (by rw [hb, e])))
  have hlt := L3.out.lt
  clear c15 f15 G3
  generalize W3.setCell ⟨p0, 15, none⟩ (.slice ta m tc) = W4 at *
  have oneN := noteA_one n ta tc
  go_wp2_with (first
    | (refine wpList_load_row rfl 47 _ rfl p0 rfl 47 (noteA n ta tc) (0, 0) _ E3.out Tryz.underlying47 rfl (I43.out _ _ _) ?_)
    | (refine wpList_store_rowN rfl 47 _ _ rfl p1 (noteA zeroN none 0) (noteA n ta tc) 47 rfl rfl E4.out (I43.out _ _ _) rfl oneN ?_))
  go_wp2_with fail
  have hr := setRow_at W4 p1 _ (noteA n ta tc) _ _ E4.out
  refine bodyPost_ret (results_cell_row rfl _ _ p1 47 (noteA n ta tc) (0, 0) _ rfl hr Tryz.underlying47 rfl (I43.out _ _ _)) rfl ?_
  have G4 := setRow_grown W4 p1 (noteA n ta tc)
  have hp1 : p1 < W4.heap.size := blk_lt E4.out
  refine ⟨ta, tc, rfl, ?_, ?_⟩
  · rw [HP0.out, hm.out]
    exact own_keep (S := fun k => k = p1) O4.out (Same.of_grown G4 (fun k e => by cases e; rfl)) (fun b hb e => U3.out (by rw [hb, e]))
  · rw [HP0.out]
    exact B3.out.grown G4 (by omega) (fun q hq => by cases hq; omega)
end
end Go.Proofs.YtlnhppgfhkkidaaGreat
namespace Go.Proofs.YtlnhppgfhkkidaaGreat
set_option linter.unusedSimpArgs false
open Go.RowKit

def countN (r j : NoteV) : NoteV := { j with house := r.house, num := r.num, clock := r.clock, kind := j.fix, fix := 0, refH := if j.fix = 2 then r.refH else 0, refN := if j.fix = 2 then r.refN else 0 }
structure Loc4 (w W : World) (p0 p1 p2 p3 : Nat) (A B C D : Array Value) : Prop where
  e0 : W.heap[p0]? = some (.cells A 47 (0, 0))
  e1 : W.heap[p1]? = some (.cells B 47 (0, 0))
  e2 : W.heap[p2]? = some (.cells C 47 (0, 0))
  e3 : W.heap[p3]? = some (.cells D 47 (0, 0))
  b : Below p0 w W
  lt : p0 < p1 ∧ p1 < p2 ∧ p2 < p3
theorem Loc4.below {w W W' : World} {p0 p1 p2 p3 : Nat} {A B C D : Array Value} (h : Loc4 w W p0 p1 p2 p3 A B C D) (hb : Below W.heap.size W W') : Loc4 w W' p0 p1 p2 p3 A B C D :=
  ⟨below_blk hb h.e0, below_blk hb h.e1, below_blk hb h.e2, below_blk hb h.e3, h.b.trans (hb.mono (by have := blk_lt h.e0; omega)), h.lt⟩
theorem Loc4.put {w W : World} {p0 p1 p2 p3 : Nat} {A B C D : Array Value} (h : Loc4 w W p0 p1 p2 p3 A B C D) (j : Nat) (v : Value) : Loc4 w (W.setCell ⟨p3, j, none⟩ v) p0 p1 p2 p3 A B C (D.setIfInBounds j v) := by
  have g := setCell_grown W p3 j v
  have hl := h.lt
  have hz := blk_lt h.e0
  exact ⟨grown_blk g h.e0 (fun e => by have := Option.some.inj e; omega), grown_blk g h.e1 (fun e => by have := Option.some.inj e; omega), grown_blk g h.e2 (fun e => by have := Option.some.inj e; omega), setCell_at h.e3 j v,
    h.b.grown g (by omega) (fun q hq => by cases hq; omega), h.lt⟩
theorem put_same (p2 : Nat) (W : World) (p3 o : Nat) (v : Value) : Same (fun k => k = p3 ∨ k = p2) W (W.setCell ⟨p3, o, none⟩ v) := Same.of_grown (setCell_grown W p3 o v) (fun k e => by cases e; exact .inl rfl)
theorem there_two {W : World} {p : Nat} {n : NoteV} {a : Option Addr} {c : Nat} {t : TypeId} (h : W.heap[p]? = some (.cells (noteA n a c) t (0, 0))) : W.there p 16 2 := by
  intro j hj
  have e : j = 0 ∨ j = 1 := by omega
  rcases e with rfl | rfl
  · exact ⟨by rw [cell_of h 16 _ rfl]; rfl, frozen_of h 16⟩
  · exact ⟨by rw [cell_of h 17 _ rfl]; rfl, frozen_of h 17⟩
section
attribute [local go_sem] noteA_0 noteA_1 noteA_2 noteA_4 noteA_16 noteA_17 noteA_18
set_option maxHeartbeats 8000000 in
set_option maxRecDepth 100000 in
theorem counts_any (r j : NoteV) (sa : Option Addr) (sc : Nat) (ja : Option Addr) (jc : Nat) (w : World) (hs : RdI w ja j.strokes.length jc j.strokes) (hl : j.strokes.length ≤ 1000000000) :
    Calls Tryz.prog 220 #[.agg (noteA r sa sc), .agg (noteA j ja jc)] w fun e w' => ∃ ta tc, e = .returned (.agg (noteA (countN r j) ta tc)) ∧ w'.ownsRow w.heap.size 3 1 (.slice ta j.strokes.length tc) j.strokes.length (j.strokes.map intV) ∧ Below w.heap.size w w' := by
  have I43 := Lib.hid (show ∀ (m : NoteV) (a : Option Addr) (c : Nat), (Tryz.prog.info? 47).map (·.size) = some (noteA m a c).size from fun m a c => by kernel_rfl)
  go_enter Tryz.func220, Tryz.ntmps220
  go_upto_region 1 with fail
  rw [← noteA_zero]
  have hb1 : Below w.heap.size w (((w.alloc (.cells (noteA r sa sc) 47)).alloc (.cells (noteA j ja jc) 47)).alloc (.cells (noteA zeroN none 0) 47)) := (((Below.refl _ _).alloc (Nat.le_refl _) _).alloc (by simp) _).alloc (by simp; omega) _
  have g0 := heap_before _ (.cells (noteA zeroN none 0) 47) _ _ (heap_before _ (.cells (noteA j ja jc) 47) _ _ (heap_last w (.cells (noteA r sa sc) 47)))
  have g1 := heap_before _ (.cells (noteA zeroN none 0) 47) _ _ (heap_at (w.alloc (.cells (noteA r sa sc) 47)) (.cells (noteA j ja jc) 47) (w.heap.size + 1) (by simp))
  have g2 := heap_at ((w.alloc (.cells (noteA r sa sc) 47)).alloc (.cells (noteA j ja jc) 47)) (.cells (noteA zeroN none 0) 47) (w.heap.size + 1 + 1) (by simp)
  have RI := Lib.hid (fun W (h : Below w.heap.size w W) => hs.below h)
  have E0 := Lib.hid g0
  have E1 := Lib.hid g1
  have E2 := Lib.hid g2
  have B0 := Lib.hid hb1
  clear g0 g1 g2 hb1 hs
  generalize ((w.alloc (.cells (noteA r sa sc) 47)).alloc (.cells (noteA j ja jc) 47)).alloc (.cells (noteA zeroN none 0) 47) = W0 at *
  generalize hp0 : w.heap.size = p0 at *
  generalize hp1 : p0 + 1 = p1 at *
  generalize hp2 : p1 + 1 = p2 at *
  have HP0 := Lib.hid hp0
  have HP := Lib.hid (show p0 < p1 ∧ p1 < p2 by omega)
  clear hp0 hp1 hp2
  go_wp2_with (refine wpList_load_row rfl 47 _ rfl p1 rfl 47 (noteA j ja jc) (0, 0) _ E1.out Tryz.underlying47 rfl (I43.out _ _ _) ?_)
  refine (copied_any j ja jc W0 (RI.out _ B0.out) hl).mono ?_
  rintro e W1 ⟨ta, tc, rfl, ho, b1⟩
  have hz0 := blk_lt E2.out
  have F0 : Hid (W1.heap[p0]? = some (.cells (noteA r sa sc) 47 (0, 0))) := Lib.hid (below_blk b1 E0.out)
  have F1 : Hid (W1.heap[p1]? = some (.cells (noteA j ja jc) 47 (0, 0))) := Lib.hid (below_blk b1 E1.out)
  have F2 : Hid (W1.heap[p2]? = some (.cells (noteA zeroN none 0) 47 (0, 0))) := Lib.hid (below_blk b1 E2.out)
  have B1 := Lib.hid (B0.out.trans (b1.mono (by have := HP.out; omega)))
  have O1 := Lib.hid (own_mono ho (show p2 + 1 ≤ W0.heap.size from hz0))
  clear ho b1 hz0
  go_upto_region 2 with (refine wpList_store_newp W1 rfl 47 _ _ rfl W1.heap.size rfl _ (noteA j ta tc) rfl rfl (I43.out _ _ _) rfl (noteA_one j ta tc) ?_)
  have b2 : Below W1.heap.size W1 (W1.alloc (.cells (noteA j ta tc) 47)) := (Below.refl _ _).alloc (Nat.le_refl _) _
  have O2 := Lib.hid (own_below O1.out b2)
  have L2 : Hid (Loc4 w (W1.alloc (.cells (noteA j ta tc) 47)) p0 p1 p2 W1.heap.size (noteA r sa sc) (noteA j ja jc) (noteA zeroN none 0) (noteA j ta tc)) :=
    Lib.hid ⟨below_blk b2 F0.out, below_blk b2 F1.out, below_blk b2 F2.out, heap_last _ _, B1.out.trans (b2.mono (by have := blk_lt F0.out; omega)), HP.out.1, HP.out.2, blk_lt F2.out⟩
  have OB : Hid (∀ W, Same (fun k => k = W1.heap.size ∨ k = p2) (W1.alloc (.cells (noteA j ta tc) 47)) W → W.ownsRow (p2 + 1) 3 1 (.slice ta j.strokes.length tc) j.strokes.length (j.strokes.map intV)) := Lib.hid (fun W h => own_keep O2.out h (fun b hb e => by
    rcases e with e | e
    · exact own_no O2.out L2.out.e3 (fun cur h => by simp at h) (by rw [hb, e])
    · exact own_no O2.out L2.out.e2 (fun cur h => by simp at h) (by rw [hb, e])))
  clear b2 O1 O2 F0 F1 F2 B1 E0 E1 E2 B0
  obtain ⟨p3, hp3⟩ : ∃ p3, Hid (W1.heap.size = p3) := ⟨_, Lib.hid rfl⟩
  rw [hp3.out] at L2 OB ⊢
  generalize W1.alloc (.cells (noteA j ta tc) 47) = W2 at *
  refine wp_region_noPanic ?_
  refine wp_region_held_drew (S := fun w' => w'.heap[p0]? = some (.cells (noteA r sa sc) 47 (0, 0)) ∧ w'.heap[p1]? = some (.cells (noteA j ja jc) 47 (0, 0))) (by kernel_rfl) (show W2.drew.heap[p0]? = _ ∧ W2.drew.heap[p1]? = _ from ⟨L2.out.e0, L2.out.e1⟩) (fun hHeld => ?_)
  have M0 := Lib.hid (L2.out.below (Below.refl W2.heap.size W2).drew)
  clear L2
  have OBd : Hid (∀ W, Same (fun k => k = p3 ∨ k = p2) W2.drew W → W.ownsRow (p2 + 1) 3 1 (.slice ta j.strokes.length tc) j.strokes.length (j.strokes.map intV)) := Lib.hid (fun W h => OB.out W ((Same.of_below (Below.refl W2.heap.size W2).drew).trans h))
  clear OB
  have T0 : Hid (Same (fun k => k = p3 ∨ k = p2) W2.drew W2.drew) := Lib.hid (Same.refl _ _)
  generalize W2.drew = V at *
  refine wpAnyH_take (i := 0) (v := .pointer (some ⟨p0, 0, none⟩)) rfl (by kernel_rfl) (by kernel_rfl) (by kernel_rfl) (fun _ _ _ h => h) (Or.inl ⟨by kernel_rfl, by intro W _; go_simp⟩) (by assumption) ?_
  try simp only [Act.put, lq0, lq1, lq2, lq3, lq4, lq5]
  refine wpAnyH_take (i := 1) (v := .int .i64 r.house) rfl (by kernel_rfl) (by kernel_rfl) (by kernel_rfl) (fun _ _ _ h => h) (Or.inl ⟨by kernel_rfl, by intro W h; have hc := cell_of h.1 0 (.int .i64 r.house) rfl; go_simp⟩) (by assumption) ?_
  try simp only [Act.put, lq0, lq1, lq2, lq3, lq4, lq5]
  refine wpAnyH_take (i := 2) (v := .pointer (some ⟨p0, 1, none⟩)) rfl (by kernel_rfl) (by kernel_rfl) (by kernel_rfl) (fun _ _ _ h => h) (Or.inl ⟨by kernel_rfl, by intro W _; go_simp⟩) (by assumption) ?_
  try simp only [Act.put, lq0, lq1, lq2, lq3, lq4, lq5]
  refine wpAnyH_take (i := 3) (v := .int .i64 r.num) rfl (by kernel_rfl) (by kernel_rfl) (by kernel_rfl) (fun _ _ _ h => h) (Or.inl ⟨by kernel_rfl, by intro W h; have hc := cell_of h.1 1 (.int .i64 r.num) rfl; go_simp⟩) (by assumption) ?_
  try simp only [Act.put, lq0, lq1, lq2, lq3, lq4, lq5]
  refine wpAnyH_take (i := 4) (v := .pointer (some ⟨p0, 2, none⟩)) rfl (by kernel_rfl) (by kernel_rfl) (by kernel_rfl) (fun _ _ _ h => h) (Or.inl ⟨by kernel_rfl, by intro W _; go_simp⟩) (by assumption) ?_
  try simp only [Act.put, lq0, lq1, lq2, lq3, lq4, lq5]
  refine wpAnyH_take (i := 5) (v := .int .i64 r.clock) rfl (by kernel_rfl) (by kernel_rfl) (by kernel_rfl) (fun _ _ _ h => h) (Or.inl ⟨by kernel_rfl, by intro W h; have hc := cell_of h.1 2 (.int .i64 r.clock) rfl; go_simp⟩) (by assumption) ?_
  try simp only [Act.put, lq0, lq1, lq2, lq3, lq4, lq5]
  refine wpAnyH_take (i := 6) (v := .pointer (some ⟨p1, 18, none⟩)) rfl (by kernel_rfl) (by kernel_rfl) (by kernel_rfl) (fun _ _ _ h => h) (Or.inl ⟨by kernel_rfl, by intro W _; go_simp⟩) (by assumption) ?_
  try simp only [Act.put, lq0, lq1, lq2, lq3, lq4, lq5]
  refine wpAnyH_take (i := 7) (v := .int .i64 j.fix) rfl (by kernel_rfl) (by kernel_rfl) (by kernel_rfl) (fun _ _ _ h => h) (Or.inl ⟨by kernel_rfl, by intro W h; have hc := cell_of h.2 18 (.int .i64 j.fix) rfl; go_simp⟩) (by assumption) ?_
  try simp only [Act.put, lq0, lq1, lq2, lq3, lq4, lq5]
  refine wpAnyH_take (i := 8) (v := .agg #[.int .i64 0, .int .i64 0]) rfl (by kernel_rfl) (by kernel_rfl) (by kernel_rfl) (fun _ _ _ h => h) (Or.inl ⟨by kernel_rfl, by intro W _; go_simp⟩) (by assumption) ?_
  try simp only [Act.put, lq0, lq1, lq2, lq3, lq4, lq5]
  refine wpAnyH_take (i := 9) (v := .pointer (some ⟨p3, 0, none⟩)) rfl (by kernel_rfl) (by kernel_rfl) (by kernel_rfl) (fun _ _ _ h => h) (Or.inl ⟨by kernel_rfl, by intro W _; go_simp⟩) (by assumption) ?_
  try simp only [Act.put, lq0, lq1, lq2, lq3, lq4, lq5]
  refine wpAnyH_ready (rs := [10]) (by kernel_rfl) (by simp) ?_
  refine AllReadyH.cons rfl (fun K hK => ?_) AllReadyH.nil
  have hc := cell_of M0.out.e3 0 _ rfl
  have hf := frozen_of M0.out.e3 0
  have M1 : Hid (Loc4 w (V.setCell ⟨p3, 0, none⟩ (.int .i64 r.house)) p0 p1 p2 p3 (noteA r sa sc) (noteA j ja jc) (noteA zeroN none 0) (noteA { j with house := r.house } ta tc)) := Lib.hid (M0.out.put 0 (.int .i64 r.house))
  have T1 := Lib.hid (T0.out.trans (put_same p2 V p3 0 (.int .i64 r.house)))
  go_simp
  clear hc hf
  generalize V.setCell ⟨p3, 0, none⟩ (.int .i64 r.house) = V0 at *
  refine hK.out _ _ ⟨M1.out.e0, M1.out.e1⟩ (fun hHeld => ?_)
  clear hK K
  try simp only [Act.put, lq0, lq1, lq2, lq3, lq4, lq5]
  refine wpAnyH_take (i := 11) (v := .pointer (some ⟨p3, 1, none⟩)) rfl (by kernel_rfl) (by kernel_rfl) (by kernel_rfl) (fun _ _ _ h => h) (Or.inl ⟨by kernel_rfl, by intro W _; go_simp⟩) (by assumption) ?_
  try simp only [Act.put, lq0, lq1, lq2, lq3, lq4, lq5]
  refine wpAnyH_ready (rs := [12]) (by kernel_rfl) (by simp) ?_
  refine AllReadyH.cons rfl (fun K hK => ?_) AllReadyH.nil
  have hc := cell_of M1.out.e3 1 _ rfl
  have hf := frozen_of M1.out.e3 1
  have M2 : Hid (Loc4 w (V0.setCell ⟨p3, 1, none⟩ (.int .i64 r.num)) p0 p1 p2 p3 (noteA r sa sc) (noteA j ja jc) (noteA zeroN none 0) (noteA { j with house := r.house, num := r.num } ta tc)) := Lib.hid (M1.out.put 1 (.int .i64 r.num))
  have T2 := Lib.hid (T1.out.trans (put_same p2 V0 p3 1 (.int .i64 r.num)))
  go_simp
  clear hc hf
  generalize V0.setCell ⟨p3, 1, none⟩ (.int .i64 r.num) = V1 at *
  refine hK.out _ _ ⟨M2.out.e0, M2.out.e1⟩ (fun hHeld => ?_)
  clear hK K
  try simp only [Act.put, lq0, lq1, lq2, lq3, lq4, lq5]
  refine wpAnyH_take (i := 13) (v := .pointer (some ⟨p3, 2, none⟩)) rfl (by kernel_rfl) (by kernel_rfl) (by kernel_rfl) (fun _ _ _ h => h) (Or.inl ⟨by kernel_rfl, by intro W _; go_simp⟩) (by assumption) ?_
  try simp only [Act.put, lq0, lq1, lq2, lq3, lq4, lq5]
  refine wpAnyH_ready (rs := [14]) (by kernel_rfl) (by simp) ?_
  refine AllReadyH.cons rfl (fun K hK => ?_) AllReadyH.nil
  have hc := cell_of M2.out.e3 2 _ rfl
  have hf := frozen_of M2.out.e3 2
  have M3 : Hid (Loc4 w (V1.setCell ⟨p3, 2, none⟩ (.int .i64 r.clock)) p0 p1 p2 p3 (noteA r sa sc) (noteA j ja jc) (noteA zeroN none 0) (noteA { j with house := r.house, num := r.num, clock := r.clock } ta tc)) := Lib.hid (M2.out.put 2 (.int .i64 r.clock))
  have T3 := Lib.hid (T2.out.trans (put_same p2 V1 p3 2 (.int .i64 r.clock)))
  go_simp
  clear hc hf
  generalize V1.setCell ⟨p3, 2, none⟩ (.int .i64 r.clock) = V2 at *
  refine hK.out _ _ ⟨M3.out.e0, M3.out.e1⟩ (fun hHeld => ?_)
  clear hK K
  try simp only [Act.put, lq0, lq1, lq2, lq3, lq4, lq5]
  refine wpAnyH_take (i := 15) (v := .pointer (some ⟨p3, 4, none⟩)) rfl (by kernel_rfl) (by kernel_rfl) (by kernel_rfl) (fun _ _ _ h => h) (Or.inl ⟨by kernel_rfl, by intro W _; go_simp⟩) (by assumption) ?_
  try simp only [Act.put, lq0, lq1, lq2, lq3, lq4, lq5]
  refine wpAnyH_ready (rs := [16]) (by kernel_rfl) (by simp) ?_
  refine AllReadyH.cons rfl (fun K hK => ?_) AllReadyH.nil
  have hc := cell_of M3.out.e3 4 _ rfl
  have hf := frozen_of M3.out.e3 4
  have M4 : Hid (Loc4 w (V2.setCell ⟨p3, 4, none⟩ (.int .i64 j.fix)) p0 p1 p2 p3 (noteA r sa sc) (noteA j ja jc) (noteA zeroN none 0) (noteA { j with house := r.house, num := r.num, clock := r.clock, kind := j.fix } ta tc)) := Lib.hid (M3.out.put 4 (.int .i64 j.fix))
  have T4 := Lib.hid (T3.out.trans (put_same p2 V2 p3 4 (.int .i64 j.fix)))
  go_simp
  clear hc hf
  generalize V2.setCell ⟨p3, 4, none⟩ (.int .i64 j.fix) = V3 at *
  refine hK.out _ _ ⟨M4.out.e0, M4.out.e1⟩ (fun hHeld => ?_)
  clear hK K
  try simp only [Act.put, lq0, lq1, lq2, lq3, lq4, lq5]
  refine wpAnyH_take (i := 17) (v := .pointer (some ⟨p3, 18, none⟩)) rfl (by kernel_rfl) (by kernel_rfl) (by kernel_rfl) (fun _ _ _ h => h) (Or.inl ⟨by kernel_rfl, by intro W _; go_simp⟩) (by assumption) ?_
  try simp only [Act.put, lq0, lq1, lq2, lq3, lq4, lq5]
  refine wpAnyH_ready (rs := [18]) (by kernel_rfl) (by simp) ?_
  refine AllReadyH.cons rfl (fun K hK => ?_) AllReadyH.nil
  have hc := cell_of M4.out.e3 18 _ rfl
  have hf := frozen_of M4.out.e3 18
  have M5 : Hid (Loc4 w (V3.setCell ⟨p3, 18, none⟩ (.int .i64 0)) p0 p1 p2 p3 (noteA r sa sc) (noteA j ja jc) (noteA zeroN none 0) (noteA { j with house := r.house, num := r.num, clock := r.clock, kind := j.fix, fix := 0 } ta tc)) := Lib.hid (M4.out.put 18 (.int .i64 0))
  have T5 := Lib.hid (T4.out.trans (put_same p2 V3 p3 18 (.int .i64 0)))
  go_simp
  clear hc hf
  generalize V3.setCell ⟨p3, 18, none⟩ (.int .i64 0) = V4 at *
  refine hK.out _ _ ⟨M5.out.e0, M5.out.e1⟩ (fun hHeld => ?_)
  clear hK K
  try simp only [Act.put, lq0, lq1, lq2, lq3, lq4, lq5]
  refine wpAnyH_take (i := 19) (v := .pointer (some ⟨p3, 16, none⟩)) rfl (by kernel_rfl) (by kernel_rfl) (by kernel_rfl) (fun _ _ _ h => h) (Or.inl ⟨by kernel_rfl, by intro W _; go_simp⟩) (by assumption) ?_
  try simp only [Act.put, lq0, lq1, lq2, lq3, lq4, lq5]
  refine wpAnyH_ready (rs := [20]) (by kernel_rfl) (by simp) ?_
  refine AllReadyH.cons rfl (fun K hK => ?_) AllReadyH.nil
  have hth : World.there _ p3 16 2 := there_two M5.out.e3
  have M6 : Hid (Loc4 w ((V4.setCell ⟨p3, 16, none⟩ (.int .i64 0)).setCell ⟨p3, 17, none⟩ (.int .i64 0)) p0 p1 p2 p3 (noteA r sa sc) (noteA j ja jc) (noteA zeroN none 0) (noteA { j with house := r.house, num := r.num, clock := r.clock, kind := j.fix, fix := 0, refH := 0, refN := 0 } ta tc)) := Lib.hid ((M5.out.put 16 (.int .i64 0)).put 17 (.int .i64 0))
  have T6 := Lib.hid ((T5.out.trans (put_same p2 V4 p3 16 (.int .i64 0))).trans (put_same p2 _ p3 17 (.int .i64 0)))
  rw [if_pos (by kernel_rfl)]
  refine wp_store_mid 45 _ _ rfl p3 16 #[.int .i64 0, .int .i64 0] rfl rfl hth (by kernel_rfl) (all_oneCell_toArray (by simp [Value.oneCell'])) ?_
  refine hK.out _ _ ⟨M6.out.e0, M6.out.e1⟩ (fun hHeld => ?_)
  clear hK K
  try simp only [Act.put, lq0, lq1, lq2, lq3, lq4, lq5]
  refine wpAnyH_done (by kernel_rfl) ?_ _
  refine NoPanic.normal ?_
  have hV5 : V4.setCells p3 16 #[.int .i64 0, .int .i64 0].toList = (V4.setCell ⟨p3, 16, none⟩ (.int .i64 0)).setCell ⟨p3, 17, none⟩ (.int .i64 0) := rfl
  rw [hV5]
  clear hV5 T1 T2 T3 T4 T5 M1 M2 M3 M4 M5
  generalize (V4.setCell ⟨p3, 16, none⟩ (.int .i64 0)).setCell ⟨p3, 17, none⟩ (.int .i64 0) = V5 at *
  have c4 := cell_of M6.out.e3 4 (.int .i64 j.fix) rfl
  by_cases hk : j.fix = 2
  · have t0 : (j.fix == 2) = true := by simp [hk]
    have HK := Lib.hid hk; clear hk
    have c16 := cell_of M6.out.e0 16 (.int .i64 r.refH) rfl
    have c17 := cell_of M6.out.e0 17 (.int .i64 r.refN) rfl
    have d16 := cell_of M6.out.e3 16 (.int .i64 0) rfl
    have d17 := cell_of M6.out.e3 17 (.int .i64 0) rfl
    have f16 := frozen_of M6.out.e3 16
    have f17 := frozen_of M6.out.e3 17
    go_upto_region 5 with fail
    have M7 : Hid (Loc4 w ((V5.setCell ⟨p3, 16, none⟩ (.int .i64 r.refH)).setCell ⟨p3, 17, none⟩ (.int .i64 r.refN)) p0 p1 p2 p3 (noteA r sa sc) (noteA j ja jc) (noteA zeroN none 0) (noteA { j with house := r.house, num := r.num, clock := r.clock, kind := j.fix, fix := 0, refH := r.refH, refN := r.refN } ta tc)) := Lib.hid ((M6.out.put 16 (.int .i64 r.refH)).put 17 (.int .i64 r.refN))
    have T7 := Lib.hid ((T6.out.trans (put_same p2 V5 p3 16 (.int .i64 r.refH))).trans (put_same p2 _ p3 17 (.int .i64 r.refN)))
    clear c4 c16 c17 d16 d17 f16 f17
    generalize (V5.setCell ⟨p3, 16, none⟩ (.int .i64 r.refH)).setCell ⟨p3, 17, none⟩ (.int .i64 r.refN) = V6 at *
    have hq : ({ j with house := r.house, num := r.num, clock := r.clock, kind := j.fix, fix := 0, refH := r.refH, refN := r.refN } : NoteV) = countN r j := by simp [countN, HK.out]
    rw [hq] at M7
    have oneN := noteA_one (countN r j) ta tc
    go_wp2_with (first
      | (refine wpList_load_row rfl 47 _ rfl p3 rfl 47 (noteA (countN r j) ta tc) (0, 0) _ M7.out.e3 Tryz.underlying47 rfl (I43.out _ _ _) ?_)
      | (refine wpList_store_rowN rfl 47 _ _ rfl p2 (noteA zeroN none 0) (noteA (countN r j) ta tc) 47 rfl rfl M7.out.e2 (I43.out _ _ _) rfl oneN ?_))
    go_wp2_with fail
    have hr := setRow_at V6 p2 _ (noteA (countN r j) ta tc) _ _ M7.out.e2
    refine bodyPost_ret (results_cell_row rfl _ _ p2 47 (noteA (countN r j) ta tc) (0, 0) _ rfl hr Tryz.underlying47 rfl (I43.out _ _ _)) rfl ?_
    have G4 := setRow_grown V6 p2 (noteA (countN r j) ta tc)
    refine ⟨ta, tc, rfl, own_mono (OBd.out _ (T7.out.trans (Same.of_grown G4 (fun k e => by cases e; exact .inr rfl)))) (by have := HP.out; have := HP0.out; omega), ?_⟩
    rw [HP0.out]
    exact M7.out.b.grown G4 (by have := blk_lt M7.out.e0; omega) (fun q hq => by cases hq; have := HP.out; omega)
  · have t0 : (j.fix == 2) = false := by simp [hk]
    have hq : ({ j with house := r.house, num := r.num, clock := r.clock, kind := j.fix, fix := 0, refH := 0, refN := 0 } : NoteV) = countN r j := by simp [countN, hk]
    rw [hq] at M6
    have oneN := noteA_one (countN r j) ta tc
    go_wp2_with (first
      | (refine wpList_load_row rfl 47 _ rfl p3 rfl 47 (noteA (countN r j) ta tc) (0, 0) _ M6.out.e3 Tryz.underlying47 rfl (I43.out _ _ _) ?_)
      | (refine wpList_store_rowN rfl 47 _ _ rfl p2 (noteA zeroN none 0) (noteA (countN r j) ta tc) 47 rfl rfl M6.out.e2 (I43.out _ _ _) rfl oneN ?_))
    go_wp2_with fail
    have hr := setRow_at V5 p2 _ (noteA (countN r j) ta tc) _ _ M6.out.e2
    refine bodyPost_ret (results_cell_row rfl _ _ p2 47 (noteA (countN r j) ta tc) (0, 0) _ rfl hr Tryz.underlying47 rfl (I43.out _ _ _)) rfl ?_
    have G4 := setRow_grown V5 p2 (noteA (countN r j) ta tc)
    refine ⟨ta, tc, rfl, own_mono (OBd.out _ (T6.out.trans (Same.of_grown G4 (fun k e => by cases e; exact .inr rfl)))) (by have := HP.out; have := HP0.out; omega), ?_⟩
    rw [HP0.out]
    exact M6.out.b.grown G4 (by have := blk_lt M6.out.e0; omega) (fun q hq => by cases hq; have := HP.out; omega)
end
end Go.Proofs.YtlnhppgfhkkidaaGreat
namespace Go.Proofs.YtlnhppgfhkkidaaGreat
open Go.RowKit

def evN (f J : Nm → Option LN) (k : Nm) : Option NoteV := match f k with
  | none => none
  | some x => if doneB x.n = true then (match J k with | none => some x.n | some j => if j.n.kind = 6 then none else some (countN x.n j.n)) else none
def lnCells (es : List LN) : List Value := (es.map fun x => x.n.cells x.sa x.sc).flatten
theorem lnCells_snoc (es : List LN) (x : LN) : lnCells (es ++ [x]) = lnCells es ++ x.n.cells x.sa x.sc := by simp [lnCells]
def EvOwn (W : World) (base : Nat) (es : List LN) : Prop := ∀ x ∈ es, W.ownsRow base 3 1 (.slice x.sa x.n.strokes.length x.sc) x.n.strokes.length (x.n.strokes.map intV)
theorem EvOwn.below {W W' : World} {base : Nat} {es : List LN} (h : EvOwn W base es) (hb : Below W.heap.size W W') : EvOwn W' base es := fun x hx => own_below (h x hx) hb
theorem own_apart {W : World} {b1 b2 e1 e2 k1 k2 n1 n2 : Nat} {v1 v2 : Value} {x1 x2 : List Value} (h1 : W.ownsRow b1 e1 k1 v1 n1 x1) (h2 : W.ownsRow b2 e2 k2 v2 n2 x2) (hne : e1 ≠ e2) : v1.ownBlock = none ∨ v1.ownBlock ≠ v2.ownBlock := by
  rcases h1.2 with ⟨rfl, _⟩ | ⟨g, cap, cur, rfl, _, hg, _⟩
  · exact .inl rfl
  · rcases h2.2 with ⟨rfl, _⟩ | ⟨g', cap', cur', rfl, _, hg', _⟩
    · exact .inr (by simp [Value.ownBlock])
    · refine .inr (fun e => ?_)
      simp only [Value.ownBlock, Option.some.injEq] at e
      subst e
      rw [hg] at hg'
      cases hg'
      exact hne rfl
theorem run_build_note1 (w : World) (a0 a1 a2 a3 a4 a5 a6 a7 a8 a9 a10 a11 a12 a13 a14 a15 a16 a17 a18 : Value) :
    (Instr.buildSlice 24 1 #[(0, .agg #[a0, a1, a2, a3, a4, a5, a6, a7, a8, a9, a10, a11, a12, a13, a14, a15, a16, a17, a18])]).run Tryz.prog w = .ok (.slice (some ⟨w.heap.size, 0, none⟩) 1 1) (w.alloc (.cells #[a0, a1, a2, a3, a4, a5, a6, a7, a8, a9, a10, a11, a12, a13, a14, a15, a16, a17, a18] 47)) := by
  kernel_rfl
theorem run_build_note (w : World) (n : NoteV) (sa : Option Addr) (sc : Nat) :
    (Instr.buildSlice 24 1 #[(0, .agg (noteA n sa sc))]).run Tryz.prog w = .ok (.slice (some ⟨w.heap.size, 0, none⟩) 1 1) (w.alloc (.cells (noteA n sa sc) 47)) := run_build_note1 w ..
theorem infoNote : (Tryz.prog.info? 47).map (fun i => (i.zero, i.size, i.bytes)) = some (some (.agg (noteA zeroN none 0)), 19, 168) := by kernel_rfl
theorem run_app_nt (w : World) (base : Nat) (sa : Option Addr) (sn sc : Nat) (xs : List Value) (hown : w.ownsRow base 47 19 (.slice sa sn sc) sn xs) (xa : Option Addr) (m xc : Nat) (ys : List Value) (hrd : RdA w 19 xa m xc ys) (h1 : ∀ u ∈ ys, u.oneCell' = true)
    (hbytes : (sn + m) * 168 ≤ 140737488355328) (hbase : base ≤ w.heap.size) :
    ∃ a' c' w', (Builtin.append_ #[24, 24] 24 #[.slice sa sn sc, .slice xa m xc]).run Tryz.prog w = .ok (.slice a' (sn + m) c') w' ∧ w'.ownsRow base 47 19 (.slice a' (sn + m) c') (sn + m) (xs ++ ys) ∧ w.grownBy w' (Value.ownBlock (.slice sa sn sc)) := by
  obtain ⟨i, hi, hz0, hz1, hz2⟩ := info_parts infoNote
  exact run_append_rd w base 24 24 47 i _ 19 168 Tryz.underlying24 hi hz0 hz1 hz2 rfl (by decide) sa sn sc xs hown xa m xc ys hrd h1 (by unfold maxLen; omega) hbytes hbase
theorem lit_note (W : World) (n : NoteV) (sa : Option Addr) (sc : Nat) : RdA (W.alloc (.cells (noteA n sa sc) 47)) 19 (some ⟨W.heap.size, 0, none⟩) 1 1 (n.cells sa sc) :=
  RdA.of_own (World.ownsRow_lit (base := W.heap.size) (e := 47) (size := 19) W (noteA n sa sc) 1 (Nat.le_refl _) (by unfold maxLen; omega) rfl)

structure EvAt (w wr : World) (bS pL r n : Nat) (f J : Nm → Option LN) (kr ks : List Nm) (cnt : Nat) (a : Option Addr) (c : Nat) (es : List LN) : Prop where
  rng : RangeF LN.val wr bS r n f kr cnt
  bel : Below w.heap.size w wr
  lst : wr.heap[pL]? = some (.cells #[.slice a es.length c] 24 (0, 0))
  own : wr.ownsRow w.heap.size 47 19 (.slice a es.length c) es.length (lnCells es)
  str : EvOwn wr w.heap.size es
  evs : es.map LN.n = ks.filterMap (evN f J)
  pL_ge : w.heap.size ≤ pL
  r_ge : w.heap.size ≤ r
section
variable {w wr W' : World} {bS pL r n : Nat} {f J : Nm → Option LN} {kr ks : List Nm} {cnt : Nat} {a : Option Addr} {c : Nat} {es : List LN}
theorem EvAt.below (h : EvAt w wr bS pL r n f J kr ks cnt a c es) (hb : Below wr.heap.size wr W') : EvAt w W' bS pL r n f J kr ks cnt a c es :=
  ⟨h.rng.below hb, h.bel.trans (hb.mono h.bel.size), below_blk hb h.lst, own_below h.own hb, h.str.below hb, h.evs, h.pL_ge, h.r_ge⟩
theorem EvAt.came (h : EvAt w wr bS pL r n f J kr ks cnt a c es) {kh km : Int} {y : LN} {cnt' : Nat} (hN : NextF LN.val wr bS r n cnt f kr kh km y W' cnt') : EvAt w W' bS pL r n f J (kr ++ [(kh, km)]) ks cnt' a c es := by
  obtain ⟨bb, since, seen, c0, hr⟩ := h.rng.blk
  have hb1 := h.lst
  refine ⟨hN.range, h.bel.grown hN.grown h.bel.size (fun q hq => by cases hq; exact h.r_ge), grown_blk hN.grown hb1 ?_, h.own.kept hN.grown (.inr (own_no h.own hr (by simp)).symm), fun x hx => (h.str x hx).kept hN.grown (.inr (own_no (h.str x hx) hr (by simp)).symm), h.evs, h.pL_ge, h.r_ge⟩
  intro e
  have e := Option.some.inj e
  subst e
  rw [hr] at hb1; cases hb1
theorem EvAt.skip {k : Nm} (h : EvAt w wr bS pL r n f J (ks ++ [k]) ks cnt a c es) (hk : evN f J k = none) : EvAt w wr bS pL r n f J (ks ++ [k]) (ks ++ [k]) cnt a c es :=
  ⟨h.rng, h.bel, h.lst, h.own, h.str, by rw [List.filterMap_append, h.evs]; simp [hk], h.pL_ge, h.r_ge⟩
theorem EvAt.app {k : Nm} {x : LN} {a' : Option Addr} {c' : Nat} (h : EvAt w wr bS pL r n f J (ks ++ [k]) ks cnt a c es) (hk : evN f J k = some x.n)
    (hx : wr.ownsRow w.heap.size 3 1 (.slice x.sa x.n.strokes.length x.sc) x.n.strokes.length (x.n.strokes.map intV))
    (ho : W'.ownsRow w.heap.size 47 19 (.slice a' (es.length + 1) c') (es.length + 1) (lnCells es ++ x.n.cells x.sa x.sc)) (hg : wr.grownBy W' (Value.ownBlock (.slice a es.length c))) :
    EvAt w (W'.setCell ⟨pL, 0, none⟩ (.slice a' (es.length + 1) c')) bS pL r n f J (ks ++ [k]) (ks ++ [k]) cnt a' c' (es ++ [x]) := by
  obtain ⟨es2, clock2, hsb⟩ := h.rng.map.blk
  obtain ⟨bb, since, seen, c0, hr⟩ := h.rng.blk
  have hb1 := h.lst
  have hb2 := grown_blk hg hb1 (own_no h.own hb1 (by intro cur; simp))
  have hr2 := grown_blk hg hr (own_no h.own hr (by simp))
  have hs2 := grown_blk hg hsb (own_no h.own hsb (by simp))
  have G := setCell_grown W' pL 0 (.slice a' (es.length + 1) c')
  have nr : some r ≠ some pL := fun e => by rw [Option.some.inj e, hb2] at hr2; cases hr2
  have ns : some bS ≠ some pL := fun e => by rw [Option.some.inj e, hb2] at hs2; cases hs2
  have B1 := h.bel.grown hg h.bel.size (fun q hq => (h.own.lt q hq).1)
  have hst : ∀ y ∈ es ++ [x], (W'.setCell ⟨pL, 0, none⟩ (.slice a' (es.length + 1) c')).ownsRow w.heap.size 3 1 (.slice y.sa y.n.strokes.length y.sc) y.n.strokes.length (y.n.strokes.map intV) := fun y hy => by
    have h0 : wr.ownsRow w.heap.size 3 1 (.slice y.sa y.n.strokes.length y.sc) y.n.strokes.length (y.n.strokes.map intV) := by
      rcases List.mem_append.1 hy with hy | hy
      · exact h.str y hy
      · rw [List.mem_singleton.1 hy]; exact hx
    have h1 := h0.kept hg (own_apart h0 h.own (by decide))
    exact h1.kept G (.inr (own_no h1 hb2 (by intro cur; simp)).symm)
  refine ⟨h.rng.of_blocks ((grown_blk G hs2 ns).trans hsb.symm) ((grown_blk G hr2 nr).trans hr.symm), B1.grown G B1.size (fun q hq => by cases hq; exact h.pL_ge), ?_, ?_, hst, ?_, h.pL_ge, h.r_ge⟩
  · have := setCell_at hb2 0 (.slice a' (es.length + 1) c')
    rw [this, List.length_append]; rfl
  · rw [lnCells_snoc, List.length_append]
    exact ho.kept G (.inr (own_no ho hb2 (by intro cur; simp)).symm)
  · rw [List.filterMap_append, List.map_append, h.evs]; simp [hk]
end
def whenLt (x y : LN) : Bool := decide (whenC x.n y.n < 0)
end Go.Proofs.YtlnhppgfhkkidaaGreat
