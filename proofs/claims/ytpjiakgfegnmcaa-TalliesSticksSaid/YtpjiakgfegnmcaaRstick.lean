/- The reference's stick: its methods. -/
import Derived.Test.YtpjiakgfegnmcaaRdef
import Derived.Deep.RegionHeld3
import Derived.Deep.AppendLies
import Derived.Deep.DrawnRows
namespace Go.Proofs.Ytpjiakgfegnmcaa
open Go.RowKit
attribute [local go_sem ↓] Go.wp_at_zero Go.wp_at_succ

/-- An append of bytes at a step of a drawn region. -/
theorem step_app_bytes {w : World} {ops : Array Oper} {o : Oper} {a : Act} {K : Act → World → Prop} {Q : Exit → Act → World → Prop} {E : Prop} (hgd : o.guard = none) (s x : Operand)
    (ho : o.op = .call { callee := .builtin .append, args := #[s, x], argTypes := #[22, 22] }) (base : Nat)
    (sa : Option Addr) (sn sc : Nat) (xs : List UInt8) (hs : a.eval s = .slice sa sn sc) (hown : w.ownsRow base 5 1 (.slice sa sn sc) sn (xs.map byteV))
    (xa : Option Addr) (m xc : Nat) (ys : List UInt8) (hx : a.eval x = .slice xa m xc) (hrd : RdB w xa m xc ys) (hbytes : sn + m ≤ 140737488355328) (hbase : base ≤ w.heap.size)
    (h : ∀ a' c' w', w'.ownsRow base 5 1 (.slice a' (sn + m) c') (sn + m) ((xs ++ ys).map byteV) → w.grownBy w' (Value.ownBlock (.slice sa sn sc)) → K (a.put o.dst (.slice a' (sn + m) c')) w') :
    if Region.wanted o (yielded ops a.tmps) = true then Oper.wp Try.prog o a w K Q else E := by
  have hw : Region.wanted o (yielded ops a.tmps) = true := by simp [Region.wanted, hgd]
  rw [if_pos hw]
  obtain ⟨i, hi, hz0, hz1, hz2⟩ := info_parts infoByte
  obtain ⟨a', c', w', hr, h2, h3⟩ := run_append_rd (P := Try.prog) w base 22 o.type 5 i (.int .u8 0) 1 1 Try.underlying22 hi hz0 hz1 hz2 rfl (by decide) sa sn sc _ hown xa m xc _ hrd (byteV_one _) (by unfold maxLen; omega) (by omega) hbase
  unfold Oper.wp
  simp [execOp, ho, resolve, invoke, builtin, hs, hx, hr, Result.andThen]
  exact h a' c' w' (by rw [List.map_append]; exact h2) h3

theorem nil_own (w : World) (base : Nat) (h : base ≤ w.heap.size) : (w.alloc (.cells #[] 5)).ownsRow base 5 1 (.slice (some ⟨w.heap.size, 0, none⟩) 0 0) 0 (([] : List UInt8).map byteV) :=
  World.ownsRow_lit (base := base) (e := 5) (size := 1) w #[] 0 h (by unfold maxLen; omega) rfl

set_option maxHeartbeats 1000000 in
theorem all_any (a1 : Option Addr) (n1 c1 : Nat) (D : List UInt8) (a2 : Option Addr) (n2 c2 : Nat) (L : List UInt8) (w : World) (h1 : RdB w a1 n1 c1 D) (h2 : RdB w a2 n2 c2 L) (hn1 : n1 ≤ 70368744177664) (hn2 : n2 ≤ 70368744177664) :
    Calls Try.prog 44 #[.agg #[.slice a1 n1 c1, .slice a2 n2 c2]] w fun e w' => ∃ a c, e = .returned (.slice a (n1 + n2) c) ∧ w'.ownsRow w.heap.size 5 1 (.slice a (n1 + n2) c) (n1 + n2) ((D ++ L).map byteV) ∧ Below w.heap.size w w' := by
  go_enter Try.func44, Try.ntmps44
  go_wp2_with fail
  have hlt : w.heap.size < (w.alloc (.cells #[.slice a1 n1 c1, .slice a2 n2 c2] 51)).heap.size := by simp
  have hb0 := (Below.refl w.heap.size w).alloc (Nat.le_refl _) (.cells #[.slice a1 n1 c1, .slice a2 n2 c2] 51)
  have hh := heap_alloc_new w (.cells #[.slice a1 n1 c1, .slice a2 n2 c2] 51)
  have c0 : (w.alloc (.cells #[.slice a1 n1 c1, .slice a2 n2 c2] 51)).cell? ⟨w.heap.size, 0, none⟩ = some (.slice a1 n1 c1) := by simp only [World.cell?, hh]; rfl
  have c1' : (w.alloc (.cells #[.slice a1 n1 c1, .slice a2 n2 c2] 51)).cell? ⟨w.heap.size, 1, none⟩ = some (.slice a2 n2 c2) := by simp only [World.cell?, hh]; rfl
  generalize w.alloc (.cells #[.slice a1 n1 c1, .slice a2 n2 c2] 51) = W0 at *
  clear hh
  have hsz0 := hb0.size
  have hb1 : Below w.heap.size w (W0.alloc (.cells #[] 5)) := hb0.alloc hsz0 _
  have hb2 : Below W0.heap.size W0 (W0.alloc (.cells #[] 5)) := (Below.refl _ _).alloc (Nat.le_refl _) _
  have ho1 := nil_own W0 w.heap.size hsz0
  have ho1' := nil_own W0 W0.heap.size (Nat.le_refl _)
  have d0 := (hb2.cell (p := ⟨w.heap.size, 0, none⟩) hlt).trans c0
  have d1 := (hb2.cell (p := ⟨w.heap.size, 1, none⟩) hlt).trans c1'
  have hsz1 := hb2.size
  have r1 := h1.below hb1
  have r2 := h2.below hb1
  have hb2d : Below W0.heap.size W0 (W0.alloc (.cells #[] 5)).drew := hb2.drew
  clear ho1 r2 hb1
  go_region_held3 (fun w' => w'.cell? ⟨w.heap.size, 0, none⟩ = some (.slice a1 n1 c1) ∧ w'.cell? ⟨w.heap.size, 1, none⟩ = some (.slice a2 n2 c2)) (first | exact ⟨c0, c1'⟩ | exact ⟨d0, d1⟩ | exact ⟨(hB2.cell (p := ⟨w.heap.size, 0, none⟩) hlt).trans c0, (hB2.cell (p := ⟨w.heap.size, 1, none⟩) hlt).trans c1'⟩ | exact ⟨(hB3.cell (p := ⟨w.heap.size, 0, none⟩) hlt).trans c0, (hB3.cell (p := ⟨w.heap.size, 1, none⟩) hlt).trans c1'⟩)
    (first
      | (refine step_app_bytes rfl _ _ rfl W0.heap.size _ _ _ [] rfl (own_below ho1' (Below.refl _ _).drew) _ _ _ D rfl (r1.below (Below.refl _ _).drew) (by omega) hsz1 ?_; simp only [Nat.zero_add, List.nil_append]; intro a' c' w2 ho2 hg2; have hB2 := hb2d.grown hg2 hsz1 (fun q hq => (ho1'.lt q hq).1); have hsz2 := hB2.size; have r2 := h2.below (hb0.trans (hB2.mono hsz0)))
      | (refine step_app_bytes rfl _ _ rfl W0.heap.size _ _ _ D rfl ho2 _ _ _ L rfl r2 (by omega) hsz2 ?_; intro a'' c'' w3 ho3 hg3; have hB3 := hB2.grown hg3 hsz2 (fun q hq => (ho2.lt q hq).1)))
  go_wp2_with fail
  go_ret
  exact ⟨_, _, rfl, own_mono ho3 hsz0, hb0.trans (hB3.mono hsz0)⟩
end Go.Proofs.Ytpjiakgfegnmcaa
