/- The program's CheckNote. -/
import Derived.Test.YtpdmlklnbjegpaaGreatHis7
namespace Go.Proofs.YtpdmlklnbjegpaaGreat
open Go.RowKit

def checkN (f : FrV) (n : NoteV) : Int := if f.valid then if formedB f n then 0 else 80 else 1
section
attribute [local go_sem] noteA_0
variable (f : FrV) (n : NoteV) (sa : Option Addr) (sc : Nat) (w : World)
set_option maxHeartbeats 2000000 in
set_option maxRecDepth 100000 in
theorem checkNote_any (hs : RdI w sa n.strokes.length sc n.strokes) :
    Calls Tryz.prog 31 #[f.val, .agg (noteA n sa sc)] w fun e w' => e = .returned (.int .i64 (checkN f n)) ∧ Below w.heap.size w w' := by
  have I43 := Lib.hid (show (Tryz.prog.info? 47).map (·.size) = some (noteA n sa sc).size by kernel_rfl)
  have g1 := heap_at (w.alloc (.cells #[.int .i64 f.rings, .int .i64 f.sectors, .int .i64 f.wide] 23)) (.cells (noteA n sa sc) 47) (w.heap.size + 1) (by simp)
  have g2 := heap_before _ (.cells #[.int .i64 f.rings, .int .i64 f.sectors, .int .i64 f.wide] 131) _ _ g1
  have b0 : Below w.heap.size w (((w.alloc (.cells #[.int .i64 f.rings, .int .i64 f.sectors, .int .i64 f.wide] 23)).alloc (.cells (noteA n sa sc) 47)).alloc (.cells #[.int .i64 f.rings, .int .i64 f.sectors, .int .i64 f.wide] 131)) :=
    (((Below.refl _ _).alloc (Nat.le_refl _) _).alloc (by simp) _).alloc (by simp; omega) _
  have g3 := heap_at ((w.alloc (.cells #[.int .i64 f.rings, .int .i64 f.sectors, .int .i64 f.wide] 23)).alloc (.cells (noteA n sa sc) 47)) (.cells #[.int .i64 f.rings, .int .i64 f.sectors, .int .i64 f.wide] 131) (w.heap.size + 1 + 1) (by simp)
  have G2 := Lib.hid g2; clear g1 g2
  have G3 := Lib.hid g3; clear g3
  have B0 := Lib.hid b0; clear b0
  unfold FrV.val
  go_enter Tryz.func31, Tryz.ntmps31
  go_wp2_with fail
  generalize ((w.alloc (.cells #[.int .i64 f.rings, .int .i64 f.sectors, .int .i64 f.wide] 23)).alloc (.cells (noteA n sa sc) 47)).alloc (.cells #[.int .i64 f.rings, .int .i64 f.sectors, .int .i64 f.wide] 131) = W0 at *
  refine (valid_any f.rings f.sectors f.wide _).mono ?_
  rintro e w1 ⟨rfl, b1⟩
  have hz := (Array.getElem?_eq_some_iff.1 G3.out).1
  have h1 := (b1.block _ (by omega)).trans G2.out
  have h2 := (b1.block _ hz).trans G3.out
  have B1 := Lib.hid (B0.out.trans (b1.mono B0.out.size)); clear b1
  cases hv : f.valid
  · have hR : checkN f n = 1 := by unfold checkN; rw [hv]; rfl
    have HR := Lib.hid hR; clear hR hv
    go_wp2_with fail
    go_ret
    rw [HR.out]
    exact ⟨rfl, B1.out⟩
  · have c0 : w1.cell? ⟨w.heap.size + 1 + 1, 0, none⟩ = some (.int .i64 f.rings) := by simp [World.cell?, h2]
    have c1 : w1.cell? ⟨w.heap.size + 1 + 1, 1, none⟩ = some (.int .i64 f.sectors) := by simp [World.cell?, h2]
    have c2 : w1.cell? ⟨w.heap.size + 1 + 1, 2, none⟩ = some (.int .i64 f.wide) := by simp [World.cell?, h2]
    have HV := Lib.hid hv; clear hv
    have H1 := Lib.hid h1; clear h1 h2
    go_wp2_with (refine wpList_load_row rfl 47 _ rfl (w.heap.size + 1) rfl 47 (noteA n sa sc) (0, 0) _ H1.out Tryz.underlying47 rfl I43.out ?_)
    refine (formed_any f n sa sc _ HV.out (hs.below B1.out)).mono ?_
    rintro e w2 ⟨rfl, b2⟩
    have B2 := Lib.hid (B1.out.trans (b2.mono B1.out.size)); clear b2
    cases hf : formedB f n
    · have hR : checkN f n = 80 := by unfold checkN; rw [HV.out, hf]; rfl
      have HR := Lib.hid hR; clear hR hf
      go_wp2_with fail
      go_ret
      rw [HR.out]
      exact ⟨rfl, B2.out⟩
    · have hR : checkN f n = 0 := by unfold checkN; rw [HV.out, hf]; rfl
      have HR := Lib.hid hR; clear hR hf
      go_wp2_with fail
      go_ret
      rw [HR.out]
      exact ⟨rfl, B2.out⟩
end
end Go.Proofs.YtpdmlklnbjegpaaGreat
