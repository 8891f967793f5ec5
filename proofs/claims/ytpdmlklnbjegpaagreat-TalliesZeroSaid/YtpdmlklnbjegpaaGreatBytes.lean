/- The functions on bytes below Notch and Join: two, check, Grow, Equal, Clone and Concat of byte slices. -/
import Derived.Test.YtpdmlklnbjegpaaGreatBase
import Derived.Test.YtpdmlklnbjegpaaGreatProg
import Derived.Lib.AppendZerosOnto
import Derived.Lib.Walk
import Derived.Deep.QuietTactic
import Derived.BigQuiet
namespace Go.Proofs.YtpdmlklnbjegpaaGreat
open Go.RowKit

theorem infoByte : (Tryz.prog.info? 5).map (fun i => (i.zero, i.size, i.bytes)) = some (some (.int .u8 0), 1, 1) := by kernel_rfl

/-- The check of the first k bytes. -/
def chkTo (l : List UInt8) : Nat → Int
  | 0 => 1
  | k+1 => (chkTo l k + (k+1) * (l[k]?.getD 0).toNat) % 65521
def chk (l : List UInt8) : Nat := (chkTo l l.length).toNat

theorem chkTo_bd (l : List UInt8) (k : Nat) : 0 ≤ chkTo l k ∧ chkTo l k < 65521 := by
  cases k with
  | zero => simp [chkTo]
  | succ k => simp only [chkTo]; omega
theorem chk_eq (l : List UInt8) : (chk l : Int) = chkTo l l.length := by
  have := chkTo_bd l l.length
  unfold chk; omega
theorem chk_lt (l : List UInt8) : chk l < 65521 := by
  have := chkTo_bd l l.length
  unfold chk; omega

/-- A number as two bytes, the lower one first. -/
def two (n : Nat) : List UInt8 := [UInt8.ofNat n, UInt8.ofNat (n / 256)]

theorem byte_toNat (l : List UInt8) (k : Nat) : ((l[k]?.getD 0).toNat : Int) < 256 := by have := (l[k]?.getD 0).toNat_lt; omega

theorem chk_step {l : List UInt8} {k n : Nat} (hn : n ≤ 140737488355328) (hlt : k < n) : 0 ≤ ((k : Int) + 1) * ((l[k]?.getD 0).toNat : Int) ∧ ((k : Int) + 1) * ((l[k]?.getD 0).toNat : Int) ≤ 140737488355328 * 256 := by
  have hB := byte_toNat l k
  exact ⟨Int.mul_nonneg (by omega) (by omega), Int.mul_le_mul (by omega) (by omega) (by omega) (by omega)⟩

theorem check_any (a : Option Addr) (n c : Nat) (l : List UInt8) (w : World) (hn : n ≤ 140737488355328) (hr : RdB w a n c l) :
    Calls Tryz.prog 98 #[.slice a n c] w fun e w' => e = .returned (.int .i64 (chk l)) ∧ w = w' := by
  have hle := hr.len
  go_enter Tryz.func98, Tryz.ntmps98
  go_wp2
  go_loop [3, 4, 5, 8] (fun s _ _ i => ∃ k : Nat, k ≤ n ∧ i = .int .i64 k ∧ s = .int .i64 (chkTo l k)) (fun _ _ _ i => n - (intOf i).toNat)
  case atStart => exact ⟨0, Nat.zero_le _, rfl, rfl⟩
  case round =>
    obtain ⟨k, hk, rfl, rfl⟩ := hrel
    by_cases hlt : k < n
    · obtain ⟨b, off, rfl, hc⟩ := hr.at (by omega)
      have hb := chkTo_bd l k
      have hcell := hc k hlt
      have hB := byte_toNat l k
      obtain ⟨hM, hM2⟩ := chk_step (l := l) hn hlt
      clear hc hr hle
      go_wp2
      go_round
      case rel => exact ⟨k + 1, by omega, by go_num, by simp [chkTo]⟩
      case measure => simp [intOf]; omega
    · clear hle
      go_wp2
      go_ret
      have : k = l.length := by rw [hr.len]; omega
      subst this
      exact ⟨by rw [chk_eq]; rfl, rfl⟩

theorem two_vals (n : Nat) : (two n).map byteV = [.int .u8 ((n : Int) % 256), .int .u8 ((n : Int) / 256 % 256)] := by
  simp only [two, byteV, List.map_cons, List.map_nil, UInt8.toNat_ofNat']
  simp
theorem two_own (n : Nat) (w : World) (hn : n < 65536) : (w.alloc (Obj.cells #[Value.int IntKind.u8 ((n : Int) % 256), Value.int IntKind.u8 ((n : Int) / 256)] 5)).ownsRow w.heap.size 5 1 (.slice (some ⟨w.heap.size, 0, none⟩) 2 2) 2 ((two n).map byteV) := by
  have h := World.ownsRow_lit (base := w.heap.size) (e := 5) (size := 1) w #[Value.int IntKind.u8 ((n : Int) % 256), Value.int IntKind.u8 ((n : Int) / 256)] 2 (Nat.le_refl _) (by unfold maxLen; omega) rfl
  rw [two_vals, show (n : Int) / 256 % 256 = (n : Int) / 256 by omega]
  exact h

theorem two_any (n : Nat) (w : World) (hn : n < 65536) :
    Calls Tryz.prog 97 #[.int .i64 n] w fun e w' => ∃ a c, e = .returned (.slice a 2 c) ∧ w'.ownsRow w.heap.size 5 1 (.slice a 2 c) 2 ((two n).map byteV) ∧ Below w.heap.size w w' := by
  go_enter Tryz.func97, Tryz.ntmps97
  go_wp2
  go_ret
  exact ⟨_, _, rfl, two_own n w hn, (Below.refl _ _).alloc (Nat.le_refl _) _⟩
/-- Grow of nil: memory of the call's own, or nil still. -/
theorem grow_nil (n : Nat) (w : World) (hn : n ≤ 140737488355328) :
    Calls Tryz.prog 130 #[.slice none 0 0, .int .i64 n] w fun e w' => ∃ a c, e = .returned (.slice a 0 c) ∧ w'.ownsRow w.heap.size 5 1 (.slice a 0 c) 0 [] ∧ Below w.heap.size w w' := by
  obtain ⟨i, hi, hz0, hz1, hz2⟩ := info_parts infoByte
  by_cases h0 : n = 0
  · subst h0
    go_enter Tryz.func130, Tryz.ntmps130
    go_wp2
    go_ret
    exact ⟨_, _, rfl, World.ownsRow_nil _ _ _ _, Below.refl _ _⟩
  · have hG : n ≤ grownCap w n 0 5 := grownCap_ge w _ _ _
    have hGm : grownCap w n 0 5 ≤ maxLen := grownCap_le_maxLen w n 0 5 (by unfold maxLen; omega)
    have hrz : ∀ ty, (Builtin.append_ #[41, 3] ty #[.slice none 0 0, .int .i64 (n : Int)]).run Tryz.prog w =
        .ok (.slice (some ⟨w.heap.size, 0, none⟩) n (grownCap w n 0 5)) (w.drew.alloc (.cells (Builtin.zeroCells (Value.int .u8 0).cells n ++ Builtin.zeroCells (Value.int .u8 0).cells (grownCap w n 0 5 - n)) 5)) := fun ty => by
      have h := Lib.run_append_grow_zeros w 41 3 ty 5 i (.int .u8 0) .i64 .i64 Tryz.underlying41 Tryz.underlying3 hi hz0 none 0 0 [] (run_firstCells_none (P := Tryz.prog) (w := w.drew) i.size 0 0 0) n (by omega) (by omega) (by omega) (by omega) (by rw [hz2]; omega)
        (by rw [hz2]; exact growslice_fits (by omega) (by omega))
      simpa using h
    have hpos : 0 < (n : Int) := by omega
    obtain ⟨G, hG'⟩ : ∃ G, G = grownCap w n 0 5 := ⟨_, rfl⟩
    rw [← hG'] at hrz hG hGm
    have hsz : (Builtin.zeroCells (Value.int .u8 0).cells n ++ Builtin.zeroCells (Value.int .u8 0).cells (G - n)).size = G * 1 := by
      simp only [Array.size_append, size_zeroCells, Value.cells]; simp; omega
    obtain ⟨Z, hZ⟩ : ∃ Z, Z = Builtin.zeroCells (Value.int .u8 0).cells n ++ Builtin.zeroCells (Value.int .u8 0).cells (G - n) := ⟨_, rfl⟩
    rw [← hZ] at hrz hsz
    have HG := Lib.hid hG'; clear hG'
    have HZ := Lib.hid hZ; clear hZ
    have HS := Lib.hid hsz; clear hsz
    clear hi hz0 hz1 hz2
    unfold maxLen at hGm
    go_enter Tryz.func130, Tryz.ntmps130
    go_wp2_with (at_builtin; refine Lib.wpList_append_run _ rfl _ _ _ _ rfl _ _ rfl rfl _ _ (hrz _) ?_)
    go_ret
    exact ⟨_, _, rfl, World.ownsRow_made w.drew Z G (Nat.le_refl _) (by unfold maxLen; omega) HS.out, ((Below.refl _ _).drew).alloc (Nat.le_refl _) _⟩

theorem byte_ne {x y : UInt8} (h : x ≠ y) : (((x.toNat : Nat) : Int) != ((y.toNat : Nat) : Int)) = true := by
  rw [bne_iff_ne]
  intro e
  exact h (UInt8.toNat_inj.1 (by omega))
theorem byte_eq {x y : UInt8} (h : x = y) : (((x.toNat : Nat) : Int) != ((y.toNat : Nat) : Int)) = false := by
  subst h; simp

theorem list_ext_to {l m : List UInt8} (hl : l.length = m.length) (h : ∀ j, j < l.length → l[j]?.getD 0 = m[j]?.getD 0) : l = m := by
  apply List.ext_getElem hl
  intro i h1 h2
  have := h i h1
  simpa [List.getElem?_eq_getElem h1, List.getElem?_eq_getElem h2] using this

theorem equal_any (a : Option Addr) (n c : Nat) (l : List UInt8) (a' : Option Addr) (n' c' : Nat) (l' : List UInt8) (w : World) (hr : RdB w a n c l) (hr' : RdB w a' n' c' l') :
    Calls Tryz.prog 67 #[.slice a n c, .slice a' n' c'] w fun e w' => ∃ b : Bool, e = .returned (.bool b) ∧ (b = true ↔ l = l') ∧ ∃ q, w' = w.drewN q := by
  have hm := RdA.maxn hr
  have hl := Lib.hid hr.len
  have hl' := Lib.hid hr'.len
  by_cases hnn : n = n'
  · subst hnn
    go_enter Tryz.func67, Tryz.ntmps67
    go_wp2
    go_loopw [5, 13] (fun _ i wr => ∃ k : Nat, k ≤ n ∧ i = .int .i64 k ∧ (∀ j, j < k → l[j]?.getD 0 = l'[j]?.getD 0) ∧ ∃ q, wr = w.drewN q) (fun _ i _ => n - (intOf i).toNat)
    case atStart => exact ⟨0, Nat.zero_le _, rfl, fun j hj => by omega, 0, rfl⟩
    case round =>
      obtain ⟨k, hk, rfl, hrl, q, rfl⟩ := hrel
      have HR := Lib.hid hrl; clear hrl
      by_cases hlt : k < n
      · obtain ⟨b, off, rfl, hc⟩ := hr.at (by omega)
        obtain ⟨b', off', rfl, hc'⟩ := hr'.at (by omega)
        have hx := hc k hlt
        have hx' := hc' k hlt
        clear hc hc' hr hr'
        have hk64 : (k : Int) ≤ 9223372036854775807 := by omega
        by_cases he : l[k]?.getD 0 = l'[k]?.getD 0
        · have hb := byte_eq he
          have HE := Lib.hid he; clear he
          go_wp2
          go_quiet (fail)
          go_wp2
          go_roundw
          case rel => exact ⟨k + 1, by omega, by go_num, fun j hj => by
            rcases Nat.lt_succ_iff_lt_or_eq.1 hj with h | h
            · exact HR.out j h
            · rw [h]; exact HE.out, _, rfl⟩
          case measure => simp [intOf]; omega
        · have hb := byte_ne he
          have HE := Lib.hid he; clear he
          go_wp2
          go_quiet (fail)
          go_wp2
          go_ret
          exact ⟨false, rfl, ⟨fun h => by simp at h, fun h => absurd (by rw [h]) HE.out⟩, _, World.drewN_drewN _ _ _⟩
      · go_wp2
        go_ret
        have hkn : k = n := by omega
        exact ⟨true, rfl, ⟨fun _ => list_ext_to (by rw [hl.out, hl'.out]) (fun j hj => HR.out j (by rw [hl.out] at hj; omega)), fun _ => rfl⟩, _, rfl⟩
  · have hb : (((n : Nat) : Int) != ((n' : Nat) : Int)) = true := by rw [bne_iff_ne]; omega
    have hm' := RdA.maxn hr'
    have HN := Lib.hid hnn; clear hnn
    go_enter Tryz.func67, Tryz.ntmps67
    go_wp2
    go_ret
    exact ⟨false, rfl, ⟨fun h => by simp at h, fun h => absurd (by rw [← hl.out, ← hl'.out, h]) HN.out⟩, 0, rfl⟩

/-- append of bytes to bytes of the call's own. -/
theorem app_bytes (w : World) {ops : Array Oper} {rest : List Oper} {o : Oper} {a : Act} {Q : Exit → Act → World → Prop} (hgd : o.guard = none) (s x : Operand)
    (ho : o.op = .call { callee := .builtin .append, args := #[s, x], argTypes := #[41, 41] }) (base : Nat)
    (sa : Option Addr) (sn sc : Nat) (xs : List UInt8) (hs : a.eval s = .slice sa sn sc) (hown : w.ownsRow base 5 1 (.slice sa sn sc) sn (xs.map byteV))
    (xa : Option Addr) (m xc : Nat) (ys : List UInt8) (hx : a.eval x = .slice xa m xc) (hrd : RdB w xa m xc ys) (hbytes : sn + m ≤ 140737488355328) (hbase : base ≤ w.heap.size)
    (h : ∀ a' c' w', w'.ownsRow base 5 1 (.slice a' (sn + m) c') (sn + m) ((xs ++ ys).map byteV) → w.grownBy w' (Value.ownBlock (.slice sa sn sc)) → wpList Tryz.prog ops Q rest (a.put o.dst (.slice a' (sn + m) c')) w') :
    wpList Tryz.prog ops Q (o :: rest) a w := by
  obtain ⟨i, hi, hz0, hz1, hz2⟩ := info_parts infoByte
  exact wpList_append_rd w hgd s x 41 ho base 5 i (.int .u8 0) 1 1 Tryz.underlying41 hi hz0 hz1 hz2 rfl (by decide) sa sn sc _ hs hown xa m xc _ hx hrd (byteV_one _) (by unfold maxLen; omega) (by omega) hbase
    (fun a' c' w' h1 h2 => h a' c' w' (by rw [List.map_append]; exact h1) h2)

/-- Clone: memory of the call's own. -/
theorem clone_any (a : Option Addr) (n c : Nat) (l : List UInt8) (w : World) (hn : n ≤ 140737488355328) (hr : RdB w a n c l) :
    Calls Tryz.prog 95 #[.slice a n c] w fun e w' => ∃ a' c', e = .returned (.slice a' n c') ∧ w'.ownsRow w.heap.size 5 1 (.slice a' n c') n (l.map byteV) ∧ Below w.heap.size w w' := by
  have hnc := hr.le
  by_cases ha : a = none
  · subst ha
    have hc : n = 0 ∧ c = 0 := by
      rcases hr.2.2.2 with h | ⟨b, off, h, _⟩
      · omega
      · cases h
    obtain ⟨rfl, rfl⟩ := hc
    have hl : l = [] := List.eq_nil_of_length_eq_zero hr.len
    subst hl
    clear hr hnc
    have heq : ∀ w, (binOp .eql 41 (.slice none 0 0) (.slice none 0 0)).run Tryz.prog w = .ok (.bool true) w := fun w => Lib.run_eql_slice_nil (P := Tryz.prog) w 41 5 none 0 0 0 0 Tryz.underlying41
    go_enter Tryz.func95, Tryz.ntmps95
    go_wp2
    go_ret
    exact ⟨_, _, rfl, World.ownsRow_nil _ _ _ _, Below.refl _ _⟩
  · obtain ⟨ad, rfl⟩ := Option.ne_none_iff_exists'.1 ha
    clear ha
    have heq : ∀ w, (binOp .eql 41 (.slice (some ad) n c) (.slice none 0 0)).run Tryz.prog w = .ok (.bool false) w := fun w => Lib.run_eql_slice_nil (P := Tryz.prog) w 41 5 (some ad) n c 0 0 Tryz.underlying41
    have hown := World.ownsRow_lit (base := w.heap.size) (e := 5) (size := 1) w #[] 0 (Nat.le_refl _) (by unfold maxLen; omega) rfl
    have hr1 := hr.below ((Below.refl w.heap.size w).alloc (Nat.le_refl _) (Obj.cells #[] 5))
    go_enter Tryz.func95, Tryz.ntmps95
    go_wp2_with (at_builtin; refine app_bytes _ rfl _ _ rfl w.heap.size _ _ _ [] rfl hown _ _ _ l rfl hr1 (by omega) (by simp) ?_)
    intro a' c' w' h1 h2
    go_wp2
    go_ret
    exact ⟨_, _, rfl, h1, ((Below.refl _ _).alloc (Nat.le_refl _) _).grown h2 (by simp) (fun k hk => by simp [Value.ownBlock] at hk; omega)⟩

end Go.Proofs.YtpdmlklnbjegpaaGreat
