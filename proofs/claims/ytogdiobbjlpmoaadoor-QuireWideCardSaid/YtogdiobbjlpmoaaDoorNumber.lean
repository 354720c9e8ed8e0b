/- What the ways of the kinds of forms answer of a magnitude (value.numbers and its functions), and value.of. No condition but those written, and that the package variables hold what they are laid with. -/
import Derived.Test.YtogdiobbjlpmoaaDoorPval
import Derived.Test.YtogdiobbjlpmoaaDoorMini
import Derived.Test.YtogdiobbjlpmoaaDoorFits
import Derived.Deep.RegionWith
import Derived.Deep.RegionHeld3
namespace Go.Proofs.YtogdiobbjlpmoaaDoor
open Go Go.RowKit Cal

theorem negman (f : Frm) (more : Nat) : -(f.man : Int) - more = -(f.man : Int) - (more : Int) := rfl

set_option maxHeartbeats 800000 in
theorem number1 (f : Frm) (more key : Nat) (h1 : 3 ≤ f.width + more) (h2 : f.width + more ≤ 65) (h0 : 0 < key) (hk : key < 2 ^ (f.width + more - 1)) (w : World) (hE : Env w) :
    Calls Tryd.prog 144 #[.agg #[.int .i64 (f).kind, .int .i64 (f).width, .int .i64 (f).man, .int .i64 (f).bias, .int .u64 (f).top, .int .u64 (f).inf, .int .u64 (f).nan], .int .i64 more, .int .u64 key] w fun e w' => e = .returned (.tuple #[.int .u64 ((pval (f.width + more - 1) key).1 : Nat), .int .i64 (pval (f.width + more - 1) key).2]) ∧ Ext w w' := by
  obtain ⟨n, hn⟩ : ∃ n, f.width + more = n + 1 := ⟨f.width + more - 1, by omega⟩
  have hn' : f.width + more - 1 = n := by omega
  rw [hn'] at hk ⊢
  clear hn'
  have c145 := Lib.hid (fun W h => pValue_any n key (by omega) (by omega) h0 hk W h)
  have hw : (f.width : Int) + more = (n : Int) + 1 := by omega
  clear hn
  have hEA := fun o => hE.alloc o
  go_enter Tryd.func144, Tryd.ntmps144
  go_wp2_with (first | (go_at_call 145; refine (c145.out _ (hEA _)).mono ?_; rintro e w1 ⟨rfl, hb1⟩))
  go_ret2
  exact ⟨rfl, by (repeat (first | (with_reducible exact Ext.refl _) | (with_reducible assumption) | (with_reducible refine Ext.drew ?_) | (with_reducible refine Ext.drewN ?_ _) | (with_reducible refine Ext.alloc ?_ _) | (with_reducible refine Ext.setCell ?_ (Nat.le_refl _) _) | (with_reducible refine Ext.setCell ?_ (by simp; try omega) _) | (with_reducible refine Ext.trans ?_ (by with_reducible assumption))))⟩

set_option maxHeartbeats 800000 in
theorem number2 (f : Frm) (more key : Nat) (h1 : f.man + more ≤ 60) (h2 : f.bias ≤ 2000) (hk : key < 18446744073709551616) (hf : key / 2 ^ (f.man + more) ≤ 4095) (w : World) (hE : Env w) :
    Calls Tryd.prog 146 #[.agg #[.int .i64 (f).kind, .int .i64 (f).width, .int .i64 (f).man, .int .i64 (f).bias, .int .u64 (f).top, .int .u64 (f).inf, .int .u64 (f).nan], .int .i64 more, .int .u64 key] w fun e w' => e = .returned (.tuple #[.int .u64 ((mval (f.man + more) f.bias key).1 : Nat), .int .i64 (mval (f.man + more) f.bias key).2]) ∧ Ext w w' := by
  obtain ⟨n, hn⟩ : ∃ n, f.man + more = n := ⟨_, rfl⟩
  rw [hn] at hf h1 ⊢
  have c147 := Lib.hid (fun W h => mValue_any n f.bias key h1 h2 hk hf W h)
  have hw : (f.man : Int) + more = (n : Int) := by omega
  clear hn hf
  have hEA := fun o => hE.alloc o
  go_enter Tryd.func146, Tryd.ntmps146
  go_wp2_with (first | (go_at_call 147; refine (c147.out _ (hEA _)).mono ?_; rintro e w1 ⟨rfl, hb1⟩))
  go_ret2
  exact ⟨rfl, by (repeat (first | (with_reducible exact Ext.refl _) | (with_reducible assumption) | (with_reducible refine Ext.drew ?_) | (with_reducible refine Ext.drewN ?_ _) | (with_reducible refine Ext.alloc ?_ _) | (with_reducible refine Ext.setCell ?_ (Nat.le_refl _) _) | (with_reducible refine Ext.setCell ?_ (by simp; try omega) _) | (with_reducible refine Ext.trans ?_ (by with_reducible assumption))))⟩

set_option maxHeartbeats 800000 in
theorem number3 (f : Frm) (more key : Nat) (h1 : f.man + more ≤ 60) (hk : key < 18446744073709551616) (w : World) (hE : Env w) :
    Calls Tryd.prog 148 #[.agg #[.int .i64 (f).kind, .int .i64 (f).width, .int .i64 (f).man, .int .i64 (f).bias, .int .u64 (f).top, .int .u64 (f).inf, .int .u64 (f).nan], .int .i64 more, .int .u64 key] w fun e w' => e = .returned (.tuple #[.int .u64 ((odd key (-(f.man : Int) - more)).1 : Nat), .int .i64 (odd key (-(f.man : Int) - more)).2]) ∧ Ext w w' := by
  have c149 := Lib.hid (fun W h => vodd_any key (-(f.man : Int) - more) hk (by omega) (by omega) W h)
  have hEA := fun o => hE.alloc o
  go_enter Tryd.func148, Tryd.ntmps148
  go_wp2_with (first | (go_at_call 149; refine (c149.out _ (hEA _)).mono ?_; rintro e w1 ⟨rfl, rfl⟩))
  go_ret2
  exact ⟨rfl, by (repeat (first | (with_reducible exact Ext.refl _) | (with_reducible assumption) | (with_reducible refine Ext.drew ?_) | (with_reducible refine Ext.drewN ?_ _) | (with_reducible refine Ext.alloc ?_ _) | (with_reducible refine Ext.setCell ?_ (Nat.le_refl _) _) | (with_reducible refine Ext.setCell ?_ (by simp; try omega) _) | (with_reducible refine Ext.trans ?_ (by with_reducible assumption))))⟩

set_option maxHeartbeats 800000 in
theorem number4 (f : Frm) (more key : Nat) (h1 : more ≤ 1) (h2 : f.bias ≤ 2000) (hk : key ≤ 1000) (w : World) :
    Calls Tryd.prog 150 #[.agg #[.int .i64 (f).kind, .int .i64 (f).width, .int .i64 (f).man, .int .i64 (f).bias, .int .u64 (f).top, .int .u64 (f).inf, .int .u64 (f).nan], .int .i64 more, .int .u64 key] w fun e w' => e = .returned (.tuple #[.int .u64 ((1 + 2 * more : Nat) : Int), .int .i64 (((key / 2 ^ more : Nat) : Int) - f.bias - more)]) ∧ Ext w w' := by
  obtain ⟨q, hq⟩ : ∃ q, key / 2 ^ more = q := ⟨_, rfl⟩
  have hq2 : q ≤ 1000 := by rw [← hq]; exact Nat.le_trans (Nat.div_le_self _ _) hk
  have hd : (key : Int) / 2 ^ more = (q : Int) := by rw [zdiv, hq]
  rw [hq]
  clear hq
  go_enter Tryd.func150, Tryd.ntmps150
  go_wp2_with fail
  go_quiet (fail)
  go_wp2_with fail
  go_ret2
  exact ⟨ret2 (by omega) rfl, by (repeat (first | (with_reducible exact Ext.refl _) | (with_reducible assumption) | (with_reducible refine Ext.drew ?_) | (with_reducible refine Ext.drewN ?_ _) | (with_reducible refine Ext.alloc ?_ _) | (with_reducible refine Ext.setCell ?_ (Nat.le_refl _) _) | (with_reducible refine Ext.setCell ?_ (by simp; try omega) _) | (with_reducible refine Ext.trans ?_ (by with_reducible assumption))))⟩
end Go.Proofs.YtogdiobbjlpmoaaDoor

