/- module.good, module.fitFunc, module.fits. -/
import Derived.Test.YtdmmjckhpagibaaGreatDoorMcPut
import Derived.Test.YtdmmjckhpagibaaGreatDoorMcNames
namespace Go.Proofs.YtdmmjckhpagibaaGreatDoor
open Go.RowKit Go.Sort
set_option linter.unusedVariables false
theorem wpList_of_quiet {P : Program} {ops : Array Oper} {Q : Exit → Act → World → Prop} {C : World → Prop} {K : Act → Prop} (hK : ∀ a w, C w → K a → Q .normal a w) : ∀ (l : List Oper) (a : Act) (w : World), C w → wpQuiet P ops C K l a → wpList P ops Q l a w
  | [], a, w, hw, h => hK a w hw h
  | o :: rest, a, w, hw, h => by
    unfold wpQuiet at h
    unfold wpList
    split at h
    · rename_i hg
      rw [if_pos hg]
      exact .inl (Oper.wp_of_quiet hw (fun a w' hw' h' => wpList_of_quiet hK rest a w' hw' h') h)
    · rename_i hg
      rw [if_neg hg]
      exact wpList_of_quiet hK rest _ w hw h
theorem wp_region_quiet_lit {P : Program} {id : Nat} {Q : Exit → Act → World → Prop} {a : Act} {w : World} {l : List Oper}
    (h : wpQuiet P l.toArray (fun w' => ∃ p : Regrown, w' = grow (redrawn w p.d) p.os) (fun a' => ∀ w', (∃ p : Regrown, w' = grow (redrawn w p.d) p.os) → Q .normal a' w') l a) : (Code.region id l.toArray false).wp P Q a w :=
  wp_region_lit (wpList_of_quiet (fun a w' hw hk => hk w' hw) l a w ⟨⟨w.drawn, #[]⟩, by rw [grow_empty]; rfl⟩ h)
/-- A callee that answers alike in every world behind V. -/
theorem calls_behind {P : Program} {f : FuncId} {args : Array Value} {V : World} {v : Value} (h : ∀ W, Below V.heap.size V W → Calls P f args W fun e w' => e = .returned v ∧ Below W.heap.size W w') (d : Nat) (os : Array Go.Obj) : Calls P f args (grow (redrawn V d) os) fun e w'' => e = .returned v ∧ ∃ p : Regrown, w'' = grow (redrawn V p.d) p.os := Calls.regrown_of (h _ (below_regrown V d os))
theorem eg_of {P : Program} {f : FuncId} {fn : Func} {c : Code} (hf : P.funcs[f]? = some fn) (hname : (fn.name == "runtime.NumGoroutine") = false) (hb : fn.body = some c) (args : Array Value) (w : World) : (callFunc f args).run P w = .ok (.enter f args) w := by
  simp only [callFunc, program, Sem.run_bind, Sem.run, Result.andThen_ok, hf, hname, hb]
  rfl
theorem good1_calls (w : World) (k n r : Int) (g : Nat) (hc : w.cell? ⟨g, 0, none⟩ = some (.int .i64 r)) : Calls Tryz.prog 168 #[.agg #[.int .i64 k, .int .i64 n], .pointer (some ⟨g, 0, none⟩)] w fun e w' => e = .returned (.bool (!good ⟨k, n⟩ r)) ∧ Below w.heap.size w w' := by
  have hc2 : (w.alloc (Obj.cells #[.int .i64 k, .int .i64 n] 23)).cell? ⟨g, 0, none⟩ = some (.int .i64 r) := ((Below.refl w.heap.size w).alloc (Nat.le_refl _) _).cell (World.block_lt_of_cell? w _ hc) |>.trans hc
  go_enter Tryz.func168, Tryz.ntmps168
  go_wp2_with (go_at_call 142; refine (good_calls _ _ _ _).mono ?_; rintro e w1 ⟨rfl, hb1⟩)
  go_ret
  exact ⟨rfl, below_al1 hb1⟩
theorem eg_good1 : ∀ (args : Array Value) (w : World), (callFunc 168 args).run Tryz.prog w = .ok (.enter 168 args) w := eg_of Tryz.func168 (by kernel_rfl) rfl
/-- Are all types? -/
def goodL (xs : List Ty) (r most : Int) : Bool := decide ((xs.length : Int) ≤ most) && !(xs.any fun x => !good x r)
set_option maxHeartbeats 4000000 in
theorem goodL_calls {S : Nat → Prop} (w : World) (A : Option Addr) (n c : Nat) (xs : List Ty) (r most : Int) (hn : xs.length = n) (hm : most ≤ 100000000000000) (hS : ∀ b, S b → b < w.heap.size) (row : k_ty.Row S w A xs) :
    Calls Tryz.prog 137 #[.slice A n c, .int .i64 r, .int .i64 most] w fun e w' => e = .returned (.bool (goodL xs r most)) ∧ Below w.heap.size w w' := by
  have hb0 := (Below.refl w.heap.size w).alloc (Nat.le_refl _) (Obj.cells #[.int .i64 r] 3)
  have HC := Lib.hid (fun hm2 : n ≤ 100000000000000 => contains_Ty (w.alloc (Obj.cells #[.int .i64 r] 3)) A n c xs hn hm2 (fun b h => Nat.lt_of_lt_of_le (hS b h) (by simp)) (row.keep (fun b h => hb0.block b (hS b h))) 168 eg_good1 #[.pointer (some ⟨w.heap.size, 0, none⟩)] (fun x => !good x r)
    (fun W x _ f0 f1 hb => good1_calls W x.kind x.n r w.heap.size ((hb.cell (p := ⟨w.heap.size, 0, none⟩) (by simp)).trans (blk_cell (blk_new w _) 0))))
  have HG : Hid (goodL xs r most = (decide ((n : Int) ≤ most) && !(xs.any fun x => !good x r))) := Lib.hid (by rw [← hn]; rfl)
  clear hS row hn
  generalize (xs.any fun x => !good x r) = z at *
  by_cases hle : (n : Int) ≤ most
  · have hd : decide ((n : Int) ≤ most) = true := decide_eq_true hle
    rw [hd] at HG
    go_enter Tryz.func137, Tryz.ntmps137
    go_wp2_with (go_at_call 70; refine (HC.out (by omega)).mono ?_; rintro e w1 ⟨rfl, hb1⟩)
    go_ret
    exact ⟨ret_bool HG.out.symm, below_al1 hb1⟩
  · have hd : decide ((n : Int) ≤ most) = false := decide_eq_false hle
    rw [hd] at HG
    go_enter Tryz.func137, Tryz.ntmps137
    go_wp2
    go_ret
    exact ⟨ret_bool HG.out.symm, below_al1 (Below.refl _ _)⟩
theorem fit1_calls (w : World) (i : Ins) : Calls Tryz.prog 170 #[.agg #[.int .i64 i.op, .int .i64 i.a, .int .i64 i.b]] w fun e w' => e = .returned (.bool (!goodI i)) ∧ Below w.heap.size w w' := by
  have HE : Hid ((((instB i).length : Int) == 0) = !goodI i) := Lib.hid (by
    cases h : goodI i
    · rw [instB_bad h]; rfl
    · unfold instB; rw [if_pos h]; simp; omega)
  have HP := Lib.hid (fun w => put_calls w i.op i.a i.b)
  generalize (instB i).length = n at *
  go_enter Tryz.func170, Tryz.ntmps170
  go_wp2_with (go_at_call 149; refine (HP.out _).mono ?_; rintro e w1 ⟨A, c, rfl, ho1, hb1⟩)
  go_ret
  exact ⟨ret_bool HE.out, below_al1 hb1⟩
end Go.Proofs.YtdmmjckhpagibaaGreatDoor
