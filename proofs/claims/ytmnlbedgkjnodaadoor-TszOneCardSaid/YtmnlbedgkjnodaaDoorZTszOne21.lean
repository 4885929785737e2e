/- The rows' premise on the two package-level variables, told as cells; and a start that meets it.
   The row of the law TszOne, out of the contract of its call, and its tied card. No condition beside the row's own. Written by a program of this session (row.py). -/
import Derived.Test.YtmnlbedgkjnodaaDoorRows
import Derived.Test.YtmnlbedgkjnodaaDoorZTszOne7
import Derived.Lay
import Derived.LaidMore
import Derived.OpenShut
import Derived.ProofKit
import Derived.Test.YtmnlbedgkjnodaaDoorZTszOne20
import Derived.Test.YtmnlbedgkjnodaaDoorZTszOne9
import Derived.WalkKit
import Derived.ShutString
import Derived.ChangeOld
import Derived.Below
import Derived.SizedLaws
import Derived.Test.YtmnlbedgkjnodaaDoorTie
import Derived.Test.YtmnlbedgkjnodaaDoorCards
import Derived.SevenTiedAt
import Derived.Stop.Joined
set_option linter.unusedVariables false
namespace Go.Proofs.YtmnlbedgkjnodaaDoor.Ld
open Go.ChangeShapes Go.WideShapes Go.ChangeAt Go.RowKit
def laid : List (String × DataW Unit) := [("math/bits.deBruijn64tab", Rows.laid_math_bits_deBruijn64tab), ("thermograph/tsz.none", Rows.laid_thermograph_tsz_none)]
theorem tab_cell {P : Program} {W : World} {cs : Array Value} {fuel : Nat} {p : List MemPlace} {nm : String} {g : Nat} (hg : P.globalNamed nm = some g) (hv : W.var? P nm = some cs) (hu : P.underlying 101 = some (.array 64 5)) (hu5 : P.underlying 5 = some (.int .u8)) (c5 : P.cellsOf 5 = 1)
    {enc : TypeId × Value → Unit} {base : Nat} {sp : Nat → Bool} {held : Bool} (hd : DataW.trod enc P W base sp held fuel 101 cs.toList = some (Rows.laid_math_bits_deBruijn64tab, p)) (r : Nat) (hr : r < 64) : W.cell? ⟨g, r, none⟩ = some (.int .u8 (Lib.deBruijn64tab.getD r 0)) := by
  obtain ⟨xs, m, _, ex, _, hl, hel⟩ := DataW.trod_array hu hd
  have hE := hel r hr
  rw [c5, Nat.mul_one, List.getElem?_eq_getElem (by omega)] at hE
  obtain ⟨z, e1, e2, _⟩ := DataW.trod_int hu5 hE
  have hlen : Lib.deBruijn64tab.length = 64 := by kernel_rfl
  have hdat : (Rows.laid_math_bits_deBruijn64tab : DataW Unit) = .agg (Lib.deBruijn64tab.map fun n : Nat => .lit (.int .u8 (n : Int))) := by kernel_rfl
  have e3 : (xs.map (·.1)) = Lib.deBruijn64tab.map fun n : Nat => .lit (.int .u8 (n : Int)) := by
    rw [hdat] at ex
    exact (DataW.agg.inj (Prod.mk.inj ex).1).symm
  have e4 : (xs.map (·.1))[r]? = (Lib.deBruijn64tab.map fun n : Nat => (DataW.lit (.int .u8 (n : Int)) : DataW Unit))[r]? := by rw [e3]
  rw [List.getElem?_map, List.getElem?_map, List.getElem?_eq_getElem (by omega : r < xs.length), List.getElem?_eq_getElem (by omega : r < Lib.deBruijn64tab.length), e2] at e4
  have hz : z = Lib.deBruijn64tab.getD r 0 := by
    simp only [Option.map_some, Option.some.injEq, DataW.lit.injEq, Lit.int.injEq, true_and] at e4
    rw [e4, List.getD, List.getElem?_eq_getElem (by omega : r < Lib.deBruijn64tab.length)]; rfl
  rw [World.var?_cell hg hv r, ← hz]
  have : cs.toList[r]? = some (.int .u8 z) := by
    have h0 : ((cs.toList.drop r).take 1)[0]? = some (.int .u8 z) := by rw [e1]; rfl
    simpa using h0
  simpa using this
theorem of_laid {W : World} (h : laidMetH Tryd.prog laid W) : LaidW W := by
  rw [MakeChecks.laidMetH_plain _ _ _ (by kernel_rfl)] at h
  obtain ⟨ps, ⟨g0, t0, cs0, f0, p0, q0, hg0, ht0, hv0, hd0, ⟨g1, t1, cs1, f1, p1, q1, hg1, ht1, hv1, hd1, _, _⟩, _⟩, _, _⟩ := h
  obtain rfl := Option.some.inj ((show Tryd.prog.globalNamed "math/bits.deBruijn64tab" = some 1 by kernel_rfl).symm.trans hg0)
  obtain rfl := Option.some.inj ((show Tryd.prog.globalNamed "thermograph/tsz.none" = some 0 by kernel_rfl).symm.trans hg1)
  obtain rfl := Option.some.inj ((show (Tryd.prog.globals[1]?).map (·.type) = some 101 by kernel_rfl).symm.trans ht0)
  obtain rfl := Option.some.inj ((show (Tryd.prog.globals[0]?).map (·.type) = some 47 by kernel_rfl).symm.trans ht1)
  have hlen : Lib.deBruijn64tab.length = 64 := by kernel_rfl
  refine ⟨fun j hj => tab_cell hg0 hv0 Tryd.underlying101 Tryd.underlying5 (by kernel_rfl) hd0 j (by omega), ?_⟩
  have c3 : Tryd.prog.cellsOf 3 = 1 := by kernel_rfl
  obtain ⟨xs, n, _, ex, hcl, hxl, hf⟩ := DataW.trod_struct Tryd.underlying47 hd1
  have h0 : DataW.trod _ Tryd.prog W _ _ _ n 3 ((cs1.toList.drop 0).take (Tryd.prog.cellsOf 3)) = xs[0]? := hf 0 _ rfl
  have h1 : DataW.trod _ Tryd.prog W _ _ _ n 3 ((cs1.toList.drop 1).take (Tryd.prog.cellsOf 3)) = xs[1]? := hf 1 _ rfl
  rw [c3] at h0 h1
  have hxl2 : xs.length = 2 := hxl
  rw [List.getElem?_eq_getElem (by omega)] at h0 h1
  obtain ⟨z0, a0, b0, _⟩ := DataW.trod_int Tryd.underlying3 h0
  obtain ⟨z1, a1, b1, _⟩ := DataW.trod_int Tryd.underlying3 h1
  have e3 : (xs.map (·.1)) = [(.lit (.int .i64 (-1)) : DataW Unit), .lit (.int .i64 (-1))] := (DataW.agg.inj (Prod.mk.inj ex).1).symm
  have e40 : (xs.map (·.1))[0]? = [(.lit (.int .i64 (-1)) : DataW Unit), .lit (.int .i64 (-1))][0]? := by rw [e3]
  have e41 : (xs.map (·.1))[1]? = [(.lit (.int .i64 (-1)) : DataW Unit), .lit (.int .i64 (-1))][1]? := by rw [e3]
  rw [List.getElem?_map, List.getElem?_eq_getElem (by omega : 0 < xs.length), b0] at e40
  rw [List.getElem?_map, List.getElem?_eq_getElem (by omega : 1 < xs.length), b1] at e41
  simp at e40 e41
  subst e40 e41
  rw [World.var?_cell hg1 hv1 0, World.var?_cell hg1 hv1 1]
  constructor
  · have h0 : ((cs1.toList.drop 0).take 1)[0]? = some (.int .i64 (-1)) := by rw [a0]; rfl
    simpa using h0
  · have h0 : ((cs1.toList.drop 1).take 1)[0]? = some (.int .i64 (-1)) := by rw [a1]; rfl
    simpa using h0
end Go.Proofs.YtmnlbedgkjnodaaDoor.Ld
namespace Go.Proofs.YtmnlbedgkjnodaaDoor.tszOne
open Go.ChangeShapes Go.WideShapes Go.ChangeAt Go.RowKit
open Go.ChangeMaps (open_string shut_string)
theorem own : ownKnob Tryd.prog.godebug = none := by kernel_rfl
theorem laidOut : laidOutB Tryd.prog = true := by kernel_rfl
set_option maxRecDepth 100000 in
theorem lifted (os : Os) (started : os.Started) (H : Type) (enc : TypeId × Value → H) :
    ReturnsInHanded {} Tryd.checked os 10 .any (fun w args => (Rows.tszOneSpec.pre enc Tryd.prog Tryd.f10 Rows.tszOneRow.domain false w args ∧ laidMetH Tryd.prog Ld.laid w) ∧ sizedMet enc Tryd.prog Tryd.f10 (OpenSpec.ofChange Rows.tszOneSpec) false w args) (Rows.tszOneSpec.post enc Tryd.prog Tryd.f10 false true false false) := by
  refine returnsInHanded_of_change_and (C := Tryd.checked) (X := fun w _ => laidMetH Tryd.prog Ld.laid w) (fun _ _ _ hh h => h.of_heap hh) own started (by kernel_rfl) Tryd.func10
    (ChangeSpec.witness_shaped (enc := enc) (C := Tryd.checked) (os := os) (X := fun w _ => laidMetH Tryd.prog Ld.laid w) false (World.laidAll Tryd.prog os Ld.laid) #[.slice none 0 0, .int .i64 0, .slice none 0 0] 8 (World.laidAll_os _ _ _)
      (World.shaped_of_ZipB (by kernel_rfl) (by kernel_rfl)) (by kernel_rfl) (by kernel_rfl) (by kernel_rfl)
      (by rw [MakeChecks.laidMetH_plain _ _ _ (by kernel_rfl)]; exact laidMet_laidAll _ (by kernel_rfl) (by kernel_rfl))) ?_
  intro W base args ds gs before hval0 hW hcnd hsz0 hLaid _
  have hsz : (DataW.weightsEach Tryd.prog (Tryd.f10.params.toList ++ Rows.tszOneSpec.plain.varTypes Tryd.prog) (ds ++ gs)).all (· ≤ reachBytes) = true := hsz0
  have hval : ∀ (j : Nat) t v, Tryd.f10.params[j]? = some t → args[j]? = some v → Value.okWide Tryd.prog W .any base t v := hval0
  have hW' := hW
  obtain ⟨p, q, hA0, hV, rfl, hfz, hnd⟩ := hW
  have hA : DataW.TrodAll enc Tryd.prog W 0 (fun _ => true) true Tryd.f10.params.toList args.toList ds p := hA0
  rw [Tryd.params10] at hA hval hsz
  obtain ⟨v0, vs0, d0, ds0, p0, q0, hargs, rfl, rfl, h0, r0⟩ := trodAll_cons hA
  obtain ⟨v1, vs1, d1, ds1, p1, q1, rfl, rfl, rfl, h1, r1⟩ := trodAll_cons r0
  obtain ⟨v2, vs2, d2, ds2, p2, q2, rfl, rfl, rfl, h2, r2⟩ := trodAll_cons r1
  obtain ⟨rfl, rfl, rfl⟩ := trodAll_nil r2
  obtain rfl : args = #[v0, v1, v2] := by cases args; simp_all
  obtain ⟨rfl, rfl⟩ := trodVars_none hV
  obtain ⟨a0, len0, cap0, rfl⟩ := okWide_slice Tryd.underlying23 (hval 0 23 v0 rfl rfl)
  have k0 := h0
  have lt0 : ∀ x ∈ p0, x.block < W.heap.size := by obtain ⟨m, hm⟩ := k0; exact DataW.trod_lt m _ _ _ hm
  have y0 := Op.sized_any hsz (j := 0) (t := 23) rfl rfl Tryd.underlying23 (B := 1) (by kernel_rfl) h0
  obtain ⟨l0, e0, c0, r50, w0⟩ := Op.open_slice_arg rfl (Op.opens_slice Tryd.underlying23 (by kernel_rfl) (Op.opens_int Tryd.underlying5)) h0
  subst e0
  obtain ⟨a1, rfl, rfl, rfl, w1⟩ := open_int Tryd.underlying3 (hval 1 3 v1 rfl rfl) h1
  obtain ⟨a2, len2, cap2, rfl⟩ := okWide_slice Tryd.underlying23 (hval 2 23 v2 rfl rfl)
  have k2 := h2
  have lt2 : ∀ x ∈ p2, x.block < W.heap.size := by obtain ⟨m, hm⟩ := k2; exact DataW.trod_lt m _ _ _ hm
  have y2 := Op.sized_any hsz (j := 2) (t := 23) rfl rfl Tryd.underlying23 (B := 1) (by kernel_rfl) h2
  obtain ⟨l2, e2, c2, r52, w2⟩ := Op.open_slice_arg rfl (Op.opens_slice Tryd.underlying23 (by kernel_rfl) (Op.opens_int Tryd.underlying5)) h2
  subst e2
  clear hA0 hval0 hsz0 hsz
  refine (ToT.TszOne_calls W a0 cap0 l0 c0 r50 w0 y0 a1 w1 a2 cap2 l2 c2 r52 w2 y2 (Ld.of_laid hLaid)).mono fun e W' ⟨he, bel⟩ => ?_
  subst he
  exact ⟨_, rfl, _, _, _, [], _, [], hW', trodAll_mk1 (shut_bool Tryd.underlying4 _), (trodAll_cons_mk (Below.trod laidOut (by kernel_rfl) (of_decide_eq_true (by kernel_rfl)) k0 bel lt0) (trodAll_cons_mk (shut_int Tryd.underlying3 w1) (trodAll_cons_mk (Below.trod laidOut (by kernel_rfl) (of_decide_eq_true (by kernel_rfl)) k2 bel lt2) trodAll_mk0))), rfl, bel.frame _, fun h => by cases h⟩
theorem over : Rows.tszOneRow.holds Tryd.pinned (OpenSpec.ofChange Rows.tszOneSpec) :=
  OpenClaim.holds_of_wide 10 Tryd.f10 rfl rfl rfl rfl rfl rfl rfl ⟨rfl, rfl, rfl, rfl, rfl⟩ rfl rfl rfl rfl rfl (by kernel_rfl) Tryd.func10 (by kernel_rfl)
    (of_decide_eq_true (by kernel_rfl)) (by unfold Func.isWrapper; first | (rw [if_pos (by decide +kernel)]; kernel_rfl) | (rw [if_neg (by decide +kernel)]; exact ⟨rfl, rfl⟩))
    (fun os started H enc _ => lifted os started H enc)
theorem proved : Rows.TszOneCardSaid :=
  Claim7.holds_tied_plain_at .later [] [.data, .data] true (true, "feb29ad1a56895c70ab73450da4fb643eb51980bbda91541496edde7cd7de436") true over (fun _ h => by cases h) (by kernel_rfl) (fun _ h => by cases h) tszOne_row_tie rfl ⟨rfl, rfl⟩ (by kernel_rfl) rfl
    (fun f fn hf hfn => by
      obtain rfl : f = 10 := Option.some.inj ((show Tryd.prog.funcNamed "thermograph/thermographlaw05.TszOne" = some 10 by kernel_rfl).symm.trans hf) |>.symm
      obtain rfl : fn = Tryd.f10 := (Option.some.inj (Tryd.func10.symm.trans hfn)).symm
      exact ⟨by kernel_rfl, fun j t ht => by
        rw [Tryd.params10] at ht
        have hm : t ∈ [23, 3, 23] := by simpa using Array.mem_of_getElem? ht
        have hall : ([23, 3, 23].all fun u => !Tryd.prog.wantsStandIn u) = true := by kernel_rfl
        exact (show Tryd.prog.wantsStandIn t = false by simpa using List.all_eq_true.1 hall t hm)⟩)
    (by kernel_rfl)
#print axioms proved
end Go.Proofs.YtmnlbedgkjnodaaDoor.tszOne
namespace Go.Proofs.YtmnlbedgkjnodaaDoor
theorem tszOne_holds : Rows.TszOneCardSaid := tszOne.proved
end Go.Proofs.YtmnlbedgkjnodaaDoor
