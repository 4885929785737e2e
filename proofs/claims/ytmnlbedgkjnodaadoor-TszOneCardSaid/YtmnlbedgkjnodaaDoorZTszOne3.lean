/- What functions of the translation come to, each as a Lean function, and a proof that the call comes to just that; or a law's row, out of its plain law. Written by mp.py, a program of this session, which runs the printer of the kit with stand-in bodies for some library functions.
   What the calls of bits.Writer come to: a writer holds the bits that were put, packed. -/
import Derived.Test.YtmnlbedgkjnodaaDoorZTszOne0
import Derived.Test.YtmnlbedgkjnodaaDoorZTszOne2
import Derived.Test.YtmnlbedgkjnodaaDoorZTszOne1
import Derived.Deep.RegionHeld3
import Derived.WalkSpells
import Derived.Outline
import Derived.StillTailTactics
import Derived.Laws.Bits64
set_option linter.unusedSimpArgs false
set_option linter.unusedVariables false
namespace Go.Proofs.YtmnlbedgkjnodaaDoor.QB
open Go.RowKit Go.Proofs.YtmnlbedgkjnodaaDoorW.PrintWords Go.Proofs.YtmnlbedgkjnodaaDoorW.PrintLast Go.Proofs.YtmnlbedgkjnodaaDoorW.PrintMore
attribute [local go_sem] max2_int min2_int max_two min_two max_three min_three max_four min_four   -- for this text's walks alone
def IsS82 (w0 W : World) (g : Nat) (f0 : List Int) (f1 : Int) : Prop := ∃ A0 c0, W.heap[g]? = some (.cells #[.slice A0 f0.length c0, .int .i64 f1] 82 (0, 0)) ∧ w0.heap.size ≤ g ∧ Kd.C (Kd.int .u8) w0 A0 f0.length f0
theorem IsS82.grown {w0 W : World} {g : Nat} {f0 : List Int} {f1 : Int} {W1 : World} {row : Option Nat} (h : IsS82 w0 W g f0 f1) (hw : W.grownBy W1 row) (hne : some g ≠ row) : IsS82 w0 W1 g f0 f1 := by
  obtain ⟨A0, c0, hb, hg, hr0⟩ := h
  exact ⟨A0, c0, blk_grown hb hw hne, hg, hr0⟩
theorem IsS82.below {w0 W : World} {g : Nat} {f0 : List Int} {f1 : Int} {W1 : World} (h : IsS82 w0 W g f0 f1) (hw : Below W.heap.size W W1) : IsS82 w0 W1 g f0 f1 := h.grown (grown_of_below hw none) (by simp)
theorem IsS82.alloc {w0 W : World} {g : Nat} {f0 : List Int} {f1 : Int} (h : IsS82 w0 W g f0 f1) (o : Obj) : IsS82 w0 (W.alloc o) g f0 f1 := h.below (below_alloc (Below.refl _ _) o)
theorem IsS82.drewN {w0 W : World} {g : Nat} {f0 : List Int} {f1 : Int} (h : IsS82 w0 W g f0 f1) (m : Nat) : IsS82 w0 (W.drewN m) g f0 f1 := h
theorem IsS82.drew {w0 W : World} {g : Nat} {f0 : List Int} {f1 : Int} (h : IsS82 w0 W g f0 f1) : IsS82 w0 W.drew g f0 f1 := h
theorem IsS82.at_ {w0 W : World} {g : Nat} {f0 : List Int} {f1 : Int} {w' : World} {m : Nat} (hq : W.drewN m = w') (h : IsS82 w0 W g f0 f1) : IsS82 w0 w' g f0 f1 := by subst hq; exact IsS82.drewN h m
theorem IsS82.apart {w0 W : World} {g : Nat} {f0 : List Int} {f1 : Int} {α : Type} {d : Kd α} {e : Nat} {base : Nat} {ok : Nat → Prop} {v : Value} {xs : List α} (h : IsS82 w0 W g f0 f1) (ho : d.R e W base ok v xs) (ht : ∀ q, q ∈ e :: d.E → q ≠ 82) : d.R e W base (fun k => ok k ∧ k ≠ g) v xs := by
  obtain ⟨A0, c0, hb, hg, hr0⟩ := h
  exact Kd.R_types ho hb ht
theorem IsS82.lt {w0 W : World} {g : Nat} {f0 : List Int} {f1 : Int} (h : IsS82 w0 W g f0 f1) : g < W.heap.size := by
  obtain ⟨A0, c0, hb, hg, hr0⟩ := h
  exact blk_lt hb
theorem IsS82.ge {w0 W : World} {g : Nat} {f0 : List Int} {f1 : Int} (h : IsS82 w0 W g f0 f1) : w0.heap.size ≤ g := by
  obtain ⟨A0, c0, hb, hg, hr0⟩ := h
  exact hg
def bits_cut.f (a0 : Int) : Option (Int) := some (mx 0 (mn a0 64))
set_option maxHeartbeats 8000000 in
set_option maxRecDepth 100000 in
theorem bits_cut.calls (a0 : Int) (r : Int) (w : World) (h : bits_cut.f a0 = some r) :
    Calls Tryd.prog 44 #[.int .i64 a0] w fun e w' => e = .returned (.int .i64 r) ∧ Below w.heap.size w w' := by
  have HB := Aside0.mk (Below.refl w.heap.size w)
  have H : (some (mx 0 (mn a0 64))) = some r := h
  clear h
  obtain ⟨ji2, hji2⟩ : ∃ j_ : Int, (mn a0 64) = j_ := ⟨_, rfl⟩
  replace H : (some (mx 0 (ji2))) = some r := by first | (rw [hji2] at H; exact H) | (simp only [hji2] at H ⊢; exact H)
  (try (have hji2h : ji2 ≤ 64 := by (rw [← hji2]; unfold mn; (repeat' split) <;> omega)))
  (try (have hji2g : ji2 ≤ 64 := by omega))
  have hji2_ : (if 64 < a0 then 64 else a0) = ji2 := hji2
  obtain ⟨ji3, hji3⟩ : ∃ j_ : Int, (mx 0 (ji2)) = j_ := ⟨_, rfl⟩
  replace H : (some ji3) = some r := by first | (rw [hji3] at H; exact H) | (simp only [hji3] at H ⊢; exact H)
  have hji3_ : (if 0 < (ji2) then (ji2) else 0) = ji3 := hji3
  obtain rfl := Option.some.inj H
  go_enter Tryd.func44, Tryd.ntmps44
  go_wp2
  go_ret
  exact ⟨by first | rfl | (simp [errW_none, errW_some] <;> rfl) | (simp only [← hji2, ← hji3]; first | rfl | (simp [errW_none, errW_some] <;> rfl)) | (simp [*, errW_none, errW_some] <;> rfl), by repeat (first | (with_reducible first | exact HB.out | apply below_alloc | apply pw_below_drewN | apply below_drew1) | exact HB.out)⟩
-- NOT PRINTED: function 22 (bits_Writer_Put)
def tsz_forms.f  : Option ((List (S88))) := some (([(⟨2, 2, 63, 7⟩ : S88), (⟨6, 3, 255, 9⟩ : S88), (⟨14, 4, 2047, 12⟩ : S88)] : List (S88)))
set_option maxHeartbeats 8000000 in
set_option maxRecDepth 100000 in
theorem tsz_forms.calls  (r : List (S88)) (w : World) (h : tsz_forms.f  = some r) :
    Calls Tryd.prog 45 #[] w fun e w' => ∃ v0_ : Value, e = .returned (v0_) ∧ Kd.R k88 88 w' w.heap.size (fun _ => True) v0_ r ∧ Below w.heap.size w w' := by
  have hu88 := Tryd.underlying88
  have HB := Aside0.mk (Below.refl w.heap.size w)
  have H : (some (([(⟨2, 2, 63, 7⟩ : S88), (⟨6, 3, 255, 9⟩ : S88), (⟨14, 4, 2047, 12⟩ : S88)] : List (S88)))) = some r := h
  clear h
  obtain ⟨y105, hy105⟩ : ∃ y_ : List (S88), y_ = (([(⟨2, 2, 63, 7⟩ : S88), (⟨6, 3, 255, 9⟩ : S88), (⟨14, 4, 2047, 12⟩ : S88)] : List (S88))) := ⟨_, rfl⟩
  replace H : (some y105) = some r := by first | (rw [hy105]; with_reducible exact H) | (have H2_ := (Option.bind_some _ _).symm.trans H; rw [hy105]; with_reducible exact H2_) | (have H2_ := (Option.bind_some _ _).symm.trans H; with_reducible exact H2_) | with_reducible exact H | (rw [hy105]; exact H) | exact H
  have Ny105 := Aside0.mk hy105
  clear hy105
  obtain rfl := Option.some.inj H
  go_enter Tryd.func45, Tryd.ntmps45
  go_wp2_with (first | ((with_reducible refine gate_dst (N := 4) rfl ?_); refine Kd.R_lit k88 _ 88 ?hg (N := 4) ?hd (xs := ([(⟨2, 2, 63, 7⟩ : S88), (⟨6, 3, 255, 9⟩ : S88), (⟨14, 4, 2047, 12⟩ : S88)] : List (S88))) (inner := [.int .u64 2, .int .i64 2, .int .i64 63, .int .i64 7, .int .u64 6, .int .i64 3, .int .i64 255, .int .i64 9, .int .u64 14, .int .i64 4, .int .i64 2047, .int .i64 12]) (ok := fun _ => True) (okp := fun _ => True) ?hr ?hp (fun _ hk => hk) trivial (Below.refl _ _) (Nat.le_refl _) (by simp) ?_; (case hd => rfl); (case hg => rfl); (case hr => first | (go_simp; done) | (go_simp; rfl)); (case hp => exact (Reps.c4 (show Kd.M k88 _ _ _ (⟨2, 2, 63, 7⟩ : S88) [.int .u64 2, .int .i64 2, .int .i64 63, .int .i64 7] from (k88_mkM _ _ _ (⟨2, 2, 63, 7⟩ : S88) )) (Reps.c4 (show Kd.M k88 _ _ _ (⟨6, 3, 255, 9⟩ : S88) [.int .u64 6, .int .i64 3, .int .i64 255, .int .i64 9] from (k88_mkM _ _ _ (⟨6, 3, 255, 9⟩ : S88) )) (Reps.c4 (show Kd.M k88 _ _ _ (⟨14, 4, 2047, 12⟩ : S88) [.int .u64 14, .int .i64 4, .int .i64 2047, .int .i64 12] from (k88_mkM _ _ _ (⟨14, 4, 2047, 12⟩ : S88) )) (Reps.none _ _))))); intro v106 w1 ho2 hb hg_ hnew_; clear hg_ hnew_; (first | rw [← Ny105.out] at ho2 | (simp only [Int.reduceToNat] at ho2; rw [← Ny105.out] at ho2)); have n0_ := Aside0.mk (Kd.R_lower ho2 (below_size (by repeat (first | (with_reducible first | exact HB.out | apply below_alloc | apply pw_below_drewN | apply below_drew1) | exact HB.out)))); have n1_ := Aside0.mk (below_step (by repeat (first | (with_reducible first | exact HB.out | apply below_alloc | apply pw_below_drewN | apply below_drew1) | exact HB.out)) hb); clear HB; have HO107 := n0_; have HB := n1_; clear n0_ n1_; clear hb ho2))
  go_ret
  exact ⟨_, by first | rfl | (simp [errW_none, errW_some] <;> rfl) | (simp [*, errW_none, errW_some] <;> rfl), by (with_reducible repeat (first | apply Kd.R_alloc | apply Kd.R_drewN | apply Kd.R_drew)); exact HO107.out, by repeat (first | (with_reducible first | exact HB.out | apply below_alloc | apply pw_below_drewN | apply below_drew1) | exact HB.out)⟩
-- NOT PRINTED: function 23 (tsz_putTime)
end Go.Proofs.YtmnlbedgkjnodaaDoor.QB
namespace Go.Proofs.YtmnlbedgkjnodaaDoor.WrW
open Go.RowKit Go.Proofs.YtmnlbedgkjnodaaDoorW.PrintWords Go.Proofs.YtmnlbedgkjnodaaDoorW.PrintLast Go.Proofs.YtmnlbedgkjnodaaDoorW.PrintMore Go.Proofs.YtmnlbedgkjnodaaDoor.QB Go.Proofs.YtmnlbedgkjnodaaDoor.Sl Go.Proofs.YtmnlbedgkjnodaaDoor.Bt
attribute [local go_sem] max2_int min2_int max_two min_two
def Wr (g : Nat) (l : List Int) : Asn := Ex fun v : Value => All [Blk g #[v, .int .i64 l.length] 82, Row (Kd.int .u8) 5 v (pk l)]
def cutN (n : Int) : Nat := (min n 64).toNat
theorem NewWriter_calls (w0 w : World) (L : List Asn) (h : Sat w0 w L) :
    Calls Tryd.prog 21 #[] w fun e w' => ∃ g, e = .returned (.pointer (some ⟨g, 0, none⟩)) ∧ Sat w0 w' (Wr g [] :: L) := by
  go_enter Tryd.func21, Tryd.ntmps21
  go_wp2
  go_ret
  refine ⟨_, rfl, ?_⟩
  refine Sat.any (.slice none 0 0) (Sat.closed ?_)
  have h1 := (h.newBlk #[.slice none 0 0, .int .i64 0] 82)
  have h2 := h1.nilRow (Kd.int .u8) 5
  rw [pk_nil]
  exact h2.nth 1 rfl
theorem info8 : (Tryd.prog.info? 5).map (fun i => (i.zero, i.size, i.bytes)) = some (some (.int .u8 0), 1, 1) := by kernel_rfl
theorem cut_f (n : Int) : bits_cut.f n = some ((cutN n : Nat) : Int) := by
  unfold bits_cut.f cutN mx mn
  congr 1
  split <;> split <;> omega
theorem put_value (b0 x tk sh : Nat) (hb0 : b0 < 256) (hs : tk + sh ≤ 8) (hlow : b0 % 2 ^ (tk + sh) = 0) :
    Go.bits .or .u8 (b0 : Int) (Go.bits .and .u8 ((x : Int) % 256) ((2 ^ tk - 1) % 256) * 2 ^ sh % 256) = ((b0 + x % 2 ^ tk * 2 ^ sh : Nat) : Int) := by
  have hp : (2 : Nat) ^ tk ≤ 2 ^ 8 := Nat.pow_le_pow_right (by omega) (by omega)
  have hp0 : 0 < (2 : Nat) ^ tk := Nat.pow_pos (by omega)
  have e1 : Go.bits .and .u8 ((x : Int) % 256) ((2 ^ tk - 1) % 256) = ((x % 2 ^ tk : Nat) : Int) := by
    have h := u8_and_nat (x % 256) (2 ^ tk - 1) (by omega) (by omega)
    rw [Nat.and_two_pow_sub_one_eq_mod] at h
    have hc : ((2 ^ tk : Nat) : Int) = (2 : Int) ^ tk := Int.natCast_pow 2 tk
    have e : (((2 ^ tk - 1 : Nat) : Int)) = (2 ^ tk - 1) % 256 := by
      rw [← hc]
      omega
    rw [e, show ((x % 256 : Nat) : Int) = (x : Int) % 256 from by omega] at h
    rw [h]
    congr 1
    rw [show (256 : Nat) = 2 ^ tk * 2 ^ (8 - tk) from by rw [← Nat.pow_add, show tk + (8 - tk) = 8 from by omega], Nat.mod_mul_right_mod]
  rw [e1]
  have hx : x % 2 ^ tk < 2 ^ tk := Nat.mod_lt _ hp0
  have hm : x % 2 ^ tk * 2 ^ sh < 2 ^ (tk + sh) := by rw [Nat.pow_add]; exact Nat.mul_lt_mul_of_pos_right hx (Nat.pow_pos (by omega))
  have hp2 : (2 : Nat) ^ (tk + sh) ≤ 2 ^ 8 := Nat.pow_le_pow_right (by omega) hs
  have e2 : ((x % 2 ^ tk : Nat) : Int) * 2 ^ sh % 256 = ((x % 2 ^ tk * 2 ^ sh : Nat) : Int) := by
    rw [Int.natCast_mul, Int.natCast_pow]
    have : ((x % 2 ^ tk * 2 ^ sh : Nat) : Int) < 256 := by omega
    rw [Int.natCast_mul, Int.natCast_pow] at this
    have h0 : (0 : Int) ≤ ((x % 2 ^ tk * 2 ^ sh : Nat) : Int) := by omega
    rw [Int.natCast_mul, Int.natCast_pow] at h0
    exact Int.emod_eq_of_lt h0 this
  rw [e2, u8_or_nat _ _ hb0 (by omega)]
  congr 1
  exact nat_join (tk + sh) _ _ hlow hm
theorem put_close {w0 W : World} {L : List Asn} {g gb nb cap q tk : Nat} {bs l2 : List Int} {X : Int} (HS : Sat w0 W (Blk g #[.slice (some ⟨gb, 0, none⟩) (nb + 1) cap, .int .i64 q] 82 :: Row (Kd.int .u8) 5 (.slice (some ⟨gb, 0, none⟩) (nb + 1) cap) bs :: L))
    (hnb : bs.length = nb + 1) (hX : bs.set nb X = pk l2) (hq : (q : Int) + tk = l2.length) :
    Sat w0 (((W.setCell ⟨gb, nb, none⟩ (.int .u8 X)).setCell ⟨g, 1, none⟩ (.int .i64 ((q : Int) + tk))).drew) (Wr g l2 :: L) := by
  have h1 : Sat w0 W (Row (Kd.int .u8) 5 (.slice (some ⟨gb, 0, none⟩) bs.length cap) bs :: Blk g #[.slice (some ⟨gb, 0, none⟩) (nb + 1) cap, .int .i64 q] 82 :: L) := by
    rw [hnb]
    exact HS.nth 1 rfl
  have h2 := h1.rowPut nb X
  have h3 : Sat w0 _ (Blk g #[.slice (some ⟨gb, 0, none⟩) (nb + 1) cap, .int .i64 q] 82 :: Row (Kd.int .u8) 5 (.slice (some ⟨gb, 0, none⟩) bs.length cap) (bs.set nb X) :: L) := h2.nth 1 rfl
  have h4 := (h3.setBlk 1 (.int .i64 ((q : Int) + tk))).drew
  refine Sat.any (.slice (some ⟨gb, 0, none⟩) (nb + 1) cap) (Sat.closed ?_)
  rw [hnb, hX, hq] at h4
  rw [← hq] at h4 ⊢
  exact h4
theorem put_room (l' : List Int) (hb : IsBits l') (h : l'.length % 8 ≠ 0) : ∃ nb b0 : Nat, (pk l').length = nb + 1 ∧ (pk l').getD nb 0 = (b0 : Int) ∧ b0 < 256 ∧ b0 % 2 ^ (8 - l'.length % 8) = 0 ∧
    ∀ t : List Int, l'.length % 8 + t.length ≤ 8 → (pk l').set nb ((b0 + num t * 2 ^ (8 - l'.length % 8 - t.length) : Nat) : Int) = pk (l' ++ t) := by
  obtain ⟨t0, h1, h2, h3⟩ := pk_last l' hb h
  have hp : 0 < (pk l').length := by rw [pk_length]; omega
  obtain ⟨nb, hnb⟩ : ∃ nb, (pk l').length = nb + 1 := ⟨(pk l').length - 1, by omega⟩
  rw [hnb, Nat.add_sub_cancel] at h3
  obtain ⟨b0, h4, h5, h6⟩ := byte_low h2 (by omega)
  rw [h1] at h6
  rw [h4] at h3
  refine ⟨nb, b0, hnb, h3, h5, h6, fun t ht => ?_⟩
  rw [pk_into l' h ht, hnb, Nat.add_sub_cancel, h3]
  push_cast
  rfl
theorem put_room0 (l' : List Int) (h : l'.length % 8 = 0) : ∃ nb b0 : Nat, (pk l' ++ [0]).length = nb + 1 ∧ (pk l' ++ [0]).getD nb 0 = (b0 : Int) ∧ b0 < 256 ∧ b0 % 2 ^ (8 - l'.length % 8) = 0 ∧
    ∀ t : List Int, t ≠ [] → l'.length % 8 + t.length ≤ 8 → (pk l' ++ [0]).set nb ((b0 + num t * 2 ^ (8 - l'.length % 8 - t.length) : Nat) : Int) = pk (l' ++ t) := by
  refine ⟨(pk l').length, 0, by simp, ?_, by omega, Nat.zero_mod _, fun t h0 ht => ?_⟩
  · rw [List.getD_eq_getElem?_getD, List.getElem?_append_right (Nat.le_refl _)]
    simp
  · rw [pk_new h0 (by omega) l' h, List.set_append_right _ _ (Nat.le_refl _)]
    simp only [Nat.sub_self, List.set_cons_zero, h, Nat.zero_add, Nat.sub_zero]
    rfl
set_option maxHeartbeats 2000000 in
set_option maxRecDepth 100000 in
theorem Put_calls (w0 w : World) (L : List Asn) (g : Nat) (l : List Int) (v : Nat) (n : Int) (hv : v < 18446744073709551616) (hl : l.length ≤ 1099511627776) (hb : IsBits l) (h : Sat w0 w (Wr g l :: L)) :
    Calls Tryd.prog 22 #[.pointer (some ⟨g, 0, none⟩), .int .u64 v, .int .i64 n] w fun e w' => e = .returned (.tuple #[]) ∧ Sat w0 w' (Wr g (l ++ bitsOf v (cutN n)) :: L) := by
  have hc64 : cutN n ≤ 64 := by unfold cutN; omega
  have HS := Aside0.mk h
  clear h
  go_enter Tryd.func22, Tryd.ntmps22
  go_wp2_with (first | (go_at_call 44; (with_reducible refine (bits_cut.calls n _ _ (cut_f n)).mono ?_); rintro e w1 ⟨rfl, hb1⟩; have HS1 := Aside0.mk (HS.out.step hb1); clear hb1))
  go_loopw [2] (fun vn wr => ∃ m : Nat, m ≤ cutN n ∧ vn = .int .i64 m ∧ Aside0 (Sat w0 wr (Wr g (l ++ bitsOf (v / 2 ^ m) (cutN n - m)) :: L))) (fun vn _ => (intOf vn).toNat)
  case atStart => exact ⟨cutN n, Nat.le_refl _, rfl, ⟨by rw [Nat.sub_self]; simpa [bitsOf] using HS1.out⟩⟩
  case round =>
    obtain ⟨m, hm, rfl, HR⟩ := hrel
    clear HS HS1
    by_cases hm0 : m = 0
    · subst hm0
      go_wp2
      go_end0
      exact ⟨rfl, by simpa using HR.out⟩
    · have hm1 : 0 < m := by omega
      obtain ⟨l', hl'⟩ : ∃ l', l ++ bitsOf (v / 2 ^ m) (cutN n - m) = l' := ⟨_, rfl⟩
      rw [hl'] at HR
      have Hl' := Aside0.mk hl'
      clear hl'
      obtain ⟨q, hq⟩ : ∃ q, l'.length = q := ⟨_, rfl⟩
      have hq1 : q ≤ 1099511627840 := by
        rw [← hq, ← Hl'.out, List.length_append, bitsOf_length]
        omega
      obtain ⟨vb, h1⟩ := HR.out.some_
      have h2 := h1.opened
      rw [hq] at h2
      have Hq := Aside0.mk hq
      clear hq HR h1
      obtain ⟨A, c, rfl, hcap, hC⟩ := (h2.nth 1 rfl).rowSlice
      have hc0 := h2.cell 0 (v := .slice A (pk l').length c) rfl
      have hc1 := h2.cell 1 (v := .int .i64 q) rfl
      have HS := Aside0.mk (show Sat w0 wr (Blk g #[.slice A (pk l').length c, .int .i64 q] 82 :: Row (Kd.int .u8) 5 (.slice A (pk l').length c) (pk l') :: L) from h2)
      clear h2 hC hcap
      obtain ⟨tk, htk⟩ : ∃ tk : Nat, tk = min m (8 - q % 8) := ⟨_, rfl⟩
      have htk1 : 0 < tk := by omega
      have htk2 : tk ≤ m := by omega
      have htk3 : (tk : Int) ≤ 8 - (q : Int) % 8 := by omega
      have htk4 : (if (m : Int) < 8 - (q : Int) % 8 then (m : Int) else 8 - (q : Int) % 8) = (tk : Int) := by split <;> omega
      have Htk := Aside0.mk htk
      clear htk
      by_cases h8 : q % 8 = 0
      · have hd : ((q : Int) % 8 == 0) = true := by rw [beq_iff_eq]; omega
        obtain ⟨nb, b0, hnb, hb0, hb1, hb2, hfin⟩ := put_room0 l' (by rw [Hq.out]; exact h8)
        obtain ⟨bs, hbs⟩ : ∃ bs, pk l' ++ [0] = bs := ⟨_, rfl⟩
        have hpl : (pk l').length + 1 ≤ 140737488355328 := by rw [pk_length, Hq.out]; omega
        have hnq : nb ≤ 1099511627840 := by
          rw [List.length_append, pk_length, Hq.out] at hnb
          simp at hnb
          omega
        rw [hbs] at hnb hb0 hfin
        rw [Hq.out] at hb2 hfin
        have HN := Aside0.mk hnb
        have HB0 := Aside0.mk hb0
        have HF : Aside0 (∀ t : List Int, t ≠ [] → q % 8 + t.length ≤ 8 → bs.set nb ((b0 + num t * 2 ^ (8 - q % 8 - t.length) : Nat) : Int) = pk (l' ++ t)) := ⟨hfin⟩
        have HBs := Aside0.mk hbs
        have HL := Aside0.mk hb2
        clear h8 hnb hb0 hfin hbs hb2
        go_wp2_with (first | (at_builtin; refine Sat.appendInt rfl _ _ 23 5 .u8 1 rfl Tryd.underlying23 info8 (by omega) _ (pk l') 0 rfl rfl (HS.out.nth 1 rfl) (by omega) ?_; intro v1 w2 hs hsz; rw [HBs.out] at hs; obtain ⟨gb, cap, hv1, _, _⟩ := hs.rowBlock (by rw [HN.out]; omega); rw [HN.out] at hv1; subst hv1; have hs1 : Sat w0 w2 (Blk g #[.slice A (pk l').length c, .int .i64 q] 82 :: Row (Kd.int .u8) 5 (.slice (some ⟨gb, 0, none⟩) (nb + 1) cap) bs :: L) := hs.nth 1 rfl; have hc0' := hs1.cell 0 (v := .slice A (pk l').length c) rfl; have hc1' := hs1.cell 1 (v := .int .i64 q) rfl; have hf0' := hs1.free 0; have HS1 : Aside0 (Sat w0 (w2.setCell ⟨g, 0, none⟩ (.slice (some ⟨gb, 0, none⟩) (nb + 1) cap)) (Blk g #[.slice (some ⟨gb, 0, none⟩) (nb + 1) cap, .int .i64 q] 82 :: Row (Kd.int .u8) 5 (.slice (some ⟨gb, 0, none⟩) (nb + 1) cap) bs :: L)) := ⟨hs1.setBlk 0 (.slice (some ⟨gb, 0, none⟩) (nb + 1) cap)⟩; clear hs1 hs hsz))
        clear hd hpl hc0' hc1' hf0' hc0 hc1 HS HBs
        generalize w2.setCell ⟨g, 0, none⟩ (.slice (some ⟨gb, 0, none⟩) (nb + 1) cap) = W at HS1 ⊢
        have hw0 := HS1.out.cell 0 (v := .slice (some ⟨gb, 0, none⟩) (nb + 1) cap) rfl
        have hw1 := HS1.out.cell 1 (v := .int .i64 q) rfl
        have hwf := HS1.out.free 1
        have hne := HS1.out.apart
        obtain ⟨hwe, hwef⟩ := (show Sat w0 W (Row (Kd.int .u8) 5 (.slice (some ⟨gb, 0, none⟩) bs.length cap) bs :: Blk g _ 82 :: L) from by rw [HN.out]; exact HS1.out.nth 1 rfl).rowCell nb (by rw [HN.out]; omega)
        rw [HB0.out] at hwe
        have hi0 : (0 : Int) ≤ (nb : Int) := by omega
        have hi1 : (nb : Int) < (nb : Int) + 1 := by omega
        have e1 : IntKind.i64.wrap (nb : Int) = (nb : Int) := by rw [IntKind.wrap_i64]; omega
        have e2 : IntKind.i64.wrap ((nb : Int) + 1 - 1) = (nb : Int) := by rw [IntKind.wrap_i64]; omega
        obtain ⟨sh, hsh⟩ : ∃ sh : Nat, sh = 8 - q % 8 - tk := ⟨_, rfl⟩
        have hsh8 : sh ≤ 8 := by omega
        have e3 : IntKind.i64.wrap (8 - (q : Int) % 8 - (tk : Int)) = (sh : Int) := by rw [IntKind.wrap_i64]; omega
        have e4 : IntKind.u64.wrap (sh : Int) = (sh : Int) := by rw [IntKind.wrap_u64]; omega
        have Hsh := Aside0.mk hsh
        clear hsh
        go_still_tail 20, (by kernel_rfl)
        change wpList _ _ _ _ _ W.drew
        have hw0' : W.drew.cell? ⟨g, 0, none⟩ = some (.slice (some ⟨gb, 0, none⟩) (nb + 1) cap) := hw0
        go_wp2
        go_roundw
        case measure => simp [intOf]; omega
        case rel =>
          have hsh := Hsh.out
          have hp2 : v / 2 ^ m = v / 2 ^ (m - tk) / 2 ^ tk := by rw [Nat.div_div_eq_div_mul, ← Nat.pow_add, show m - tk + tk = m from by omega]
          have hl2 : l' ++ bitsOf (v / 2 ^ (m - tk)) tk = l ++ bitsOf (v / 2 ^ (m - tk)) (cutN n - (m - tk)) := by
            rw [← Hl'.out, List.append_assoc, hp2, ← bitsOf_split, show cutN n - m + tk = cutN n - (m - tk) from by omega]
          refine ⟨m - tk, by omega, by rw [show ((m : Int) - tk) = ((m - tk : Nat) : Int) from by omega], ⟨?_⟩⟩
          have hval := put_value b0 (v / 2 ^ (m - tk)) tk sh hb1 (by omega) (by rw [show tk + sh = 8 - q % 8 from by omega]; exact HL.out)
          have hfin := HF.out (bitsOf (v / 2 ^ (m - tk)) tk) (by intro e; have := congrArg List.length e; rw [bitsOf_length] at this; simp at this; omega) (by rw [bitsOf_length]; omega)
          rw [num_bitsOf, bitsOf_length, ← hsh, hl2, ← hval] at hfin
          refine put_close HS1.out HN.out ?_ ?_
          · rw [← hfin, show ((v : Int) / 2 ^ (m - tk)) = ((v / 2 ^ (m - tk) : Nat) : Int) from by rw [Int.natCast_ediv, Int.natCast_pow]; rfl]
          · rw [← hl2, List.length_append, bitsOf_length, Hq.out]
            omega
      · have hd : ((q : Int) % 8 == 0) = false := by rw [beq_eq_false_iff_ne]; omega
        have hbl : IsBits l' := by rw [← Hl'.out]; exact hb.append (bitsOf_isBits _ _)
        obtain ⟨nb, b0, hnb, hb0, hb1, hb2, hfin⟩ := put_room l' hbl (by rw [Hq.out]; exact h8)
        obtain ⟨bs, hbs⟩ : ∃ bs, pk l' = bs := ⟨_, rfl⟩
        have hnq : nb ≤ 1099511627840 := by
          rw [pk_length, Hq.out] at hnb
          omega
        rw [hbs] at hnb hb0 hfin HS hc0
        rw [Hq.out] at hb2 hfin
        have HN := Aside0.mk hnb
        have HB0 := Aside0.mk hb0
        have HF : Aside0 (∀ t : List Int, t ≠ [] → q % 8 + t.length ≤ 8 → bs.set nb ((b0 + num t * 2 ^ (8 - q % 8 - t.length) : Nat) : Int) = pk (l' ++ t)) := ⟨fun t _ ht => hfin t ht⟩
        have HL := Aside0.mk hb2
        clear h8 hnb hb0 hfin hb2 hbl
        obtain ⟨gb, cap, hv1, _, _⟩ := (HS.out.nth 1 rfl).rowBlock (by rw [HN.out]; omega)
        rw [hv1] at HS hc0
        rw [HN.out] at HS hc0
        clear hv1 hbs
        have HS1 := HS
        clear HS
        go_wp2
        clear hd hc0 hc1
        rename_i wrx
        generalize hWr : wr = W at HS1 ⊢
        clear hWr
        have hw0 := HS1.out.cell 0 (v := .slice (some ⟨gb, 0, none⟩) (nb + 1) cap) rfl
        have hw1 := HS1.out.cell 1 (v := .int .i64 q) rfl
        have hwf := HS1.out.free 1
        have hne := HS1.out.apart
        obtain ⟨hwe, hwef⟩ := (show Sat w0 W (Row (Kd.int .u8) 5 (.slice (some ⟨gb, 0, none⟩) bs.length cap) bs :: Blk g _ 82 :: L) from by rw [HN.out]; exact HS1.out.nth 1 rfl).rowCell nb (by rw [HN.out]; omega)
        rw [HB0.out] at hwe
        have hi0 : (0 : Int) ≤ (nb : Int) := by omega
        have hi1 : (nb : Int) < (nb : Int) + 1 := by omega
        have e1 : IntKind.i64.wrap (nb : Int) = (nb : Int) := by rw [IntKind.wrap_i64]; omega
        have e2 : IntKind.i64.wrap ((nb : Int) + 1 - 1) = (nb : Int) := by rw [IntKind.wrap_i64]; omega
        obtain ⟨sh, hsh⟩ : ∃ sh : Nat, sh = 8 - q % 8 - tk := ⟨_, rfl⟩
        have hsh8 : sh ≤ 8 := by omega
        have e3 : IntKind.i64.wrap (8 - (q : Int) % 8 - (tk : Int)) = (sh : Int) := by rw [IntKind.wrap_i64]; omega
        have e4 : IntKind.u64.wrap (sh : Int) = (sh : Int) := by rw [IntKind.wrap_u64]; omega
        have Hsh := Aside0.mk hsh
        clear hsh
        go_still_tail 20, (by kernel_rfl)
        change wpList _ _ _ _ _ W.drew
        have hw0' : W.drew.cell? ⟨g, 0, none⟩ = some (.slice (some ⟨gb, 0, none⟩) (nb + 1) cap) := hw0
        go_wp2
        go_roundw
        case measure => simp [intOf]; omega
        case rel =>
          have hsh := Hsh.out
          have hp2 : v / 2 ^ m = v / 2 ^ (m - tk) / 2 ^ tk := by rw [Nat.div_div_eq_div_mul, ← Nat.pow_add, show m - tk + tk = m from by omega]
          have hl2 : l' ++ bitsOf (v / 2 ^ (m - tk)) tk = l ++ bitsOf (v / 2 ^ (m - tk)) (cutN n - (m - tk)) := by
            rw [← Hl'.out, List.append_assoc, hp2, ← bitsOf_split, show cutN n - m + tk = cutN n - (m - tk) from by omega]
          refine ⟨m - tk, by omega, by rw [show ((m : Int) - tk) = ((m - tk : Nat) : Int) from by omega], ⟨?_⟩⟩
          have hval := put_value b0 (v / 2 ^ (m - tk)) tk sh hb1 (by omega) (by rw [show tk + sh = 8 - q % 8 from by omega]; exact HL.out)
          have hfin := HF.out (bitsOf (v / 2 ^ (m - tk)) tk) (by intro e; have := congrArg List.length e; rw [bitsOf_length] at this; simp at this; omega) (by rw [bitsOf_length]; omega)
          rw [num_bitsOf, bitsOf_length, ← hsh, hl2, ← hval] at hfin
          refine put_close HS1.out HN.out ?_ ?_
          · rw [← hfin, show ((v : Int) / 2 ^ (m - tk)) = ((v / 2 ^ (m - tk) : Nat) : Int) from by rw [Int.natCast_ediv, Int.natCast_pow]; rfl]
          · rw [← hl2, List.length_append, bitsOf_length, Hq.out]
            omega
theorem Bytes_calls (w0 w : World) (L : List Asn) (g : Nat) (l : List Int) (hl : l.length ≤ 1099511627776) (h : Sat w0 w (Wr g l :: L)) :
    Calls Tryd.prog 26 #[.pointer (some ⟨g, 0, none⟩)] w fun e w' => ∃ v, e = .returned v ∧ Sat w0 w' (Row (Kd.int .u8) 5 v (pk l) :: Wr g l :: L) := by
  obtain ⟨v, h1⟩ := h.some_
  have h2 := h1.opened
  obtain ⟨A, c, rfl, hcap, hC⟩ := (h2.nth 1 rfl).rowSlice
  have hc := h2.cell 0 (v := .slice A (pk l).length c) rfl
  have HC := Aside0.mk hC
  have HS := Aside0.mk h
  have hpl : (pk l).length < 140737488355328 := by rw [pk_length]; omega
  clear h h1 h2 hC
  go_enter Tryd.func26, Tryd.ntmps26
  go_wp2_with (first | (go_at_call 49; (with_reducible refine (slices_Clone_byte_byte.calls A c (pk l) (pk l) _ HC.out hcap (UvP.clone_f hpl)).mono ?_); rintro e w1 ⟨v0, rfl, hr, hb⟩))
  go_ret
  exact ⟨_, rfl, HS.out.made hb hr⟩
end Go.Proofs.YtmnlbedgkjnodaaDoor.WrW
namespace Go.Proofs.YtmnlbedgkjnodaaDoor.QB
open Go.RowKit Go.Proofs.YtmnlbedgkjnodaaDoorW.PrintWords Go.Proofs.YtmnlbedgkjnodaaDoorW.PrintLast Go.Proofs.YtmnlbedgkjnodaaDoorW.PrintMore
attribute [local go_sem] max2_int min2_int max_two min_two max_three min_three max_four min_four   -- for this text's walks alone
def thermographref03_Uvarint.l0 : Nat → Int → List Int → Option (List Int)
  | 0, _, _ => none
  | k + 1, x1, x5 => if x1 ≥ 128 then (if x5.length < 140737488355328 then (thermographref03_Uvarint.l0 k (IntKind.u64.wrap (Int.tdiv x1 128)) (x5 ++ [(IntKind.u64.wrap ((Int.tmod x1 128) + 128)) % 256])) else (none)) else (if x5.length < 140737488355328 then (some (x5 ++ [(x1) % 256])) else (none))
def thermographref03_Uvarint.f (k : Nat) (l0 : List Int) (a1 : Int) : Option (List Int) := (some (([] : List Int) : List Int)).bind fun y166 => (if y166.length + l0.length < 140737488355328 then (thermographref03_Uvarint.l0 k a1 (y166 ++ l0)) else (none))
set_option maxHeartbeats 8000000 in
set_option maxRecDepth 100000 in
theorem thermographref03_Uvarint.calls (k : Nat) (A0 : Option Addr) (c0 : Nat) (l0 : List Int) (a1 : Int) (r : List Int) (w : World) (hr0 : Kd.C (Kd.int .u8) w A0 l0.length l0) (hc0 : l0.length ≤ c0) (h : thermographref03_Uvarint.f k l0 a1 = some r) :
    Calls Tryd.prog 27 #[.slice A0 l0.length c0, .int .u64 a1] w fun e w' => ∃ v0_ : Value, e = .returned (v0_) ∧ Kd.R (Kd.int .u8) 5 w' w.heap.size (fun _ => True) v0_ r ∧ Below w.heap.size w w' := by
  have HR0 := Aside0.mk hr0
  have HC0 := Aside0.mk hc0
  clear hr0 hc0
  have HB := Aside0.mk (Below.refl w.heap.size w)
  have H : ((some (([] : List Int) : List Int)).bind fun y166 => (if y166.length + l0.length < 140737488355328 then (thermographref03_Uvarint.l0 k a1 (y166 ++ l0)) else (none))) = some r := h
  clear h
  obtain ⟨y166, hy166⟩ : ∃ y_ : List Int, y_ = (([] : List Int)) := ⟨_, rfl⟩
  replace H : (if y166.length + l0.length < 140737488355328 then (thermographref03_Uvarint.l0 k a1 (y166 ++ l0)) else (none)) = some r := by first | (rw [hy166]; with_reducible exact H) | (have H2_ := (Option.bind_some _ _).symm.trans H; rw [hy166]; with_reducible exact H2_) | (have H2_ := (Option.bind_some _ _).symm.trans H; with_reducible exact H2_) | with_reducible exact H | (rw [hy166]; exact H) | exact H
  have Ny166 := Aside0.mk hy166
  clear hy166
  by_cases c3 : y166.length + l0.length < 140737488355328
  · rw [if_pos c3] at H
    have LMc3 := Aside0.mk c3
    clear c3
    obtain ⟨y169, hy169⟩ : ∃ y_ : List Int, y_ = (y166 ++ l0) := ⟨_, rfl⟩
    replace H : (thermographref03_Uvarint.l0 k a1 y169) = some r := by first | (rw [hy169]; with_reducible exact H) | (have H2_ := (Option.bind_some _ _).symm.trans H; rw [hy169]; with_reducible exact H2_) | (have H2_ := (Option.bind_some _ _).symm.trans H; with_reducible exact H2_) | with_reducible exact H | (rw [hy169]; exact H) | exact H
    have Ny169 := Aside0.mk hy169
    clear hy169
    have H' := Aside0.mk H
    clear H
    go_enter Tryd.func27, Tryd.ntmps27
    go_wp2_with (first | ((with_reducible refine gate_dst (N := 6) rfl ?_); refine Kd.R_lit (Kd.int .u8) _ 5 ?hg (N := 6) ?hd (xs := ([] : List Int)) (inner := []) (ok := fun _ => True) (okp := fun _ => True) ?hr ?hp (fun _ hk => hk) trivial (Below.refl _ _) (Nat.le_refl _) (by simp) ?_; (case hd => rfl); (case hg => rfl); (case hr => first | (go_simp; done) | (go_simp; rfl)); (case hp => exact (Reps.none _ _)); intro v167 w4 ho5 hb hg_ hnew_; clear hg_ hnew_; (first | rw [← Ny166.out] at ho5 | (simp only [Int.reduceToNat] at ho5; rw [← Ny166.out] at ho5)); have n0_ := Aside0.mk (Kd.R_lower ho5 (below_size (by repeat (first | (with_reducible first | exact HB.out | apply below_alloc | apply pw_below_drewN | apply below_drew1) | exact HB.out)))); have n1_ := Aside0.mk (below_step (by repeat (first | (with_reducible first | exact HB.out | apply below_alloc | apply pw_below_drewN | apply below_drew1) | exact HB.out)) hb); clear HB; have HO168 := n0_; have HB := n1_; clear n0_ n1_; clear hb ho5) | ((with_reducible refine gate_builtin (b := .append) (xs := #[.tmp 7, .tmp 8]) rfl ?_); at_builtin; refine Kd.R_append_rows (Kd.int .u8) (w0 := w) w.heap.size rfl (.tmp 7) (.tmp 8) 23 5 (.int .u8 0) 1 rfl Tryd.underlying23 info5 rfl (by decide) (by omega) v167 y166 l0 _ _ _ (fun _ => True) (fun _ => False) rfl rfl ?aO ?aR (fun _ _ h => h) (fun _ h => h.elim) ?aF ?aB ?aS ?aL ?_; (case aR => repeat (first | exact (Kd.C_below HR0.out HB.out) | (with_reducible refine Kd.C_alloc ?_ _) | (with_reducible refine Kd.C_drewN ?_ _) | (with_reducible refine Kd.C_drew ?_))); (case aB => exact (by repeat (first | (with_reducible first | exact HB.out | apply below_alloc | apply pw_below_drewN | apply below_drew1) | exact HB.out))); (case aF => exact (fun _ _ => trivial)); (case aO => exact (by (with_reducible repeat (first | apply Kd.R_alloc | apply Kd.R_drewN | apply Kd.R_drew)); exact HO168.out)); (case aS => exact (below_size (by repeat (first | (with_reducible first | exact HB.out | apply below_alloc | apply pw_below_drewN | apply below_drew1) | exact HB.out)))); (case aL => have := LMc3.out; omega); intro v170 w6 ho hb hg hat; rw [← Ny169.out] at ho; have n0_ := Aside0.mk (hb); have n1_ := Aside0.mk (ho); clear HB; clear HO168; have HB := n0_; have HO171 := n1_; clear n0_ n1_; clear ho hb hg hat))
    go_loopg [1, 5] k (fun kq v1 v5 w' => ∃ (x1_1 : Int) (x5_1 : List Int), v1 = .int .u64 x1_1 ∧ Aside0 (thermographref03_Uvarint.l0 kq x1_1 x5_1 = some r) ∧ Aside0 (kq ≤ k) ∧ Aside0 (Kd.R (Kd.int .u8) 5 w' w.heap.size (fun _ => True) v5 x5_1) ∧ Aside0 (Below w.heap.size w w'))
    case atStart => exact ⟨(a1), (y169), (by first | rfl | (simp; done) | (simp [*]; done)), H', ⟨Nat.le_refl _⟩, ⟨by (with_reducible repeat (first | apply Kd.R_alloc | apply Kd.R_drewN | apply Kd.R_drew)); exact HO171.out⟩, ⟨by repeat (first | (with_reducible first | exact HB.out | apply below_alloc | apply pw_below_drewN | apply below_drew1) | exact HB.out)⟩⟩
    case round =>
      clear H'
      try clear c2
      try clear p2
      try clear c3
      obtain ⟨x1_1, x5_1, rfl, HA, HK1, HO_5, HB⟩ := hrel
      cases gk with
      | zero => exact absurd HA.out (by simp [thermographref03_Uvarint.l0])
      | succ k1 =>
        have H := HA.out
        clear HA
        simp only [thermographref03_Uvarint.l0] at H
        by_cases c7 : x1_1 ≥ 128
        · rw [if_pos c7] at H
          have c7b0 : decide (128 ≤ x1_1) = true := decide_eq_true c7
          clear c7
          by_cases c8 : x5_1.length < 140737488355328
          · rw [if_pos c8] at H
            have LMc8 := Aside0.mk c8
            clear c8
            obtain ⟨y172, hy172⟩ : ∃ y_ : List Int, y_ = (x5_1 ++ [(IntKind.u64.wrap ((Int.tmod x1_1 128) + 128)) % 256]) := ⟨_, rfl⟩
            replace H : (thermographref03_Uvarint.l0 k1 (IntKind.u64.wrap (Int.tdiv x1_1 128)) y172) = some r := by first | (rw [hy172]; with_reducible exact H) | (have H2_ := (Option.bind_some _ _).symm.trans H; rw [hy172]; with_reducible exact H2_) | (have H2_ := (Option.bind_some _ _).symm.trans H; with_reducible exact H2_) | with_reducible exact H | (rw [hy172]; exact H) | exact H
            have Ny172 := Aside0.mk hy172
            clear hy172
            have H' := Aside0.mk H
            clear H
            go_wp2_with (first | ((with_reducible refine gate_builtin (b := .append) (xs := #[.tmp 12, .tmp 17]) rfl ?_); at_builtin; refine Kd.R_append (Kd.int .u8) (w0 := w) w.heap.size rfl (.tmp 12) (.tmp 17) 23 5 (.int .u8 0) 1 rfl Tryd.underlying23 info5 rfl (by decide) (by omega) u5 x5_1 ((IntKind.u64.wrap ((Int.tmod x1_1 128) + 128)) % 256) [.int .u8 ((IntKind.u64.wrap ((Int.tmod x1_1 128) + 128)) % 256)] (fun _ => True) (fun _ => False) rfl rfl ?aP (fun _ hk => hk.elim) ?aF ?aO ?aB ?aS ?aL ?_; (case aP => exact rfl); (case aB => exact (by repeat (first | (with_reducible first | exact HB.out | apply below_alloc | apply pw_below_drewN | apply below_drew1) | exact HB.out))); (case aF => exact (fun _ _ => trivial)); (case aO => exact (by (with_reducible repeat (first | apply Kd.R_alloc | apply Kd.R_drewN | apply Kd.R_drew)); exact HO_5.out)); (case aS => exact (below_size (by repeat (first | (with_reducible first | exact HB.out | apply below_alloc | apply pw_below_drewN | apply below_drew1) | exact HB.out)))); (case aL => have := LMc8.out; omega); intro v173 w9 ho hb hg hat; rw [← Ny172.out] at ho; have n0_ := Aside0.mk (hb); have n1_ := Aside0.mk (ho); clear HB; clear HO_5; have HB := n0_; have HO174 := n1_; clear n0_ n1_; clear ho hb hg hat))
            go_roundg k1
            case measure => have := HK1.out; omega
            case rel => exact ⟨(IntKind.u64.wrap (Int.tdiv x1_1 128)), (y172), (by first | rfl | (simp; done) | (simp [*]; done)), H', ⟨by have := HK1.out; omega⟩, ⟨by (with_reducible repeat (first | apply Kd.R_alloc | apply Kd.R_drewN | apply Kd.R_drew)); exact HO174.out⟩, ⟨by repeat (first | (with_reducible first | exact HB.out | apply below_alloc | apply pw_below_drewN | apply below_drew1) | exact HB.out)⟩⟩
          · rw [if_neg c8] at H
            exact absurd H (by simp)
        · rw [if_neg c7] at H
          have c7b0 : decide (128 ≤ x1_1) = false := decide_eq_false c7
          clear c7
          by_cases c10 : x5_1.length < 140737488355328
          · rw [if_pos c10] at H
            have LMc10 := Aside0.mk c10
            clear c10
            obtain ⟨y175, hy175⟩ : ∃ y_ : List Int, y_ = (x5_1 ++ [(x1_1) % 256]) := ⟨_, rfl⟩
            replace H : (some y175) = some r := by first | (rw [hy175]; with_reducible exact H) | (have H2_ := (Option.bind_some _ _).symm.trans H; rw [hy175]; with_reducible exact H2_) | (have H2_ := (Option.bind_some _ _).symm.trans H; with_reducible exact H2_) | with_reducible exact H | (rw [hy175]; exact H) | exact H
            have Ny175 := Aside0.mk hy175
            clear hy175
            obtain rfl := Option.some.inj H
            go_wp2_with (first | ((with_reducible refine gate_builtin (b := .append) (xs := #[.tmp 21, .tmp 24]) rfl ?_); at_builtin; refine Kd.R_append (Kd.int .u8) (w0 := w) w.heap.size rfl (.tmp 21) (.tmp 24) 23 5 (.int .u8 0) 1 rfl Tryd.underlying23 info5 rfl (by decide) (by omega) u5 x5_1 ((x1_1) % 256) [.int .u8 ((x1_1) % 256)] (fun _ => True) (fun _ => False) rfl rfl ?aP (fun _ hk => hk.elim) ?aF ?aO ?aB ?aS ?aL ?_; (case aP => exact rfl); (case aB => exact (by repeat (first | (with_reducible first | exact HB.out | apply below_alloc | apply pw_below_drewN | apply below_drew1) | exact HB.out))); (case aF => exact (fun _ _ => trivial)); (case aO => exact (by (with_reducible repeat (first | apply Kd.R_alloc | apply Kd.R_drewN | apply Kd.R_drew)); exact HO_5.out)); (case aS => exact (below_size (by repeat (first | (with_reducible first | exact HB.out | apply below_alloc | apply pw_below_drewN | apply below_drew1) | exact HB.out)))); (case aL => have := LMc10.out; omega); intro v176 w11 ho hb hg hat; rw [← Ny175.out] at ho; have n0_ := Aside0.mk (hb); have n1_ := Aside0.mk (ho); clear HB; clear HO_5; have HB := n0_; have HO177 := n1_; clear n0_ n1_; clear ho hb hg hat))
            go_ret
            exact ⟨_, by first | rfl | (simp [errW_none, errW_some] <;> rfl) | (simp [*, errW_none, errW_some] <;> rfl), by (with_reducible repeat (first | apply Kd.R_alloc | apply Kd.R_drewN | apply Kd.R_drew)); exact HO177.out, by repeat (first | (with_reducible first | exact HB.out | apply below_alloc | apply pw_below_drewN | apply below_drew1) | exact HB.out)⟩
          · rw [if_neg c10] at H
            exact absurd H (by simp)
  · rw [if_neg c3] at H
    exact absurd H (by simp)
def thermographref03_cut.f (a0 : Int) : Option (Int) := some (mx 0 (mn a0 64))
set_option maxHeartbeats 8000000 in
set_option maxRecDepth 100000 in
theorem thermographref03_cut.calls (a0 : Int) (r : Int) (w : World) (h : thermographref03_cut.f a0 = some r) :
    Calls Tryd.prog 50 #[.int .i64 a0] w fun e w' => e = .returned (.int .i64 r) ∧ Below w.heap.size w w' := by
  have HB := Aside0.mk (Below.refl w.heap.size w)
  have H : (some (mx 0 (mn a0 64))) = some r := h
  clear h
  obtain ⟨ji2, hji2⟩ : ∃ j_ : Int, (mn a0 64) = j_ := ⟨_, rfl⟩
  replace H : (some (mx 0 (ji2))) = some r := by first | (rw [hji2] at H; exact H) | (simp only [hji2] at H ⊢; exact H)
  (try (have hji2h : ji2 ≤ 64 := by (rw [← hji2]; unfold mn; (repeat' split) <;> omega)))
  (try (have hji2g : ji2 ≤ 64 := by omega))
  have hji2_ : (if 64 < a0 then 64 else a0) = ji2 := hji2
  obtain ⟨ji3, hji3⟩ : ∃ j_ : Int, (mx 0 (ji2)) = j_ := ⟨_, rfl⟩
  replace H : (some ji3) = some r := by first | (rw [hji3] at H; exact H) | (simp only [hji3] at H ⊢; exact H)
  have hji3_ : (if 0 < (ji2) then (ji2) else 0) = ji3 := hji3
  obtain rfl := Option.some.inj H
  go_enter Tryd.func50, Tryd.ntmps50
  go_wp2
  go_ret
  exact ⟨by first | rfl | (simp [errW_none, errW_some] <;> rfl) | (simp only [← hji2, ← hji3]; first | rfl | (simp [errW_none, errW_some] <;> rfl)) | (simp [*, errW_none, errW_some] <;> rfl), by repeat (first | (with_reducible first | exact HB.out | apply below_alloc | apply pw_below_drewN | apply below_drew1) | exact HB.out)⟩
def thermographref03_Put.l0 : Nat → List Int → Int → Int → Option (List Int)
  | 0, _, _, _ => none
  | k + 1, x0, x1, x7 => if x7 ≥ 0 then (if 0 ≤ x7 then (if x0.length < 140737488355328 then (thermographref03_Put.l0 k (x0 ++ [(Go.bits .and .u64 (shr .u64 x1 x7) 1) % 256]) x1 (wrap64 (x7 - 1))) else (none)) else (none)) else (some x0)
def thermographref03_Put.f (k : Nat) (l0 : List Int) (a1 : Int) (a2 : Int) : Option (List Int) := (thermographref03_cut.f a2).bind fun t178 => (thermographref03_Put.l0 k l0 a1 (wrap64 (t178 - 1)))
set_option maxHeartbeats 8000000 in
set_option maxRecDepth 100000 in
theorem thermographref03_Put.calls (k : Nat) (P0_ : Nat → Prop) (u9000_ : Value) (l0 : List Int) (a1 : Int) (a2 : Int) (r : List Int) (w0 w : World) (hB : Below w0.heap.size w0 w) (ho0 : Kd.R (Kd.int .u8) 5 w w0.heap.size P0_ u9000_ l0) (h : thermographref03_Put.f k l0 a1 a2 = some r) :
    Calls Tryd.prog 28 #[u9000_, .int .u64 a1, .int .i64 a2] w fun e w' => ∃ v0_ : Value, e = .returned (v0_) ∧ Kd.R (Kd.int .u8) 5 w' w0.heap.size (fun k_ => (P0_ k_ ∨ w.heap.size ≤ k_)) v0_ r ∧ Below w0.heap.size w0 w' ∧ Kept w w' (fun k_ => P0_ k_) := by
  have HO0 := Aside0.mk (show Kd.R (Kd.int .u8) 5 w w0.heap.size (fun k_ => (P0_ k_ ∨ w.heap.size ≤ k_)) u9000_ l0 from Kd.R_mono ho0 (fun k_ hk => (.inl hk)))
  have HK := Aside0.mk (Kept.refl w (fun k_ => P0_ k_))
  have HW0 := Aside0.mk hB.size
  have HB := Aside0.mk hB
  clear hB
  have H : ((thermographref03_cut.f a2).bind fun t178 => (thermographref03_Put.l0 k l0 a1 (wrap64 (t178 - 1)))) = some r := h
  clear h
  replace H := Option.bind_eq_some_iff.mp H
  obtain ⟨t178, A40, H⟩ := H
  replace H : (thermographref03_Put.l0 k l0 a1 (wrap64 (t178 - 1))) = some r := H
  have A4 := Aside0.mk A40
  clear A40
  have H' := Aside0.mk H
  clear H
  go_enter Tryd.func28, Tryd.ntmps28
  go_wp2_with (first | ((with_reducible refine gate_callee (f := 50) rfl ?_); refine goesL_ (some 9) rfl rfl Tryd.func50 (by kernel_rfl) rfl #[.int .i64 a2] rfl (by (try simp only [List.map_toArray, List.map_cons, List.map_nil]); first | done | rfl | (simp only [List.length_drop, List.length_take]; rfl)) ?_; (with_reducible refine (thermographref03_cut.calls a2 t178 _ A4.out).mono ?_); rintro e w5 ⟨rfl, hb⟩; refine ⟨_, rfl, ?_⟩; have n0_ := Aside0.mk (Kd.R_below (by (with_reducible repeat (first | apply Kd.R_alloc | apply Kd.R_drewN | apply Kd.R_drew)); exact HO0.out) hb); have n1_ := Aside0.mk (Kept.below (S := (fun k_ => P0_ k_)) (by repeat (first | (with_reducible first | exact HK.out | apply Kept.alloc | apply Kept.drewN | apply Kept.drew) | exact HK.out)) hb); have n2_ := Aside0.mk (below_step (by repeat (first | (with_reducible first | exact HB.out | apply below_alloc | apply pw_below_drewN | apply below_drew1) | exact HB.out)) hb); clear HO0; clear HK; clear HB; have HO0 := n0_; have HK := n1_; have HB := n2_; clear n0_ n1_ n2_; (try clear hb); (try clear hb2); (try clear hk); (try clear hi)))
  go_loopg [0, 7] k (fun kq v0 v7 w' => ∃ (x0_1 : List Int) (x7_1 : Int), v7 = .int .i64 x7_1 ∧ Aside0 (thermographref03_Put.l0 kq x0_1 a1 x7_1 = some r) ∧ Aside0 (kq ≤ k) ∧ Aside0 (Kd.R (Kd.int .u8) 5 w' w0.heap.size (fun k_ => (P0_ k_ ∨ w.heap.size ≤ k_)) v0 x0_1) ∧ Aside0 (Kept w w' (fun k_ => P0_ k_)) ∧ Aside0 (Below w0.heap.size w0 w'))
  case atStart => exact ⟨(l0), (wrap64 (t178 - 1)), (by first | rfl | (simp; done) | (simp [*]; done)), H', ⟨Nat.le_refl _⟩, ⟨by (with_reducible repeat (first | apply Kd.R_alloc | apply Kd.R_drewN | apply Kd.R_drew)); exact HO0.out⟩, ⟨by repeat (first | (with_reducible first | exact HK.out | apply Kept.alloc | apply Kept.drewN | apply Kept.drew) | exact HK.out)⟩, ⟨by repeat (first | (with_reducible first | exact HB.out | apply below_alloc | apply pw_below_drewN | apply below_drew1) | exact HB.out)⟩⟩
  case round =>
    clear H'
    try clear c2
    try clear p2
    try clear c5
    obtain ⟨x0_1, x7_1, rfl, HA, HK1, HO_0, HK, HB⟩ := hrel
    cases gk with
    | zero => exact absurd HA.out (by simp [thermographref03_Put.l0])
    | succ k1 =>
      have H := HA.out
      clear HA
      simp only [thermographref03_Put.l0] at H
      by_cases c6 : x7_1 ≥ 0
      · rw [if_pos c6] at H
        have c6b0 : decide (0 ≤ x7_1) = true := decide_eq_true c6
        clear c6
        by_cases c7 : 0 ≤ x7_1
        · rw [if_pos c7] at H
          have c7b0 := eq_true c7
          have c7b1 : decide (0 ≤ x7_1) = true := decide_eq_true c7
          clear c7
          obtain ⟨ji8, hji8⟩ : ∃ j_ : Int, (shr .u64 a1 x7_1) = j_ := ⟨_, rfl⟩
          replace H : (if x0_1.length < 140737488355328 then (thermographref03_Put.l0 k1 (x0_1 ++ [(Go.bits .and .u64 (ji8) 1) % 256]) a1 (wrap64 (x7_1 - 1))) else (none)) = some r := by first | (rw [hji8] at H; exact H) | (simp only [hji8] at H ⊢; exact H)
          have hji8_ : (a1 / 2 ^ min x7_1.toNat 64) = ji8 := hji8
          have hji8z : x7_1 ≤ 64 → (a1 / 2 ^ x7_1.toNat) = ji8 := shr_small hji8
          by_cases c9 : x0_1.length < 140737488355328
          · rw [if_pos c9] at H
            have LMc9 := Aside0.mk c9
            clear c9
            obtain ⟨y179, hy179⟩ : ∃ y_ : List Int, y_ = (x0_1 ++ [(Go.bits .and .u64 (ji8) 1) % 256]) := ⟨_, rfl⟩
            replace H : (thermographref03_Put.l0 k1 y179 a1 (wrap64 (x7_1 - 1))) = some r := by first | (rw [hy179]; with_reducible exact H) | (have H2_ := (Option.bind_some _ _).symm.trans H; rw [hy179]; with_reducible exact H2_) | (have H2_ := (Option.bind_some _ _).symm.trans H; with_reducible exact H2_) | with_reducible exact H | (rw [hy179]; exact H) | exact H
            have Ny179 := Aside0.mk hy179
            clear hy179
            have H' := Aside0.mk H
            clear H
            go_wp2_with (first | ((with_reducible refine gate_builtin (b := .append) (xs := #[.tmp 15, .tmp 21]) rfl ?_); at_builtin; refine Kd.R_append (Kd.int .u8) (w0 := w0) w0.heap.size rfl (.tmp 15) (.tmp 21) 53 5 (.int .u8 0) 1 rfl Tryd.underlying53 info5 rfl (by decide) (by omega) u0 x0_1 ((Go.bits .and .u64 (ji8) 1) % 256) [.int .u8 ((Go.bits .and .u64 (ji8) 1) % 256)] (fun k_ => (P0_ k_ ∨ w.heap.size ≤ k_)) (fun _ => False) rfl rfl ?aP (fun _ hk => hk.elim) ?aF ?aO ?aB ?aS ?aL ?_; (case aP => exact rfl); (case aB => exact (by repeat (first | (with_reducible first | exact HB.out | apply below_alloc | apply pw_below_drewN | apply below_drew1) | exact HB.out))); (case aF => exact (fun k_ hk => (.inr (Nat.le_trans (by first | exact HK.out.1 | exact (show Kept w _ (fun k_ => P0_ k_) from by repeat (first | (with_reducible first | exact HK.out | apply Kept.alloc | apply Kept.drewN | apply Kept.drew) | exact HK.out)).1) hk)))); (case aO => exact (by (with_reducible repeat (first | apply Kd.R_alloc | apply Kd.R_drewN | apply Kd.R_drew)); exact HO_0.out)); (case aS => exact (below_size (by repeat (first | (with_reducible first | exact HB.out | apply below_alloc | apply pw_below_drewN | apply below_drew1) | exact HB.out)))); (case aL => have := LMc9.out; omega); intro v180 w10 ho hb hg hat; rw [← Ny179.out] at ho; have n0_ := Aside0.mk (hb); have n1_ := Aside0.mk (Kept.of_grown (S := (fun k_ => P0_ k_)) hg (by repeat (first | (with_reducible first | exact HK.out | apply Kept.alloc | apply Kept.drewN | apply Kept.drew) | exact HK.out)) (fun k_ e_ => (HO_0.out.1 k_ e_))); have n2_ := Aside0.mk (ho); clear HB; clear HK; clear HO_0; have HB := n0_; have HK := n1_; have HO181 := n2_; clear n0_ n1_ n2_; clear ho hb hg hat))
            go_roundg k1
            case measure => have := HK1.out; omega
            case rel => exact ⟨(y179), (wrap64 (x7_1 - 1)), (by first | rfl | (simp; done) | (simp [*]; done)), H', ⟨by have := HK1.out; omega⟩, ⟨by (with_reducible repeat (first | apply Kd.R_alloc | apply Kd.R_drewN | apply Kd.R_drew)); exact HO181.out⟩, ⟨by repeat (first | (with_reducible first | exact HK.out | apply Kept.alloc | apply Kept.drewN | apply Kept.drew) | exact HK.out)⟩, ⟨by repeat (first | (with_reducible first | exact HB.out | apply below_alloc | apply pw_below_drewN | apply below_drew1) | exact HB.out)⟩⟩
          · rw [if_neg c9] at H
            exact absurd H (by simp)
        · rw [if_neg c7] at H
          exact absurd H (by simp)
      · rw [if_neg c6] at H
        have c6b0 : decide (0 ≤ x7_1) = false := decide_eq_false c6
        clear c6
        obtain rfl := Option.some.inj H
        go_wp2
        go_ret
        exact ⟨_, by first | rfl | (simp [errW_none, errW_some] <;> rfl) | (simp [*, errW_none, errW_some] <;> rfl), by (with_reducible repeat (first | apply Kd.R_alloc | apply Kd.R_drewN | apply Kd.R_drew)); exact HO_0.out, by repeat (first | (with_reducible first | exact HB.out | apply below_alloc | apply pw_below_drewN | apply below_drew1) | exact HB.out), by repeat (first | (with_reducible first | exact HK.out | apply Kept.alloc | apply Kept.drewN | apply Kept.drew) | exact HK.out)⟩
end Go.Proofs.YtmnlbedgkjnodaaDoor.QB
