/- slices.Sorted(slices.Values(..)) of numbers.
   Small laws on shards and on lists of nodes. -/
import Derived.Test.YtmdebnfjhnhcjaaZPlacementEven13
import Derived.Test.YtmdebnfjhnhcjaaZPlacementEven9
namespace Go.Proofs.Ytmdebnfjhnhcjaa.PmV
open Go.RowKit Go.Proofs.YtmdebnfjhnhcjaaW.PrintWords Go.Proofs.YtmdebnfjhnhcjaaW.PrintLast Go.Proofs.YtmdebnfjhnhcjaaW.PrintMore Go.Proofs.Ytmdebnfjhnhcjaa.QB Go.Proofs.Ytmdebnfjhnhcjaa.Sl Go.Proofs.Ytmdebnfjhnhcjaa.PlI Go.Sort
set_option linter.unusedVariables false
set_option linter.unusedSimpArgs false
theorem made_own {w w2 : World} {v : Value} {zs : List Int} (hb : Below w.heap.size w w2) (ho : w2.ownsRow w.heap.size tI 1 v zs.length (zs.map (Value.int .i64))) : Sat w w2 (Row (Kd.int .i64) tI v zs :: []) := (Sat.start w).made hb (Kd.R_of_own ho (fun _ _ => trivial))
theorem values_calls (A : Option Addr) (n c : Nat) (w : World) :
    Calls Try.prog 30 #[.slice A n c] w fun e w' => e = .returned (.func (.func 71) #[] #[.pointer (some ⟨w.heap.size, 0, none⟩)]) ∧ w' = w.alloc (.cells #[.slice A n c] 22) := by
  go_enter Try.func30, Try.ntmps30
  go_wp2
  go_ret
  exact ⟨rfl, rfl⟩
set_option maxRecDepth 100000 in
set_option maxHeartbeats 2000000 in
theorem collect_calls (w : World) (Bs c : Nat) (A : Option Addr) (zs : List Int) (hbig : zs.length ≤ 1000000) (hC : Kd.C (Kd.int .i64) w A zs.length zs) (hBs : w.cell? ⟨Bs, 0, none⟩ = some (.slice A zs.length c)) (hBl : Bs < w.heap.size) :
    Calls Try.prog 70 #[.func (.func 71) #[] #[.pointer (some ⟨Bs, 0, none⟩)]] w fun e w' => ∃ v : Value, e = .returned v ∧ Sat w w' (Row (Kd.int .i64) tI v zs :: []) := by
  have H1 := Aside0.mk (callsIn_wide.1 (appendSeq_vals 3 (by omega) w Bs c A zs hbig hC hBs hBl))
  clear hbig hC hBs
  go_enter Try.func70, Try.ntmps70
  go_wp2_with (first
    | (go_at_call 88; go_loud ((with_reducible refine H1.out.mono ?_); rintro e w2 ⟨v2, rfl, ho2, hb2⟩; have H2 := Aside0.mk (made_own hb2 ho2); clear ho2 hb2)))
  go_ret
  exact ⟨_, rfl, H2.out⟩
set_option maxRecDepth 100000 in
set_option maxHeartbeats 2000000 in
theorem sorted_calls (w : World) (Bs c : Nat) (A : Option Addr) (zs : List Int) (hbig : zs.length ≤ 1000000) (hC : Kd.C (Kd.int .i64) w A zs.length zs) (hBs : w.cell? ⟨Bs, 0, none⟩ = some (.slice A zs.length c)) (hBl : Bs < w.heap.size) :
    Calls Try.prog 29 #[.func (.func 71) #[] #[.pointer (some ⟨Bs, 0, none⟩)]] w fun e w' => ∃ v : Value, e = .returned v ∧ Sat w w' (Row (Kd.int .i64) tI v (sortL zs) :: []) := by
  have H1 := Aside0.mk (collect_calls w Bs c A zs hbig hC hBs hBl)
  have HB := Aside0.mk hbig
  clear hbig hC hBs
  go_enter Try.func29, Try.ntmps29
  go_wp2_with (first
    | (go_at_call 70; go_loud ((with_reducible refine H1.out.mono ?_); rintro e w2 ⟨v2, rfl, h2⟩; have H2 := Aside0.mk h2; clear h2))
    | (go_at_call 65; go_loud ((with_reducible refine (sort_row HB.out H2.out).mono ?_); rintro e w3 ⟨rfl, h3⟩; have H3 := Aside0.mk h3; clear h3)))
  go_ret
  exact ⟨_, rfl, H3.out⟩
end Go.Proofs.Ytmdebnfjhnhcjaa.PmV
namespace Go.Proofs.Ytmdebnfjhnhcjaa.RlP
open Go.RowKit Go.Proofs.YtmdebnfjhnhcjaaW.PrintWords Go.Proofs.YtmdebnfjhnhcjaaW.PrintLast Go.Proofs.YtmdebnfjhnhcjaaW.PrintMore Go.Proofs.Ytmdebnfjhnhcjaa.QB Go.Proofs.Ytmdebnfjhnhcjaa.PlI Go.Proofs.Ytmdebnfjhnhcjaa.PlS
set_option linter.unusedVariables false
set_option linter.unusedSimpArgs false
theorem findO_insL {o : Ow} : ∀ {l : List Ow}, (∀ x ∈ l, x.f0 ≠ o.f0) → findO (insL o l) o.f0 = some o
  | [], _ => by simp [insL, findO]
  | x :: r, h => by
    have hx := h x (List.mem_cons_self ..)
    rw [insL]
    split
    · have := findO_insL (o := o) (l := r) fun y hy => h y (List.mem_cons_of_mem _ hy)
      unfold findO at this ⊢
      rw [List.find?_cons_of_neg (by simpa using hx)]
      exact this
    · simp [findO]
theorem findO_setL (l : List Ow) (o : Ow) : findO (setL l o) o.f0 = some o := by
  unfold setL
  refine findO_insL fun x hx => ?_
  unfold unsetL at hx
  have := (List.mem_filter.1 hx).2
  simpa using this
theorem countP_set {α : Type} (p : α → Bool) (a : α) : ∀ {l : List α} {i : Nat} (h : i < l.length), (l.set i a).countP p + (if p l[i] = true then 1 else 0) = l.countP p + (if p a = true then 1 else 0)
  | [], i, h => by cases h
  | x :: r, 0, h => by
    rw [List.set_cons_zero, List.countP_cons, List.countP_cons]
    simp only [List.getElem_cons_zero]
    omega
  | x :: r, i + 1, h => by
    have ih := countP_set p a (l := r) (i := i) (by simpa using h)
    rw [List.set_cons_succ, List.countP_cons, List.countP_cons]
    simp only [List.getElem_cons_succ]
    omega
theorem owns_at {ss : List (List Ow)} {i : Nat} (hi : i < ss.length) (n : Int) : ownsP ss i n = livesO (findO ss[i] n) := by
  unfold ownsP findP
  rw [if_pos ⟨by omega, by omega⟩, Int.toNat_natCast, List.getD_eq_getElem?_getD, List.getElem?_eq_getElem hi]
  rfl
theorem mem_withG (l : List Int) (n : Int) : ∀ (d i : Nat) (x : Int), x ∈ withG l n d i ↔ (i : Int) ≤ x ∧ x < (i + d : Nat) ∧ (x = n ∨ x ∈ l)
  | 0, i, x => by
    simp only [withG, List.not_mem_nil, false_iff]
    omega
  | d + 1, i, x => by
    rw [withG]
    have ih := mem_withG l n d (i + 1) x
    by_cases h : (i : Int) = n ∨ (i : Int) ∈ l
    · rw [if_pos h, List.mem_cons, ih]
      constructor
      · rintro (rfl | ⟨h1, h2, h3⟩)
        · exact ⟨by omega, by omega, h⟩
        · exact ⟨by omega, by omega, h3⟩
      · rintro ⟨h1, h2, h3⟩
        by_cases e : x = i
        · exact .inl e
        · exact .inr ⟨by omega, by omega, h3⟩
    · rw [if_neg h, ih]
      constructor
      · rintro ⟨h1, h2, h3⟩
        exact ⟨by omega, by omega, h3⟩
      · rintro ⟨h1, h2, h3⟩
        by_cases e : x = i
        · subst e; exact absurd h3 h
        · exact ⟨by omega, by omega, h3⟩
theorem mem_withL {l : List Int} {n x : Int} : x ∈ withL l n ↔ 0 ≤ x ∧ x < 8 ∧ (x = n ∨ x ∈ l) := by
  unfold withL
  rw [mem_withG]
  constructor <;> (rintro ⟨h1, h2, h3⟩; exact ⟨by omega, by omega, h3⟩)
end Go.Proofs.Ytmdebnfjhnhcjaa.RlP
