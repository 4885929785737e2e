/- Plain lemmas: both Adler sums are one. -/
import Derived.Test.YtnkcdopjhjmdnaaUvP
import Derived.Test.YtnkcdopjhjmdnaaQBx3
import Derived.Test.YtnkcdopjhjmdnaaQBx6
import Derived.Laws.Bits64
namespace Go.Proofs.Ytnkcdopjhjmdnaa.AdP
open Go.RowKit Go.Proofs.YtnkcdopjhjmdnaaW.PrintWords Go.Proofs.YtnkcdopjhjmdnaaW.PrintLast Go.Proofs.YtnkcdopjhjmdnaaW.PrintMore Go.Proofs.Ytnkcdopjhjmdnaa.QB Go.Proofs.Ytnkcdopjhjmdnaa.Uv Go.Proofs.Ytnkcdopjhjmdnaa.UvP
set_option linter.unusedVariables false
set_option linter.unusedSimpArgs false

def adStep (s : Nat × Nat) (c : Int) : Nat × Nat := ((s.1 + c.toNat) % 65521, (s.2 + (s.1 + c.toNat) % 65521) % 65521)
def adFin (s : Nat × Nat) : Nat := s.2 * 65536 + s.1
def adF (l : List Int) : Nat := adFin (l.foldl adStep (1, 0))
def smStep (s : Nat × Nat) (c : Int) : Nat × Nat := (s.1 + c.toNat, s.2 + (s.1 + c.toNat))
theorem sm_mod : ∀ (t : List Int) (x y : Nat), t.foldl adStep (x % 65521, y % 65521) = ((t.foldl smStep (x, y)).1 % 65521, (t.foldl smStep (x, y)).2 % 65521)
  | [], x, y => rfl
  | c :: t, x, y => by
    have h := sm_mod t (x + c.toNat) (y + (x + c.toNat))
    rw [List.foldl_cons, List.foldl_cons]
    have e : adStep (x % 65521, y % 65521) c = ((x + c.toNat) % 65521, (y + (x + c.toNat)) % 65521) := by
      unfold adStep
      simp only [Prod.mk.injEq]
      omega
    rw [e]
    exact h
theorem fold_lt : ∀ (t : List Int) (s : Nat × Nat), s.1 < 65521 → s.2 < 65521 → (t.foldl adStep s).1 < 65521 ∧ (t.foldl adStep s).2 < 65521
  | [], s, h1, h2 => ⟨h1, h2⟩
  | c :: t, s, h1, h2 => by
    rw [List.foldl_cons]
    refine fold_lt t _ ?_ ?_ <;> (unfold adStep; simp only; omega)
theorem adF_lt (l : List Int) : adF l < 4294967296 := by
  have h := fold_lt l (1, 0) (by decide) (by decide)
  unfold adF adFin
  omega
theorem ref_Adler_l0 (l : List Int) (hb : Bytes l) (hl : l.length ≤ 1099511627776) : ∀ (d i k x y : Nat), i + d = l.length → d < k → x < 65521 → y < 65521 →
    thermographref04_Adler.l0 k l (x : Int) (y : Int) (i : Int) = some ((adFin ((l.drop i).foldl adStep (x, y)) : Nat) : Int) := by
  intro d
  induction d with
  | zero =>
    intro i k x y hi hk hx hy
    obtain ⟨k, rfl⟩ : ∃ j, k = j + 1 := ⟨k - 1, by omega⟩
    rw [thermographref04_Adler.l0, if_neg (by omega), List.drop_of_length_le (by omega)]
    simp only [List.foldl_nil, adFin]
    congr 1
    omega
  | succ d ih =>
    intro i k x y hi hk hx hy
    obtain ⟨k, rfl⟩ : ∃ j, k = j + 1 := ⟨k - 1, by omega⟩
    have hlt : i < l.length := by omega
    have hc := hb _ (List.getElem_mem hlt)
    rw [thermographref04_Adler.l0, if_pos (by omega), if_pos (by omega), rd_nat hlt, List.drop_eq_getElem_cons hlt, List.foldl_cons]
    obtain ⟨c, he⟩ : ∃ c : Nat, l[i] = (c : Int) := ⟨l[i].toNat, by omega⟩
    rw [he] at hc ⊢
    have h := ih (i + 1) k ((x + c) % 65521) ((y + (x + c) % 65521) % 65521) (by omega) (by omega) (by omega) (by omega)
    have e1 : (((x : Int) + ((c : Int) % 4294967296)) % 4294967296) % 65521 = (((x + c) % 65521 : Nat) : Int) := by omega
    have e2 : (((y : Int) + (((x + c) % 65521 : Nat) : Int)) % 4294967296) % 65521 = (((y + (x + c) % 65521) % 65521 : Nat) : Int) := by omega
    have e3 : wrap64 ((i : Int) + 1) = ((i + 1 : Nat) : Int) := by unfold wrap64; omega
    rw [e1, e2, e3]
    exact h
theorem ref_Adler_f {l : List Int} (hb : Bytes l) (hl : l.length ≤ 1099511627776) {k : Nat} (hk : l.length < k) : thermographref04_Adler.f k l = some ((adF l : Nat) : Int) := by
  unfold thermographref04_Adler.f
  exact ref_Adler_l0 l hb hl l.length 0 k 1 0 (by omega) hk (by omega) (by omega)
theorem or_hi (a b : Nat) (ha : a < 65536) (hb : b < 65536) : Go.bits .or .u32 ((((a : Int) % 4294967296) * 65536) % 4294967296) ((b : Int) % 4294967296) = ((a * 65536 + b : Nat) : Int) := by
  rw [show (((a : Int) % 4294967296) * 65536) % 4294967296 = ((a * 65536 : Nat) : Int) by omega, show (b : Int) % 4294967296 = ((b : Nat) : Int) by omega, u32_or_nat _ _ (by omega) (by omega)]
  congr 1
  exact nat_join 16 _ _ (by omega) (by omega)
theorem Adler_l1 (l : List Int) (hb : Bytes l) (hl : l.length ≤ 3000) : ∀ (d i k x y : Nat), i + d = l.length → d < k → x ≤ 1 + 255 * i → y ≤ 1000000 * i →
    digest_Adler.l1 k l (x : Int) (y : Int) l l (l.length : Int) (i : Int) = digest_Adler.l0 (k - d - 1) [] ((((l.drop i).foldl smStep (x, y)).1 % 65521 : Nat) : Int) ((((l.drop i).foldl smStep (x, y)).2 % 65521 : Nat) : Int) := by
  intro d
  induction d with
  | zero =>
    intro i k x y hi hk hx hy
    obtain ⟨k, rfl⟩ : ∃ j, k = j + 1 := ⟨k - 1, by omega⟩
    rw [digest_Adler.l1, if_neg (by omega), if_pos (by omega), if_pos (by omega), Int.toNat_natCast, List.drop_length, List.drop_of_length_le (by omega), Int.tmod_eq_emod_of_nonneg (by omega), Int.tmod_eq_emod_of_nonneg (by omega)]
    simp only [List.foldl_nil]
    rfl
  | succ d ih =>
    intro i k x y hi hk hx hy
    obtain ⟨k, rfl⟩ : ∃ j, k = j + 1 := ⟨k - 1, by omega⟩
    have hlt : i < l.length := by omega
    have hc := hb _ (List.getElem_mem hlt)
    rw [digest_Adler.l1, if_pos (by omega), if_pos (by omega), if_pos (by omega), rd_nat hlt, List.drop_eq_getElem_cons hlt, List.foldl_cons]
    obtain ⟨c, he⟩ : ∃ c : Nat, l[i] = (c : Int) := ⟨l[i].toNat, by omega⟩
    rw [he] at hc ⊢
    have h := ih (i + 1) k (x + c) (y + (x + c)) (by omega) (by omega) (by omega) (by omega)
    have e1 : wrap64 ((x : Int) + wrap64 (c : Int)) = ((x + c : Nat) : Int) := by unfold wrap64; omega
    have e2 : wrap64 ((y : Int) + ((x + c : Nat) : Int)) = ((y + (x + c) : Nat) : Int) := by clear e1; unfold wrap64; omega
    have e3 : wrap64 ((i : Int) + 1) = ((i + 1 : Nat) : Int) := by clear e1 e2; unfold wrap64; omega
    rw [e1, e2, e3, h]
    have e4 : k + 1 - (d + 1) - 1 = k - d - 1 := by clear e1 e2 e3; omega
    rw [e4]
    rfl
theorem Adler_f {l : List Int} (hb : Bytes l) (hl : l.length ≤ 3000) {k : Nat} (hk : l.length + 5 < k) : digest_Adler.f k l = some ((adF l : Nat) : Int) := by
  unfold digest_Adler.f adF
  have hlt := fold_lt l (1, 0) (by decide) (by decide)
  have hm := sm_mod l 1 0
  rw [show ((1 : Nat) % 65521, (0 : Nat) % 65521) = (1, 0) from rfl] at hm
  obtain ⟨k, rfl⟩ : ∃ j, k = j + 1 := ⟨k - 1, by omega⟩
  rw [digest_Adler.l0]
  by_cases hz : l.length = 0
  · have : l = [] := List.eq_nil_of_length_eq_zero hz
    subst this
    rfl
  · have e0 : mn (l.length : Int) 3000 = (l.length : Int) := by unfold mn; split <;> omega
    rw [if_pos (by omega), e0, if_pos (by omega), if_pos (by omega), Int.toNat_natCast, List.take_length]
    simp only [Option.bind_some]
    have h := Adler_l1 l hb hl l.length 0 k 1 0 (by omega) (by omega) (by omega) (by omega)
    rw [List.drop_zero] at h
    rw [show ((1 : Nat) : Int) = 1 from rfl, show ((0 : Nat) : Int) = 0 from rfl] at h
    rw [h]
    obtain ⟨j, hj⟩ : ∃ j, k - l.length - 1 = j + 1 := ⟨k - l.length - 2, by omega⟩
    rw [hj, digest_Adler.l0, if_neg (by simp)]
    rw [hm] at hlt ⊢
    simp only at hlt
    rw [or_hi _ _ (by omega) (by omega)]
    rfl
end Go.Proofs.Ytnkcdopjhjmdnaa.AdP
