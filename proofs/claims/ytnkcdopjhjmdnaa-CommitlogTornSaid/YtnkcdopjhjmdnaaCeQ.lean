/- What the call of commitlog.Encode comes to; as a Lean function laid by hand (a stand-in for the printer). -/
import Derived.Test.YtnkcdopjhjmdnaaCeW
import Derived.Test.YtnkcdopjhjmdnaaCeA
import Derived.Test.YtnkcdopjhjmdnaaAdP
namespace Go.Proofs.Ytnkcdopjhjmdnaa.CeW
open Go.RowKit Go.Proofs.YtnkcdopjhjmdnaaW.PrintWords Go.Proofs.YtnkcdopjhjmdnaaW.PrintLast Go.Proofs.YtnkcdopjhjmdnaaW.PrintMore Go.Proofs.Ytnkcdopjhjmdnaa.QB Go.Proofs.Ytnkcdopjhjmdnaa.Sl Go.Proofs.Ytnkcdopjhjmdnaa.Uv Go.Proofs.Ytnkcdopjhjmdnaa.UvP Go.Proofs.Ytnkcdopjhjmdnaa.RuW Go.Proofs.Ytnkcdopjhjmdnaa.AdP
set_option linter.unusedVariables false
set_option linter.unusedSimpArgs false

/-- A record's body, and the whole of it. -/
def bodyR (n : Nat) (id : ByteArray) (m v s : Nat) : List Int := uv n ++ uv id.size ++ bytesOf id ++ uv m ++ be 8 v ++ be 8 s
def encR (n : Nat) (id : ByteArray) (m v s : Nat) : List Int := uv (bodyR n id m v s).length ++ be 4 (adF (bodyR n id m v s)) ++ bodyR n id m v s
def encE (sp : Int) (id : ByteArray) (t v s : Int) : List Int × Int :=
  if sp < 0 ∨ 4 ≤ sp ∨ t < 0 ∨ 1099511627776 < t then ([], 1) else if id.size = 0 ∨ 16 < id.size then ([], 80) else (encR sp.toNat id t.toNat v.toNat s.toNat, 0)
theorem size_list (s : ByteArray) : s.toList.length = s.size := by rw [ByteArray.toList_eq]; rfl
theorem bytes_str (s : ByteArray) : Bytes (bytesOf s) := fun x hx => by
  unfold bytesOf at hx
  obtain ⟨b, _, rfl⟩ := List.mem_map.1 hx
  have := b.toNat_lt
  omega
theorem bytes_be : ∀ (m v : Nat), Bytes (be m v)
  | 0, _ => fun x hx => by cases hx
  | m + 1, v => fun x hx => by
    rcases List.mem_cons.1 hx with rfl | hx
    · omega
    · exact bytes_be m v x hx
theorem bytes_app {a b : List Int} (ha : Bytes a) (hb : Bytes b) : Bytes (a ++ b) := fun x hx => (List.mem_append.1 hx).elim (ha x) (hb x)
theorem bytes_body (n : Nat) (id : ByteArray) (m v s : Nat) : Bytes (uv n ++ uv id.size ++ bytesOf id ++ uv m ++ be 8 v ++ be 8 s) :=
  bytes_app (bytes_app (bytes_app (bytes_app (bytes_app (uv_bytes _) (uv_bytes _)) (bytes_str _)) (uv_bytes _)) (bytes_be _ _)) (bytes_be _ _)
theorem put8_calls (w0 w : World) (L : List Asn) (g : Nat) (bs : List Int) (v : Nat) (hv : v < 18446744073709551616) (hl : bs.length ≤ 1099511627776) (h : Sat w0 w (Cap g bs :: L)) :
    Calls Try.prog 13 #[.int .u64 v, .int .i64 8, .pointer (some ⟨g, 0, none⟩)] w fun e w' => e = .returned (.tuple #[]) ∧ Sat w0 w' (Cap g (bs ++ be 8 v) :: L) := put_calls w0 w L g bs v 8 (by decide) hv hl h
theorem put4_calls (w0 w : World) (L : List Asn) (g : Nat) (bs : List Int) (v : Nat) (hv : v < 18446744073709551616) (hl : bs.length ≤ 1099511627776) (h : Sat w0 w (Cap g bs :: L)) :
    Calls Try.prog 13 #[.int .u64 v, .int .i64 4, .pointer (some ⟨g, 0, none⟩)] w fun e w' => e = .returned (.tuple #[]) ∧ Sat w0 w' (Cap g (bs ++ be 4 v) :: L) := put_calls w0 w L g bs v 4 (by decide) hv hl h
set_option maxHeartbeats 4000000 in
set_option maxRecDepth 100000 in
theorem Encode_ok (w : World) (n : Nat) (id : ByteArray) (m v s : Nat) (hn : n < 4) (hi : 1 ≤ id.size) (hi2 : id.size ≤ 16) (hm : m ≤ 1099511627776) (hv : v < 18446744073709551616) (hs_ : s < 18446744073709551616) :
    Calls Try.prog 9 #[.agg #[.int .i64 n, .string id, .int .i64 m, .int .u64 v, .int .u64 s]] w fun e w' => ∃ v0, e = .returned (.tuple #[v0, .int .i64 0]) ∧ Kd.R (Kd.int .u8) 5 w' w.heap.size (fun _ => True) v0 (encR n id m v s) ∧ Below w.heap.size w w' := by
  have u1 : (uv n).length ≤ 10 := uv_length10 (by omega)
  have u2 : (uv id.size).length ≤ 10 := uv_length10 (by omega)
  have u3 : (uv m).length ≤ 10 := uv_length10 (by omega)
  have hbl : (bodyR n id m v s).length = (uv n).length + (uv id.size).length + id.size + (uv m).length + 8 + 8 := by
    unfold bodyR
    simp only [List.length_append, be_length, bytesOf_length]
  have hbb : Bytes (bodyR n id m v s) := by
    unfold bodyR
    exact bytes_body n id m v s
  have ha := Adler_f (k := 4000) hbb (by omega) (by omega)
  have hal := adF_lt (bodyR n id m v s)
  have HAD := Aside0.mk ha
  have HAL := Aside0.mk hal
  have d1 : decide ((n : Int) < 0) = false := decide_eq_false (by omega)
  have d2 : decide ((4 : Int) ≤ (n : Int)) = false := decide_eq_false (by omega)
  have d3 : decide ((m : Int) < 0) = false := decide_eq_false (by omega)
  have d4 : decide ((1099511627776 : Int) < (m : Int)) = false := decide_eq_false (by omega)
  have d5 : decide ((16 : Int) < (id.size : Int)) = false := decide_eq_false (by omega)
  have d7 : decide (4 ≤ n) = false := decide_eq_false (by omega)
  have d8 : decide (1099511627776 < m) = false := decide_eq_false (by omega)
  have d9 : decide (16 < id.size) = false := decide_eq_false (by omega)
  have d6 : (id.toList == ([] : List UInt8)) = false := by
    rw [beq_eq_false_iff_ne]
    intro e
    have h := congrArg List.length e
    rw [size_list, List.length_nil] at h
    omega
  have h0 := (Sat.start w).newBlk #[.int .i64 (n : Int), .string id, .int .i64 (m : Int), .int .u64 (v : Int), .int .u64 (s : Int)] 32
  have hg := h0.newBlk #[.slice none 0 0] 22
  have h1 := Cap.mk ((hg.nilRow (Kd.int .u8) 5).nth 1 rfl)
  have hsz : (w.alloc (.cells #[.int .i64 (n : Int), .string id, .int .i64 (m : Int), .int .u64 (v : Int), .int .u64 (s : Int)] 32)).heap.size = w.heap.size + 1 := Array.size_push _
  rw [hsz] at h1
  have H0 : Aside0 (Sat w ((w.alloc (.cells #[.int .i64 (n : Int), .string id, .int .i64 (m : Int), .int .u64 (v : Int), .int .u64 (s : Int)] 32)).alloc (.cells #[.slice none 0 0] 22)) (Cap (w.heap.size + 1) [] :: Blk w.heap.size #[.int .i64 (n : Int), .string id, .int .i64 (m : Int), .int .u64 (v : Int), .int .u64 (s : Int)] 32 :: [])) := ⟨h1⟩
  clear ha hbb h0 hg h1 hsz hbl hal
  go_enter Try.func9, Try.ntmps9
  go_upto_region 8 with (fail)
  generalize (w.alloc (.cells #[.int .i64 (n : Int), .string id, .int .i64 (m : Int), .int .u64 (v : Int), .int .u64 (s : Int)] 32)).alloc (.cells #[.slice none 0 0] 22) = w1 at H0 ⊢
  generalize w.heap.size + 1 = g at H0 ⊢
  have q0 := (H0.out.nth 1 rfl).cell 0 (v := .int .i64 (n : Int)) rfl
  have q1 := (H0.out.nth 1 rfl).cell 1 (v := .string id) rfl
  have q2 := (H0.out.nth 1 rfl).cell 2 (v := .int .i64 (m : Int)) rfl
  have q3 := (H0.out.nth 1 rfl).cell 3 (v := .int .u64 (v : Int)) rfl
  have q4 := (H0.out.nth 1 rfl).cell 4 (v := .int .u64 (s : Int)) rfl
  go_upto_region 9 with (first | (go_at_call 14; go_loud ((with_reducible refine (number_calls w _ _ g [] n (by omega) (by first | omega | simp) H0.out).mono ?_); rintro e w8 ⟨rfl, hs⟩; obtain ⟨b8, E8⟩ : ∃ b, [] ++ uv n = b := ⟨_, rfl⟩; rw [E8] at hs; have EE8 := Aside0.mk E8; have l8 : b8.length ≤ 10 := (by rw [← E8]; simp only [List.length_append, be_length, bytesOf_length, List.length_nil]; omega); clear E8; have q0 := (hs.nth 1 rfl).cell 0 (v := .int .i64 (n : Int)) rfl; have q1 := (hs.nth 1 rfl).cell 1 (v := .string id) rfl; have q2 := (hs.nth 1 rfl).cell 2 (v := .int .i64 (m : Int)) rfl; have q3 := (hs.nth 1 rfl).cell 3 (v := .int .u64 (v : Int)) rfl; have q4 := (hs.nth 1 rfl).cell 4 (v := .int .u64 (s : Int)) rfl; have H8 := Aside0.mk hs; clear hs)))
  go_upto_region 10 with (first | (go_at_call 14; go_loud ((with_reducible refine (number_calls w _ _ g b8 id.size (by omega) (by first | omega | simp) H8.out).mono ?_); rintro e w9 ⟨rfl, hs⟩; obtain ⟨b9, E9⟩ : ∃ b, b8 ++ uv id.size = b := ⟨_, rfl⟩; rw [E9] at hs; have EE9 := Aside0.mk E9; have l9 : b9.length ≤ 20 := (by rw [← E9]; simp only [List.length_append, be_length, bytesOf_length, List.length_nil]; omega); clear E9; have q0 := (hs.nth 1 rfl).cell 0 (v := .int .i64 (n : Int)) rfl; have q1 := (hs.nth 1 rfl).cell 1 (v := .string id) rfl; have q2 := (hs.nth 1 rfl).cell 2 (v := .int .i64 (m : Int)) rfl; have q3 := (hs.nth 1 rfl).cell 3 (v := .int .u64 (v : Int)) rfl; have q4 := (hs.nth 1 rfl).cell 4 (v := .int .u64 (s : Int)) rfl; have H9 := Aside0.mk hs; clear hs)))
  obtain ⟨v9, h9⟩ := Cap.open H9.out
  have x9 := h9.cell 0 (v := v9) rfl
  have HA9 : Aside0 (Sat w w9 (Row (Kd.int .u8) 5 v9 b9 :: Blk g #[v9] 22 :: Blk w.heap.size #[.int .i64 (n : Int), .string id, .int .i64 (m : Int), .int .u64 (v : Int), .int .u64 (s : Int)] 32 :: [])) := ⟨h9.nth 1 rfl⟩
  clear h9
  go_upto_region 11 with (first | (at_builtin; go_loud (refine appendStr rfl (.tmp 50) (.tmp 52) 22 9 5 rfl Try.underlying22 Try.underlying9 UvPinfo v9 b9 id rfl rfl (by decide) (by decide) HA9.out (by omega) ?_; intro v10 w10 hs; obtain ⟨b10, E10⟩ : ∃ b, b9 ++ bytesOf id = b := ⟨_, rfl⟩; rw [E10] at hs; have EE10 := Aside0.mk E10; have l10 : b10.length ≤ 36 := (by rw [← E10]; simp only [List.length_append, be_length, bytesOf_length, List.length_nil]; omega); clear E10; obtain ⟨gb, cb, rfl, _, _⟩ := hs.rowBlock (by rw [← EE10.out, List.length_append, bytesOf_length]; omega); have z0 := (hs.nth 1 rfl).cell 0 (v := v9) rfl; have z1 := (hs.nth 1 rfl).free 0; have H10 := Aside0.mk hs; clear hs)))
  have h10 := Cap.mk ((H10.out.nth 1 rfl).setBlk 0 (.slice (some ⟨gb, 0, none⟩) b10.length cb))
  have H10b : Aside0 (Sat w (w10.setCell ⟨g, 0, none⟩ (.slice (some ⟨gb, 0, none⟩) b10.length cb)) (Cap g b10 :: Blk w.heap.size #[.int .i64 (n : Int), .string id, .int .i64 (m : Int), .int .u64 (v : Int), .int .u64 (s : Int)] 32 :: [])) := ⟨h10⟩
  clear h10 H10 HA9 x9 z0 z1
  generalize w10.setCell ⟨g, 0, none⟩ (.slice (some ⟨gb, 0, none⟩) b10.length cb) = w10b at H10b ⊢
  have q0 := (H10b.out.nth 1 rfl).cell 0 (v := .int .i64 (n : Int)) rfl
  have q1 := (H10b.out.nth 1 rfl).cell 1 (v := .string id) rfl
  have q2 := (H10b.out.nth 1 rfl).cell 2 (v := .int .i64 (m : Int)) rfl
  have q3 := (H10b.out.nth 1 rfl).cell 3 (v := .int .u64 (v : Int)) rfl
  have q4 := (H10b.out.nth 1 rfl).cell 4 (v := .int .u64 (s : Int)) rfl
  go_upto_region 12 with (first | (go_at_call 14; go_loud ((with_reducible refine (number_calls w _ _ g b10 m (by omega) (by first | omega | simp) H10b.out).mono ?_); rintro e w11 ⟨rfl, hs⟩; obtain ⟨b11, E11⟩ : ∃ b, b10 ++ uv m = b := ⟨_, rfl⟩; rw [E11] at hs; have EE11 := Aside0.mk E11; have l11 : b11.length ≤ 46 := (by rw [← E11]; simp only [List.length_append, be_length, bytesOf_length, List.length_nil]; omega); clear E11; have q0 := (hs.nth 1 rfl).cell 0 (v := .int .i64 (n : Int)) rfl; have q1 := (hs.nth 1 rfl).cell 1 (v := .string id) rfl; have q2 := (hs.nth 1 rfl).cell 2 (v := .int .i64 (m : Int)) rfl; have q3 := (hs.nth 1 rfl).cell 3 (v := .int .u64 (v : Int)) rfl; have q4 := (hs.nth 1 rfl).cell 4 (v := .int .u64 (s : Int)) rfl; have H11 := Aside0.mk hs; clear hs)))
  go_upto_region 13 with (first | (go_at_call 13; go_loud ((with_reducible refine (put8_calls w _ _ g b11 v hv (by omega) H11.out).mono ?_); rintro e w12 ⟨rfl, hs⟩; obtain ⟨b12, E12⟩ : ∃ b, b11 ++ be 8 v = b := ⟨_, rfl⟩; rw [E12] at hs; have EE12 := Aside0.mk E12; have l12 : b12.length ≤ 54 := (by rw [← E12]; simp only [List.length_append, be_length, bytesOf_length, List.length_nil]; omega); clear E12; have q0 := (hs.nth 1 rfl).cell 0 (v := .int .i64 (n : Int)) rfl; have q1 := (hs.nth 1 rfl).cell 1 (v := .string id) rfl; have q2 := (hs.nth 1 rfl).cell 2 (v := .int .i64 (m : Int)) rfl; have q3 := (hs.nth 1 rfl).cell 3 (v := .int .u64 (v : Int)) rfl; have q4 := (hs.nth 1 rfl).cell 4 (v := .int .u64 (s : Int)) rfl; have H12 := Aside0.mk hs; clear hs)))
  go_upto_region 14 with (first | (go_at_call 13; go_loud ((with_reducible refine (put8_calls w _ _ g b12 s hs_ (by omega) H12.out).mono ?_); rintro e w13 ⟨rfl, hs⟩; obtain ⟨b13, E13⟩ : ∃ b, b12 ++ be 8 s = b := ⟨_, rfl⟩; rw [E13] at hs; have EE13 := Aside0.mk E13; have l13 : b13.length ≤ 62 := (by rw [← E13]; simp only [List.length_append, be_length, bytesOf_length, List.length_nil]; omega); clear E13; have q0 := (hs.nth 1 rfl).cell 0 (v := .int .i64 (n : Int)) rfl; have q1 := (hs.nth 1 rfl).cell 1 (v := .string id) rfl; have q2 := (hs.nth 1 rfl).cell 2 (v := .int .i64 (m : Int)) rfl; have q3 := (hs.nth 1 rfl).cell 3 (v := .int .u64 (v : Int)) rfl; have q4 := (hs.nth 1 rfl).cell 4 (v := .int .u64 (s : Int)) rfl; have H13 := Aside0.mk hs; clear hs)))
  have hB : bodyR n id m v s = b13 := by
    rw [← EE13.out, ← EE12.out, ← EE11.out, ← EE10.out, ← EE9.out, ← EE8.out]
    rfl
  have hp13 : 0 < b13.length := by rw [← EE13.out, List.length_append, be_length]; omega
  have hen : encR n id m v s = uv b13.length ++ be 4 (adF b13) ++ b13 := by unfold encR; rw [hB]
  have had := HAD.out
  rw [hB] at had
  have hal := HAL.out
  rw [hB] at hal
  obtain ⟨ad, hadv⟩ : ∃ ad, adF b13 = ad := ⟨_, rfl⟩
  rw [hadv] at hen had hal
  have HEN := Aside0.mk hen
  have HAD2 := Aside0.mk had
  clear hen had hB hadv
  obtain ⟨v13, h13⟩ := Cap.open H13.out
  obtain ⟨gi, ci, rfl, _, _⟩ := (h13.nth 1 rfl).rowBlock hp13
  have x13 := h13.cell 0 (v := .slice (some ⟨gi, 0, none⟩) b13.length ci) rfl
  have f13 := h13.free 0
  have h14 := Cap.mk (((h13.setBlk 0 (.slice none 0 0)).nilRow (Kd.int .u8) 5).nth 1 rfl)
  have H14 : Aside0 (Sat w (w13.setCell ⟨g, 0, none⟩ (.slice none 0 0)) (Cap g [] :: Row (Kd.int .u8) 5 (.slice (some ⟨gi, 0, none⟩) b13.length ci) b13 :: Blk w.heap.size #[.int .i64 (n : Int), .string id, .int .i64 (m : Int), .int .u64 (v : Int), .int .u64 (s : Int)] 32 :: [])) := ⟨h14⟩
  clear h13 h14
  have u4 : (uv b13.length).length ≤ 10 := uv_length10 (by omega)
  go_upto_region 16 with (fail)
  clear x13 f13
  generalize w13.setCell ⟨g, 0, none⟩ (.slice none 0 0) = w14 at H14 ⊢
  go_upto_region 17 with (first | (go_at_call 14; go_loud ((with_reducible refine (number_calls w _ _ g [] b13.length (by omega) (by first | omega | simp) H14.out).mono ?_); rintro e w16 ⟨rfl, hs⟩; obtain ⟨b16, E16⟩ : ∃ b, [] ++ uv b13.length = b := ⟨_, rfl⟩; rw [E16] at hs; have EE16 := Aside0.mk E16; have l16 : b16.length ≤ 10 := (by rw [← E16]; simp only [List.length_append, be_length, bytesOf_length, List.length_nil]; omega); clear E16; have q0 := (hs.nth 2 rfl).cell 0 (v := .int .i64 (n : Int)) rfl; have q1 := (hs.nth 2 rfl).cell 1 (v := .string id) rfl; have q2 := (hs.nth 2 rfl).cell 2 (v := .int .i64 (m : Int)) rfl; have q3 := (hs.nth 2 rfl).cell 3 (v := .int .u64 (v : Int)) rfl; have q4 := (hs.nth 2 rfl).cell 4 (v := .int .u64 (s : Int)) rfl; have H16 := Aside0.mk hs; clear hs)))
  go_upto_region 18 with (first | (go_at_call 16; go_loud (obtain ⟨G, hg, _⟩ := (H16.out.nth 1 rfl).row; (with_reducible refine (digest_Adler.calls 4000 G (some ⟨gi, 0, none⟩) ci b13 (ad : Int) _ (Kd.R_V hg) HAD2.out).mono ?_); rintro e wa ⟨rfl, hba⟩; have HA := Aside0.mk (H16.out.step hba); clear hba hg)) | (go_at_call 13; go_loud ((with_reducible refine (put4_calls w _ _ g b16 ad (by omega) (by omega) HA.out).mono ?_); rintro e w17 ⟨rfl, hs⟩; obtain ⟨b17, E17⟩ : ∃ b, b16 ++ be 4 ad = b := ⟨_, rfl⟩; rw [E17] at hs; have EE17 := Aside0.mk E17; have l17 : b17.length ≤ 14 := (by rw [← E17]; simp only [List.length_append, be_length, bytesOf_length, List.length_nil]; omega); clear E17; have q0 := (hs.nth 2 rfl).cell 0 (v := .int .i64 (n : Int)) rfl; have q1 := (hs.nth 2 rfl).cell 1 (v := .string id) rfl; have q2 := (hs.nth 2 rfl).cell 2 (v := .int .i64 (m : Int)) rfl; have q3 := (hs.nth 2 rfl).cell 3 (v := .int .u64 (v : Int)) rfl; have q4 := (hs.nth 2 rfl).cell 4 (v := .int .u64 (s : Int)) rfl; have H17 := Aside0.mk hs; clear hs)))
  obtain ⟨v17, h17⟩ := Cap.open H17.out
  have x17 := h17.cell 0 (v := v17) rfl
  have HA17 : Aside0 (Sat w w17 (Row (Kd.int .u8) 5 v17 b17 :: Blk g #[v17] 22 :: Row (Kd.int .u8) 5 (.slice (some ⟨gi, 0, none⟩) b13.length ci) b13 :: Blk w.heap.size #[.int .i64 (n : Int), .string id, .int .i64 (m : Int), .int .u64 (v : Int), .int .u64 (s : Int)] 32 :: [])) := ⟨h17.nth 1 rfl⟩
  have HC := Aside0.mk ((H17.out.nth 1 rfl).rowC)
  have hal2 : (b17.length + b13.length) * 1 ≤ 140737488355328 := by omega
  clear h17
  go_wp2_with (first | (at_builtin; go_loud (refine Sat.appendInts rfl (.tmp 79) (.tmp 80) 22 5 .u8 1 rfl Try.underlying22 UvPinfo (by decide) v17 b17 b13 (some ⟨gi, 0, none⟩) b13.length ci rfl rfl HA17.out HC.out hal2 ?_; intro v18 w18 hs18 _; have HZ := Aside0.mk hs18; clear hs18)))
  go_ret2
  obtain ⟨G, hg, _⟩ := HZ.out.row
  refine ⟨v18, rfl, ?_, HZ.out.below⟩
  rw [HEN.out]
  have e17 : uv b13.length ++ be 4 ad = b17 := by rw [← EE17.out, ← EE16.out]; rfl
  rw [e17]
  exact Kd.R_mono hg (fun _ _ => trivial)
set_option maxHeartbeats 4000000 in
set_option maxRecDepth 100000 in
theorem Encode_arg (w : World) (sp : Int) (id : ByteArray) (t v s : Int) (h : sp < 0 ∨ 4 ≤ sp ∨ t < 0 ∨ 1099511627776 < t) :
    Calls Try.prog 9 #[.agg #[.int .i64 sp, .string id, .int .i64 t, .int .u64 v, .int .u64 s]] w fun e w' => ∃ v0, e = .returned (.tuple #[v0, .int .i64 1]) ∧ Kd.R (Kd.int .u8) 5 w' w.heap.size (fun _ => True) v0 [] ∧ Below w.heap.size w w' := by
  by_cases h1 : sp < 0
  · have d1 : decide (sp < 0) = true := decide_eq_true h1
    clear h
    go_enter Try.func9, Try.ntmps9
    go_wp2
    go_ret2
    exact ⟨_, rfl, Kd.R_nil _ _ _ _ _, below_alloc (Below.refl _ _) _⟩
  have d1 : decide (sp < 0) = false := decide_eq_false h1
  by_cases h2 : 4 ≤ sp
  · have d2 : decide (4 ≤ sp) = true := decide_eq_true h2
    clear h
    go_enter Try.func9, Try.ntmps9
    go_wp2
    go_ret2
    exact ⟨_, rfl, Kd.R_nil _ _ _ _ _, below_alloc (Below.refl _ _) _⟩
  have d2 : decide (4 ≤ sp) = false := decide_eq_false h2
  by_cases h3 : t < 0
  · have d3 : decide (t < 0) = true := decide_eq_true h3
    clear h
    go_enter Try.func9, Try.ntmps9
    go_wp2
    go_ret2
    exact ⟨_, rfl, Kd.R_nil _ _ _ _ _, below_alloc (Below.refl _ _) _⟩
  have d3 : decide (t < 0) = false := decide_eq_false h3
  have h4 : 1099511627776 < t := by omega
  have d4 : decide ((1099511627776 : Int) < t) = true := decide_eq_true h4
  clear h
  go_enter Try.func9, Try.ntmps9
  go_wp2
  go_ret2
  exact ⟨_, rfl, Kd.R_nil _ _ _ _ _, below_alloc (Below.refl _ _) _⟩
set_option maxHeartbeats 4000000 in
set_option maxRecDepth 100000 in
theorem Encode_id (w : World) (sp : Int) (id : ByteArray) (t v s : Int) (h : ¬ (sp < 0 ∨ 4 ≤ sp ∨ t < 0 ∨ 1099511627776 < t)) (h2 : id.size = 0 ∨ 16 < id.size) :
    Calls Try.prog 9 #[.agg #[.int .i64 sp, .string id, .int .i64 t, .int .u64 v, .int .u64 s]] w fun e w' => ∃ v0, e = .returned (.tuple #[v0, .int .i64 80]) ∧ Kd.R (Kd.int .u8) 5 w' w.heap.size (fun _ => True) v0 [] ∧ Below w.heap.size w w' := by
  have d1 : decide (sp < 0) = false := decide_eq_false (by omega)
  have d2 : decide (4 ≤ sp) = false := decide_eq_false (by omega)
  have d3 : decide (t < 0) = false := decide_eq_false (by omega)
  have d4 : decide ((1099511627776 : Int) < t) = false := decide_eq_false (by omega)
  by_cases hz : id.toList = []
  · have d6 : (id.toList == ([] : List UInt8)) = true := by rw [beq_iff_eq]; exact hz
    clear h h2 hz
    go_enter Try.func9, Try.ntmps9
    go_wp2
    go_ret2
    exact ⟨_, rfl, Kd.R_nil _ _ _ _ _, below_alloc (Below.refl _ _) _⟩
  · have d6 : (id.toList == ([] : List UInt8)) = false := by rw [beq_eq_false_iff_ne]; exact hz
    have h16 : 16 < id.size := by
      rcases h2 with h2 | h2
      · exact absurd (List.eq_nil_of_length_eq_zero (by rw [size_list, h2])) hz
      · exact h2
    have d5 : decide ((16 : Int) < (id.size : Int)) = true := decide_eq_true (by omega)
    have d9 : decide (16 < id.size) = true := decide_eq_true h16
    clear h h2 hz
    go_enter Try.func9, Try.ntmps9
    go_wp2
    go_ret2
    exact ⟨_, rfl, Kd.R_nil _ _ _ _ _, below_alloc (Below.refl _ _) _⟩
end Go.Proofs.Ytnkcdopjhjmdnaa.CeW
namespace Go.Proofs.Ytnkcdopjhjmdnaa.QB
open Go.RowKit Go.Proofs.YtnkcdopjhjmdnaaW.PrintWords Go.Proofs.YtnkcdopjhjmdnaaW.PrintLast Go.Proofs.YtnkcdopjhjmdnaaW.PrintMore Go.Proofs.Ytnkcdopjhjmdnaa.CeW
set_option linter.unusedVariables false
def commitlog_Encode.f (k : Nat) (a0_0 : Int) (a0_1 : ByteArray) (a0_2 : Int) (a0_3 : Int) (a0_4 : Int) : Option (List Int × Int) :=
  if (0 ≤ a0_3 ∧ a0_3 < 18446744073709551616) ∧ (0 ≤ a0_4 ∧ a0_4 < 18446744073709551616) then some (encE a0_0 a0_1 a0_2 a0_3 a0_4) else none
theorem commitlog_Encode.mono : ∀ a0 a1 a2 a3 a4 k, LeO (commitlog_Encode.f k a0 a1 a2 a3 a4) (commitlog_Encode.f (k + 1) a0 a1 a2 a3 a4) := fun _ _ _ _ _ _ _ h => h
theorem commitlog_Encode.calls (k : Nat) (a0_0 : Int) (a0_1 : ByteArray) (a0_2 : Int) (a0_3 : Int) (a0_4 : Int) (r1 : List Int) (r2 : Int) (w : World) (h : commitlog_Encode.f k a0_0 a0_1 a0_2 a0_3 a0_4 = some (r1, r2)) :
    Calls Try.prog 9 #[.agg #[.int .i64 a0_0, .string a0_1, .int .i64 a0_2, .int .u64 a0_3, .int .u64 a0_4]] w fun e w' => ∃ v0_ : Value, e = .returned (.tuple #[v0_, .int .i64 r2]) ∧ Kd.R (Kd.int .u8) 5 w' w.heap.size (fun _ => True) v0_ r1 ∧ Below w.heap.size w w' := by
  unfold commitlog_Encode.f at h
  split at h
  · rename_i hz
    have h := Option.some.inj h
    unfold encE at h
    by_cases h1 : a0_0 < 0 ∨ 4 ≤ a0_0 ∨ a0_2 < 0 ∨ 1099511627776 < a0_2
    · rw [if_pos h1, Prod.mk.injEq] at h
      obtain ⟨rfl, rfl⟩ := h
      exact Encode_arg w a0_0 a0_1 a0_2 a0_3 a0_4 h1
    · rw [if_neg h1] at h
      by_cases h2 : a0_1.size = 0 ∨ 16 < a0_1.size
      · rw [if_pos h2, Prod.mk.injEq] at h
        obtain ⟨rfl, rfl⟩ := h
        exact Encode_id w a0_0 a0_1 a0_2 a0_3 a0_4 h1 h2
      · rw [if_neg h2, Prod.mk.injEq] at h
        obtain ⟨rfl, rfl⟩ := h
        obtain ⟨n, rfl⟩ : ∃ n : Nat, a0_0 = (n : Int) := ⟨a0_0.toNat, by omega⟩
        obtain ⟨m, rfl⟩ : ∃ m : Nat, a0_2 = (m : Int) := ⟨a0_2.toNat, by omega⟩
        obtain ⟨v, rfl⟩ : ∃ v : Nat, a0_3 = (v : Int) := ⟨a0_3.toNat, by omega⟩
        obtain ⟨s, rfl⟩ : ∃ s : Nat, a0_4 = (s : Int) := ⟨a0_4.toNat, by omega⟩
        simp only [Int.toNat_natCast]
        exact Encode_ok w n a0_1 m v s (by omega) (by omega) (by omega) (by omega) (by omega) (by omega)
  · cases h
theorem commitlog_Encode.f_eq {v s : Int} (hv : 0 ≤ v ∧ v < 18446744073709551616) (hs : 0 ≤ s ∧ s < 18446744073709551616) (sp : Int) (id : ByteArray) (t : Int) (k : Nat) : commitlog_Encode.f k sp id t v s = some (encE sp id t v s) := by
  unfold commitlog_Encode.f
  rw [if_pos ⟨hv, hs⟩]
end Go.Proofs.Ytnkcdopjhjmdnaa.QB
