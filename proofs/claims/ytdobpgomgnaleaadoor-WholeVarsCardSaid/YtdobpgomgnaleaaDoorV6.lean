/- WholeVars, plain: Save, Apply, Same, the law's loop, the law. No condition. -/
import Derived.Test.YtdobpgomgnaleaaDoorV5
namespace Go.Proofs.YtdobpgomgnaleaaDoor.V
open Go.RowKit Go.Proofs.YtdobpgomgnaleaaDoor.P Go.Proofs.YtdobpgomgnaleaaDoor.G Go.Proofs.YtdobpgomgnaleaaDoorW.PrintWords
set_option linter.unusedVariables false
set_option linter.unusedSimpArgs false
theorem bytesR_by (l : List S31) : By8 (bytesR l) := by
  intro x hx
  rw [bytesR_enc] at hx
  obtain ⟨b, _, rfl⟩ := List.mem_map.mp hx
  have := b.toNat_lt
  omega
theorem bytesR_bound : ∀ l : List S31, (∀ x ∈ l, okName x.f0.toList ∧ okVal x.f1) → (bytesR l).length ≤ 222 * l.length
  | [], h => Nat.le_refl _
  | x :: t, h => by
    have ih := bytesR_bound t (fun y hy => h y (List.mem_cons_of_mem _ hy))
    obtain ⟨h1, h2⟩ := h x List.mem_cons_self
    have h3 := h1.2
    rw [tl_len] at h3
    have h4 := h2.2
    rw [bytesR]
    simp only [List.length_append, bytesOf_length, List.length_cons, List.length_nil]
    omega
theorem plan_eq (nv data : List Int) (hb : By8 nv) (hd : By8 data) : nvram_Plan.f nv data = if nv.length = 512 then (if data.length ≤ 248 then some (planR nv data, 0) else some ([], 3)) else some ([], 1) := by
  unfold nvram_Plan.f
  rw [if_pos ⟨hb, hd⟩]
  rfl
theorem save_tot (nv : List Int) (next : List S31) (hb : By8 nv) (hz : Sz next) (hl : next.length ≤ 2000000) : ∃ r : List S64 × Int, Ev (fun k => vars_Save.f k nv next) r ∧ (r.2 = 0 → nv.length = 512 ∧ rightL (-1) next = true ∧ (bytesR next).length ≤ 248 ∧ r.1 = planR nv (bytesR next)) := by
  obtain ⟨K1, hr⟩ := right_tot next hz (by omega)
  dsimp only at hr
  by_cases hok : rightL (-1) next = true
  · obtain ⟨hg, hlen⟩ := right_good next (-1) hz hok (by omega) (by omega)
    have hbd := bytesR_bound next hg
    by_cases hbig : (bytesR next).length > 248
    · refine ⟨([], 10), ⟨K1, fun k hk => ?_⟩, fun h => (by cases h)⟩
      show vars_Save.f k nv next = _
      unfold vars_Save.f vars_Encode.f
      rw [hr k hk, Option.bind_some, if_pos hok, if_pos (by omega), if_pos hbig]
      rfl
    · have hp := plan_eq nv (bytesR next) hb (bytesR_by next)
      rw [if_pos (show (bytesR next).length ≤ 248 by omega)] at hp
      by_cases h512 : nv.length = 512
      · rw [if_pos h512] at hp
        refine ⟨(planR nv (bytesR next), 0), ⟨K1, fun k hk => ?_⟩, fun _ => ⟨h512, hok, by omega, rfl⟩⟩
        show vars_Save.f k nv next = _
        unfold vars_Save.f vars_Encode.f
        rw [hr k hk, Option.bind_some, if_pos hok, if_pos (by omega), if_neg hbig, Option.bind_some, if_pos rfl, hp]
        rfl
      · rw [if_neg h512] at hp
        refine ⟨([], 1), ⟨K1, fun k hk => ?_⟩, fun h => (by cases h)⟩
        show vars_Save.f k nv next = _
        unfold vars_Save.f vars_Encode.f
        rw [hr k hk, Option.bind_some, if_pos hok, if_pos (by omega), if_neg hbig, Option.bind_some, if_pos rfl, hp]
        rfl
  · refine ⟨([], 1), ⟨K1, fun k hk => ?_⟩, fun h => (by cases h)⟩
    show vars_Save.f k nv next = _
    unfold vars_Save.f vars_Encode.f
    rw [hr k hk, Option.bind_some, if_neg hok]
    rfl
/-! Apply -/
theorem drop64 (l : List S64) (j : Nat) (h : j < l.length) : l.drop j = rd_T64 l (j : Int) :: l.drop (j + 1) := by
  show l.drop j = l.getD ((j : Int).toNat) z64 :: l.drop (j + 1)
  rw [Int.toNat_natCast, List.getD_eq_getElem?_getD, List.getElem?_eq_getElem h]
  exact List.drop_eq_getElem_cons h
theorem apply_ev (rows : List S64) (hl : rows.length ≤ 1000) : ∀ (m j : Nat) (nv : List Int), j + m = rows.length → Ev (fun k => nvram_Apply.l0 k nv rows (rows.length : Int) (j : Int)) (applyR nv (rows.drop j))
  | 0, j, nv, h => by
    refine Ev.succ (g := fun _ => some nv) (fun k => ?_) (Ev.const (by rw [List.drop_eq_nil_of_le (by omega)]; rfl))
    rw [nvram_Apply.l0, if_neg (by omega)]
  | m + 1, j, nv, h => by
    have hj : j < rows.length := by omega
    have hjj : wrap64 ((j : Int) + 1) = ((j + 1 : Nat) : Int) := by rw [wrap1 (by omega) (by omega)]; rfl
    rw [drop64 rows j hj]
    generalize hxe : rd_T64 rows (j : Int) = b
    have ih := apply_ev rows hl m (j + 1) (put1 nv b) (by omega)
    refine Ev.succ (fun k => ?_) ih
    rw [nvram_Apply.l0, if_pos (by omega), if_pos (by omega), if_pos (by omega), hxe, hjj]
    unfold put1
    by_cases h0 : b.f0 ≥ 0
    · rw [if_pos h0]
      by_cases h1 : b.f0 < (nv.length : Int)
      · rw [if_pos h1, if_pos h0, if_pos ⟨h0, h1⟩]
      · rw [if_neg h1, if_neg (fun h => h1 h.2)]
    · rw [if_neg h0, if_neg (fun h => h0 h.1)]
def clampN (n : Int) (len : Nat) : Nat := (mx 0 (mn n (len : Int))).toNat
theorem clamp_bounds (n : Int) (len : Nat) : 0 ≤ mx 0 (mn n (len : Int)) ∧ mx 0 (mn n (len : Int)) ≤ (len : Int) := by
  unfold mx mn
  split <;> split <;> omega
theorem clamp_full (n : Int) (len : Nat) (h : (len : Int) ≤ n) : clampN n len = len := by
  unfold clampN mx mn
  split <;> split at * <;> omega
theorem clamp_part (n : Int) (len : Nat) (h : ¬ (len : Int) ≤ n) (h0 : 0 < len) : clampN n len < len := by
  unfold clampN mx mn
  split <;> split at * <;> omega
theorem Apply_tot (nv : List Int) (row : List S64) (n : Int) (hn : nv.length < 140737488355328) (hl : row.length ≤ 1000) : Ev (fun k => nvram_Apply.f k nv row n) (applyR nv (row.take (clampN n row.length))) := by
  obtain ⟨c0, c1⟩ := clamp_bounds n row.length
  obtain ⟨K, h⟩ := apply_ev (row.take (clampN n row.length)) (by rw [List.length_take]; omega) (row.take (clampN n row.length)).length 0 nv (by omega)
  refine ⟨K, fun k hk => ?_⟩
  have h1 := h k hk
  rw [List.drop_zero] at h1
  show nvram_Apply.f k nv row n = _
  unfold nvram_Apply.f slices_Clone_byte_byte.f
  rw [if_pos hn, Option.bind_some, if_pos c0, if_pos c1, Option.bind_some]
  exact h1
theorem same_ev (l : List S31) (hl : l.length ≤ 2000000) : ∀ (m j : Nat), j + m = l.length → Ev (fun k => tinderref19_Same.l0 k l l (j : Int)) true
  | 0, j, h => by
    refine Ev.succ (g := fun _ => some true) (fun k => ?_) (Ev.const rfl)
    rw [tinderref19_Same.l0, if_neg (by omega)]
  | m + 1, j, h => by
    have hjj : wrap64 ((j : Int) + 1) = ((j + 1 : Nat) : Int) := by rw [wrap1 (by omega) (by omega)]; rfl
    refine Ev.succ (fun k => ?_) (same_ev l hl m (j + 1) (by omega))
    rw [tinderref19_Same.l0, if_pos (by omega), if_pos (by omega), if_pos (by omega), hjj, if_neg (by simp)]
theorem Same_tot (l : List S31) (hl : l.length ≤ 2000000) : Ev (fun k => tinderref19_Same.f k l l) true := by
  obtain ⟨K, h⟩ := same_ev l hl l.length 0 (by omega)
  refine ⟨K, fun k hk => ?_⟩
  show tinderref19_Same.f k l l = _
  unfold tinderref19_Same.f
  rw [if_pos rfl]
  exact h k hk
theorem apply_by : ∀ (rows : List S64) (nv : List Int), By8 nv → (∀ b ∈ rows, 0 ≤ b.f1 ∧ b.f1 ≤ 255) → By8 (applyR nv rows)
  | [], nv, h, _ => h
  | b :: rows, nv, h, hr => by
    show By8 (applyR (put1 nv b) rows)
    refine apply_by rows _ ?_ (fun x hx => hr x (List.mem_cons_of_mem _ hx))
    intro x hx
    unfold put1 at hx
    split at hx
    · rcases List.mem_or_eq_of_mem_set hx with hx | rfl
      · exact h x hx
      · exact hr b List.mem_cons_self
    · exact h x hx
theorem wr_mem (ba : Int) : ∀ (bs : List Int) (s : Nat) (x : S64), x ∈ wr ba s bs → x.f1 ∈ bs
  | [], _, x, h => by cases h
  | b :: bs, s, x, h => by
    rw [wr] at h
    rcases List.mem_cons.mp h with rfl | h
    · exact List.mem_cons_self
    · exact List.mem_cons_of_mem _ (wr_mem ba bs (s + 1) x h)
theorem row_by (ba gen : Int) (data : List Int) (hg : 0 ≤ gen ∧ gen ≤ 255) (hd : By8 data) : ∀ b ∈ rowR ba gen data, 0 ≤ b.f1 ∧ b.f1 ≤ 255 := by
  intro b hb
  rw [rowR_wr] at hb
  rcases List.mem_append.mp hb with hb | hb
  · rcases List.mem_cons.mp hb with rfl | hb
    · show (0 : Int) ≤ 0 ∧ (0 : Int) ≤ 255
      omega
    · have h := wr_mem ba _ _ b hb
      unfold body fourR at h
      simp only [List.mem_append, List.mem_cons, List.not_mem_nil, or_false] at h
      rcases h with (((h | h | h) | (h | h | h | h)) | h)
      · omega
      · omega
      · omega
      · omega
      · omega
      · omega
      · omega
      · exact hd _ h
  · rw [List.mem_singleton.mp hb]
    show (0 : Int) ≤ 165 ∧ (165 : Int) ≤ 255
    omega
theorem plan_by (nv data : List Int) (hd : By8 data) : ∀ b ∈ planR nv data, 0 ≤ b.f1 ∧ b.f1 ≤ 255 := by
  unfold planR
  split
  · exact row_by _ _ _ (by omega) hd
  · split
    · exact row_by _ _ _ (by omega) hd
    · exact row_by _ _ _ (by omega) hd
/-! The loop -/
theorem wv_true (l1 : List S31) (l2 : List Int) (hz1 : ∀ x ∈ l1, x.f1.size ≤ 9223372036854775807) : ∀ (m i : Nat) (now : List S31) (nv : List Int), i + m = l1.length → By8 nv → nv.length < 140737488355328 → Sz now → now.length ≤ 2000000 → Ev (fun k => vars_Load.f k nv) now → Ev (fun k => wv.l k l1 l2 now nv i) true
  | 0, i, now, nv, h, hb, hn, hz, hl, hld => by
    obtain ⟨K1, h1⟩ := hld
    obtain ⟨K2, h2⟩ := Same_tot now hl
    dsimp only at h1 h2
    refine Ev.succ (g := fun k => (vars_Load.f k nv).bind fun ld => tinderref19_Same.f k ld now) (fun k => ?_) ⟨K1 + K2, fun k hk => ?_⟩
    · rw [wv.l, if_neg (by omega)]
    · show (vars_Load.f k nv).bind _ = _
      rw [h1 k (by omega), Option.bind_some, h2 k (by omega)]
  | m + 1, i, now, nv, h, hb, hn, hz, hl, hld => by
    have hi : i < l1.length := by omega
    have hx : rd_T31 l1 (i : Int) ∈ l1 := by
      show l1.getD ((i : Int).toNat) z31 ∈ l1
      rw [Int.toNat_natCast, List.getD_eq_getElem?_getD, List.getElem?_eq_getElem hi]
      exact List.getElem_mem hi
    obtain ⟨⟨next, e⟩, ⟨K1, hs⟩, hz2, hl2⟩ := set_tot now (rd_T31 l1 (i : Int)).f0 (rd_T31 l1 (i : Int)).f1 hz hl (hz1 _ hx)
    replace hz2 : Sz next := hz2
    replace hl2 : next.length ≤ 2000000 := hl2
    obtain ⟨⟨row, f⟩, ⟨K2, hv⟩, hp⟩ := save_tot nv next hb hz2 hl2
    dsimp only at hs hv
    by_cases hef : e = 0 ∧ f = 0
    · obtain ⟨rfl, rfl⟩ := hef
      obtain ⟨h512, hok, h248, hrow⟩ := hp rfl
      replace hrow : row = planR nv (bytesR next) := hrow
      have hrl : row.length = (bytesR next).length + 9 := by rw [hrow, planR_len]
      obtain ⟨N, hN⟩ : ∃ N : Int, N = (if i < l2.length then rd l2 (i : Int) else (row.length : Int)) := ⟨_, rfl⟩
      obtain ⟨K3, ha⟩ := Apply_tot nv row N (by omega) (by omega)
      dsimp only at ha
      obtain ⟨nv2, hnv2⟩ : ∃ nv2, nv2 = applyR nv (row.take (clampN N row.length)) := ⟨_, rfl⟩
      rw [← hnv2] at ha
      have hb2 : By8 nv2 := by
        rw [hnv2]
        refine apply_by _ _ hb (fun b hb' => ?_)
        have h9 := List.mem_of_mem_take hb'
        rw [hrow] at h9
        exact plan_by nv _ (bytesR_by next) b h9
      have hn2 : nv2.length = 512 := by rw [hnv2, applyR_len, h512]
      by_cases hge : (row.length : Int) ≤ N
      · have hq : recQ nv2 = some (bytesR next) := by
          unfold recQ
          rw [if_pos hn2, hnv2, clamp_full N _ hge, List.take_length, hrow]
          exact rec_full nv _ hb h512 h248
        have hld2 := load_new nv2 next hb2 hq hz2 hok
        obtain ⟨K4, h4⟩ := hld2
        obtain ⟨K5, h5⟩ := Same_tot next hl2
        obtain ⟨K6, h6⟩ := wv_true l1 l2 hz1 m (i + 1) next nv2 (by omega) hb2 (by omega) hz2 hl2 ⟨K4, h4⟩
        dsimp only at h4 h5 h6
        refine ⟨K1 + K2 + K3 + K4 + K5 + K6 + 1, fun k hk => ?_⟩
        obtain ⟨j, rfl⟩ : ∃ j, k = j + 1 := ⟨k - 1, by omega⟩
        show wv.l (j + 1) l1 l2 now nv i = _
        rw [wv.l, if_pos hi, hs j (by omega), Option.bind_some, hv j (by omega), Option.bind_some, if_pos ⟨rfl, rfl⟩, ← hN, ha j (by omega), Option.bind_some, h4 j (by omega), Option.bind_some, if_pos hge, h5 j (by omega), Option.bind_some, if_pos rfl, h6 j (by omega)]
      · have hq : recQ nv2 = recQ nv := by
          unfold recQ
          rw [if_pos hn2, if_pos h512, hnv2, hrow]
          refine rec_part nv _ h512 h248 _ ?_
          have := clamp_part N (planR nv (bytesR next)).length (by rw [← hrow]; exact hge) (by rw [planR_len]; omega)
          exact this
        have hld2 := load_same nv nv2 hb hb2 hq now hld
        obtain ⟨K4, h4⟩ := hld2
        obtain ⟨K5, h5⟩ := Same_tot now hl
        obtain ⟨K6, h6⟩ := wv_true l1 l2 hz1 m (i + 1) now nv2 (by omega) hb2 (by omega) hz hl ⟨K4, h4⟩
        dsimp only at h4 h5 h6
        refine ⟨K1 + K2 + K3 + K4 + K5 + K6 + 1, fun k hk => ?_⟩
        obtain ⟨j, rfl⟩ : ∃ j, k = j + 1 := ⟨k - 1, by omega⟩
        show wv.l (j + 1) l1 l2 now nv i = _
        rw [wv.l, if_pos hi, hs j (by omega), Option.bind_some, hv j (by omega), Option.bind_some, if_pos ⟨rfl, rfl⟩, ← hN, ha j (by omega), Option.bind_some, h4 j (by omega), Option.bind_some, if_neg hge, h5 j (by omega), Option.bind_some, if_pos rfl, h6 j (by omega)]
    · obtain ⟨K6, h6⟩ := wv_true l1 l2 hz1 m (i + 1) now nv (by omega) hb hn hz hl hld
      dsimp only at h6
      refine ⟨K1 + K2 + K6 + 1, fun k hk => ?_⟩
      obtain ⟨j, rfl⟩ : ∃ j, k = j + 1 := ⟨k - 1, by omega⟩
      show wv.l (j + 1) l1 l2 now nv i = _
      rw [wv.l, if_pos hi, hs j (by omega), Option.bind_some, hv j (by omega), Option.bind_some, if_neg hef, h6 j (by omega)]
end Go.Proofs.YtdobpgomgnaleaaDoor.V
