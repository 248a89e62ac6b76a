/- Words beside the print's: a cut with a capacity, the builtin copy into a row of the call's own. No condition. -/
import Derived.Test.YtdobpgomgnaleaaWMore
import Derived.Laws.CopyRow
import Derived.Laws.CopyOwn
import Derived.Lib.BufferWrite
import Derived.WalkSpells
import Derived.Laws.Externs
import Derived.Lib.BytesEntry
import Derived.Lib.Bytealg
namespace Go.Proofs.YtdobpgomgnaleaaW.PrintWords
open Go.RowKit
set_option linter.unusedVariables false
namespace Kd
section
variable {P : Program} {α : Type} {enc : α → Value} {h1 : ∀ x, (enc x).oneCell' = true}
theorem C_eqlen {K : Kd α} {w : World} {A : Option Addr} {n m : Nat} {xs : List α} (e : n = m) (h : K.C w A n xs) : K.C w A m xs := e ▸ h
theorem bne_nil (l : List UInt8) : (l != []) = !l.isEmpty := by cases l <;> rfl
theorem len_mid (xs : List α) (lo hi : Nat) (h : hi ≤ xs.length) : ((xs.take hi).drop lo).length = hi - lo := by
  rw [List.length_drop, List.length_take]
  omega
/-- 'xs[lo:hi:hi]'. -/
theorem lhm_of (t e : TypeId) (kl kh km : IntKind) {i : TypeInfo} (ht : P.underlying t = some (.slice e)) (hi0 : P.info? e = some i) (hsz : i.size = 1) (A : Option Addr) (c : Nat) (xs : List α) (lo hi : Int) (h0 : 0 ≤ lo) (h2 : lo ≤ hi) (h3 : hi ≤ xs.length) (hc : xs.length ≤ c) :
    ∃ A' : Option Addr, (∀ W : World, (Instr.slice t (.slice A xs.length c) (some (.int kl lo)) (some (.int kh hi)) (some (.int km hi))).run P W = .ok (.slice A' (hi.toNat - lo.toNat) (hi.toNat - lo.toNat)) W) ∧
      ∀ (W : World) (ok : Nat → Prop) (e' base : Nat), (scalar enc h1).F W ok A xs.length xs → (scalar enc h1).V e' W base ok (.slice A' (hi.toNat - lo.toNat) (hi.toNat - lo.toNat)) ((xs.take hi.toNat).drop lo.toNat) := by
  have hl := len_mid xs lo.toNat hi.toNat (by omega)
  refine ⟨if hi.toNat = lo.toNat then A else A.map (·.add lo.toNat), fun W => ?_, fun W ok e' base hF => ?_⟩
  · have hel : P.elem t = e := by simp [Program.elem, ht]
    have hu : P.underlying t = some (.slice (P.elem t)) := by rw [hel]; exact ht
    rw [run_slice_lhm W t A xs.length c hu kl kh km lo hi hi h0 h2 (Int.le_refl _) (by omega), hel]
    by_cases he : hi.toNat = lo.toNat
    · simp [sizeOf, typeInfo, hi0, hsz, sliced, Result.andThen, he]
    · have hne : ¬ hi.toNat - lo.toNat = 0 := by omega
      simp [sizeOf, typeInfo, hi0, hsz, sliced, Result.andThen, he]
  · refine ⟨_, hi.toNat - lo.toNat, by rw [hl], by rw [hl]; exact Nat.le_refl _, ?_⟩
    by_cases he : hi.toNat = lo.toNat
    · rw [if_pos he]
      have hn : (xs.take hi.toNat).drop lo.toNat = [] := List.eq_nil_of_length_eq_zero (by rw [hl]; omega)
      rw [hn]
      exact fun W' _ => ⟨rfl, by simp, fun h => absurd h (Nat.lt_irrefl 0)⟩
    · rw [if_neg he]
      have hF2 := F_mid (lo := lo.toNat) (hi := hi.toNat) (c := xs.length + lo.toNat + 1) hF (by omega) (by omega) (by omega)
      rw [if_neg (by omega)] at hF2
      simpa [scalar] using hF2
theorem take_splice {β : Type} (L cs : List β) (off n : Nat) (h : off + cs.length ≤ n) (hn : n ≤ L.length) : (L.take off ++ cs ++ L.drop (off + cs.length)).take n = splice (L.take n) off cs := by
  unfold splice
  rw [List.take_take, Nat.min_eq_left (by omega), ← List.append_assoc, List.take_append, List.take_of_length_le (by rw [List.length_append, List.length_take]; omega)]
  congr 1
  rw [List.length_append, List.length_take, Nat.min_eq_left (by omega), List.take_drop, Nat.add_sub_cancel' h]
theorem map_splice {β : Type} (f : α → β) (L cs : List α) (off : Nat) : (splice L off cs).map f = splice (L.map f) off (cs.map f) := by
  unfold splice
  simp only [List.map_append, List.map_take, List.map_drop, List.length_map]
theorem splice_nil {β : Type} (L : List β) (off : Nat) : splice L off [] = L := by simp [splice]
/-- 'copy(dst, src)': dst lies in a row of the call's own from off on; src is read. -/
theorem run_copy_R {e base : Nat} {ok : Nat → Prop} {W : World} {A : Option Addr} {cap off : Nat} {xs : List α} (dT sT ty elem : TypeId) (hu : P.underlying dT = some (.slice elem)) (hs : (P.info? elem).map (·.size) = some 1)
    (HO : (scalar enc h1).R e W base ok (.slice A xs.length cap) xs) (dp : Option Addr) (dLen dCap : Nat) (hfit : off + dLen ≤ xs.length) (hdp : 0 < dLen → ∃ g, A = some ⟨g, 0, none⟩ ∧ dp = some ⟨g, off, none⟩)
    (ys : List α) (sp : Option Addr) (sCap : Nat) (HR : (scalar enc h1).C W sp ys.length ys) :
    ∃ w1, (Builtin.copy_ #[dT, sT] ty #[.slice dp dLen dCap, .slice sp ys.length sCap]).run P W = .ok (goInt ((ys.take dLen).length)) w1 ∧ (scalar enc h1).R e w1 base ok (.slice A xs.length cap) (splice xs off (ys.take dLen)) ∧ W.grownBy w1 (Value.slice A xs.length cap).ownBlock := by
  have hl : (ys.take dLen).length = Nat.min ys.length dLen := by rw [List.length_take]; exact Nat.min_comm _ _
  by_cases h0 : Nat.min ys.length dLen = 0
  · have hn : ys.take dLen = [] := List.eq_nil_of_length_eq_zero (hl.trans h0)
    refine ⟨W, ?_, ?_, World.grownBy.refl W _⟩
    · rw [hl, h0]
      exact run_copy_none (P := P) W dT sT ty elem dp sp dLen dCap ys.length sCap hu hs h0
    · rw [hn, splice_nil]
      exact HO
  · have hd : 0 < dLen := by
      rcases Nat.eq_zero_or_pos dLen with h | h
      · rw [h] at h0
        exact absurd (Nat.min_zero _) h0
      · exact h
    have hy : 0 < ys.length := by
      rcases Nat.eq_zero_or_pos ys.length with h | h
      · rw [h] at h0
        exact absurd (Nat.zero_min _) h0
      · exact h
    obtain ⟨g, rfl, rfl⟩ := hdp hd
    obtain ⟨ad, rfl, hcell⟩ := HR.2.2 hy
    have ho := own_of_R HO
    rcases ho.2 with ⟨hv, _⟩ | ⟨g', cap', cur, hv, hbase, hheap, hnc, hcm, hsize, htake⟩
    · cases hv
    · injection hv with h1' h2' h3'
      injection h1' with h1'
      injection h1' with h1'
      subst h1' h3'
      rw [Nat.mul_one] at hsize htake
      have hcl : (encs enc (ys.take dLen)).length = Nat.min ys.length dLen := by unfold encs; rw [List.length_map, hl]
      have hle : Nat.min ys.length dLen ≤ dLen := Nat.min_le_right _ _
      have hrun := run_copy_row (P := P) W dT sT ty elem g off dLen dCap ad ys.length sCap cur e (encs enc (ys.take dLen)) hu hs hheap hcl (fun j v hj => by
        unfold encs at hj
        rw [List.getElem?_map, List.getElem?_take] at hj
        by_cases hjd : j < dLen
        · rw [if_pos hjd] at hj
          obtain ⟨y, hy1, rfl⟩ := Option.map_eq_some_iff.1 hj
          obtain ⟨c, _, hK, hc⟩ := hcell j y hy1
          have hK' : c = [enc y] := hK
          have := hc 0 (enc y) (by rw [hK']; rfl)
          simpa [scalar] using this
        · rw [if_neg hjd] at hj
          simp at hj) (by rw [hcl]; omega) (fun v hv => by
        unfold encs at hv
        obtain ⟨y, _, rfl⟩ := List.mem_map.1 hv
        exact h1 y)
      refine ⟨_, by rw [hl, ← hcl]; exact hrun, ?_, ?_⟩
      · have hsl : (splice xs off (ys.take dLen)).length = xs.length := length_splice _ _ _ (by rw [hl]; omega)
        have hR := R_of_own (enc := enc) (h1 := h1) (e := e) (w := W.setRow g (cur.toList.take off ++ encs enc (ys.take dLen) ++ cur.toList.drop (off + (encs enc (ys.take dLen)).length)).toArray) (base := base) (ok := ok) (v := .slice (some ⟨g, 0, none⟩) (splice xs off (ys.take dLen)).length cap) (xs := splice xs off (ys.take dLen)) ⟨by rw [Nat.mul_one]; unfold encs; rw [List.length_map], .inr ⟨g, cap, _, rfl, hbase, setRow_heap W g _ _ e _ hheap, by rw [hsl]; exact hnc, hcm, ?_, ?_⟩⟩ (fun k hk => HO.1 k hk)
        · rw [hsl] at hR
          exact hR
        · have hcu : cur.toList.length = cur.size := Array.length_toList
          rw [Nat.mul_one, ← hsize, List.size_toArray, List.length_append, List.length_append, List.length_take, List.length_drop, hcl, hcu, Nat.min_eq_left (by omega)]
          omega
        · have hcu : cur.toList.length = cur.size := Array.length_toList
          rw [Nat.mul_one, hsl, List.toList_toArray, take_splice _ _ _ _ (by rw [hcl]; omega) (by omega), htake]
          unfold encs
          rw [map_splice]
      · exact ⟨rfl, rfl, rfl, by simp [World.setRow], fun k _ hk => setRow_other W g k _ (fun e => hk (by rw [e]; rfl))⟩
theorem byteCells_enc (s : ByteArray) : Lib.byteCells s.data.toList = encs (Value.int .u8) (bytesOf s) := by
  unfold encs bytesOf Lib.byteCells
  rw [List.map_map]
  rfl
/-- 'copy(dst, s)', s a string that fits. -/
theorem run_copy_R_str {h1 : ∀ x, (Value.int .u8 x).oneCell' = true} {e base : Nat} {ok : Nat → Prop} {W : World} {A : Option Addr} {cap off : Nat} {xs : List Int} (dT sT ty elem : TypeId) (hu : P.underlying dT = some (.slice elem)) (hs : (P.info? elem).map (·.size) = some 1)
    (HO : (scalar (Value.int .u8) h1).R e W base ok (.slice A xs.length cap) xs) (dp : Option Addr) (dLen dCap : Nat) (hfit : off + dLen ≤ xs.length) (hdp : 0 < dLen → ∃ g, A = some ⟨g, 0, none⟩ ∧ dp = some ⟨g, off, none⟩)
    (s : ByteArray) (hsd : s.size ≤ dLen) :
    ∃ w1, (Builtin.copy_ #[dT, sT] ty #[.slice dp dLen dCap, .string s]).run P W = .ok (goInt s.size) w1 ∧ (scalar (Value.int .u8) h1).R e w1 base ok (.slice A xs.length cap) (splice xs off (bytesOf s)) ∧ W.grownBy w1 (Value.slice A xs.length cap).ownBlock := by
  have hbl := bytesOf_length s
  by_cases h0 : s.size = 0
  · have hn : bytesOf s = [] := List.eq_nil_of_length_eq_zero (by rw [hbl]; exact h0)
    refine ⟨W, ?_, ?_, World.grownBy.refl W _⟩
    · rw [h0]
      exact Lib.run_copy_empty_string (P := P) W dT sT ty elem dp dLen dCap s hu (by cases hq : P.info? elem with | none => simp [hq] at hs | some i => rfl) h0
    · rw [hn, splice_nil]
      exact HO
  · obtain ⟨g, rfl, rfl⟩ := hdp (by omega)
    have ho := own_of_R HO
    rcases ho.2 with ⟨hv, _⟩ | ⟨g', cap', cur, hv, hbase, hheap, hnc, hcm, hsize, htake⟩
    · cases hv
    · injection hv with h1' h2' h3'
      injection h1' with h1'
      injection h1' with h1'
      subst h1' h3'
      rw [Nat.mul_one] at hsize htake
      have hcu : cur.toList.length = cur.size := Array.length_toList
      have hcl : (encs (Value.int .u8) (bytesOf s)).length = s.size := by unfold encs; rw [List.length_map, hbl]
      have hrun := Lib.run_copy_row_string (P := P) W dT sT ty elem g off dLen dCap s cur e hu hs hheap hsd (by omega)
      rw [byteCells_enc] at hrun
      refine ⟨_, hrun, ?_, ?_⟩
      · have hsl : (splice xs off (bytesOf s)).length = xs.length := length_splice _ _ _ (by rw [hbl]; omega)
        have hR := R_of_own (enc := Value.int .u8) (h1 := h1) (e := e) (w := W.setRow g (cur.toList.take off ++ encs (Value.int .u8) (bytesOf s) ++ cur.toList.drop (off + s.size)).toArray) (base := base) (ok := ok) (v := .slice (some ⟨g, 0, none⟩) (splice xs off (bytesOf s)).length cap) (xs := splice xs off (bytesOf s)) ⟨by rw [Nat.mul_one]; unfold encs; rw [List.length_map], .inr ⟨g, cap, _, rfl, hbase, setRow_heap W g _ _ e _ hheap, by rw [hsl]; exact hnc, hcm, ?_, ?_⟩⟩ (fun k hk => HO.1 k hk)
        · rw [hsl] at hR
          exact hR
        · rw [Nat.mul_one, ← hsize, List.size_toArray, List.length_append, List.length_append, List.length_take, List.length_drop, hcl, hcu, Nat.min_eq_left (by omega)]
          omega
        · rw [Nat.mul_one, hsl, List.toList_toArray]
          have h2 := take_splice cur.toList (encs (Value.int .u8) (bytesOf s)) off xs.length (by rw [hcl]; omega) (by omega)
          rw [hcl] at h2
          rw [h2, htake]
          unfold encs
          rw [map_splice]
      · exact ⟨rfl, rfl, rfl, by simp [World.setRow], fun k _ hk => setRow_other W g k _ (fun e => hk (by rw [e]; rfl))⟩
section
variable {ops : Array Oper} {rest : List Oper} {o : Oper} {a : Act} {Q : Exit → Act → World → Prop}
/-- The builtin copy as a step of the walk: src a slice that is read. -/
theorem wpList_copy_R {e base : Nat} {ok : Nat → Prop} {w0 W : World} {A : Option Addr} {cap off : Nat} {xs : List α} (hgd : o.guard = none) (d s : Operand) (dT sT : TypeId)
    (hop : o.op = .call { callee := .builtin .copy, args := #[d, s], argTypes := #[dT, sT] }) (elem : TypeId) (hu : P.underlying dT = some (.slice elem)) (hs : (P.info? elem).map (·.size) = some 1)
    (dp : Option Addr) (dLen dCap : Nat) (sp : Option Addr) (sCap : Nat) (ys : List α) (hd : a.eval d = .slice dp dLen dCap) (hsrc : a.eval s = .slice sp ys.length sCap)
    (HO : (scalar enc h1).R e W base ok (.slice A xs.length cap) xs) (hfit : off + dLen ≤ xs.length) (hdp : 0 < dLen → ∃ g, A = some ⟨g, 0, none⟩ ∧ dp = some ⟨g, off, none⟩)
    (HR : (scalar enc h1).C W sp ys.length ys) (HB : Below base w0 W) (hbase : base ≤ W.heap.size)
    (h : ∀ w1, (scalar enc h1).R e w1 base ok (.slice A xs.length cap) (splice xs off (ys.take dLen)) → Below base w0 w1 → W.grownBy w1 (Value.slice A xs.length cap).ownBlock → wpList P ops Q rest (a.put o.dst (goInt ((ys.take dLen).length))) w1) :
    wpList P ops Q (o :: rest) a W := by
  refine wpList_plain hgd fun K hK => ?_
  obtain ⟨w1, hrun, hR, hg⟩ := run_copy_R (P := P) dT sT o.type elem hu hs HO dp dLen dCap hfit hdp ys sp sCap HR
  unfold Oper.wp execOp
  simp only [hop, resolve, invoke, builtin, Sem.run_bind, Sem.run_pure, Result.andThen_ok, List.map_toArray, List.map_cons, List.map_nil, hd, hsrc, hrun]
  exact hK _ _ (h w1 hR (HB.grown hg hbase (own_base (own_of_R HO))) hg)
/-- The builtin copy as a step of the walk: src a string that fits. -/
theorem wpList_copy_R_str {h1 : ∀ x, (Value.int .u8 x).oneCell' = true} {e base : Nat} {ok : Nat → Prop} {w0 W : World} {A : Option Addr} {cap off : Nat} {xs : List Int} (hgd : o.guard = none) (d s : Operand) (dT sT : TypeId)
    (hop : o.op = .call { callee := .builtin .copy, args := #[d, s], argTypes := #[dT, sT] }) (elem : TypeId) (hu : P.underlying dT = some (.slice elem)) (hs : (P.info? elem).map (·.size) = some 1)
    (dp : Option Addr) (dLen dCap : Nat) (t : ByteArray) (hd : a.eval d = .slice dp dLen dCap) (hsrc : a.eval s = .string t)
    (HO : (scalar (Value.int .u8) h1).R e W base ok (.slice A xs.length cap) xs) (hfit : off + dLen ≤ xs.length) (hdp : 0 < dLen → ∃ g, A = some ⟨g, 0, none⟩ ∧ dp = some ⟨g, off, none⟩)
    (hsd : t.size ≤ dLen) (HB : Below base w0 W) (hbase : base ≤ W.heap.size)
    (h : ∀ w1, (scalar (Value.int .u8) h1).R e w1 base ok (.slice A xs.length cap) (splice xs off (bytesOf t)) → Below base w0 w1 → W.grownBy w1 (Value.slice A xs.length cap).ownBlock → wpList P ops Q rest (a.put o.dst (goInt t.size)) w1) :
    wpList P ops Q (o :: rest) a W := by
  refine wpList_plain hgd fun K hK => ?_
  obtain ⟨w1, hrun, hR, hg⟩ := run_copy_R_str (P := P) dT sT o.type elem hu hs HO dp dLen dCap hfit hdp t hsd
  unfold Oper.wp execOp
  simp only [hop, resolve, invoke, builtin, Sem.run_bind, Sem.run_pure, Result.andThen_ok, List.map_toArray, List.map_cons, List.map_nil, hd, hsrc, hrun]
  exact hK _ _ (h w1 hR (HB.grown hg hbase (own_base (own_of_R HO))) hg)
theorem own_head {e base : Nat} {ok : Nat → Prop} {W : World} {A : Option Addr} {cap : Nat} {xs : List α} (HO : (scalar enc h1).R e W base ok (.slice A xs.length cap) xs) (h : 0 < xs.length) :
    ∃ g, A = some ⟨g, 0, none⟩ ∧ A = some ⟨g, 0, none⟩ := by
  have ho := own_of_R HO
  rcases ho.2 with ⟨hv, hn⟩ | ⟨g, cap', cur, hv, _⟩
  · omega
  · injection hv with h1' h2' h3'
    exact ⟨g, h1', h1'⟩
/-- 'xs[lo:]' of a row of the call's own: where it begins. -/
theorem own_tail {e base : Nat} {ok : Nat → Prop} {W : World} {A : Option Addr} {cap : Nat} {xs : List α} (HO : (scalar enc h1).R e W base ok (.slice A xs.length cap) xs) (off : Nat) (h : 0 < xs.length - off) :
    ∃ g, A = some ⟨g, 0, none⟩ ∧ (if cap = off then A else A.map (·.add (off * 1))) = some ⟨g, off, none⟩ := by
  have ho := own_of_R HO
  rcases ho.2 with ⟨hv, hn⟩ | ⟨g, cap', cur, hv, _, _, hnc, _⟩
  · omega
  · injection hv with h1' h2' h3'
    subst h1' h3'
    refine ⟨g, rfl, ?_⟩
    rw [if_neg (by omega), Nat.mul_one]
    simp only [Option.map_some, Addr.add]
    by_cases h0 : off = 0
    · simp [h0]
    · simp [h0]
end
/-- The bytes of a slice that is read, as a body-less function of the library takes them. -/
theorem run_bytesOf_C {h1 : ∀ x, (Value.int .u8 x).oneCell' = true} {W : World} {A : Option Addr} {c : Nat} {xs : List Int} (HR : (scalar (Value.int .u8) h1).C W A xs.length xs) :
    (Extern.Bytes.bytesOf (.slice A xs.length c)).run P W = .ok ⟨(Lib.bytesOf xs).toArray⟩ W := by
  cases A with
  | none =>
    have h0 : xs = [] := by
      rcases Nat.eq_zero_or_pos xs.length with h0 | h0
      · exact List.eq_nil_of_length_eq_zero h0
      · obtain ⟨ad, h1, _⟩ := HR.2.2 h0
        cases h1
    subst h0
    rfl
  | some ad =>
    have hl := Lib.run_loadBytesX (P := P) (w := W) xs ad .empty (fun j x hj => by
      have hjl := (List.getElem?_eq_some_iff.1 hj).1
      obtain ⟨ad', e, hc⟩ := HR.2.2 (by omega)
      injection e with e
      subst e
      obtain ⟨cs, _, hK, hcell⟩ := hc j x hj
      have hK' : cs = [Value.int .u8 x] := hK
      have := hcell 0 (.int .u8 x) (by rw [hK']; rfl)
      simpa [scalar] using this)
    have he : (⟨ByteArray.empty.data ++ (Lib.bytesOf xs).toArray⟩ : ByteArray) = ⟨(Lib.bytesOf xs).toArray⟩ := by
      apply ByteArray.ext
      show (#[] : Array UInt8) ++ (Lib.bytesOf xs).toArray = (Lib.bytesOf xs).toArray
      simp
    rw [he] at hl
    exact hl
theorem run_compareSlices {h1 : ∀ x, (Value.int .u8 x).oneCell' = true} {W : World} {A B : Option Addr} {c d : Nat} {xs ys : List Int} (HR : (scalar (Value.int .u8) h1).C W A xs.length xs) (HS : (scalar (Value.int .u8) h1).C W B ys.length ys) :
    (Extern.BytealgCompare.compare #[.slice A xs.length c, .slice B ys.length d]).run P W = .ok (.int .i64 (Lib.compareBytes (Lib.bytesOf xs) (Lib.bytesOf ys))) W := by
  change Sem.run P (do pure (goInt (Extern.BytealgCompare.cmp (← Extern.Bytes.bytesOf (.slice A xs.length c)) (← Extern.Bytes.bytesOf (.slice B ys.length d))))) W = _
  simp only [Sem.run_bind, Sem.run_pure, run_bytesOf_C HR, run_bytesOf_C HS, Result.andThen]
  rw [Lib.cmp_eq]
  rfl
end
end Kd
end Go.Proofs.YtdobpgomgnaleaaW.PrintWords
