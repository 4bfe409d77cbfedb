/- ttlv, plain: what is encoded is decoded to the same, what is decoded is encoded as the same bytes. -/
import Derived.Test.YteenglgnakenmaaDoorTtlN
namespace Go.Proofs.YteenglgnakenmaaDoor
open Go.RowKit
set_option linter.unusedVariables false
set_option linter.unusedSimpArgs false
set_option maxRecDepth 100000
set_option maxHeartbeats 3200000
theorem fold_small (s : Itm → Nat) : ∀ (l : List Itm) (n : Nat), n + sumL s l < 2147483648 → l.foldl (fun n k => min (n + s k) 2147483648) n = n + sumL s l
  | [], n, _ => rfl
  | y :: l, n, h => by
    have h0 : (y :: l).foldl (fun n k => min (n + s k) 2147483648) n = l.foldl (fun n k => min (n + s k) 2147483648) (min (n + s y) 2147483648) := rfl
    simp only [sumL] at h ⊢
    rw [h0, Nat.min_eq_left (by omega), fold_small s l _ (by omega)]
    omega
theorem enc_mem : ∀ (l : List Itm) (x : Itm), x ∈ l → x.enc.length ≤ (encAll l).length
  | [], x, h => by cases h
  | y :: l, x, h => by
    simp only [encAll, List.length_append]
    rcases List.mem_cons.1 h with rfl | h'
    · omega
    · have := enc_mem l x h'; omega
theorem enc_size2 : ∀ (f : Nat) (i : Itm) (c c' : Nat), walkP f i c = some c' → ∀ g, f ≤ g → i.enc.length < 2147483648 → sizeF g i = i.enc.length
  | 0, i, c, c', h, g, _, _ => by simp [walkP] at h
  | f + 1, i, c, c', h, g, hg, hs => by
    obtain ⟨g', rfl⟩ : ∃ g', g = g' + 1 := ⟨g - 1, by omega⟩
    rw [walkP] at h
    split at h
    · rename_i hc
      rw [enc_len] at hs ⊢
      by_cases ht : i.typ = 1
      · have h5 : bodyI i = encAll i.kids := by unfold bodyI; rw [if_pos ht]
        rw [h5] at hs ⊢
        have h4 := encAll_mod i.kids
        have h6 := (up8_ge (8 + (encAll i.kids).length)).1
        have h3 : (encAll i.kids).length = sumL (sizeF g') i.kids := encAll_sum i.kids fun x hx => by
          obtain ⟨d, d', hd⟩ := walkL_mem i.kids _ _ h x hx
          have := enc_mem i.kids x hx
          exact (enc_size2 f x d d' hd g' (by omega) (by omega)).symm
        rw [sizeF_k ht, fold_small _ _ _ (by omega)]
        unfold up8
        omega
      · cases hd : isD i.typ with
        | true =>
          have h5 : bodyI i = i.data := by unfold bodyI; rw [if_neg ht, if_pos hd]
          rw [sizeF_d ht hd]
          rw [h5] at hs ⊢
          unfold up8 at *
          omega
        | false =>
          rw [sizeF_o ht hd]
          cases hq : isS i.typ with
          | true =>
            have h5 : bodyI i = be 4 (u64nat i.int) := by unfold bodyI; rw [if_neg ht, if_neg (by rw [hd]; decide), if_pos hq]
            rw [h5, be_len]; rfl
          | false =>
            have h5 : bodyI i = be 8 (u64nat i.int) := by unfold bodyI; rw [if_neg ht, if_neg (by rw [hd]; decide), if_neg (by rw [hq]; decide)]
            rw [h5, be_len]; rfl
    · cases h
theorem lenI_body {f : Nat} {i : Itm} {c c' : Nat} (h : walkP f i c = some c') (hf : f ≤ 100) (hs : i.enc.length < 2147483648) : lenI i = ((bodyI i).length : Int) := by
  have h1 := enc_size2 f i c c' h 100 hf hs
  have h2 := enc_len i
  unfold lenI
  split
  · rename_i ht
    have h5 : bodyI i = encAll i.kids := by unfold bodyI; rw [if_pos ht]
    rw [h5] at h2 ⊢
    have h4 := encAll_mod i.kids
    rw [h1, h2]
    unfold up8
    omega
  · rename_i ht
    split
    · rename_i hd
      have h5 : bodyI i = i.data := by unfold bodyI; rw [if_neg ht, if_pos hd]
      rw [h5]
    · rename_i hd
      split
      · rename_i hq
        have h5 : bodyI i = be 4 (u64nat i.int) := by unfold bodyI; rw [if_neg ht, if_neg hd, if_pos hq]
        rw [h5, be_len]; rfl
      · rename_i hq
        have h5 : bodyI i = be 8 (u64nat i.int) := by unfold bodyI; rw [if_neg ht, if_neg hd, if_neg hq]
        rw [h5, be_len]; rfl
theorem kids_enc {f : Nat} (IH : ∀ l c i r c', decF f l c = .ok i r c' → l.length ≤ 8192 → l = i.enc ++ r ∧ walkP f i c = some c') : ∀ (g : Nat) (l : List UInt8) (c : Nat) (acc ks : List Itm) (c' : Nat), l.length ≤ g → kidsD (decF f) g l c acc = .ok ks c' → l.length ≤ 8192 → ∃ new, ks = acc ++ new ∧ l = encAll new ∧ walkL (walkP f) new c = some c'
  | 0, l, c, acc, ks, c', hg, h, hl => by
    simp only [kidsD, KR.ok.injEq] at h
    obtain ⟨rfl, rfl⟩ := h
    exact ⟨[], by simp, by simp [encAll, List.length_eq_zero_iff.1 (Nat.le_zero.1 hg)], rfl⟩
  | g + 1, l, c, acc, ks, c', hg, h, hl => by
    rw [kidsD] at h
    split at h
    · rename_i h0
      simp only [KR.ok.injEq] at h
      obtain ⟨rfl, rfl⟩ := h
      exact ⟨[], by simp, by simp [encAll, List.length_eq_zero_iff.1 h0], rfl⟩
    · cases h2 : decF f l c with
      | err e => rw [h2] at h; cases h
      | ok i r d =>
        rw [h2] at h
        simp only at h
        have k1 := (decF_le f l c i r d h2).2
        obtain ⟨e1, e2⟩ := IH l c i r d h2 hl
        obtain ⟨new, rfl, e3, e4⟩ := kids_enc IH g r d (acc ++ [i]) ks c' (by omega) h (by omega)
        refine ⟨i :: new, by simp, ?_, ?_⟩
        · simp only [encAll]; rw [← e3]; exact e1
        · simp only [walkL, e2]; exact e4
theorem isD_iff {k : Int} : isD k = true ↔ k = 4 ∨ k = 7 ∨ k = 8 := by unfold isD; simp
theorem isS_iff {k : Int} : isS k = true ↔ k = 2 ∨ k = 5 ∨ k = 10 := by unfold isS; simp
theorem shortV_be {k : Int} {b : List UInt8} (hb : b.length = 4) : be 4 (u64nat (shortV k b)) = b := by
  have h1 := be_num 4 b hb (by decide)
  have h2 := num_small 4 b hb
  have h3 : (256 : Nat) ^ 4 = 4294967296 := by decide
  have h4 := pI_one (k := 4) (z := 4) rfl hb (by decide)
  unfold shortV
  rw [h4]
  simp only
  split
  · rw [be_mod, h3]
    have h5 : u64nat (wrap64 (wrap32 ((num b : Nat) : Int))) % 4294967296 = num b := by
      unfold u64nat wrap64 wrap32
      omega
    rw [h5]; exact h1
  · rw [u64nat_nat _ (by omega)]; exact h1
theorem itm_eta (i : Itm) : (⟨i.tag, i.typ, i.int, i.data, i.kids⟩ : Itm) = i := by cases i; rfl
theorem short_back {n : Int} (h1 : -2147483648 ≤ n) (h2 : n < 2147483648) : wrap64 (wrap32 ((u64nat n % 4294967296 : Nat) : Int)) = n := by
  have e : ((u64nat n % 4294967296 : Nat) : Int) = n % 4294967296 := by unfold u64nat; omega
  rw [e]
  have e2 : wrap32 (n % 4294967296) = n := by unfold wrap32; omega
  rw [e2]
  unfold wrap64
  omega
theorem shortV_in {k : Int} {b : List UInt8} (hb : b.length = 4) (hk : isS k = true) : numB k (shortV k b) = true := by
  have h2 := num_small 4 b hb
  have h3 : (256 : Nat) ^ 4 = 4294967296 := by decide
  have h4 := pI_one (k := 4) (z := 4) rfl hb (by decide)
  unfold shortV
  rw [h4]
  simp only
  unfold numB
  split
  · unfold wrap64 wrap32
    simp only [Bool.and_eq_true, decide_eq_true_eq]
    omega
  · rename_i hk2
    rcases isS_iff.1 hk with rfl | rfl | rfl
    · exact absurd rfl hk2
    · simp only [true_or, if_true, Bool.and_eq_true, decide_eq_true_eq]; omega
    · simp only [or_true, if_true, Bool.and_eq_true, decide_eq_true_eq]; omega
theorem long_be {b : List UInt8} (hb : b.length = 8) : (pI 8 (b, false)).1 = asInt (num b) ∧ be 8 (u64nat (pI 8 (b, false)).1) = b := by
  have h := taken_good (l := b) (k := 8) (by omega)
  have e : (pI 8 (b, false)).1 = asInt (num b) := by
    unfold pI
    rw [show ((8 : Int)) = ((8 : Nat) : Int) from rfl, h.1, List.take_of_length_le (by omega)]
  refine ⟨e, ?_⟩
  rw [e]
  have h2 := num_lt b
  have h5 : u64nat (asInt (num b)) = num b := by
    rw [← asInt_eq]
    unfold u64nat wrap64
    omega
  rw [h5]
  exact be_num 8 b hb (by decide)
theorem dec_enc : ∀ (f : Nat), f ≤ 100 → ∀ (l : List UInt8) (c : Nat) (i : Itm) (r : List UInt8) (c' : Nat), decF f l c = .ok i r c' → l.length ≤ 8192 → l = i.enc ++ r ∧ walkP f i c = some c'
  | 0, _, l, c, i, r, c', h, _ => by
    rw [decF] at h
    split at h <;> cases h
  | f + 1, hf, l, c, i, r, c', h, hl => by
    rw [decF] at h
    split at h
    · cases h
    rename_i h8
    split at h
    · cases h
    rename_i hq
    split at h
    · cases h
    rename_i hlen
    split at h
    · cases h
    rename_i hof
    obtain ⟨a, b, cc, d, hs, ha, hb, hc, hd⟩ := head_split (l := l) (by omega)
    have hh := head_of (r := l.drop 8) ha hb hc hd
    rw [← hs] at hh
    obtain ⟨hT, hK, hN, _⟩ := hh
    have na := num_small 1 a ha
    have nb := num_small 2 b hb
    have nc := num_small 1 cc hc
    have nd := num_small 4 d hd
    have p1 : (256 : Nat) ^ 1 = 256 := by decide
    have p2 : (256 : Nat) ^ 2 = 65536 := by decide
    have p4 : (256 : Nat) ^ 4 = 4294967296 := by decide
    rw [p1] at na nc
    rw [p2] at nb
    rw [p4] at nd
    have hNn : (lenD l).toNat = num d := by omega
    rw [hNn] at h hof
    have hdl : num d ≤ (l.drop 8).length := by omega
    have hbl : ((l.drop 8).take (num d)).length = num d := by rw [List.length_take]; omega
    generalize hB : (l.drop 8).take (num d) = B at *
    generalize hk : typD l = k at *
    have hBL : B.length ≤ 8192 := by rw [hbl]; simp only [List.length_drop] at hdl; omega
    simp only [not_or] at hq
    obtain ⟨q1, q2, q3, q4⟩ := hq
    have q2' : tagB (tagD l) = true := by simpa using q2
    cases h2 : bodyD (decF f) k B (c + 1) with
    | err e => rw [h2] at h; cases h
    | ok n dd ks c2 =>
      rw [h2] at h
      simp only at h
      cases h3 : padE (l.drop 8) (up8 (num d) - num d) (num d) with
      | some e => rw [h3] at h; cases h
      | none =>
        rw [h3] at h
        simp only [DR.ok.injEq] at h
        obtain ⟨rfl, rfl, rfl⟩ := h
        obtain ⟨hp1, hp2⟩ := pad_none _ _ _ hdl h3
        have hu := up8_ge (num d)
        -- what stands in it
        have key : Itm.plain ⟨tagD l, k, n, dd, ks⟩ = true ∧ walkL (walkP f) ks (c + 1) = some c2 ∧ bodyI ⟨tagD l, k, n, dd, ks⟩ = B := by
          unfold Itm.plain plainP bodyI
          simp only [q2', Bool.true_and, decide_eq_true (show 1 ≤ k by omega), decide_eq_true (show k ≤ 10 by omega)]
          unfold bodyD at h2
          split at h2
          · rename_i hk1
            subst hk1
            cases h4 : kidsD (decF f) B.length B (c + 1) [] with
            | err e => rw [h4] at h2; cases h2
            | ok ks2 c3 =>
              rw [h4] at h2
              simp only [BR.ok.injEq] at h2
              obtain ⟨rfl, rfl, rfl, rfl⟩ := h2
              obtain ⟨new, e1, e2, e3⟩ := kids_enc (fun l c i r c' h h' => dec_enc f (by omega) l c i r c' h h') _ _ _ _ _ _ (Nat.le_refl _) h4 hBL
              rw [List.nil_append] at e1
              subst e1
              refine ⟨?_, e3, ?_⟩
              · simp [isD, numB, datB]
              · rw [if_pos rfl]; exact e2.symm
          · rename_i hk1
            split at h2
            · rename_i hkd
              split at h2
              · rename_i hdat
                simp only [BR.ok.injEq] at h2
                obtain ⟨rfl, rfl, rfl, rfl⟩ := h2
                refine ⟨?_, rfl, ?_⟩
                · have hn : numB k 0 = true := by rcases isD_iff.1 hkd with rfl | rfl | rfl <;> rfl
                  simp [hkd, hn, hdat]
                · rw [if_neg hk1, if_pos hkd]
              · cases h2
            · rename_i hkd
              have hdt : datB k [] = true := by
                unfold datB
                rw [if_neg (fun e => hkd (isD_iff.2 (.inl e))), if_neg (fun e => hkd (isD_iff.2 (.inr (.inl e))))]
              have hkd' : isD k = false := by simpa using hkd
              have hk1' : (k == 1) = false := by simpa using hk1
              split at h2
              · rename_i hks
                have h4 : num d = 4 := by
                  have : ofB k (num d) = decide (num d = 4) := by
                    unfold ofB
                    rw [if_neg hk1, if_neg (fun e => hkd (isD_iff.2 (.inl e))), if_neg hkd, if_pos hks]
                  rw [this] at hof
                  simpa using hof
                simp only [BR.ok.injEq] at h2
                obtain ⟨rfl, rfl, rfl, rfl⟩ := h2
                refine ⟨?_, rfl, ?_⟩
                · have hn := shortV_in (by rw [hbl]; exact h4) hks
                  simp [hkd', hk1', hn, hdt]
                · rw [if_neg hk1, if_neg hkd, if_pos hks]
                  exact shortV_be (by rw [hbl]; exact h4)
              · rename_i hks
                split at h2
                · rename_i hnb
                  have h4 : num d = 8 := by
                    have : ofB k (num d) = decide (num d = 8) := by
                      unfold ofB
                      rw [if_neg hk1, if_neg (fun e => hkd (isD_iff.2 (.inl e))), if_neg hkd, if_neg hks]
                    rw [this] at hof
                    simpa using hof
                  simp only [BR.ok.injEq] at h2
                  obtain ⟨rfl, rfl, rfl, rfl⟩ := h2
                  refine ⟨?_, rfl, ?_⟩
                  · simp [hkd', hk1', hnb, hdt]
                  · rw [if_neg hk1, if_neg hkd, if_neg hks]
                    exact (long_be (by rw [hbl]; exact h4)).2
                · cases h2
        obtain ⟨hpl, hwk, hbd⟩ := key
        have hwp : walkP (f + 1) ⟨tagD l, k, n, dd, ks⟩ c = some c2 := by
          rw [walkP, if_pos ⟨by omega, hpl⟩]; exact hwk
        refine ⟨?_, hwp⟩
        have hel := enc_len ⟨tagD l, k, n, dd, ks⟩
        rw [hbd, hbl, up8_add] at hel
        have hln := lenI_body hwp hf (by rw [hel]; simp only [List.length_drop] at hp1; omega)
        rw [hbd, hbl] at hln
        have hhd : headI ⟨tagD l, k, n, dd, ks⟩ = a ++ (b ++ (cc ++ d)) := by
          unfold headI
          rw [hln]
          simp only
          have t1 : u64nat (tagD l / 65536) = num a := by rw [hT]; unfold u64nat; omega
          have t2 : u64nat (tagD l) % 65536 = num b := by rw [hT]; unfold u64nat; omega
          have t3 : u64nat k = num cc := by rw [hK]; exact u64nat_nat _ (by omega)
          rw [t1, be_mod 2, p2, t2, t3, u64nat_nat _ (by omega), be_num 1 a ha (by decide), be_num 2 b hb (by decide), be_num 1 cc hc (by decide), be_num 4 d hd (by decide)]
        rw [Itm.enc_eq, hhd, hbd]
        unfold pad8
        have hxl : ((a ++ (b ++ (cc ++ d))) ++ B).length = 8 + num d := by simp only [List.length_append]; omega
        rw [hxl, up8_add, show 8 + up8 (num d) - (8 + num d) = up8 (num d) - num d by omega]
        have e1 : l.drop 8 = B ++ (List.replicate (up8 (num d) - num d) 0 ++ (l.drop 8).drop (up8 (num d))) := by
          have e2 := List.take_append_drop (num d) (l.drop 8)
          rw [hB] at e2
          have e3 := List.take_append_drop (up8 (num d) - num d) ((l.drop 8).drop (num d))
          rw [hp2, List.drop_drop, show num d + (up8 (num d) - num d) = up8 (num d) by omega] at e3
          rw [e3, e2]
        have e4 : l = (a ++ (b ++ (cc ++ d))) ++ l.drop 8 := by
          have h5 := hs
          simp only [List.append_assoc]
          exact h5
        rw [e1] at e4
        rw [List.append_assoc, List.append_assoc, ← e4]
mutual
/-- All its numbers are some that are. -/
def Itm.fit : Itm → Prop
  | ⟨t, k, n, d, ks⟩ => (-9223372036854775808 ≤ n ∧ n < 9223372036854775808) ∧ fitAll ks
def fitAll : List Itm → Prop
  | [] => True
  | x :: l => x.fit ∧ fitAll l
end
theorem fitAll_iff : ∀ (l : List Itm), fitAll l ↔ ∀ x ∈ l, x.fit
  | [] => by simp [fitAll]
  | y :: l => by
    simp only [fitAll, List.mem_cons, forall_eq_or_imp, fitAll_iff l]
theorem fit_iff (i : Itm) : i.fit ↔ (-9223372036854775808 ≤ i.int ∧ i.int < 9223372036854775808) ∧ ∀ x ∈ i.kids, x.fit := by
  cases i with
  | mk t k n d ks => simp only [Itm.fit]; rw [fitAll_iff]
theorem plain_of {i : Itm} (h : i.plain = true) : tagB i.tag = true ∧ 1 ≤ i.typ ∧ i.typ ≤ 10 ∧ (i.typ ≠ 1 → i.kids = []) ∧ (isD i.typ = false → i.data = []) ∧ (i.typ = 1 ∨ isD i.typ = true → i.int = 0) ∧ numB i.typ i.int = true ∧ datB i.typ i.data = true := by
  unfold Itm.plain plainP at h
  simp only [Bool.and_eq_true, decide_eq_true_eq, Bool.not_eq_true'] at h
  obtain ⟨h1, h2, h3, h4, h5, h6, h7, h8⟩ := h
  refine ⟨h1, h2, h3, fun hk => ?_, fun hk => ?_, fun hk => ?_, h7, h8⟩
  · have : (i.typ != 1) = true := by simpa using hk
    rw [this, Bool.true_and] at h4
    simp at h4
    exact h4
  · rw [hk] at h5
    simp at h5
    exact h5
  · have : (i.typ == 1 || isD i.typ) = true := by
      rcases hk with hk | hk
      · simp [hk]
      · simp [hk]
    rw [this, Bool.true_and] at h6
    simpa using h6
theorem kids_dec {f : Nat} (IH : ∀ i c c', walkP f i c = some c' → i.fit → i.enc.length < 2147483648 → ∀ r, decF f (i.enc ++ r) c = .ok i r c') : ∀ (ks : List Itm) (g c : Nat) (acc : List Itm) (c' : Nat), (encAll ks).length ≤ g → (encAll ks).length < 2147483648 → (∀ x ∈ ks, x.fit) → walkL (walkP f) ks c = some c' → kidsD (decF f) g (encAll ks) c acc = .ok (acc ++ ks) c'
  | [], g, c, acc, c', _, _, _, h => by
    simp only [walkL, Option.some.injEq] at h
    subst h
    cases g with
    | zero => simp [kidsD]
    | succ g => rw [kidsD, if_pos (by simp [encAll])]; simp
  | x :: ks, g, c, acc, c', hg, hl, hfit, h => by
    simp only [encAll, List.length_append] at hg hl ⊢
    have hx8 : 8 ≤ x.enc.length := by rw [enc_len]; have := (up8_ge (8 + (bodyI x).length)).1; omega
    obtain ⟨g', rfl⟩ : ∃ g', g = g' + 1 := ⟨g - 1, by omega⟩
    simp only [walkL] at h
    cases h1 : walkP f x c with
    | none => rw [h1] at h; cases h
    | some d =>
      rw [h1] at h
      rw [kidsD, if_neg (by rw [List.length_append]; omega), IH x c d h1 (hfit x (by simp)) (by omega) (encAll ks)]
      simp only
      rw [kids_dec IH ks g' d (acc ++ [x]) c' (by omega) (by omega) (fun y hy => hfit y (by simp [hy])) h]
      simp
theorem enc_dec : ∀ (f : Nat), f ≤ 100 → ∀ (i : Itm) (c c' : Nat), walkP f i c = some c' → i.fit → i.enc.length < 2147483648 → ∀ r, decF f (i.enc ++ r) c = .ok i r c'
  | 0, _, i, c, c', h, _, _, _ => by simp [walkP] at h
  | f + 1, hf, i, c, c', hw, hfit, hs, r => by
    have hln := lenI_body hw hf hs
    have hel := enc_len i
    have h := hw
    rw [walkP] at h
    split at h
    · rename_i hc
      obtain ⟨p1, p2, p3, p4, p5, p6, p7, p8⟩ := plain_of hc.2
      have hu := up8_ge (bodyI i).length
      have hu2 := up8_add (bodyI i).length
      have hbl : (bodyI i).length < 4294967296 := by omega
      have e1 : i.enc ++ r = be 1 (u64nat (i.tag / 65536)) ++ (be 2 (u64nat i.tag) ++ (be 1 (u64nat i.typ) ++ (be 4 (u64nat (lenI i)) ++ (bodyI i ++ (List.replicate (up8 (bodyI i).length - (bodyI i).length) 0 ++ r))))) := by
        rw [Itm.enc_eq]
        unfold pad8
        rw [List.length_append, headI_len, up8_add, show 8 + up8 (bodyI i).length - (8 + (bodyI i).length) = up8 (bodyI i).length - (bodyI i).length by omega]
        unfold headI
        simp only [List.append_assoc]
      obtain ⟨hT, hK, hN, hD⟩ := head_of (a := be 1 (u64nat (i.tag / 65536))) (b := be 2 (u64nat i.tag)) (c := be 1 (u64nat i.typ)) (d := be 4 (u64nat (lenI i))) (r := bodyI i ++ (List.replicate (up8 (bodyI i).length - (bodyI i).length) 0 ++ r)) (be_len _ _) (be_len _ _) (be_len _ _) (be_len _ _)
      rw [← e1] at hT hK hN hD
      have hlen : 8 ≤ (i.enc ++ r).length := by rw [List.length_append]; omega
      generalize i.enc ++ r = L at *
      rw [num_be _ _ (by decide)] at hK hN
      rw [num_be _ _ (by decide), num_be _ _ (by decide)] at hT
      have tt : i.tag / 65536 = 66 ∨ i.tag / 65536 = 84 := by unfold tagB at p1; simpa using p1
      have hT2 : tagD L = i.tag := by
        rw [hT]
        have q1 : (256 : Nat) ^ 1 = 256 := by decide
        have q2 : (256 : Nat) ^ 2 = 65536 := by decide
        rw [q1, q2]
        unfold u64nat
        omega
      have hK2 : typD L = i.typ := by
        rw [hK]
        have q1 : (256 : Nat) ^ 1 = 256 := by decide
        rw [q1]
        unfold u64nat
        omega
      have hN2 : lenD L = ((bodyI i).length : Int) := by
        rw [hN, hln]
        have q1 : (256 : Nat) ^ 4 = 4294967296 := by decide
        rw [q1, u64nat_nat _ (by omega), Nat.mod_eq_of_lt hbl]
      rw [decF, if_neg (by omega), hT2, hK2, hN2, hD, Int.toNat_natCast]
      rw [if_neg (by simp only [not_or]; exact ⟨by omega, by rw [p1]; decide, by omega, by omega⟩)]
      rw [if_neg (by simp only [List.length_append]; omega)]
      have hof : ofB i.typ (bodyI i).length = true := by
        unfold ofB
        split
        · rfl
        · rename_i k1
          split
          · rename_i k4
            have hb : bodyI i = i.data := by unfold bodyI; rw [if_neg k1, if_pos (isD_iff.2 (.inl k4))]
            unfold datB at p8
            rw [if_pos k4] at p8
            rw [hb]; exact p8
          · split
            · rfl
            · rename_i k4 kd
              split
              · rename_i ks
                have hb : bodyI i = be 4 (u64nat i.int) := by unfold bodyI; rw [if_neg k1, if_neg kd, if_pos ks]
                rw [hb, be_len]; rfl
              · rename_i ks
                have hb : bodyI i = be 8 (u64nat i.int) := by unfold bodyI; rw [if_neg k1, if_neg kd, if_neg ks]
                rw [hb, be_len]; rfl
      rw [if_neg (by rw [hof]; decide), List.take_left]
      have hbody : bodyD (decF f) i.typ (bodyI i) (c + 1) = .ok i.int i.data i.kids c' := by
        unfold bodyD
        split
        · rename_i k1
          have hb : bodyI i = encAll i.kids := by unfold bodyI; rw [if_pos k1]
          rw [hb] at hbl ⊢
          have hk := kids_dec (fun i c c' h h1 h2 r => enc_dec f (by omega) i c c' h h1 h2 r) i.kids (encAll i.kids).length (c + 1) [] c' (Nat.le_refl _) (by rw [hb] at hel hu hu2; omega) ((fit_iff i).1 hfit).2 h
          rw [hk, p6 (.inl k1), p5 (by rw [k1]; rfl)]
          rfl
        · rename_i k1
          rw [p4 k1, walkL] at h
          simp only [Option.some.injEq] at h
          subst h
          split
          · rename_i kd
            have hb : bodyI i = i.data := by unfold bodyI; rw [if_neg k1, if_pos kd]
            rw [hb, if_pos p8, p6 (.inr kd), p4 k1]
          · rename_i kd
            have kd' : isD i.typ = false := by simpa using kd
            split
            · rename_i ks
              have hb : bodyI i = be 4 (u64nat i.int) := by unfold bodyI; rw [if_neg k1, if_neg kd, if_pos ks]
              rw [hb, p5 kd', p4 k1]
              have hv : shortV i.typ (be 4 (u64nat i.int)) = i.int := by
                unfold shortV
                rw [pI_one (k := 4) (z := 4) rfl (be_len _ _) (by decide), num_be _ _ (by decide)]
                simp only
                have q1 : (256 : Nat) ^ 4 = 4294967296 := by decide
                rw [q1]
                unfold numB at p7
                split
                · rename_i k2
                  rw [if_pos k2] at p7
                  simp only [Bool.and_eq_true, decide_eq_true_eq] at p7
                  exact short_back p7.1 p7.2
                · rename_i k2
                  have k5 : i.typ = 5 ∨ i.typ = 10 := by
                    rcases isS_iff.1 ks with e | e | e
                    · exact absurd e k2
                    · exact .inl e
                    · exact .inr e
                  rw [if_neg k2, if_pos k5] at p7
                  simp only [Bool.and_eq_true, decide_eq_true_eq] at p7
                  unfold u64nat
                  omega
              rw [hv]
            · rename_i ks
              have hb : bodyI i = be 8 (u64nat i.int) := by unfold bodyI; rw [if_neg k1, if_neg kd, if_neg ks]
              rw [hb, p5 kd', p4 k1]
              have hv : (pI 8 (be 8 (u64nat i.int), false)).1 = i.int := by
                rw [(long_be (be_len _ _)).1, num_be _ _ (by decide)]
                have q1 : (256 : Nat) ^ 8 = 18446744073709551616 := by decide +kernel
                have := ((fit_iff i).1 hfit).1
                rw [q1, ← asInt_eq]
                unfold u64nat wrap64
                omega
              rw [hv, if_pos p7]
      rw [hbody]
      simp only
      rw [pad_back]
      · simp only
        have e5 : (bodyI i ++ (List.replicate (up8 (bodyI i).length - (bodyI i).length) 0 ++ r)).drop (up8 (bodyI i).length) = r := by
          rw [← List.append_assoc]
          exact List.drop_left' (by rw [List.length_append, List.length_replicate]; omega)
        rw [e5, itm_eta]
      · intro j hj
        refine ⟨by simp only [List.length_append, List.length_replicate]; omega, ?_⟩
        rw [List.getD_eq_getElem?_getD, List.getElem?_append_right (by omega), List.getElem?_append_left (by rw [List.length_replicate]; omega), show (bodyI i).length + j - (bodyI i).length = j by omega, List.getElem?_replicate, if_pos hj]
        rfl
    · cases h
theorem right_dec {i : Itm} (h : rightI i = true) (hf : i.fit) (r : List UInt8) : ∃ c, decF 12 (i.enc ++ r) 0 = .ok i r c := by
  have hs := right_size h
  unfold rightI at h
  rw [Bool.and_eq_true] at h
  obtain ⟨c, hc⟩ := Option.isSome_iff_exists.1 h.1
  exact ⟨c, enc_dec 12 (by decide) i 0 c hc hf (by omega) r⟩
theorem decP_enc {i : Itm} (h : rightI i = true) (hf : i.fit) : decP i.enc = (i, 0) := by
  have hs := right_size h
  obtain ⟨c, hc⟩ := right_dec h hf []
  rw [List.append_nil] at hc
  unfold decP
  rw [if_neg (by omega), hc]
  rfl
theorem decP_more {i : Itm} (h : rightI i = true) (hf : i.fit) (r : List UInt8) (hr : r ≠ []) : (decP (i.enc ++ r)).2 ≠ 0 := by
  obtain ⟨c, hc⟩ := right_dec h hf r
  unfold decP
  split
  · decide
  · rw [hc]
    simp only
    rw [if_neg hr]
    decide
theorem decP_ok {l : List UInt8} {i : Itm} (h : decP l = (i, 0)) (hz : ∀ l c e, decF 12 l c = .err e → e ≠ 0) : l = i.enc ∧ rightI i = true ∧ l.length ≤ 8192 := by
  unfold decP at h
  split at h
  · simp at h
  · rename_i hl
    cases h2 : decF 12 l 0 with
    | err e =>
      rw [h2] at h
      simp only [Prod.mk.injEq] at h
      exact absurd h.2 (hz _ _ _ h2)
    | ok j r c =>
      rw [h2] at h
      simp only at h
      split at h
      · rename_i hr
        simp only [Prod.mk.injEq, and_true] at h
        subst h; subst hr
        obtain ⟨h3, h4⟩ := dec_enc 12 (by decide) l 0 j [] c h2 (by omega)
        rw [List.append_nil] at h3
        have h5 := enc_size2 12 j 0 c h4 100 (by decide) (by rw [← h3]; omega)
        refine ⟨h3, ?_, by omega⟩
        unfold rightI
        rw [h4, h5, ← h3]
        simp
        omega
      · simp at h
end Go.Proofs.YteenglgnakenmaaDoor
