/- The cutter's walks, fifth part: next as one, all. -/
import Derived.Test.YtmaehbdpmdgpaaaCwd
namespace Go.Proofs.Ytmaehbdpmdgpaaa
open Go.RowKit Go.Proofs.YtmaehbdpmdgpaaaW.PrintWords Go.Proofs.YtmaehbdpmdgpaaaW.PrintLast Go.Proofs.YtmaehbdpmdgpaaaW.PrintMore Go.Proofs.Ytmaehbdpmdgpaaa.PCut
set_option linter.unusedVariables false
set_option linter.unusedSimpArgs false
theorem next_calls (w : World) (B g : Nat) (A : Option Addr) (c : Nat) (xs : List Int) (at0 : Int) (en : Bool) (h : IsC w B g (.slice A xs.length c) xs at0 en) (h0 : 0 ≤ at0) (h1 : at0 ≤ 4611686018427387904) :
    Calls Try.prog 21 #[.pointer (some ⟨g, 0, none⟩)] w fun e w' => Answer (nextP xs en) w B g A xs at0 en e w' := by
  have hr := lenP_range xs en
  obtain ⟨n, b, hL⟩ : ∃ n b, lenP xs en = (n, b) := ⟨_, _, rfl⟩
  unfold nextP
  rw [hL] at hr ⊢
  simp only at hr ⊢
  by_cases hx : xs = []
  · subst hx
    rw [if_pos rfl]
    exact next_nil w B g A c at0 en h
  have hne : 1 ≤ xs.length := List.length_pos_iff.2 hx
  rw [if_neg hx]
  cases b with
  | false =>
    rw [if_pos rfl]
    exact next_wait w B g A c xs at0 en n h hne hL
  | true =>
    rw [if_neg (by decide)]
    by_cases hn : n = 0
    · subst hn
      rw [if_pos rfl]
      exact next_bad0 w B g A c xs at0 en h hne h0 h1 hL
    rw [if_neg hn]
    obtain ⟨k, rfl⟩ : ∃ k : Nat, n = (k : Int) + 1 := ⟨(n - 1).toNat, by omega⟩
    have ek : ((k : Int) + 1).toNat - 1 = k := by omega
    have ek2 : ((k : Int) + 1).toNat = k + 1 := by omega
    rw [ek, ek2]
    by_cases hk : k < xs.length
    · rw [if_neg (by omega)]
      by_cases h29 : xs.getD k 0 = 29
      · rw [if_neg (by omega)]
        exact next_good w B g A c xs at0 en h hne h0 h1 k hk (by omega) h29 hL
      · rw [if_pos (.inr h29)]
        exact next_bad2 w B g A c xs at0 en h hne h0 h1 k hk (by omega) h29 hL
    · cases en with
      | false =>
        rw [if_pos ⟨by omega, rfl⟩]
        exact next_more w B g A c xs at0 k h hne (by omega) (by omega) hL
      | true =>
        rw [if_neg (by simp), if_pos (.inl (by omega))]
        exact next_bad1 w B g A c xs at0 k h hne h0 h1 (by omega) (by omega) hL
def toS (p : Int × Bool × List Int) : S34 := ⟨p.1, p.2.1, p.2.2⟩
/-- where 'all' stands: the cutter, the pieces so far -/
structure AllS (w W : World) (o : Option Nat) (B g s : Nat) (v : Value) (done : List S34) (A : Option Addr) (c : Nat) (ys : List Int) (at1 : Int) (en : Bool) : Prop where
  cu : IsC W B g (.slice A ys.length c) ys at1 en
  nn : Kd.N k34 34 W w.heap.size (fun k => k ≠ g ∧ some k ≠ (Value.slice A ys.length c).ownBlock ∧ k ≠ s ∧ (w.heap.size ≤ k ∨ o = some k)) v done
  kept : Kept w W (fun k => k = g)
  below : Below B w W
  sge : w.heap.size ≤ s
  glt : g < w.heap.size
  cs : (Value.slice A ys.length c).ownBlock ≠ some s
  fr : ∀ k, (Value.slice A ys.length c).ownBlock = some k → w.heap.size ≤ k ∨ o = some k
/-- the piece in hand -/
structure Piece1 (w W : World) (o : Option Nat) (g s : Nat) (v : Value) (A : Option Addr) (c : Nat) (ys : List Int) (p : S34) (Ap : Option Addr) : Prop where
  blk : W.heap[s]? = some (.cells #[.int .i64 p.f0, .bool p.f1, .slice Ap p.f2.length p.f2.length] 34 (0, 0))
  f : Kd.F (Kd.int .u8) W (fun k => (k ≠ g ∧ some k ≠ (Value.slice A ys.length c).ownBlock ∧ k ≠ s ∧ (w.heap.size ≤ k ∨ o = some k)) ∧ some k ≠ v.ownBlock) Ap p.f2.length p.f2
theorem own_len (A : Option Addr) (n c m d : Nat) : (Value.slice A n c).ownBlock = (Value.slice A m d).ownBlock := by cases A <;> rfl
theorem AllS.took {w W W1 : World} {o : Option Nat} {B g s : Nat} {v v' : Value} {done : List S34} {A : Option Addr} {c : Nat} {ys : List Int} {at1 : Int} {en : Bool} {n : Nat} (S : AllS w W o B g s v done A c ys at1 en) {x y z : Value} (hs : W.heap[s]? = some (.cells #[x, y, z] 34 (0, 0)))
    (hn : n ≤ ys.length) (t : Took W W1 B g A v' ys at1 en n) (good : Bool) :
    ∃ A1 c1, AllS w (stW W1 s (.int .i64 at1) (.bool good) (.slice A n n)) o B g s v done A1 c1 (ys.drop n) (at1 + n) en ∧ Piece1 w (stW W1 s (.int .i64 at1) (.bool good) (.slice A n n)) o g s v A1 c1 (ys.drop n) ⟨at1, good, ys.take n⟩ A := by
  obtain ⟨A1, c1, rfl⟩ := Kd.R_slice t.c.row
  have hsl := blk_lt hs
  have hgs : g ≠ s := by have := S.sge; have := S.glt; omega
  have hl : (ys.take n).length = n := by rw [List.length_take]; omega
  have hsB : B ≤ s := by have := S.sge; have := S.cu.ge; have := S.glt; omega
  have hlt := Kd.R_lt S.cu.row
  have hbs : W1.heap[s]? = some (.cells #[x, y, z] 34 (0, 0)) := (t.kept.2 s hsl (fun e => hgs e.symm)).trans hs
  have hcv : (Value.slice A1 (ys.drop n).length c1).ownBlock ≠ some s := fun e => by have := t.fresh _ e; omega
  have hN := Kd.N_kept (Kd.N_bound S.nn) t.kept (fun k hk => hk.1.1)
  have n1 := Kd.N_far (p := ⟨s, 0, none⟩) hN (fun k hk => hk.1.2.2.1) (.int .i64 at1)
  have n2 := Kd.N_far (p := ⟨s, 1, none⟩) n1 (fun k hk => hk.1.2.2.1) (.bool good)
  have n3 := Kd.N_far (p := ⟨s, 2, none⟩) n2 (fun k hk => hk.1.2.2.1) (.slice A n n)
  have hob : ∀ k, some k = (Value.slice A n n).ownBlock → some k = (Value.slice A ys.length c).ownBlock := fun k hk => hk.trans (own_len A n n ys.length c)
  refine ⟨A1, c1, ⟨stW_c t.c hgs hcv _ _ _, Kd.N_mono n3 (fun k hk => ⟨hk.1.1, fun e => ?_, hk.1.2.2⟩), ?_, ?_, S.sge, S.glt, hcv, fun k e => .inl (by have := t.fresh k e; have := S.kept.1; omega)⟩, ⟨?_, ?_⟩⟩
  · have := t.fresh k e.symm; have := hk.2; omega
  · exact stW_kept (Kept.then_ S.kept t.kept (fun k hk => .inl hk)) (.inr S.sge) _ _ _
  · exact stW_below (S.below.trans t.below) hsB _ _ _
  · show (stW W1 s (.int .i64 at1) (.bool good) (.slice A n n)).heap[s]? = some (.cells #[.int .i64 at1, .bool good, .slice A (ys.take n).length (ys.take n).length] 34 (0, 0))
    rw [hl]; exact stW_blk hbs _ _ _
  · show Kd.F (Kd.int .u8) _ _ A (ys.take n).length (ys.take n)
    rw [hl]
    refine Kd.F_mono (stW_f t.f (fun k hk e => ?_) _ _ _) (fun k hk => ⟨⟨fun e => ?_, fun e => ?_, fun e => ?_, S.fr k (hob _ hk).symm⟩, fun e => ?_⟩)
    · subst e; exact S.cs (hob _ hk).symm
    · subst e; exact row_ne_g S.cu (hob _ hk).symm
    · have := t.fresh k e.symm
      have := hlt k (hob _ hk).symm
      omega
    · subst e; exact S.cs (hob _ hk).symm
    · exact (S.nn.1 k e.symm).2.1 (hob _ hk)
theorem IsC.grown {w w1 : World} {B g : Nat} {v : Value} {xs : List Int} {at0 : Int} {en : Bool} (h : IsC w B g v xs at0 en) {row : Option Nat} (hg : w.grownBy w1 row) (h1 : some g ≠ row) (h2 : ∀ k, some k = v.ownBlock → some k ≠ row) : IsC w1 B g v xs at0 en :=
  ⟨(hg.block g (blk_lt h.blk) h1).trans h.blk, h.ge, Kd.R_mono (Kd.R_step (Kd.R_tight rfl h.row) (fun k hk hl => hg.block k hl (h2 k hk))) (fun _ _ => trivial), h.byt, h.len⟩
theorem AllS.put {w W w1 : World} {o : Option Nat} {B g s : Nat} {v v1 : Value} {done all1 : List S34} {A : Option Addr} {c : Nat} {ys : List Int} {at1 : Int} {en : Bool} (S : AllS w W o B g s v done A c ys at1 en)
    (hN : Kd.N k34 34 w1 w.heap.size (fun k => k ≠ g ∧ some k ≠ (Value.slice A ys.length c).ownBlock ∧ k ≠ s ∧ (w.heap.size ≤ k ∨ o = some k)) v1 all1) (hb : Below w.heap.size W w1) (hg : W.grownBy w1 v.ownBlock) (X : Obj) :
    AllS w (w1.alloc X) o B g w1.heap.size v1 all1 A c ys at1 en := by
  have hgB := S.cu.ge
  have hgl := S.glt
  have hc1 : IsC w1 B g (.slice A ys.length c) ys at1 en := S.cu.grown hg (fun e => (S.nn.1 g e.symm).1 rfl) (fun k hk e => (S.nn.1 k e.symm).2.1 hk)
  have hlt := Kd.R_lt hc1.row
  have hgl1 := blk_lt hc1.blk
  have hsz : w.heap.size ≤ w1.heap.size := by have := S.kept.1; have := hb.size; omega
  have hcv : (Value.slice A ys.length c).ownBlock ≠ some w1.heap.size := fun e => by have := hlt _ e; omega
  have m0 := Kd.N_alloc (Kd.N_bound hN) X
  have hk1 : Kept w (w1.alloc X) (fun k => k = g) := by
    refine ⟨by simp; omega, fun k hk hs => ?_⟩
    rw [Below.heap_alloc _ _ _ (by omega)]
    exact (hb.block k hk).trans (S.kept.2 k hk hs)
  exact ⟨hc1.below (below_alloc (Below.refl _ _) X), Kd.N_mono m0 (fun k hk => ⟨hk.1.1, hk.1.2.1, by have := hk.2; omega, hk.1.2.2.2⟩), hk1, Below.alloc (S.below.trans (hb.mono (by omega))) (by omega) X, hsz, hgl, hcv, S.fr⟩
theorem AllS.first {w w1 : World} {B g : Nat} {A : Option Addr} {c : Nat} {ys : List Int} {at1 : Int} {en : Bool} (h : IsC w B g (.slice A ys.length c) ys at1 en) (hb : Below w.heap.size w w1) (X : Obj) :
    AllS w (w1.alloc X) (Value.slice A ys.length c).ownBlock B g w1.heap.size (.slice none 0 0) [] A c ys at1 en := by
  have hgl := blk_lt h.blk
  have hc1 := h.below hb
  have hlt := Kd.R_lt hc1.row
  have := h.ge
  have := hb.size
  exact ⟨hc1.below (below_alloc (Below.refl _ _) X), Kd.N_nil _ _ _ _ _, Kept.of_below (below_then hb hb.size (below_alloc (Below.refl _ _) X)) _, Below.alloc (hb.mono (by omega)) (by omega) X, by omega, hgl, fun e => by have := hlt _ e; omega, fun k e => .inr e⟩
theorem AllS.first1 {w w1 : World} {B g : Nat} {A : Option Addr} {c : Nat} {ys : List Int} {at1 : Int} {en : Bool} {n : Nat} {v' : Value} (h : IsC w B g (.slice A ys.length c) ys at1 en) (hn : n ≤ ys.length) (t : Took w w1 B g A v' ys at1 en n) (good : Bool) :
    ∃ A1 c1, AllS w (w1.alloc (.cells #[.int .i64 at1, .bool good, .slice A n n] 34)) (Value.slice A ys.length c).ownBlock B g w1.heap.size (.slice none 0 0) [] A1 c1 (ys.drop n) (at1 + n) en ∧ Piece1 w (w1.alloc (.cells #[.int .i64 at1, .bool good, .slice A n n] 34)) (Value.slice A ys.length c).ownBlock g w1.heap.size (.slice none 0 0) A1 c1 (ys.drop n) ⟨at1, good, ys.take n⟩ A := by
  obtain ⟨A1, c1, rfl⟩ := Kd.R_slice t.c.row
  have hgl := blk_lt h.blk
  have hl : (ys.take n).length = n := by rw [List.length_take]; omega
  have hlt := Kd.R_lt t.c.row
  have hlt0 := Kd.R_lt h.row
  have hge := h.ge
  have hsz := t.kept.1
  have hob : ∀ k, some k = (Value.slice A n n).ownBlock → some k = (Value.slice A ys.length c).ownBlock := fun k hk => hk.trans (own_len A n n ys.length c)
  refine ⟨A1, c1, ⟨t.c.below (below_alloc (Below.refl _ _) _), Kd.N_nil _ _ _ _ _, Kept.then_ t.kept (Kept.of_below (below_alloc (Below.refl _ _) _) (fun k => k = g)) (fun k hk => .inl hk), Below.alloc t.below (by omega) _, hsz, hgl, fun e => by have := hlt _ e; omega, fun k e => .inl (t.fresh k e)⟩, ⟨?_, ?_⟩⟩
  · show (w1.alloc (.cells #[.int .i64 at1, .bool good, .slice A n n] 34)).heap[w1.heap.size]? = some (.cells #[.int .i64 at1, .bool good, .slice A (ys.take n).length (ys.take n).length] 34 (0, 0))
    rw [hl]; exact blk_new _ _
  · show Kd.F (Kd.int .u8) _ _ A (ys.take n).length (ys.take n)
    rw [hl]
    refine Kd.F_mono (Kd.F_below t.f (below_alloc (Below.refl _ _) _)) (fun k hk => ⟨⟨fun e => ?_, fun e => ?_, fun e => ?_, .inr (hob _ hk).symm⟩, by simp [Value.ownBlock]⟩)
    · subst e; exact row_ne_g h (hob _ hk).symm
    · have := t.fresh k e.symm
      have := hlt0 k (hob _ hk).symm
      omega
    · have := hlt0 k (hob _ hk).symm
      omega
theorem AllS.still {w W w1 : World} {o : Option Nat} {B g s : Nat} {v : Value} {done : List S34} {A : Option Addr} {c : Nat} {ys : List Int} {at1 : Int} {en : Bool} (S : AllS w W o B g s v done A c ys at1 en) (hb : Below W.heap.size W w1) (x y z : Value) :
    AllS w (stW w1 s x y z) o B g s v done A c ys at1 en := by
  have hsge := S.sge
  have hgl := S.glt
  have hge := S.cu.ge
  have hN := Kd.N_below S.nn hb
  have n1 := Kd.N_far (p := ⟨s, 0, none⟩) hN (fun k hk => hk.2.2.1) x
  have n2 := Kd.N_far (p := ⟨s, 1, none⟩) n1 (fun k hk => hk.2.2.1) y
  have n3 := Kd.N_far (p := ⟨s, 2, none⟩) n2 (fun k hk => hk.2.2.1) z
  have hW := S.below.size
  exact ⟨stW_c (S.cu.below hb) (by omega) S.cs x y z, n3, stW_kept (Kept.then_ S.kept (Kept.of_below hb (fun k => k = g)) (fun k hk => .inl hk)) (.inr hsge) x y z, stW_below (S.below.trans (hb.mono (by omega))) (by omega) x y z, hsge, hgl, S.cs, S.fr⟩
theorem allP_none {k : Nat} {xs : List Int} {at0 : Int} {en : Bool} (h : nextP xs en = none) : allP k xs at0 en = ([], xs, at0) := by
  cases k with
  | zero => rfl
  | succ k => unfold allP; rw [h]
theorem allP_some {k : Nat} {xs : List Int} {at0 : Int} {en : Bool} {n : Nat} {good : Bool} (h : nextP xs en = some (n, good)) : allP (k + 1) xs at0 en = ((at0, good, xs.take n) :: (allP k (xs.drop n) (at0 + n) en).1, (allP k (xs.drop n) (at0 + n) en).2) := by
  rw [allP, h]
/-- where a round of 'all' begins -/
def AllI (w : World) (o : Option Nat) (B g : Nat) (en : Bool) (N : Nat) (T : List (Int × Bool × List Int) × List Int × Int) (kq : Nat) (v3 v4 v5 : Value) (W : World) : Prop :=
  ∃ (done : List S34) (ys : List Int) (at1 : Int) (A : Option Addr) (c s : Nat), v4 = .pointer (some ⟨s, 0, Option.none⟩) ∧ AllS w W o B g s v3 done A c ys at1 en ∧ 0 ≤ at1 ∧ at1 + ys.length ≤ 4611686018427387904 ∧
    ((v5 = .bool false ∧ T.1.map toS = done ∧ T.2 = (ys, at1)) ∨
     (v5 = .bool true ∧ ∃ (p : S34) (Ap : Option Addr), Piece1 w W o g s v3 A c ys p Ap ∧ T.1.map toS = done ++ p :: (allP kq ys at1 en).1.map toS ∧ T.2 = (allP kq ys at1 en).2 ∧ ys.length + 1 ≤ kq ∧ done.length + 1 + ys.length ≤ N))
theorem allI_first {w w1 : World} {B g : Nat} {A : Option Addr} {c : Nat} {xs : List Int} {at0 : Int} {en : Bool} {e : Ending} {T : List (Int × Bool × List Int) × List Int × Int} (h : IsC w B g (.slice A xs.length c) xs at0 en) (h0 : 0 ≤ at0) (h1 : at0 + xs.length ≤ 4611686018427387904)
    (hT : allP (xs.length + 2) xs at0 en = T) (ha : Answer (nextP xs en) w B g A xs at0 en e w1) :
    ∃ x y Z n1 n2 bb, e = .returned (.tuple #[.agg #[.int .i64 x, .bool y, .slice Z n1 n2], .bool bb]) ∧ AllI w (Value.slice A xs.length c).ownBlock B g en xs.length T (xs.length + 1) (.slice none 0 0) (.pointer (some ⟨w1.heap.size, 0, none⟩)) (.bool bb) (w1.alloc (.cells #[.int .i64 x, .bool y, .slice Z n1 n2] 34)) := by
  cases hr : nextP xs en with
  | none =>
    rw [hr] at ha
    obtain ⟨rfl, hb⟩ := ha
    exact ⟨_, _, _, _, _, _, rfl, [], xs, at0, A, c, w1.heap.size, rfl, AllS.first h hb _, h0, h1, .inl ⟨rfl, by rw [← hT, allP_none hr]; rfl, by rw [← hT, allP_none hr]⟩⟩
  | some p =>
    obtain ⟨n, good⟩ := p
    rw [hr] at ha
    obtain ⟨v', rfl, tk⟩ := ha
    have hn := nextP_some hr
    obtain ⟨A1, c1, hS, hP⟩ := AllS.first1 h hn.2 tk good
    exact ⟨_, _, _, _, _, _, rfl, [], xs.drop n, at0 + n, A1, c1, w1.heap.size, rfl, hS, by omega, by rw [List.length_drop]; omega, .inr ⟨rfl, _, A, hP, by rw [← hT, allP_some hr]; rfl, by rw [← hT, allP_some hr], by rw [List.length_drop]; omega, by rw [List.length_drop]; simp; omega⟩⟩
theorem allI_again {w W w1 : World} {o : Option Nat} {B g s N kq : Nat} {A : Option Addr} {c : Nat} {ys : List Int} {at1 : Int} {en : Bool} {e : Ending} {T : List (Int × Bool × List Int) × List Int × Int} {v : Value} {done : List S34} (S : AllS w W o B g s v done A c ys at1 en) {x y z : Value} (hs : W.heap[s]? = some (.cells #[x, y, z] 34 (0, 0)))
    (h0 : 0 ≤ at1) (h1 : at1 + ys.length ≤ 4611686018427387904) (hT : T.1.map toS = done ++ (allP (kq + 1) ys at1 en).1.map toS) (hT2 : T.2 = (allP (kq + 1) ys at1 en).2) (hk : ys.length ≤ kq) (hN : done.length + ys.length ≤ N)
    (ha : Answer (nextP ys en) W B g A ys at1 en e w1) :
    ∃ x' y' Z n1 n2 bb, e = .returned (.tuple #[.agg #[.int .i64 x', .bool y', .slice Z n1 n2], .bool bb]) ∧ w1.heap[s]? = some (.cells #[x, y, z] 34 (0, 0)) ∧ AllI w o B g en N T kq v (.pointer (some ⟨s, 0, none⟩)) (.bool bb) (stW w1 s (.int .i64 x') (.bool y') (.slice Z n1 n2)) := by
  have hsl := blk_lt hs
  cases hr : nextP ys en with
  | none =>
    rw [hr] at ha
    obtain ⟨rfl, hb⟩ := ha
    rw [allP_none hr] at hT hT2
    exact ⟨_, _, _, _, _, _, rfl, (hb.block s hsl).trans hs, done, ys, at1, A, c, s, rfl, S.still hb _ _ _, h0, h1, .inl ⟨rfl, by rw [hT]; simp, hT2⟩⟩
  | some p =>
    obtain ⟨n, good⟩ := p
    rw [hr] at ha
    obtain ⟨v', rfl, tk⟩ := ha
    have hn := nextP_some hr
    obtain ⟨A1, c1, hS, hP⟩ := S.took hs hn.2 tk good
    rw [allP_some hr] at hT hT2
    have hgs : s ≠ g := by have := S.sge; have := S.glt; omega
    exact ⟨_, _, _, _, _, _, rfl, (tk.kept.2 s hsl hgs).trans hs, done, ys.drop n, at1 + n, A1, c1, s, rfl, hS, by omega, by rw [List.length_drop]; omega, .inr ⟨rfl, _, A, hP, hT, hT2, by rw [List.length_drop]; omega, by rw [List.length_drop]; omega⟩⟩
theorem fresh_ok {w W : World} {o : Option Nat} {B g s : Nat} {v : Value} {done : List S34} {A : Option Addr} {c : Nat} {ys : List Int} {at1 : Int} {en : Bool} (S : AllS w W o B g s v done A c ys at1 en) (hsl : s < W.heap.size) : ∀ k, W.heap.size ≤ k → k ≠ g ∧ some k ≠ (Value.slice A ys.length c).ownBlock ∧ k ≠ s ∧ (w.heap.size ≤ k ∨ o = some k) := by
  intro k hk
  have h1 := Kd.R_lt S.cu.row
  have h2 := blk_lt S.cu.blk
  exact ⟨by omega, fun e => by have := h1 k e.symm; omega, by omega, .inl (by have := S.kept.1; omega)⟩
set_option maxHeartbeats 1600000 in
set_option maxRecDepth 100000 in
theorem all_calls (w : World) (B g : Nat) (A : Option Addr) (c : Nat) (xs : List Int) (at0 : Int) (en : Bool) (h : IsC w B g (.slice A xs.length c) xs at0 en) (h0 : 0 ≤ at0) (h1 : at0 + xs.length ≤ 4611686018427387904) (hN : xs.length ≤ 1000000) :
    Calls Try.prog 16 #[.pointer (some ⟨g, 0, none⟩)] w fun e w' => ∃ v : Value, e = .returned v ∧ ∃ A1 c1 s, AllS w w' (Value.slice A xs.length c).ownBlock B g s v ((allP (xs.length + 2) xs at0 en).1.map toS) A1 c1 (allP (xs.length + 2) xs at0 en).2.1 (allP (xs.length + 2) xs at0 en).2.2 en := by
  obtain ⟨T, hT⟩ : ∃ T, allP (xs.length + 2) xs at0 en = T := ⟨_, rfl⟩
  rw [hT]
  have HT := Aside0.mk hT
  have HH := Aside0.mk h
  clear h hT
  go_enter Try.func16, Try.ntmps16
  go_wp2_with fail
  refine (next_calls _ B g A c xs at0 en HH.out h0 (by omega)).mono ?_
  intro e w1 ha
  obtain ⟨x, y, Z, n1, n2, bb, rfl, hI⟩ := allI_first HH.out h0 h1 HT.out ha
  have HI := Aside0.mk hI
  clear hI ha
  go_wp2_with fail
  go_loopg [3, 4, 5] (xs.length + 1) (fun kq v3 v4 v5 w' => Aside0 (AllI w (Value.slice A xs.length c).ownBlock B g en xs.length T kq v3 v4 v5 w'))
  case atStart => exact HI
  case round =>
    clear HI
    obtain ⟨done, ys, at1, A2, c2, s, rfl, hS, g0, g1, hc⟩ := hrel.out
    clear hrel
    rcases hc with ⟨rfl, hT1, hT2⟩ | ⟨rfl, p, Ap, hP, hT1, hT2, hkq, hdn⟩
    · have R1 := Aside0.mk hS
      have R2 := Aside0.mk hT1
      have R3 := Aside0.mk hT2
      clear hS hT1 hT2
      go_wp2
      go_ret
      refine ⟨_, rfl, A2, c2, s, ?_⟩
      rw [R2.out, R3.out]
      exact R1.out
    · obtain ⟨x0, x1, x2⟩ := p
      have hblk := hP.blk
      simp only at hblk
      have r0 : wr.cell? ⟨s, 0, none⟩ = some (.int .i64 x0) := by rw [blk_cell hblk]; rfl
      have r1 : wr.cell? ⟨s, 1, none⟩ = some (.bool x1) := by rw [blk_cell hblk]; rfl
      have r2 : wr.cell? ⟨s, 2, none⟩ = some (.slice Ap x2.length x2.length) := by rw [blk_cell hblk]; rfl
      have RS := Aside0.mk hS
      have RP := Aside0.mk hP
      have RT := Aside0.mk hT1
      have RT2 := Aside0.mk hT2
      clear hS hP hT1 hT2 hblk
      go_wp2_with (first | ((with_reducible refine gate_builtin (b := .append) (xs := #[.tmp 17, .tmp 19]) rfl ?_); (try (refine gate_guard (by rfl) ?_; dsimp only)); at_builtin; refine Kd.N_append k34 (w0 := wr) w.heap.size rfl (.tmp 17) (.tmp 19) 26 34 (.agg #[(.int .i64 0), (.bool false), (.slice none 0 0)]) 40 rfl Try.underlying26 info34 rfl (by decide) (by omega) u3 done (⟨x0, x1, x2⟩ : S34) [.int .i64 x0, .bool x1, .slice Ap x2.length x2.length] (fun k => k ≠ g ∧ some k ≠ (Value.slice A2 ys.length c2).ownBlock ∧ k ≠ s ∧ (w.heap.size ≤ k ∨ (Value.slice A xs.length c).ownBlock = some k)) (fun k => (k ≠ g ∧ some k ≠ (Value.slice A2 ys.length c2).ownBlock ∧ k ≠ s ∧ (w.heap.size ≤ k ∨ (Value.slice A xs.length c).ownBlock = some k)) ∧ some k ≠ u3.ownBlock) rfl rfl ?aP (fun _ hk => hk) ?aF ?aO ?aB ?aS ?aL ?_; (case aP => exact k34_mkF _ _ (⟨x0, x1, x2⟩ : S34) (Nat.le_refl _) RP.out.f); (case aO => exact RS.out.nn); (case aF => exact fresh_ok RS.out (blk_lt RP.out.blk)); (case aB => exact Below.refl _ _); (case aS => exact RS.out.kept.1); (case aL => omega); intro v1 w2 ho hb hg hat; clear hat; have SP := Aside0.mk (fun X => RS.out.put ho hb hg X); have SK := Aside0.mk ((hg.block s (blk_lt RP.out.blk) (fun e => (RS.out.nn.1 s e.symm).2.2.1 rfl)).trans RP.out.blk); have e0 : w2.cell? ⟨s, 0, none⟩ = some (.int .i64 x0) := (by rw [blk_cell SK.out]; rfl); have e1 : w2.cell? ⟨s, 1, none⟩ = some (.bool x1) := (by rw [blk_cell SK.out]; rfl); have e2 : w2.cell? ⟨s, 2, none⟩ = some (.slice Ap x2.length x2.length) := (by rw [blk_cell SK.out]; rfl); clear ho hb hg))
      cases gk with
      | zero => exact absurd hkq (by omega)
      | succ k1 =>
        refine (next_calls _ B g A2 c2 ys at1 en (SP.out _).cu g0 (by omega)).mono ?_
        intro e w3 ha
        obtain ⟨x', y', Z', m1, m2, bb', rfl, hs3, hI⟩ := allI_again (N := xs.length) (T := T) (SP.out _) (blk_new w2 _) g0 g1 (by rw [RT.out]; simp) RT2.out (by omega) (by simp; omega) ha
        have HI := Aside0.mk hI
        have d0 : w3.cell? ⟨w2.heap.size, 0, none⟩ = some (.int .i64 x0) := by rw [blk_cell hs3]; rfl
        have d1 : w3.cell? ⟨w2.heap.size, 1, none⟩ = some (.bool x1) := by rw [blk_cell hs3]; rfl
        have d2 : w3.cell? ⟨w2.heap.size, 2, none⟩ = some (.slice Ap x2.length x2.length) := by rw [blk_cell hs3]; rfl
        have df0 := blk_frozen hs3 0
        have df1 := blk_frozen hs3 1
        have df2 := blk_frozen hs3 2
        clear hI ha hs3
        go_wp2
        go_roundg k1
        case measure => omega
        case rel => exact HI
end Go.Proofs.Ytmaehbdpmdgpaaa
