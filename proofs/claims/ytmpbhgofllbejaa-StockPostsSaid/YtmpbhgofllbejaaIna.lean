/- slices.Insert of one element: what does not hang on the element's type. -/
import Derived.Test.YtmpbhgofllbejaaGen
import Derived.Test.YtmpbhgofllbejaaFa
import Derived.Shelf.Lays2
import Derived.Shelf.RegionOpenPlain
import Derived.WalkKit
import Derived.Lib.Walk
import Derived.Lib.SliceRun
import Derived.Lib.JoinLaws
import Derived.Lib.AppendZeros
import Derived.Lib.AppendZerosOnto
import Derived.Lib.Overlaps
import Derived.Laws.Externs
import Derived.Laws.IdiomCopy
import Derived.Shelf.Spec.SlicesInsert
import Derived.Test.YtmpbhgofllbejaaGa
set_option linter.unusedVariables false
set_option linter.unusedSimpArgs false
set_option linter.unusedVariables false
set_option linter.unusedSimpArgs false
namespace Go.Ax
open Go Go.Proofs Go.Lib
set_option maxHeartbeats 4000000
set_option maxRecDepth 100000
theorem run_copy_rows {P : Program} (w : World) (dT sT ty elem : TypeId) (g o dLen dCap : Nat) (a : Addr) (sLen sCap : Nat) (cur : Array Value) (t : TypeId) (cs : List Value) (sz : Nat)
    (hu : P.underlying dT = some (.slice elem)) (hs : (P.info? elem).map (·.size) = some sz)
    (hg : w.heap[g]? = some (.cells cur t (0, 0))) (hn : cs.length = Nat.min sLen dLen * sz)
    (hsrc : ∀ j v, cs[j]? = some v → w.cell? (a.add j) = some v) (hfit : o + cs.length ≤ cur.size) (h1 : ∀ v ∈ cs, v.oneCell' = true) :
    (Builtin.copy_ #[dT, sT] ty #[.slice (some ⟨g, o, none⟩) dLen dCap, .slice (some a) sLen sCap]).run P w =
      .ok (goInt (Nat.min sLen dLen)) (w.setRow g (cur.toList.take o ++ cs ++ cur.toList.drop (o + cs.length)).toArray) := by
  have hl := run_loadCells_list (P := P) w a cs hsrc
  have hst := run_storeCells_at P g o t cs 0 cur w hg (by simpa using hfit) h1
  cases hq : P.info? elem with
  | none => simp [hq] at hs
  | some i =>
    have hi : i.size = sz := by simpa [hq] using hs
    simp [Builtin.copy_, run_underlying hu, Builtin.lenOf, Builtin.firstCells, sizeOf, typeInfo, hq, hi, ← hn, hl, hst]


theorem flat_take {rows : List (List D)} {sz : Nat} (h : ∀ r ∈ rows, r.length = sz) : ∀ i, (rows.take i).flatten = rows.flatten.take (i * sz) := by
  induction rows with
  | nil => intro i; simp
  | cons r rows ih =>
    intro i
    cases i with
    | zero => simp
    | succ i =>
      have hr := h r (by simp)
      rw [List.take_succ_cons, List.flatten_cons, List.flatten_cons, ih (fun r hr => h r (by simp [hr])) i, show (i + 1) * sz = r.length + i * sz by rw [hr, Nat.succ_mul, Nat.add_comm], List.take_length_add_append]
theorem flat_drop {rows : List (List D)} {sz : Nat} (h : ∀ r ∈ rows, r.length = sz) : ∀ i, (rows.drop i).flatten = rows.flatten.drop (i * sz) := by
  induction rows with
  | nil => intro i; simp
  | cons r rows ih =>
    intro i
    cases i with
    | zero => simp
    | succ i =>
      have hr := h r (by simp)
      rw [List.drop_succ_cons, List.flatten_cons, ih (fun r hr => h r (by simp [hr])) i, show (i + 1) * sz = r.length + i * sz by rw [hr, Nat.succ_mul, Nat.add_comm], List.drop_length_add_append]
/-- What an insertion comes to. -/
theorem ins_came {w w' : World} {I : Nat → Prop} {v0 v1 v2 v' : Value} {sz : Nat} {rows : List (List D)} {row : List D} {i : Nat} {A : Arg} (hI : ∀ b, I b → b < w.heap.size)
    (hold : Hold w (blocksOf w (valsF [v0, v1, v2]) (xF [.own sz rows, .d A, .own sz [row]])) I w (valsF [v0, v1, v2]) (xF [.own sz rows, .d A, .own sz [row]])) (h0 : 0 < sz) (hs : ∀ r ∈ rows, r.length = sz) (hr : row.length = sz)
    {xs news : List Value} (hx : RepL w I rows.flatten xs) (hn : RepL w I row news) {e : TypeId} (hi : i ≤ rows.length) (hown : w'.ownsRow 0 e sz v' (rows.length + 1) (xs.take (i * sz) ++ news ++ xs.drop (i * sz)))
    (hfr : Fr (fun b => v0.ownBlock = some b) w w') (hb : v'.ownBlock = v0.ownBlock ∨ v'.ownBlock = some w.heap.size) :
    CameH w w' I (valsF [v0, v1, v2]) [.own sz rows, .d A, .own sz [row]] [[], [], []] v' [.one (.own sz (rows.take i ++ [row] ++ rows.drop i))] := by
  have hb0 : ∀ b, v0.ownBlock = some b → ¬ I b ∧ b < w.heap.size ∧ Mine w (blocksOf w (valsF [v0, v1, v2]) (xF [.own sz rows, .d A, .own sz [row]])) b := fun b hb => hold.away 0 0 b hb
  have hw : ∀ b, I b → w'.heap[b]? = w.heap[b]? := fun b hb => hfr.block b (hI b hb) fun he => (hb0 b he).1 hb
  have hne : rows.take i ++ [row] ++ rows.drop i ≠ [] := by simp
  have hl : (rows.take i ++ [row] ++ rows.drop i).length = rows.length + 1 := by simp [List.length_take, List.length_drop]; omega
  refine ⟨hfr.mono fun b _ hb => ⟨0, 0, hb⟩, I, fun _ h => h, fun b h => ⟨Nat.lt_of_lt_of_le (hI b h) hfr.size, .inl h⟩, ⟨fun x => ?_, fun x i y j b e1 e2 => ?_, fun x i b e => ?_⟩⟩
  · cases x with
    | zero =>
      refine .inr ⟨h0, e, _, by rw [hl]; exact hown, fun r hr' => ?_, ?_⟩
      · rcases List.mem_append.1 hr' with h | h
        · rcases List.mem_append.1 h with h | h
          · exact hs r (List.mem_of_mem_take h)
          · rw [List.mem_singleton.1 h]; exact hr
        · exact hs r (List.mem_of_mem_drop h)
      · rw [List.flatten_append, List.flatten_append, flat_take hs, flat_drop hs]
        refine RepL.append (RepL.append ((hx.take _).mono hw fun _ h => h) ?_) ((hx.drop _).mono hw fun _ h => h)
        simpa using hn.mono hw fun _ h => h
    | succ x => rcases x with _ | _ | _ | x <;> trivial
  · have key : ∀ x i b, (consF (resT [.one (.own sz (rows.take i ++ [row] ++ rows.drop i))]) (oF [.own sz rows, .d A, .own sz [row]] [[], [], []]) x).blocks w' (consF v' (valsF [v0, v1, v2]) x) i = some b → True := fun _ _ _ _ => trivial
    cases x with
    | succ x => rcases x with _ | _ | _ | x <;> simp [consF, oF, XA.out, T.blocks] at e1
    | zero => cases y with
      | succ y => rcases y with _ | _ | _ | y <;> simp [consF, oF, XA.out, T.blocks] at e2
      | zero =>
        simp only [consF, resT, T.blocks] at e1 e2
        split at e1 <;> split at e2 <;> simp_all
  · cases x with
    | succ x => rcases x with _ | _ | _ | x <;> simp [consF, oF, XA.out, T.blocks] at e
    | zero =>
      simp only [consF, resT, T.blocks] at e
      split at e
      · rcases hb with hb | hb
        · rw [hb] at e
          obtain ⟨a1, a2, a3⟩ := hb0 b e
          exact ⟨a1, Nat.lt_of_lt_of_le a2 hfr.size, a3⟩
        · rw [hb] at e
          cases e
          have hlt : w.heap.size < w'.heap.size := by
            rcases hown.2 with ⟨_, h⟩ | ⟨g, cap, cur, hv, _, hg, _⟩
            · omega
            · rw [hv] at hb
              simp only [Value.ownBlock, Option.some.injEq] at hb
              rw [← hb]
              exact (Array.getElem?_eq_some_iff.1 hg).1
          exact ⟨fun h => absurd (hI _ h) (Nat.lt_irrefl _), hlt, .inl (Nat.le_refl _)⟩
      · cases e
theorem one_own {w : World} {I : Nat → Prop} {v : Value} {sz : Nat} {row : List D} (h : OwnL w I v sz [row]) : ∃ vb vc e cur news, v = .slice (some ⟨vb, 0, none⟩) 1 vc ∧ w.heap[vb]? = some (.cells cur e (0, 0)) ∧ cur.toList.take sz = news ∧ news.length = sz ∧ row.length = sz ∧ RepL w I row news := by
  rcases h with ⟨_, h⟩ | ⟨h0, e, xs, h1, h2, h3⟩
  · cases h
  rcases h1.2 with ⟨_, h⟩ | ⟨g, cap, cur, hv, _, hg, hc, hm, hcs, htk⟩
  · simp at h
  · refine ⟨g, cap, e, cur, xs, hv, hg, by simpa using htk, by simpa using h1.1, h2 row (by simp), by simpa using h3⟩
end Go.Ax

/- slices.Insert of one element, of api_Pos: written once, the types' numbers are filled in. -/
set_option linter.unusedVariables false
set_option linter.unusedSimpArgs false
namespace Go.Ax
open Go Go.Proofs Go.Lib
set_option maxHeartbeats 4000000
set_option maxRecDepth 100000
/-- At the end. -/
theorem insert_end_api_Pos {w : World} {v0 : Value} {n : Nat} {xs : List Value} {eT : TypeId} (ho : w.ownsRow 0 eT 3 v0 n xs) {vb vc : Nat} {news : List Value} (hnl : news.length = 3)
    (hv : ∀ j u, news[j]? = some u → w.cell? ⟨vb, j, none⟩ = some u) (h1 : ∀ u ∈ news, u.oneCell' = true) (hby : (n + 1) * 24 ≤ 140737488355328) :
    Calls Try.prog 138 #[v0, .int .i64 n, .slice (some ⟨vb, 0, none⟩) 1 vc] w fun e w' => ∃ v' e', e = .returned v' ∧ w'.ownsRow 0 e' 3 v' (n + 1) (xs ++ news) ∧ w.grownBy w' v0.ownBlock ∧ (v'.ownBlock = v0.ownBlock ∨ v'.ownBlock = some w.heap.size) := by
  obtain ⟨i, zv, hu, hi, hz, hcd, hsz, hbt, hzl⟩ := elemT_inv elem_22
  have hzs : zv.cells.size = 3 := by have := (cDs_sound (w := w) (I := fun _ => False) hcd).1; simp at this; omega
  obtain ⟨v1, w1, e1, r1, r2, r3, r4⟩ := run_append_any (P := Try.prog) (ty := 22) hu hi hz hsz hzs (by omega) ho (a := some ⟨vb, 0, none⟩) (m := 1) (c := vc) (news := news) (by omega) (fun _ => ⟨_, rfl, fun j u hj => by rw [addr_add, Nat.zero_add]; exact hv j u hj⟩) h1 (by simp only [maxLen]; omega) (by rw [hbt]; exact hby)
  have u22 := run_underlying und_22
  rcases ho.2 with ⟨rfl, rfl⟩ | ⟨g, cap, cur, rfl, hb, hgg, hcap, hmax, hcs, htk⟩
  all_goals
    go_enter Try.func138, Try.ntmps138
    go_wp2_with (at_builtin; refine Lib.wpList_append_run _ rfl _ _ _ _ rfl _ _ rfl rfl _ _ r1 ?_)
    all_goals (go_ret; first | exact ⟨v1, rfl, ⟨e1, r2⟩, r3, r4⟩ | exact ⟨v1, e1, rfl, r2, r3, r4⟩ | exact ⟨v1, rfl, e1, r2, r3, r4⟩ | trace_state)

/-- In place. -/
theorem insert_room_api_Pos {w : World} {g cap n i : Nat} {xs : List Value} {cur : Array Value} {eT : TypeId} (hg : w.heap[g]? = some (.cells cur eT (0, 0))) (hmax : cap ≤ maxLen) (hcs : cur.size = cap * 3) (htk : cur.toList.take (n * 3) = xs) (hxl : xs.length = n * 3) (hx1 : ∀ u ∈ xs, u.oneCell' = true)
    (hin : i < n) (hroom : n + 1 ≤ cap) {vb vc : Nat} {news : List Value} {vcur : Array Value} {eV : TypeId} (hvg : w.heap[vb]? = some (.cells vcur eV (0, 0))) (hne : vb ≠ g) (hnl : news.length = 3) (hvs : vcur.toList.take 3 = news) (h1 : ∀ u ∈ news, u.oneCell' = true) :
    Calls Try.prog 138 #[.slice (some ⟨g, 0, none⟩) n cap, .int .i64 i, .slice (some ⟨vb, 0, none⟩) 1 vc] w fun e w' =>
      e = .returned (.slice (some ⟨g, 0, none⟩) (n + 1) cap) ∧ w' = ((w.drew.setRow g (cur.toList.take ((i + 1) * 3) ++ xs.drop (i * 3) ++ cur.toList.drop ((i + 1) * 3 + (xs.drop (i * 3)).length)).toArray).setRow g
        ((cur.toList.take ((i + 1) * 3) ++ xs.drop (i * 3) ++ cur.toList.drop ((i + 1) * 3 + (xs.drop (i * 3)).length)).toArray.toList.take (i * 3) ++ news ++ (cur.toList.take ((i + 1) * 3) ++ xs.drop (i * 3) ++ cur.toList.drop ((i + 1) * 3 + (xs.drop (i * 3)).length)).toArray.toList.drop (i * 3 + news.length)).toArray) := by
  have u22 := run_underlying und_22
  have hm63 : cap ≤ 9223372036854775807 := by simpa [maxLen] using hmax
  have hcl : cur.toList.length = cap * 3 := by simpa using hcs
  have hcell : ∀ j v, xs[j]? = some v → w.cell? ⟨g, j, none⟩ = some v := fun j v hj => by
    rw [← htk, List.getElem?_take] at hj
    split at hj
    · simpa [World.cell?, hg] using hj
    · cases hj
  have hov : ∀ lb cb, (callFunc 148 #[.slice (some ⟨vb, 0, none⟩) 1 vc, .slice (some ⟨g, (i + 1) * 3, none⟩) lb cb]).run Try.prog w = .ok (.value (.bool false)) w := fun lb cb => by
    rw [run_callFunc_extern Try.func148 (by kernel_rfl) (by kernel_rfl) (by kernel_rfl) (e := Extern.SlicesOverlaps.overlaps #[22, 22] #[4]) (by kernel_rfl),
      Lib.run_overlaps_apart w 22 4 99 und_22 3 (by intro w; kernel_rfl) ⟨vb, 0, none⟩ ⟨g, (i + 1) * 3, none⟩ 1 vc lb cb hne eV eT vcur.size cur.size (by simp [World.shape?, hvg]) (by simp [World.shape?, hg]) (by omega) (by simp [World.frozen?, hvg]) (by simp [World.frozen?, hvg])]
    rfl
  have hdl : (xs.drop (i * 3)).length = (n - i) * 3 := by rw [List.length_drop, hxl]; omega
  have hsz : (Try.prog.info? 99).map (·.size) = some 3 := by kernel_rfl
  have hz1 : ¬ ((i : Int) = (n : Int)) := by omega
  have hw1 : IntKind.i64.wrap ((i : Int) + 1) = (i : Int) + 1 := by rw [IntKind.wrap_i64]; omega
  have hwn : IntKind.i64.wrap ((n : Int) + 1) = (n : Int) + 1 := by rw [IntKind.wrap_i64]; omega
  have htn : ((i : Int) + 1).toNat = i + 1 := by omega
  have htn2 : ((n : Int) + 1).toNat = n + 1 := by omega
  have hb1 : (0 : Int) ≤ (i : Int) + 1 := by omega
  have hb2 : ¬ (cap = i + 1) := by omega
  have hb3 : (i : Int) ≤ (n : Int) + 1 := by omega
  have hb4 : ¬ (cap = i) := by omega
  have hin' : i ≤ n := by omega
  have hcp1 : ∀ ty dc sc, (Builtin.copy_ #[22, 22] ty #[.slice (some ⟨g, (i + 1) * 3, none⟩) (n - i) dc, .slice (some ⟨g, i * 3, none⟩) (n + 1 - i) sc]).run Try.prog w.drew = .ok (goInt (Nat.min (n + 1 - i) (n - i))) (w.drew.setRow g (cur.toList.take ((i + 1) * 3) ++ xs.drop (i * 3) ++ cur.toList.drop ((i + 1) * 3 + (xs.drop (i * 3)).length)).toArray) := fun ty dc sc =>
    run_copy_rows w.drew _ _ ty 99 g ((i + 1) * 3) (n - i) dc ⟨g, i * 3, none⟩ (n + 1 - i) sc cur eT (xs.drop (i * 3)) 3 und_22 hsz hg (by rw [hdl]; simp only [Nat.min_def]; split <;> omega)
      (fun j v hj => by rw [addr_add]; exact hcell (i * 3 + j) v (by rwa [List.getElem?_drop] at hj)) (by rw [hdl]; omega) (fun v hv => hx1 v (List.mem_of_mem_drop hv))
  obtain ⟨C1, hC1⟩ : ∃ C1 : Array Value, C1 = (cur.toList.take ((i + 1) * 3) ++ xs.drop (i * 3) ++ cur.toList.drop ((i + 1) * 3 + (xs.drop (i * 3)).length)).toArray := ⟨_, rfl⟩
  rw [← hC1] at hcp1 ⊢
  have hC1s : C1.size = cap * 3 := by rw [hC1]; simp [hdl]; omega
  have hcp2 : ∀ (W : World), (∀ k, k ≠ g → W.heap[k]? = w.heap[k]?) → W.heap[g]? = some (.cells C1 eT (0, 0)) → ∀ ty dc, (Builtin.copy_ #[22, 22] ty #[.slice (some ⟨g, i * 3, none⟩) (n + 1 - i) dc, .slice (some ⟨vb, 0, none⟩) 1 vc]).run Try.prog W = .ok (goInt (Nat.min 1 (n + 1 - i))) (W.setRow g (C1.toList.take (i * 3) ++ news ++ C1.toList.drop (i * 3 + news.length)).toArray) := fun W hk hW ty dc =>
    run_copy_rows W _ _ ty 99 g (i * 3) (n + 1 - i) dc ⟨vb, 0, none⟩ 1 vc C1 eT news 3 und_22 hsz hW (by rw [hnl]; simp only [Nat.min_def]; split <;> omega)
      (fun j v hj => by
        rw [addr_add, Nat.zero_add]
        rw [← hvs, List.getElem?_take] at hj
        split at hj
        · simp only [World.cell?, hk vb hne, hvg]; simpa using hj
        · cases hj) (by rw [hnl, hC1s]; omega) h1
  have hother : ∀ k, k ≠ g → (w.drew.setRow g C1).heap[k]? = w.heap[k]? := fun k hk => by
    have := setRow_other w.drew g k C1 hk
    exact this
  have hthis : (w.drew.setRow g C1).heap[g]? = some (.cells C1 eT (0, 0)) := setRow_heap w.drew g cur C1 eT (0, 0) hg
  have mixed := mixed
  clear hC1
  go_enter Try.func138, Try.ntmps138
  go_wp2_with (simp only [hov])
  go_region_law_o (refine step_copy_runI rfl _ _ 22 22 rfl _ _ (by simp [Act.eval, Act.put]) (by simp [Act.eval, Act.put]) (hcp1 _ _ _) ?_)
  go_wp2_with (at_builtin; refine wpList_copy_runI _ rfl _ _ 22 22 rfl _ _ rfl rfl (hcp2 _ hother hthis _ _) ?_)
  rw [hcp2 (w.drew.setRow g C1) hother hthis]
  go_wp2
  go_ret
  exact ⟨rfl, by simp [hnl, List.append_assoc]⟩

/-- Into a new block. -/
theorem insert_grow_api_Pos {w : World} {g cap n i : Nat} {xs : List Value} {cur : Array Value} {eT : TypeId} (hg : w.heap[g]? = some (.cells cur eT (0, 0))) (hmax : cap ≤ maxLen) (hcs : cur.size = cap * 3) (htk : cur.toList.take (n * 3) = xs) (hxl : xs.length = n * 3) (hx1 : ∀ u ∈ xs, u.oneCell' = true)
    (hin : i < n) (hnc : n ≤ cap) (hroom : cap < n + 1) (hbig : (n + 1) * 24 ≤ 140737488355328) {vb vc : Nat} {news : List Value} {vcur : Array Value} {eV : TypeId} (hvg : w.heap[vb]? = some (.cells vcur eV (0, 0))) (hne : vb ≠ g) (hnl : news.length = 3) (hvs : vcur.toList.take 3 = news) (h1 : ∀ u ∈ news, u.oneCell' = true) :
    Calls Try.prog 138 #[.slice (some ⟨g, 0, none⟩) n cap, .int .i64 i, .slice (some ⟨vb, 0, none⟩) 1 vc] w fun e w' =>
      ∃ G R, e = .returned (.slice (some ⟨w.heap.size, 0, none⟩) (n + 1) G) ∧ w'.heap[w.heap.size]? = some (.cells R 99 (0, 0)) ∧ n + 1 ≤ G ∧ G ≤ maxLen ∧ R.size = G * 3 ∧ R.toList.take ((n + 1) * 3) = xs.take (i * 3) ++ news ++ xs.drop (i * 3) ∧ w.grownBy w' none := by
  have u22 := run_underlying und_22
  obtain ⟨i0, zv, hu, hi, hz, hcd, hsz0, hbt, hzl⟩ := elemT_inv elem_22
  have hzs : zv.cells.size = 3 := by have := (cDs_sound (w := w) (I := fun _ => False) hcd).1; simp at this; omega
  have hm63 : cap ≤ 9223372036854775807 := by simpa [maxLen] using hmax
  have hcl : cur.toList.length = cap * 3 := by simpa using hcs
  have hgw : g < w.heap.size := (Array.getElem?_eq_some_iff.1 hg).1
  have hvw : vb < w.heap.size := (Array.getElem?_eq_some_iff.1 hvg).1
  have hcell : ∀ j v, xs[j]? = some v → w.cell? ⟨g, j, none⟩ = some v := fun j v hj => by
    rw [← htk, List.getElem?_take] at hj
    split at hj
    · simpa [World.cell?, hg] using hj
    · cases hj
  have hsz : (Try.prog.info? 99).map (·.size) = some 3 := by kernel_rfl
  have hz1 : ¬ ((i : Int) = (n : Int)) := by omega
  have hz3 : (cap : Int) < (n : Int) + 1 := by omega
  have hw1 : IntKind.i64.wrap ((i : Int) + 1) = (i : Int) + 1 := by rw [IntKind.wrap_i64]; omega
  have hwn : IntKind.i64.wrap ((n : Int) + 1) = (n : Int) + 1 := by rw [IntKind.wrap_i64]; omega
  have hwk : IntKind.i64.wrap ((n : Int) + 1 - (i : Int)) = (n : Int) + 1 - (i : Int) := by rw [IntKind.wrap_i64]; omega
  have htn : ((i : Int) + 1).toNat = i + 1 := by omega
  have hb1 : (0 : Int) ≤ (i : Int) + 1 := by omega
  have hb3 : (i : Int) ≤ (n : Int) := by omega
  have hin' : i ≤ n := by omega
  have hci : ¬ (cap = i) := by omega
  have hkk : (n : Int) + 1 - (i : Int) = ((n + 1 - i : Nat) : Int) := by omega
  have hik : i + (n + 1 - i) = n + 1 := by omega
  have hold : (Builtin.firstCells i0.size i (.slice (some ⟨g, 0, none⟩) i cap)).run Try.prog w.drew = .ok (xs.take (i * 3)).toArray w.drew := by
    rw [hsz0]
    exact run_firstCells_some w.drew 3 i ⟨g, 0, none⟩ i cap (xs.take (i * 3)) (by rw [List.length_take, hxl]; omega) (fun j v hj => by
      rw [addr_add, Nat.zero_add]
      rw [List.getElem?_take] at hj
      split at hj
      · exact hcell j v hj
      · cases hj)
  obtain ⟨G, hG⟩ : ∃ G, G = grownCap w (n + 1) cap 99 := ⟨_, rfl⟩
  obtain ⟨ROW, hROW⟩ : ∃ ROW : Array Value, ROW = (xs.take (i * 3)).toArray ++ Builtin.zeroCells zv.cells (n + 1 - i) ++ Builtin.zeroCells zv.cells (G - (n + 1)) := ⟨_, rfl⟩
  have hrz : ∀ ty, (Builtin.append_ #[22, 3] ty #[.slice (some ⟨g, 0, none⟩) i cap, .int .i64 ((n : Int) + 1 - (i : Int))]).run Try.prog w =
      .ok (.slice (some ⟨w.heap.size, 0, none⟩) (n + 1) G) (w.drew.alloc (.cells ROW 99)) := fun ty => by
    have h := Lib.run_append_grow_zeros w 22 3 ty 99 i0 _ .i64 .i64 und_22 und_3 hi hz (some ⟨g, 0, none⟩) i cap (xs.take (i * 3)) hold (n + 1 - i) (by omega) (by omega) (by omega) (by omega) (by rw [hbt]; omega) (by rw [hbt, hik]; exact growslice_fits hroom hbig)
    rw [hik] at h
    rw [hkk, hROW, hG]
    exact h
  have hGn : n + 1 ≤ G := by rw [hG]; exact grownCap_ge w _ _ _
  have hGm : G ≤ maxLen := by rw [hG]; exact grownCap_le_maxLen w (n + 1) cap 99 (by unfold maxLen; omega)
  have hG63 : G ≤ 9223372036854775807 := by simpa [maxLen] using hGm
  have hzc : ∀ k, (Builtin.zeroCells zv.cells k).size = k * 3 := fun k => by simp [Builtin.zeroCells, hzs]
  have hRs : ROW.size = G * 3 := by
    rw [hROW]
    simp only [Array.size_append, List.size_toArray, List.length_take, hxl, hzc]
    omega
  have hRt : ROW.toList.take (i * 3) = xs.take (i * 3) := by
    have e : ROW.toList = xs.take (i * 3) ++ ((Builtin.zeroCells zv.cells (n + 1 - i)).toList ++ (Builtin.zeroCells zv.cells (G - (n + 1))).toList) := by rw [hROW]; simp [List.append_assoc]
    rw [e, List.take_append_of_le_length (by simp [hxl]; omega), List.take_of_length_le (by simp; omega)]
  have hGi : ¬ (G = i) := by omega
  have hGim : ¬ (G = i + 1) := by omega
  have hgN : g ≠ w.heap.size := by omega
  have hvN : vb ≠ w.heap.size := by omega
  obtain ⟨W1, hW1⟩ : ∃ W1, W1 = w.drew.alloc (.cells ROW 99) := ⟨_, rfl⟩
  have hW1g : ∀ k, k < w.heap.size → W1.heap[k]? = w.heap[k]? := fun k hk => by rw [hW1]; exact (Fr.alloc w.drew _).block k hk (fun e => e)
  have hW1n : W1.heap[w.heap.size]? = some (.cells ROW 99 (0, 0)) := by rw [hW1]; show (w.heap.push _)[w.heap.size]? = _; simp
  obtain ⟨C1, hC1⟩ : ∃ C1 : Array Value, C1 = (ROW.toList.take (i * 3) ++ news ++ ROW.toList.drop (i * 3 + news.length)).toArray := ⟨_, rfl⟩
  have hC1s : C1.size = G * 3 := by rw [hC1]; simp [hnl, hRs]; omega
  have hcpA : ∀ ty dc, (Builtin.copy_ #[22, 22] ty #[.slice (some ⟨w.heap.size, i * 3, none⟩) (n + 1 - i) dc, .slice (some ⟨vb, 0, none⟩) 1 vc]).run Try.prog W1 = .ok (goInt (Nat.min 1 (n + 1 - i))) (W1.setRow w.heap.size C1) := fun ty dc => by
    rw [hC1]
    exact run_copy_rows W1 _ _ ty 99 w.heap.size (i * 3) (n + 1 - i) dc ⟨vb, 0, none⟩ 1 vc ROW 99 news 3 und_22 hsz hW1n (by rw [hnl]; simp only [Nat.min_def]; split <;> omega)
      (fun j v hj => by
        rw [addr_add, Nat.zero_add]
        rw [← hvs, List.getElem?_take] at hj
        split at hj
        · simp only [World.cell?, hW1g vb hvw, hvg]; simpa using hj
        · cases hj) (by rw [hnl, hRs]; omega) h1
  have hdl : (xs.drop (i * 3)).length = (n - i) * 3 := by rw [List.length_drop, hxl]; omega
  obtain ⟨W2, hW2⟩ : ∃ W2, W2 = W1.setRow w.heap.size C1 := ⟨_, rfl⟩
  have hW2n : W2.heap[w.heap.size]? = some (.cells C1 99 (0, 0)) := by rw [hW2]; exact setRow_heap W1 w.heap.size ROW C1 99 (0, 0) hW1n
  have hW2g : ∀ k, k < w.heap.size → W2.heap[k]? = w.heap[k]? := fun k hk => by rw [hW2]; exact (setRow_other W1 _ k C1 (by omega)).trans (hW1g k hk)
  obtain ⟨C2, hC2⟩ : ∃ C2 : Array Value, C2 = (C1.toList.take ((i + 1) * 3) ++ xs.drop (i * 3) ++ C1.toList.drop ((i + 1) * 3 + (xs.drop (i * 3)).length)).toArray := ⟨_, rfl⟩
  have hcpB : ∀ ty dc sc, (Builtin.copy_ #[22, 22] ty #[.slice (some ⟨w.heap.size, (i + 1) * 3, none⟩) (n - i) dc, .slice (some ⟨g, i * 3, none⟩) (n - i) sc]).run Try.prog W2.drew = .ok (goInt (Nat.min (n - i) (n - i))) (W2.drew.setRow w.heap.size C2) := fun ty dc sc => by
    rw [hC2]
    exact run_copy_rows W2.drew _ _ ty 99 w.heap.size ((i + 1) * 3) (n - i) dc ⟨g, i * 3, none⟩ (n - i) sc C1 99 (xs.drop (i * 3)) 3 und_22 hsz hW2n (by rw [hdl]; simp only [Nat.min_def]; split <;> omega)
      (fun j v hj => by
        rw [addr_add]
        have : W2.drew.cell? ⟨g, i * 3 + j, none⟩ = w.cell? ⟨g, i * 3 + j, none⟩ := World.cell?_of_block (w := w) (hW2g g hgw)
        rw [this]
        exact hcell (i * 3 + j) v (by rwa [List.getElem?_drop] at hj)) (by rw [hdl, hC1s]; omega) (fun v hv => hx1 v (List.mem_of_mem_drop hv))
  have hC2t : C2.toList.take ((n + 1) * 3) = xs.take (i * 3) ++ news ++ xs.drop (i * 3) := by
    have a1 : C1.toList.take ((i + 1) * 3) = xs.take (i * 3) ++ news := by
      rw [hC1]
      simp only [hRt]
      rw [List.take_append_of_le_length (by simp [hxl, hnl]; omega), List.take_of_length_le (by simp [hxl, hnl]; omega)]
    rw [hC2]
    simp only [a1]
    rw [List.take_append_of_le_length (by simp [hxl, hnl]; omega), List.take_of_length_le (by simp [hxl, hnl]; omega)]
  have hC2s : C2.size = G * 3 := by rw [hC2]; simp [hdl, hC1s]; omega
  have hfin : ∀ W3 : World, W3 = W2.drew.setRow w.heap.size C2 → W3.heap[w.heap.size]? = some (.cells C2 99 (0, 0)) ∧ w.grownBy W3 none := fun W3 e => by
    subst e
    refine ⟨setRow_heap W2.drew w.heap.size C1 C2 99 (0, 0) hW2n, ?_⟩
    have : w.heap.size ≤ (W2.drew.setRow w.heap.size C2).heap.size := by
      have := (Array.getElem?_eq_some_iff.1 (setRow_heap W2.drew w.heap.size C1 C2 99 (0, 0) hW2n)).1
      omega
    refine ⟨?_, ?_, ?_, this, fun k hk _ => (setRow_other W2.drew _ k C2 (by omega)).trans (hW2g k hk)⟩ <;> (subst hW2; subst hW1; rfl)
  have mixed := mixed
  rw [← hW1] at hrz
  rw [← hW2] at hcpA
  clear hC1 hC2 hROW hG hW1 hW2 hkk hik hold
  go_enter Try.func138, Try.ntmps138
  go_wp2_with (first
    | (at_builtin; refine Lib.wpList_append_run _ rfl _ _ _ _ rfl _ _ rfl rfl _ _ (hrz _) ?_)
    | (at_builtin; refine wpList_copy_runI _ rfl _ _ 22 22 rfl _ _ rfl rfl (hcpA _ _) ?_))
  go_region_law_o (refine step_copy_runI rfl _ _ 22 22 rfl (.slice (some ⟨w.heap.size, (i + 1) * 3, none⟩) (n - i) (G - (i + 1))) (.slice (some ⟨g, i * 3, none⟩) (n - i) (cap - i)) (by simp [Act.eval, Act.put]) (by simp [Act.eval, Act.put]) (hcpB 3 (G - (i + 1)) (cap - i)) ?_)
  go_wp2
  go_ret
  obtain ⟨f1, f2⟩ := hfin _ rfl
  exact ⟨G, C2, rfl, f1, hGn, hGm, hC2s, hC2t, f2⟩

theorem slices_Insert_api_Pos.spec {a0 : List api_Pos} {a1 : Int} {a2 : List api_Pos} {r : List api_Pos} (h : slices_Insert_api_Pos.f a0 a1 a2 = some r) : XSpec Try.prog 138 [.own 3 (rowsD api_Pos.D a0), .d (false, [.v (.int .i64 a1)]), .own 3 (rowsD api_Pos.D a2)] [[], [], []] [.one (.own 3 (rowsD api_Pos.D r))] := by
  unfold slices_Insert_api_Pos.f at h
  obtain ⟨⟨g1, g2, g3, g4⟩, h⟩ := gd h
  obtain rfl := Option.some.inj h
  obtain ⟨x, rfl⟩ := List.length_eq_one_iff.1 g3
  obtain ⟨i, rfl⟩ := Int.eq_ofNat_of_zero_le g1
  have hi : i ≤ a0.length := by omega
  simp only [Int.toNat_natCast, rowsD_append, rowsD_take, rowsD_drop, rowsD_cons, rowsD_nil]
  obtain ⟨rows, hrows⟩ : ∃ rows, rows = rowsD api_Pos.D a0 := ⟨_, rfl⟩
  have hs : ∀ r ∈ rows, r.length = 3 := by rw [hrows]; simp only [rowsD, List.mem_map]; rintro r ⟨y, _, rfl⟩; rfl
  have hl : rows.length = a0.length := by rw [hrows]; simp [rowsD]
  rw [← hl] at hi g4
  rw [← hrows]
  clear hrows hl
  intro w I vals hI hlen hold
  obtain ⟨v0, v1, v2, rfl⟩ : ∃ v0 v1 v2, vals = [v0, v1, v2] := by
    rcases vals with _ | ⟨v0, _ | ⟨v1, _ | ⟨v2, _ | ⟨v3, r⟩⟩⟩⟩ <;> simp at hlen
    exact ⟨v0, v1, v2, rfl⟩
  have r0 : OwnL w I v0 3 rows := hold.rep 0
  have r1 : RepD w I (.v (.int .i64 i)) v1 := hold.rep 1
  have r2 : OwnL w I v2 3 [api_Pos.D x] := hold.rep 2
  obtain rfl := r1.v_inv.1
  obtain ⟨vb, vc, eV, vcur, news, rfl, hvg, hvt, hnl, hxl, hnr⟩ := one_own r2
  have h1 : ∀ u ∈ news, u.oneCell' = true := hnr.one
  have hnews : ∀ j u, news[j]? = some u → w.cell? ⟨vb, j, none⟩ = some u := fun j u hj => by
    rw [← hvt, List.getElem?_take] at hj
    split at hj
    · simpa [World.cell?, hvg] using hj
    · cases hj
  obtain ⟨e0, xs, ho, hx⟩ : ∃ e xs, w.ownsRow 0 e 3 v0 rows.length xs ∧ RepL w I rows.flatten xs := by
    rcases r0 with ⟨rfl, rfl⟩ | ⟨_, e, xs, h1, _, h3⟩
    · exact ⟨0, [], ⟨rfl, .inl ⟨rfl, rfl⟩⟩, RepL.nil _ _⟩
    · exact ⟨e, xs, h1, h3⟩
  left
  constructor
  · have hn : (Try.f138.name == "runtime.NumGoroutine") = false := by decide
    have hnm : Try.f138.name ≠ "runtime.NumGoroutine" := by simpa using hn
    simp [callFunc, Try.func138, hnm, show Try.f138.body = some _ from rfl]
  · rcases Nat.lt_or_ge i rows.length with hlt | hge
    · -- somewhere ahead of the end
      rcases ho.2 with ⟨_, h⟩ | ⟨g, cap, cur, rfl, hb, hgg, hcap, hmax, hcs, htk⟩
      · omega
      have hne : vb ≠ g := fun e => by
        have := (hold.inj 0 0 2 0 g rfl (by rw [← e]; rfl)).1
        omega
      rcases Nat.lt_or_ge cap (rows.length + 1) with hgrow | hroom
      · refine (insert_grow_api_Pos hgg hmax hcs htk ho.1 hx.one hlt hcap hgrow (by omega) hvg hne hnl hvt h1).mono ?_
        rintro e w' ⟨G, R, rfl, f1, f2, f3, f4, f5, f6⟩
        refine ⟨_, rfl, ins_came hI hold (by decide) hs hxl hx hnr hi ⟨?_, .inr ⟨_, G, R, rfl, Nat.zero_le _, f1, f2, f3, f4, f5⟩⟩ ((Fr.of_grown f6).mono fun _ _ h => h.elim) (.inr rfl)⟩
        simp only [List.length_append, List.length_take, List.length_drop, ho.1, hnl]; omega
      · refine (insert_room_api_Pos hgg hmax hcs htk ho.1 hx.one hlt hroom hvg hne hnl hvt h1).mono ?_
        rintro e w' ⟨rfl, rfl⟩
        have hxl3 := ho.1
        have hcl : cur.toList.length = cap * 3 := by simpa using hcs
        refine ⟨_, rfl, ins_came hI hold (by decide) hs hxl hx hnr hi ⟨?_, .inr ⟨g, cap, _, rfl, Nat.zero_le _, setRow_heap _ g _ _ e0 (0, 0) (setRow_heap w.drew g cur _ e0 (0, 0) hgg), by omega, hmax, ?_, ?_⟩⟩ ?_ (.inl rfl)⟩
        · simp only [List.length_append, List.length_take, List.length_drop, hxl3, hnl]; omega
        · simp only [List.size_toArray, List.length_append, List.length_take, List.length_drop, hxl3, hnl, hcl]; omega
        · have a1 : (xs.drop (i * 3)).length = (rows.length - i) * 3 := by rw [List.length_drop, hxl3]; omega
          have a2 : (cur.toList.take ((i + 1) * 3)).length = (i + 1) * 3 := by rw [List.length_take, hcl]; omega
          have a3 : (cur.toList.take ((i + 1) * 3)).take (i * 3) = xs.take (i * 3) := by
            rw [List.take_take, ← htk, List.take_take]; congr 1; omega
          obtain ⟨A, hA⟩ : ∃ A, A = cur.toList.take ((i + 1) * 3) ++ xs.drop (i * 3) ++ cur.toList.drop ((i + 1) * 3 + (xs.drop (i * 3)).length) := ⟨_, rfl⟩
          have e1 : A.take (i * 3) = xs.take (i * 3) := by rw [hA, List.append_assoc, List.take_append_of_le_length (by rw [a2]; omega), a3]
          have e2 : A.drop (i * 3 + news.length) = xs.drop (i * 3) ++ cur.toList.drop ((i + 1) * 3 + (xs.drop (i * 3)).length) := by
            rw [hA, show i * 3 + news.length = (i + 1) * 3 by rw [hnl]; omega, List.append_assoc, List.drop_append_of_le_length (by rw [a2]; omega), List.drop_of_length_le (by rw [a2]; omega), List.nil_append]
          rw [← hA, e1, e2, List.append_assoc, List.append_assoc]
          have b1 : (xs.take (i * 3) ++ (news ++ xs.drop (i * 3))).length = (rows.length + 1) * 3 := by simp only [List.length_append, List.length_take, a1, hxl3, hnl]; omega
          rw [← List.append_assoc news, ← List.append_assoc, ← b1, List.take_left]
        · exact ((Fr.drew w).mono fun _ _ h => h.elim).trans (((Fr_setRow w.drew g _).trans ((Fr_setRow _ g _).mono fun _ _ h => .inl h)).mono fun k _ h => .inl (by rw [h]; rfl))
    · have hie : i = rows.length := by omega
      subst hie
      refine (insert_end_api_Pos ho hnl hnews h1 (by omega)).mono ?_
      rintro e w' ⟨v', e', rfl, f1, f2, f3⟩
      have hxl3 := ho.1
      refine ⟨_, rfl, ins_came (e := e') hI hold (by decide) hs hxl hx hnr hi ?_ ⟨f2.os, f2.tape, f2.output, f2.size, fun b hb he => f2.block b hb fun h => he h.symm⟩ f3⟩
      rw [List.take_of_length_le (by rw [hxl3]; omega), List.drop_of_length_le (by rw [hxl3]; omega), List.append_nil]
      exact f1
end Go.Ax
