/- Facts on the program's tables, by the kernel. -/
import Derived.Test.YtjlelcfabfmiaaaRows
import Derived.Test.YtjlelcfabfmiaaaL
namespace Go.Proofs.Ytjlelcfabfmiaaa
open Go.SX
theorem Try.mixed : Try.prog.follows .mixedOrders = true := by kernel_rfl
theorem Try.ag1 : isAggB Try.prog 1 = some false := by kernel_rfl
theorem Try.sz1 : (Try.prog.info? 1).map (·.size) = some 1 := by kernel_rfl
theorem Try.is1 : (Try.prog.info? 1).isSome = true := by kernel_rfl
theorem Try.us1 : (Try.prog.underlying 1).isSome = true := by kernel_rfl
theorem Try.ag2 : isAggB Try.prog 2 = some false := by kernel_rfl
theorem Try.sz2 : (Try.prog.info? 2).map (·.size) = some 1 := by kernel_rfl
theorem Try.is2 : (Try.prog.info? 2).isSome = true := by kernel_rfl
theorem Try.us2 : (Try.prog.underlying 2).isSome = true := by kernel_rfl
theorem Try.ag3 : isAggB Try.prog 3 = some false := by kernel_rfl
theorem Try.sz3 : (Try.prog.info? 3).map (·.size) = some 1 := by kernel_rfl
theorem Try.is3 : (Try.prog.info? 3).isSome = true := by kernel_rfl
theorem Try.us3 : (Try.prog.underlying 3).isSome = true := by kernel_rfl
theorem Try.ag4 : isAggB Try.prog 4 = some false := by kernel_rfl
theorem Try.sz4 : (Try.prog.info? 4).map (·.size) = some 1 := by kernel_rfl
theorem Try.is4 : (Try.prog.info? 4).isSome = true := by kernel_rfl
theorem Try.us4 : (Try.prog.underlying 4).isSome = true := by kernel_rfl
theorem Try.ag5 : isAggB Try.prog 5 = some false := by kernel_rfl
theorem Try.sz5 : (Try.prog.info? 5).map (·.size) = some 1 := by kernel_rfl
theorem Try.is5 : (Try.prog.info? 5).isSome = true := by kernel_rfl
theorem Try.us5 : (Try.prog.underlying 5).isSome = true := by kernel_rfl
theorem Try.ag6 : isAggB Try.prog 6 = some false := by kernel_rfl
theorem Try.sz6 : (Try.prog.info? 6).map (·.size) = some 1 := by kernel_rfl
theorem Try.is6 : (Try.prog.info? 6).isSome = true := by kernel_rfl
theorem Try.us6 : (Try.prog.underlying 6).isSome = true := by kernel_rfl
theorem Try.ag7 : isAggB Try.prog 7 = some true := by kernel_rfl
theorem Try.sz7 : (Try.prog.info? 7).map (·.size) = some 4 := by kernel_rfl
theorem Try.is7 : (Try.prog.info? 7).isSome = true := by kernel_rfl
theorem Try.us7 : (Try.prog.underlying 7).isSome = true := by kernel_rfl
theorem Try.off7_0 : fOff Try.prog 7 0 = some 0 := by kernel_rfl
theorem Try.off7_1 : fOff Try.prog 7 1 = some 1 := by kernel_rfl
theorem Try.off7_2 : fOff Try.prog 7 2 = some 2 := by kernel_rfl
theorem Try.off7_3 : fOff Try.prog 7 3 = some 3 := by kernel_rfl
theorem Try.ag8 : isAggB Try.prog 8 = some true := by kernel_rfl
theorem Try.sz8 : (Try.prog.info? 8).map (·.size) = some 4 := by kernel_rfl
theorem Try.is8 : (Try.prog.info? 8).isSome = true := by kernel_rfl
theorem Try.us8 : (Try.prog.underlying 8).isSome = true := by kernel_rfl
theorem Try.off8_0 : fOff Try.prog 8 0 = some 0 := by kernel_rfl
theorem Try.off8_1 : fOff Try.prog 8 1 = some 1 := by kernel_rfl
theorem Try.off8_2 : fOff Try.prog 8 2 = some 2 := by kernel_rfl
theorem Try.off8_3 : fOff Try.prog 8 3 = some 3 := by kernel_rfl
theorem Try.ag9 : isAggB Try.prog 9 = some false := by kernel_rfl
theorem Try.sz9 : (Try.prog.info? 9).map (·.size) = some 1 := by kernel_rfl
theorem Try.is9 : (Try.prog.info? 9).isSome = true := by kernel_rfl
theorem Try.us9 : (Try.prog.underlying 9).isSome = true := by kernel_rfl
theorem Try.ag10 : isAggB Try.prog 10 = some false := by kernel_rfl
theorem Try.sz10 : (Try.prog.info? 10).map (·.size) = some 1 := by kernel_rfl
theorem Try.is10 : (Try.prog.info? 10).isSome = true := by kernel_rfl
theorem Try.us10 : (Try.prog.underlying 10).isSome = true := by kernel_rfl
theorem Try.ag11 : isAggB Try.prog 11 = some false := by kernel_rfl
theorem Try.sz11 : (Try.prog.info? 11).map (·.size) = some 1 := by kernel_rfl
theorem Try.is11 : (Try.prog.info? 11).isSome = true := by kernel_rfl
theorem Try.us11 : (Try.prog.underlying 11).isSome = true := by kernel_rfl
theorem Try.ag12 : isAggB Try.prog 12 = some false := by kernel_rfl
theorem Try.sz12 : (Try.prog.info? 12).map (·.size) = some 1 := by kernel_rfl
theorem Try.is12 : (Try.prog.info? 12).isSome = true := by kernel_rfl
theorem Try.us12 : (Try.prog.underlying 12).isSome = true := by kernel_rfl
theorem Try.ag13 : isAggB Try.prog 13 = some true := by kernel_rfl
theorem Try.sz13 : (Try.prog.info? 13).map (·.size) = some 2 := by kernel_rfl
theorem Try.is13 : (Try.prog.info? 13).isSome = true := by kernel_rfl
theorem Try.us13 : (Try.prog.underlying 13).isSome = true := by kernel_rfl
theorem Try.off13_0 : fOff Try.prog 13 0 = some 0 := by kernel_rfl
theorem Try.off13_1 : fOff Try.prog 13 1 = some 1 := by kernel_rfl
theorem Try.ag14 : isAggB Try.prog 14 = some true := by kernel_rfl
theorem Try.sz14 : (Try.prog.info? 14).map (·.size) = some 2 := by kernel_rfl
theorem Try.is14 : (Try.prog.info? 14).isSome = true := by kernel_rfl
theorem Try.us14 : (Try.prog.underlying 14).isSome = true := by kernel_rfl
theorem Try.off14_0 : fOff Try.prog 14 0 = some 0 := by kernel_rfl
theorem Try.off14_1 : fOff Try.prog 14 1 = some 1 := by kernel_rfl
theorem Try.ag15 : isAggB Try.prog 15 = some false := by kernel_rfl
theorem Try.sz15 : (Try.prog.info? 15).map (·.size) = some 1 := by kernel_rfl
theorem Try.is15 : (Try.prog.info? 15).isSome = true := by kernel_rfl
theorem Try.us15 : (Try.prog.underlying 15).isSome = true := by kernel_rfl
theorem Try.ag16 : isAggB Try.prog 16 = some false := by kernel_rfl
theorem Try.sz16 : (Try.prog.info? 16).map (·.size) = some 1 := by kernel_rfl
theorem Try.is16 : (Try.prog.info? 16).isSome = true := by kernel_rfl
theorem Try.us16 : (Try.prog.underlying 16).isSome = true := by kernel_rfl
theorem Try.ag17 : isAggB Try.prog 17 = some false := by kernel_rfl
theorem Try.sz17 : (Try.prog.info? 17).map (·.size) = some 1 := by kernel_rfl
theorem Try.is17 : (Try.prog.info? 17).isSome = true := by kernel_rfl
theorem Try.us17 : (Try.prog.underlying 17).isSome = true := by kernel_rfl
theorem Try.ag18 : isAggB Try.prog 18 = some true := by kernel_rfl
theorem Try.sz18 : (Try.prog.info? 18).map (·.size) = some 1 := by kernel_rfl
theorem Try.is18 : (Try.prog.info? 18).isSome = true := by kernel_rfl
theorem Try.us18 : (Try.prog.underlying 18).isSome = true := by kernel_rfl
theorem Try.off18_0 : fOff Try.prog 18 0 = some 0 := by kernel_rfl
theorem Try.ag19 : isAggB Try.prog 19 = some true := by kernel_rfl
theorem Try.sz19 : (Try.prog.info? 19).map (·.size) = some 1 := by kernel_rfl
theorem Try.is19 : (Try.prog.info? 19).isSome = true := by kernel_rfl
theorem Try.us19 : (Try.prog.underlying 19).isSome = true := by kernel_rfl
theorem Try.off19_0 : fOff Try.prog 19 0 = some 0 := by kernel_rfl
theorem Try.ag20 : isAggB Try.prog 20 = some false := by kernel_rfl
theorem Try.sz20 : (Try.prog.info? 20).map (·.size) = some 1 := by kernel_rfl
theorem Try.is20 : (Try.prog.info? 20).isSome = true := by kernel_rfl
theorem Try.us20 : (Try.prog.underlying 20).isSome = true := by kernel_rfl
theorem Try.ag21 : isAggB Try.prog 21 = some false := by kernel_rfl
theorem Try.sz21 : (Try.prog.info? 21).map (·.size) = some 1 := by kernel_rfl
theorem Try.is21 : (Try.prog.info? 21).isSome = true := by kernel_rfl
theorem Try.us21 : (Try.prog.underlying 21).isSome = true := by kernel_rfl
theorem Try.ag22 : isAggB Try.prog 22 = some false := by kernel_rfl
theorem Try.sz22 : (Try.prog.info? 22).map (·.size) = some 1 := by kernel_rfl
theorem Try.is22 : (Try.prog.info? 22).isSome = true := by kernel_rfl
theorem Try.us22 : (Try.prog.underlying 22).isSome = true := by kernel_rfl
theorem Try.zi3_22 : (Try.prog.info? 3).map (fun i => (i.zero, i.size, i.bytes)) = some (some (.int .i64 0), 1, 8) := by kernel_rfl
theorem Try.ag23 : isAggB Try.prog 23 = some false := by kernel_rfl
theorem Try.sz23 : (Try.prog.info? 23).map (·.size) = some 1 := by kernel_rfl
theorem Try.is23 : (Try.prog.info? 23).isSome = true := by kernel_rfl
theorem Try.us23 : (Try.prog.underlying 23).isSome = true := by kernel_rfl
theorem Try.ag24 : isAggB Try.prog 24 = some false := by kernel_rfl
theorem Try.sz24 : (Try.prog.info? 24).map (·.size) = some 1 := by kernel_rfl
theorem Try.is24 : (Try.prog.info? 24).isSome = true := by kernel_rfl
theorem Try.us24 : (Try.prog.underlying 24).isSome = true := by kernel_rfl
theorem Try.ag26 : isAggB Try.prog 26 = some false := by kernel_rfl
theorem Try.sz26 : (Try.prog.info? 26).map (·.size) = some 1 := by kernel_rfl
theorem Try.is26 : (Try.prog.info? 26).isSome = true := by kernel_rfl
theorem Try.us26 : (Try.prog.underlying 26).isSome = true := by kernel_rfl
theorem Try.ag27 : isAggB Try.prog 27 = some false := by kernel_rfl
theorem Try.sz27 : (Try.prog.info? 27).map (·.size) = some 1 := by kernel_rfl
theorem Try.is27 : (Try.prog.info? 27).isSome = true := by kernel_rfl
theorem Try.us27 : (Try.prog.underlying 27).isSome = true := by kernel_rfl
theorem Try.ag28 : isAggB Try.prog 28 = some false := by kernel_rfl
theorem Try.sz28 : (Try.prog.info? 28).map (·.size) = some 1 := by kernel_rfl
theorem Try.is28 : (Try.prog.info? 28).isSome = true := by kernel_rfl
theorem Try.us28 : (Try.prog.underlying 28).isSome = true := by kernel_rfl
theorem Try.ag29 : isAggB Try.prog 29 = some false := by kernel_rfl
theorem Try.sz29 : (Try.prog.info? 29).map (·.size) = some 1 := by kernel_rfl
theorem Try.is29 : (Try.prog.info? 29).isSome = true := by kernel_rfl
theorem Try.us29 : (Try.prog.underlying 29).isSome = true := by kernel_rfl
theorem Try.ag30 : isAggB Try.prog 30 = some false := by kernel_rfl
theorem Try.sz30 : (Try.prog.info? 30).map (·.size) = some 1 := by kernel_rfl
theorem Try.is30 : (Try.prog.info? 30).isSome = true := by kernel_rfl
theorem Try.us30 : (Try.prog.underlying 30).isSome = true := by kernel_rfl
theorem Try.ag31 : isAggB Try.prog 31 = some false := by kernel_rfl
theorem Try.sz31 : (Try.prog.info? 31).map (·.size) = some 1 := by kernel_rfl
theorem Try.is31 : (Try.prog.info? 31).isSome = true := by kernel_rfl
theorem Try.us31 : (Try.prog.underlying 31).isSome = true := by kernel_rfl
theorem Try.ag32 : isAggB Try.prog 32 = some false := by kernel_rfl
theorem Try.sz32 : (Try.prog.info? 32).map (·.size) = some 1 := by kernel_rfl
theorem Try.is32 : (Try.prog.info? 32).isSome = true := by kernel_rfl
theorem Try.us32 : (Try.prog.underlying 32).isSome = true := by kernel_rfl
theorem Try.ag33 : isAggB Try.prog 33 = some false := by kernel_rfl
theorem Try.sz33 : (Try.prog.info? 33).map (·.size) = some 1 := by kernel_rfl
theorem Try.is33 : (Try.prog.info? 33).isSome = true := by kernel_rfl
theorem Try.us33 : (Try.prog.underlying 33).isSome = true := by kernel_rfl
theorem Try.ag34 : isAggB Try.prog 34 = some false := by kernel_rfl
theorem Try.sz34 : (Try.prog.info? 34).map (·.size) = some 1 := by kernel_rfl
theorem Try.is34 : (Try.prog.info? 34).isSome = true := by kernel_rfl
theorem Try.us34 : (Try.prog.underlying 34).isSome = true := by kernel_rfl
theorem Try.ag36 : isAggB Try.prog 36 = some false := by kernel_rfl
theorem Try.sz36 : (Try.prog.info? 36).map (·.size) = some 1 := by kernel_rfl
theorem Try.is36 : (Try.prog.info? 36).isSome = true := by kernel_rfl
theorem Try.us36 : (Try.prog.underlying 36).isSome = true := by kernel_rfl
theorem Try.ag37 : isAggB Try.prog 37 = some false := by kernel_rfl
theorem Try.sz37 : (Try.prog.info? 37).map (·.size) = some 1 := by kernel_rfl
theorem Try.is37 : (Try.prog.info? 37).isSome = true := by kernel_rfl
theorem Try.us37 : (Try.prog.underlying 37).isSome = true := by kernel_rfl
theorem Try.ag38 : isAggB Try.prog 38 = some false := by kernel_rfl
theorem Try.sz38 : (Try.prog.info? 38).map (·.size) = some 1 := by kernel_rfl
theorem Try.is38 : (Try.prog.info? 38).isSome = true := by kernel_rfl
theorem Try.us38 : (Try.prog.underlying 38).isSome = true := by kernel_rfl
theorem Try.ag39 : isAggB Try.prog 39 = some true := by kernel_rfl
theorem Try.sz39 : (Try.prog.info? 39).map (·.size) = some 2 := by kernel_rfl
theorem Try.is39 : (Try.prog.info? 39).isSome = true := by kernel_rfl
theorem Try.us39 : (Try.prog.underlying 39).isSome = true := by kernel_rfl
theorem Try.off39_0 : fOff Try.prog 39 0 = some 0 := by kernel_rfl
theorem Try.off39_1 : fOff Try.prog 39 1 = some 1 := by kernel_rfl
theorem Try.ag40 : isAggB Try.prog 40 = some true := by kernel_rfl
theorem Try.sz40 : (Try.prog.info? 40).map (·.size) = some 2 := by kernel_rfl
theorem Try.is40 : (Try.prog.info? 40).isSome = true := by kernel_rfl
theorem Try.us40 : (Try.prog.underlying 40).isSome = true := by kernel_rfl
theorem Try.off40_0 : fOff Try.prog 40 0 = some 0 := by kernel_rfl
theorem Try.off40_1 : fOff Try.prog 40 1 = some 1 := by kernel_rfl
theorem Try.ag41 : isAggB Try.prog 41 = some false := by kernel_rfl
theorem Try.sz41 : (Try.prog.info? 41).map (·.size) = some 1 := by kernel_rfl
theorem Try.is41 : (Try.prog.info? 41).isSome = true := by kernel_rfl
theorem Try.us41 : (Try.prog.underlying 41).isSome = true := by kernel_rfl
theorem Try.ag42 : isAggB Try.prog 42 = some false := by kernel_rfl
theorem Try.sz42 : (Try.prog.info? 42).map (·.size) = some 1 := by kernel_rfl
theorem Try.is42 : (Try.prog.info? 42).isSome = true := by kernel_rfl
theorem Try.us42 : (Try.prog.underlying 42).isSome = true := by kernel_rfl
theorem Try.ag43 : isAggB Try.prog 43 = some false := by kernel_rfl
theorem Try.sz43 : (Try.prog.info? 43).map (·.size) = some 1 := by kernel_rfl
theorem Try.is43 : (Try.prog.info? 43).isSome = true := by kernel_rfl
theorem Try.us43 : (Try.prog.underlying 43).isSome = true := by kernel_rfl
theorem Try.ag44 : isAggB Try.prog 44 = some false := by kernel_rfl
theorem Try.sz44 : (Try.prog.info? 44).map (·.size) = some 1 := by kernel_rfl
theorem Try.is44 : (Try.prog.info? 44).isSome = true := by kernel_rfl
theorem Try.us44 : (Try.prog.underlying 44).isSome = true := by kernel_rfl
theorem Try.ag45 : isAggB Try.prog 45 = some false := by kernel_rfl
theorem Try.sz45 : (Try.prog.info? 45).map (·.size) = some 1 := by kernel_rfl
theorem Try.is45 : (Try.prog.info? 45).isSome = true := by kernel_rfl
theorem Try.us45 : (Try.prog.underlying 45).isSome = true := by kernel_rfl
theorem Try.ag46 : isAggB Try.prog 46 = some false := by kernel_rfl
theorem Try.sz46 : (Try.prog.info? 46).map (·.size) = some 1 := by kernel_rfl
theorem Try.is46 : (Try.prog.info? 46).isSome = true := by kernel_rfl
theorem Try.us46 : (Try.prog.underlying 46).isSome = true := by kernel_rfl
theorem Try.ag47 : isAggB Try.prog 47 = some false := by kernel_rfl
theorem Try.sz47 : (Try.prog.info? 47).map (·.size) = some 1 := by kernel_rfl
theorem Try.is47 : (Try.prog.info? 47).isSome = true := by kernel_rfl
theorem Try.us47 : (Try.prog.underlying 47).isSome = true := by kernel_rfl
theorem Try.ag48 : isAggB Try.prog 48 = some true := by kernel_rfl
theorem Try.sz48 : (Try.prog.info? 48).map (·.size) = some 16 := by kernel_rfl
theorem Try.is48 : (Try.prog.info? 48).isSome = true := by kernel_rfl
theorem Try.us48 : (Try.prog.underlying 48).isSome = true := by kernel_rfl
theorem Try.ag50 : isAggB Try.prog 50 = some false := by kernel_rfl
theorem Try.sz50 : (Try.prog.info? 50).map (·.size) = some 1 := by kernel_rfl
theorem Try.is50 : (Try.prog.info? 50).isSome = true := by kernel_rfl
theorem Try.us50 : (Try.prog.underlying 50).isSome = true := by kernel_rfl
theorem Try.ag51 : isAggB Try.prog 51 = some false := by kernel_rfl
theorem Try.sz51 : (Try.prog.info? 51).map (·.size) = some 1 := by kernel_rfl
theorem Try.is51 : (Try.prog.info? 51).isSome = true := by kernel_rfl
theorem Try.us51 : (Try.prog.underlying 51).isSome = true := by kernel_rfl
theorem Try.ag52 : isAggB Try.prog 52 = some false := by kernel_rfl
theorem Try.sz52 : (Try.prog.info? 52).map (·.size) = some 1 := by kernel_rfl
theorem Try.is52 : (Try.prog.info? 52).isSome = true := by kernel_rfl
theorem Try.us52 : (Try.prog.underlying 52).isSome = true := by kernel_rfl
theorem Try.ag53 : isAggB Try.prog 53 = some false := by kernel_rfl
theorem Try.sz53 : (Try.prog.info? 53).map (·.size) = some 1 := by kernel_rfl
theorem Try.is53 : (Try.prog.info? 53).isSome = true := by kernel_rfl
theorem Try.us53 : (Try.prog.underlying 53).isSome = true := by kernel_rfl
theorem Try.ag54 : isAggB Try.prog 54 = some false := by kernel_rfl
theorem Try.sz54 : (Try.prog.info? 54).map (·.size) = some 1 := by kernel_rfl
theorem Try.is54 : (Try.prog.info? 54).isSome = true := by kernel_rfl
theorem Try.us54 : (Try.prog.underlying 54).isSome = true := by kernel_rfl
theorem Try.ag55 : isAggB Try.prog 55 = some false := by kernel_rfl
theorem Try.sz55 : (Try.prog.info? 55).map (·.size) = some 1 := by kernel_rfl
theorem Try.is55 : (Try.prog.info? 55).isSome = true := by kernel_rfl
theorem Try.us55 : (Try.prog.underlying 55).isSome = true := by kernel_rfl
theorem Try.ag56 : isAggB Try.prog 56 = some true := by kernel_rfl
theorem Try.sz56 : (Try.prog.info? 56).map (·.size) = some 4 := by kernel_rfl
theorem Try.is56 : (Try.prog.info? 56).isSome = true := by kernel_rfl
theorem Try.us56 : (Try.prog.underlying 56).isSome = true := by kernel_rfl
theorem Try.off56_0 : fOff Try.prog 56 0 = some 0 := by kernel_rfl
theorem Try.off56_1 : fOff Try.prog 56 1 = some 1 := by kernel_rfl
theorem Try.off56_2 : fOff Try.prog 56 2 = some 2 := by kernel_rfl
theorem Try.off56_3 : fOff Try.prog 56 3 = some 3 := by kernel_rfl
theorem Try.ag57 : isAggB Try.prog 57 = some true := by kernel_rfl
theorem Try.sz57 : (Try.prog.info? 57).map (·.size) = some 4 := by kernel_rfl
theorem Try.is57 : (Try.prog.info? 57).isSome = true := by kernel_rfl
theorem Try.us57 : (Try.prog.underlying 57).isSome = true := by kernel_rfl
theorem Try.off57_0 : fOff Try.prog 57 0 = some 0 := by kernel_rfl
theorem Try.off57_1 : fOff Try.prog 57 1 = some 1 := by kernel_rfl
theorem Try.off57_2 : fOff Try.prog 57 2 = some 2 := by kernel_rfl
theorem Try.off57_3 : fOff Try.prog 57 3 = some 3 := by kernel_rfl
theorem Try.ag58 : isAggB Try.prog 58 = some true := by kernel_rfl
theorem Try.sz58 : (Try.prog.info? 58).map (·.size) = some 0 := by kernel_rfl
theorem Try.is58 : (Try.prog.info? 58).isSome = true := by kernel_rfl
theorem Try.us58 : (Try.prog.underlying 58).isSome = true := by kernel_rfl
theorem Try.ag59 : isAggB Try.prog 59 = some true := by kernel_rfl
theorem Try.sz59 : (Try.prog.info? 59).map (·.size) = some 0 := by kernel_rfl
theorem Try.is59 : (Try.prog.info? 59).isSome = true := by kernel_rfl
theorem Try.us59 : (Try.prog.underlying 59).isSome = true := by kernel_rfl
theorem Try.ag60 : isAggB Try.prog 60 = some true := by kernel_rfl
theorem Try.sz60 : (Try.prog.info? 60).map (·.size) = some 0 := by kernel_rfl
theorem Try.is60 : (Try.prog.info? 60).isSome = true := by kernel_rfl
theorem Try.us60 : (Try.prog.underlying 60).isSome = true := by kernel_rfl
theorem Try.ag61 : isAggB Try.prog 61 = some false := by kernel_rfl
theorem Try.sz61 : (Try.prog.info? 61).map (·.size) = some 1 := by kernel_rfl
theorem Try.is61 : (Try.prog.info? 61).isSome = true := by kernel_rfl
theorem Try.us61 : (Try.prog.underlying 61).isSome = true := by kernel_rfl
theorem Try.ag62 : isAggB Try.prog 62 = some false := by kernel_rfl
theorem Try.sz62 : (Try.prog.info? 62).map (·.size) = some 1 := by kernel_rfl
theorem Try.is62 : (Try.prog.info? 62).isSome = true := by kernel_rfl
theorem Try.us62 : (Try.prog.underlying 62).isSome = true := by kernel_rfl
theorem Try.ag63 : isAggB Try.prog 63 = some false := by kernel_rfl
theorem Try.sz63 : (Try.prog.info? 63).map (·.size) = some 1 := by kernel_rfl
theorem Try.is63 : (Try.prog.info? 63).isSome = true := by kernel_rfl
theorem Try.us63 : (Try.prog.underlying 63).isSome = true := by kernel_rfl
theorem Try.ag64 : isAggB Try.prog 64 = some false := by kernel_rfl
theorem Try.sz64 : (Try.prog.info? 64).map (·.size) = some 1 := by kernel_rfl
theorem Try.is64 : (Try.prog.info? 64).isSome = true := by kernel_rfl
theorem Try.us64 : (Try.prog.underlying 64).isSome = true := by kernel_rfl
theorem Try.ag65 : isAggB Try.prog 65 = some false := by kernel_rfl
theorem Try.sz65 : (Try.prog.info? 65).map (·.size) = some 1 := by kernel_rfl
theorem Try.is65 : (Try.prog.info? 65).isSome = true := by kernel_rfl
theorem Try.us65 : (Try.prog.underlying 65).isSome = true := by kernel_rfl
theorem Try.ag66 : isAggB Try.prog 66 = some false := by kernel_rfl
theorem Try.sz66 : (Try.prog.info? 66).map (·.size) = some 1 := by kernel_rfl
theorem Try.is66 : (Try.prog.info? 66).isSome = true := by kernel_rfl
theorem Try.us66 : (Try.prog.underlying 66).isSome = true := by kernel_rfl
theorem Try.ag67 : isAggB Try.prog 67 = some false := by kernel_rfl
theorem Try.sz67 : (Try.prog.info? 67).map (·.size) = some 1 := by kernel_rfl
theorem Try.is67 : (Try.prog.info? 67).isSome = true := by kernel_rfl
theorem Try.us67 : (Try.prog.underlying 67).isSome = true := by kernel_rfl
theorem Try.ag68 : isAggB Try.prog 68 = some false := by kernel_rfl
theorem Try.sz68 : (Try.prog.info? 68).map (·.size) = some 1 := by kernel_rfl
theorem Try.is68 : (Try.prog.info? 68).isSome = true := by kernel_rfl
theorem Try.us68 : (Try.prog.underlying 68).isSome = true := by kernel_rfl
theorem Try.ag69 : isAggB Try.prog 69 = some true := by kernel_rfl
theorem Try.sz69 : (Try.prog.info? 69).map (·.size) = some 11 := by kernel_rfl
theorem Try.is69 : (Try.prog.info? 69).isSome = true := by kernel_rfl
theorem Try.us69 : (Try.prog.underlying 69).isSome = true := by kernel_rfl
theorem Try.off69_0 : fOff Try.prog 69 0 = some 0 := by kernel_rfl
theorem Try.off69_1 : fOff Try.prog 69 1 = some 1 := by kernel_rfl
theorem Try.off69_2 : fOff Try.prog 69 2 = some 2 := by kernel_rfl
theorem Try.off69_3 : fOff Try.prog 69 3 = some 3 := by kernel_rfl
theorem Try.off69_4 : fOff Try.prog 69 4 = some 4 := by kernel_rfl
theorem Try.off69_5 : fOff Try.prog 69 5 = some 5 := by kernel_rfl
theorem Try.off69_6 : fOff Try.prog 69 6 = some 6 := by kernel_rfl
theorem Try.off69_7 : fOff Try.prog 69 7 = some 7 := by kernel_rfl
theorem Try.off69_8 : fOff Try.prog 69 8 = some 8 := by kernel_rfl
theorem Try.off69_9 : fOff Try.prog 69 9 = some 9 := by kernel_rfl
theorem Try.off69_10 : fOff Try.prog 69 10 = some 10 := by kernel_rfl
theorem Try.ag70 : isAggB Try.prog 70 = some true := by kernel_rfl
theorem Try.sz70 : (Try.prog.info? 70).map (·.size) = some 11 := by kernel_rfl
theorem Try.is70 : (Try.prog.info? 70).isSome = true := by kernel_rfl
theorem Try.us70 : (Try.prog.underlying 70).isSome = true := by kernel_rfl
theorem Try.off70_0 : fOff Try.prog 70 0 = some 0 := by kernel_rfl
theorem Try.off70_1 : fOff Try.prog 70 1 = some 1 := by kernel_rfl
theorem Try.off70_2 : fOff Try.prog 70 2 = some 2 := by kernel_rfl
theorem Try.off70_3 : fOff Try.prog 70 3 = some 3 := by kernel_rfl
theorem Try.off70_4 : fOff Try.prog 70 4 = some 4 := by kernel_rfl
theorem Try.off70_5 : fOff Try.prog 70 5 = some 5 := by kernel_rfl
theorem Try.off70_6 : fOff Try.prog 70 6 = some 6 := by kernel_rfl
theorem Try.off70_7 : fOff Try.prog 70 7 = some 7 := by kernel_rfl
theorem Try.off70_8 : fOff Try.prog 70 8 = some 8 := by kernel_rfl
theorem Try.off70_9 : fOff Try.prog 70 9 = some 9 := by kernel_rfl
theorem Try.off70_10 : fOff Try.prog 70 10 = some 10 := by kernel_rfl
theorem Try.ag71 : isAggB Try.prog 71 = some false := by kernel_rfl
theorem Try.sz71 : (Try.prog.info? 71).map (·.size) = some 1 := by kernel_rfl
theorem Try.is71 : (Try.prog.info? 71).isSome = true := by kernel_rfl
theorem Try.us71 : (Try.prog.underlying 71).isSome = true := by kernel_rfl
theorem Try.cl3 : callable Try.prog 3 = true := by kernel_rfl
theorem Try.cl4 : callable Try.prog 4 = true := by kernel_rfl
theorem Try.cl5 : callable Try.prog 5 = true := by kernel_rfl
theorem Try.cl6 : callable Try.prog 6 = true := by kernel_rfl
theorem Try.cl7 : callable Try.prog 7 = true := by kernel_rfl
theorem Try.cl8 : callable Try.prog 8 = true := by kernel_rfl
theorem Try.cl9 : callable Try.prog 9 = true := by kernel_rfl
theorem Try.cl10 : callable Try.prog 10 = true := by kernel_rfl
theorem Try.cl11 : callable Try.prog 11 = true := by kernel_rfl
theorem Try.cl12 : callable Try.prog 12 = true := by kernel_rfl
theorem Try.cl13 : callable Try.prog 13 = true := by kernel_rfl
theorem Try.cl14 : callable Try.prog 14 = true := by kernel_rfl
theorem Try.cl15 : callable Try.prog 15 = true := by kernel_rfl
theorem Try.cl16 : callable Try.prog 16 = true := by kernel_rfl
theorem Try.cl17 : callable Try.prog 17 = true := by kernel_rfl
theorem Try.cl18 : callable Try.prog 18 = true := by kernel_rfl
theorem Try.cl19 : callable Try.prog 19 = true := by kernel_rfl
theorem Try.cl20 : callable Try.prog 20 = true := by kernel_rfl
theorem Try.cl21 : callable Try.prog 21 = true := by kernel_rfl
theorem Try.cl22 : callable Try.prog 22 = true := by kernel_rfl
theorem Try.cl23 : callable Try.prog 23 = true := by kernel_rfl
theorem Try.cl24 : callable Try.prog 24 = true := by kernel_rfl
theorem Try.cl25 : callable Try.prog 25 = true := by kernel_rfl
theorem Try.cl26 : callable Try.prog 26 = true := by kernel_rfl
theorem Try.cl27 : callable Try.prog 27 = true := by kernel_rfl
theorem Try.cl28 : callable Try.prog 28 = true := by kernel_rfl
theorem Try.cl29 : callable Try.prog 29 = true := by kernel_rfl
theorem Try.cl30 : callable Try.prog 30 = true := by kernel_rfl
theorem Try.cl31 : callable Try.prog 31 = true := by kernel_rfl
end Go.Proofs.Ytjlelcfabfmiaaa

